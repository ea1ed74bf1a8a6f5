/- Part 4 of what the claim needs: values without addresses, and what the program's functions do with them. -/
import Derived.Test.YtlppbmfecjabeaaGreatDoorY3
set_option maxRecDepth 100000
set_option maxHeartbeats 4000000
namespace Go.Proofs.YtlppbmfecjabeaaGreatDoor
open Go Go.Cl
variable {T:List Tok} {i f q a L f0 n' n2 q1 q2 t n3:Nat} {α β:Type} {e2 e1 e' e3 kd:Int} {s u:Str} {σ τ:List c5} {c:CV} {y:α} {nn va:Bool} {br:List Str} {args:List CV} {F:PF} {R:Nat->Nat->Prop} {P:α->Prop} {N:α->Nat} {A E:α->Int} {S:Option PX} {vc:β->CV} {bs:List De} {B:α->List Ex} {tok:Option Nat}
mutual
def Tr.deps:Nat->Tr->List Nat
 | d,.n k _ _ _ ch=>a5P (if k=4 then d else d+1) ch++[d]
def a5P:Nat->List Tr->List Nat
 | _,[]=>[]
 | d,t::l=>t.deps d++a5P d l
end
mutual
theorem Tr.deps_len:∀ (t:Tr) (d:Nat),(t.deps d).length=t.size
 | .n k u o nm ch,d=>by rw [Tr.deps,Tr.size,n_6,a1g ch]; rfl
theorem a1g:∀ (l:List Tr) (d:Nat),(a5P d l).length=t8 l
 | [],_=>rfl
 | t::l,d=>by rw [a5P,t8,n_6,Tr.deps_len t d,a1g l _]
end
theorem Tr.deps_last (t:Tr) (d:Nat):(t.deps d)[t.size - 1]? = some d:=by
 cases t with
 | n k u o nm ch =>
  rw [Tr.deps,Tr.size,Nat.add_sub_cancel,a0a (by rw [a1g]; exact n_4 _),a1g];simp
structure d38 (E:List Ex) (D:List Nat) (d j:Nat) (x:Ex) (e:Nat):Prop where
 he:E[j]? = some x
 hd:D[j]? = some e
 lo:d<=e
 hi:e<=32
 ch:∀ a∈x.args,∃ r:Nat,a=r/\D[r]? = some (if x.k=4 then e else e+1)
theorem b3p {d:Nat}:∀ (l:List Tr) (s:Nat) (D0 D1:List Nat),D0.length=s->∀ a∈r3 l s,∃ r:Nat,a=r/\(D0++a5P d l++D1)[r]? = some d
 | [],_,_,_,_,a,h=>by cases h
 | t::l,s,D0,D1,hD,a,h=>by
  rw [r3] at h;have hp:=t.size_pos
  rcases Q2.1 h with rfl | h
  ·refine ⟨s+t.size - 1,rfl,?_⟩;rw [a5P,n_9,n_9,a0a om_,hD,show s+t.size - 1 - s=t.size - 1 by omega,L4 (by rw [t.deps_len]; omega)];exact t.deps_last d
  ·have:=b3p (d:=d) l (s+t.size) (D0++t.deps d) D1 (by rw [n_6,t.deps_len,hD]) a h;rw [a5P,<- n_9 D0];exact this
mutual
theorem c8n {np:Nat}:∀ (t:Tr) {d:Nat} (s:Nat) (E0 E1:List Ex) (D0 D1:List Nat),E0.length=s->D0.length=s->t.wf np d->∀ j,s<=j->j < s+t.size->∃ x e,d38 (E0++t.flat s++E1) (D0++t.deps d++D1) d j x e
 | .n k u o nm ch,d,s,E0,E1,D0,D1,hE,hD,hw,j,h1,h2=>by
  rw [Tr.wf] at hw;rw [Tr.size] at h2;rw [Tr.flat,Tr.deps];by_cases hj:j < s+t8 ch
  ·obtain ⟨x,e,g⟩:=c0I ch s E0 (⟨k,u,o,nm,r3 ch s⟩::E1) D0 (d::D1) hE hD hw.2.2 j h1 hj;refine ⟨x,e,⟨by simpa [n_9] using g.he,by simpa [n_9] using g.hd,?_,g.hi,fun a ha=>by simpa [n_9] using g.ch a ha⟩⟩;have:=g.lo;split at this <;> omega
  ·have hj:j=s+t8 ch:=by omega
   refine ⟨⟨k,u,o,nm,r3 ch s⟩,d,?_,?_,n_4 _,hw.1,fun a ha=>?_⟩
   ·rw [<- n_9,n_9,a0a (by rw [n_6,P4]; omega),n_6,P4,hE,hj,b9K];rfl
   ·rw [<- n_9,n_9,a0a (by rw [n_6,a1g]; omega),n_6,a1g,hD,hj,b9K];rfl
   ·have:=b3p (d:=if k=4 then d else d+1) ch s D0 (d::D1) hD a ha;simpa [n_9] using this
theorem c0I {np:Nat}:∀ (l:List Tr) {d:Nat} (s:Nat) (E0 E1:List Ex) (D0 D1:List Nat),E0.length=s->D0.length=s->wfL np d l->∀ j,s<=j->j < s+t8 l->∃ x e,d38 (E0++J3 l s++E1) (D0++a5P d l++D1) d j x e
 | [],_,s,_,_,_,_,_,_,_,j,h1,h2=>by rw [t8] at h2; omega
 | t::l,d,s,E0,E1,D0,D1,hE,hD,hw,j,h1,h2=>by
  rw [wfL] at hw;rw [t8] at h2;rw [J3,a5P];by_cases hj:j < s+t.size
  ·have:=c8n t s E0 (J3 l (s+t.size)++E1) D0 (a5P d l++D1) hE hD hw.1 j h1 hj;simpa [n_9] using this
  ·have:=c0I l (s+t.size) (E0++t.flat s) E1 (D0++t.deps d) D1 (by rw [n_6,t.flat_len,hE]) (by rw [n_6,t.deps_len,hD]) hw.2 j om_ om_;simpa [n_9] using this
end
theorem c9H {np d:Nat} {t:Tr} (hw:t.wf np d) {j:Nat} (h:j < t.size):∃ x e,d38 (t.flat 0) (t.deps d) d j x e:=by
 have:=c8n t 0 [] [] [] [] rfl rfl hw j (n_3 _) om_;simpa using this
structure Bnd (arr:List Int) (D:List Nat):Prop where
 len:arr.length=D.length
 le:∀ (j e:Nat),D[j]? = some e->∃ v:Int,arr[j]? = some v/\0<=v/\v<=e
theorem Bnd.set {arr:List Int} {D:List Nat} (h:Bnd arr D) {r e:Nat} {v:Int} (hr:D[r]? = some e) (h0:0<=v) (h1:v<=e):Bnd (arr.set r v) D:=by
 refine ⟨by rw [List.length_set]; exact h.len,fun j e' hj=>?_⟩;by_cases hjr:r=j
 ·subst hjr;rw [hr] at hj;injection hj with hj
  subst hj;have hl:=(n_0.1 hr).1;exact ⟨v,by rw [b4J (by rw [h.len]; exact hl)],h0,h1⟩
 ·obtain ⟨u,g1,g2⟩:=h.le j e' hj;exact ⟨u,by rw [a3q hjr]; exact g1,g2⟩
theorem Bnd.zero (D:List Nat):Bnd (List.replicate D.length 0) D:=by
 refine ⟨List.length_replicate,fun j e hj=>⟨0,?_,b35 _,om_⟩⟩;have hl:=(n_0.1 hj).1;rw [c4F,if_pos hl]
theorem Src.old (x:Src) (n:Nat):F5 n (.box x.cells):=s8 ⟨.val _,A5 _ _ _,L2 _ _ _,tt⟩
def b69 (d:De):Sn:=⟨d.k,d.name⟩
theorem c6B {l:List De} (h:(l.map fun d=>(d.k,d.name)).Nodup):(l.map b69).Nodup:=by
 have e:l.map b69=(l.map fun d=>(d.k,d.name)).map fun p=>(⟨p.1,p.2⟩:Sn):=by rw [List.map_map]; rfl
 rw [e];refine List.Pairwise.map _ (fun a b hab he=>?_) h;injection he with h1 h2
 exact hab (Prod.ext h1 h2)
theorem c2l (x:Src) (h:a7F x) (σ:List c5):b8 CC 244 [.agg x.cells] σ fun r σ'=>r = .ret (.val (.bool false))/\σ'=σ:=by
 refine b8.anyw hCC pu_ pu_ ?_ σ;refine d4 (c4 Tryz.func244 rfl rfl ?_);refine a7h ?_; refine a8P ?_; refine cY a4N ?_; refine a4O ?_; refine d0V ?_; refine cG (fun hg=>X7 rfl hg rfl b1F a4c rfl) ?_; refine a8M ?_; refine cC (fun h1=>?_) fun h1=>?_
 ·exfalso;have:=h.impl;have:=h.decl;simp at h1;omega
 ·have hil:=h.impl;have hdl:=h.decl;refine a19 ?_; refine b1z ?_; refine o0 hCC (α:=Nat) (fun i=>[(20,(.list (x.decls.map De.cv) (gnn x.decls.length) none)),(21,(.val (.int .i64 (x.decls.length:Int)))),(22,(.val (.int .i64 (i:Int))))]) (fun _=>[.box x.cells]) (fun i=>i<=x.decls.length) (fun i=>x.decls.length - i) 0 (n_3 _) tu_ (extra0:=[]) rfl A1 uz_ ?_; intro i hi; refine F2 ?_; refine cC (fun h2=>?_) fun h2=>?_
  ·have hlt:(i:Int) < x.decls.length:=by simpa using h2
   obtain ⟨d,hd⟩:∃ d,x.decls[i]? = some d:=⟨x.decls[i]'om_,si_⟩;have hg:=h.dec d (n_1 hd);have hpl:=hg.parl;have hb256:=hg.blen;obtain ⟨t,hbody,hwf⟩:=hg.tree;have hbl:d.body.length=t.size:=by rw [hbody,t.flat_len]
   have hdp:(t.deps 1).length=d.body.length:=by rw [t.deps_len,hbl]
   have htp:=t.size_pos;refine a1O ?_; refine cY b2T ?_; refine cY b0M ?_; refine b8I ?_; refine a2i ?_; refine a5L ?_; refine cY a4N ?_; refine a4O ?_; refine cG (fun hg=>j2 rfl tt rfl b4z rfl b2d de_) ?_; refine cG (fun hg=>o9 rfl hg rfl Tryz.isAgg117 rfl rfl) ?_; refine cG c5J ?_; refine a8M ?_; refine cC (fun h3=>?_) fun h3=>?_
   ·exfalso;simp at h3;omega
   ·refine a0x ?_; refine b7X ?_;refine cD (b8O rfl tt tt rfl rfl (n:=d.body.length) (c:=d.body.length) rfl rfl t_5 t_1 c5E t_6 rfl (a48 rfl) rfl om_ om_ (by have hb:Tryz.t3.bytes=8:=rfl; rw [hb]; omega) ?_);refine z_2 ?_; refine J7 [.box x.cells,.box d.cells,.vec 1 ((List.replicate d.body.length 0).map icv)] (by simp [List.map_replicate]; exact ⟨rfl,.inr rfl⟩) ?_; refine z_0 ?_; refine b7X ?_; refine a5w ?_; refine B7 ?_; refine o0 hCC (α:=Nat × List Int) (fun y=>[(4,.ptr 1 0),(5,.vec 2 0 d.body.length),(6,(.val (.int .i64 ((y.1:Int) - 1)))),(20,(.list (x.decls.map De.cv) (gnn x.decls.length) none)),(21,(.val (.int .i64 (x.decls.length:Int)))),(22,(.val (.int .i64 (i:Int))))]) (fun y=>[.box x.cells,.box d.cells,.vec 1 (y.2.map icv)]) (fun y=>y.1<=d.body.length/\Bnd y.2 (t.deps 1)) (fun y=>y.1) (d.body.length,List.replicate d.body.length 0) ⟨n_4 _,by rw [<- hdp]; exact Bnd.zero _⟩ tu_ (extra0:=[]) rfl A1 uz_ ?_; intro ⟨m,arr⟩ ⟨hm,hbd⟩;dsimp only at hm hbd ⊢;refine a6Y ?_; refine cC (fun h4=>?_) fun h4=>?_
    ·have hmp:(0:Int)<=(m:Int) - 1:=by simpa using h4
     obtain ⟨m,rfl⟩:∃ m',m=m'+1:=⟨m - 1,om_⟩;have hmi:((m+1:Nat):Int) - 1=(m:Int):=by omega
     obtain ⟨y,e,hdp2⟩:=c9H hwf (j:=m) om_;obtain ⟨x',z',ch',hnd⟩:=c1g hwf (j:=m) om_;have hyx:x'=y:=Option.some.inj (hnd.e.symm.trans hdp2.he);have hargs:y.args.length<=256:=by
      rw [<- hyx,hnd.args,a1o];have:=a77 ch';have:=hnd.size;omega
     have he1:=hdp2.lo;have he32:=hdp2.hi;obtain ⟨v,hv,hv0,hv1⟩:=hbd.le _ _ hdp2.hd;have hal:=hbd.len;refine a6K ?_; refine W7 hCC (α:=List Int) (fun a=>[(4,.ptr 1 0),(5,.vec 2 0 d.body.length),(6,(.val (.int .i64 (((m+1:Nat):Int) - 1)))),(20,(.list (x.decls.map De.cv) (gnn x.decls.length) none)),(21,(.val (.int .i64 (x.decls.length:Int)))),(22,(.val (.int .i64 (i:Int))))]) (fun a=>[.box x.cells,.box d.cells,.vec 1 (a.map icv)]) (fun a=>Bnd a (t.deps 1)) A1 uz_ ?_ ?_
     ·
      refine z_4 ?_; refine cY a4g ?_; refine cY b7G ?_; refine G9 ?_; refine cC (fun h5=>?_) fun h5=>?_
      ·refine R7 ?_; refine cY a4g ?_;refine cD (N8 ((arr.set m 1).map icv) rfl tt rfl rfl c6 t_1 (.inl rfl) rfl (by rw [hmi]; simpa using j8 (f:=icv) hv) rfl (nb rfl) (by rw [hmi]; simp only [n_8,a23]; exact a6S _ _ _) rfl ?_);refine i7 ?_;exact ⟨(arr.set m 1),_,(hbd.set hdp2.hd de_ om_),tu_,rfl⟩
      ·refine i8 ?_;exact ⟨arr,_,hbd,tu_,rfl⟩
     ·intro arr hbd;obtain ⟨v,hv,hv0,hv1⟩:=hbd.le _ _ hdp2.hd;have hal:=hbd.len;refine a6H ?_; refine cY a4g ?_; refine cY b7G ?_; refine G9 ?_; refine cC (fun h6=>?_) fun h6=>?_
      ·exfalso;simp at h6;omega
      ·refine a0x ?_; refine cY b7Q ?_; refine cY a7o ?_; refine cY j7 ?_; refine cY d5K ?_; refine cY (a49 rfl tt rfl a8b rfl b7s de_) ?_; refine cY (T9 rfl tt rfl c7K rfl) ?_; refine cY a7l ?_; refine a1n ?_; refine o0 hCC (α:=Nat × List Int) (fun z=>[(4,.ptr 1 0),(5,.vec 2 0 d.body.length),(6,(.val (.int .i64 (((m+1:Nat):Int) - 1)))),(20,(.list (x.decls.map De.cv) (gnn x.decls.length) none)),(21,(.val (.int .i64 (x.decls.length:Int)))),(22,(.val (.int .i64 (i:Int)))),(66,(.list (y.args.map icv) (gnn y.args.length) none)),(67,(.val (.int .i64 (y.args.length:Int)))),(68,(.val (.int .i64 (z.1:Int))))]) (fun z=>[.box x.cells,.box d.cells,.vec 1 (z.2.map icv)]) (fun z=>z.1<=y.args.length/\Bnd z.2 (t.deps 1)) (fun z=>y.args.length - z.1) (0,arr) ⟨n_3 _,hbd⟩ tu_ (extra0:=[]) rfl A1 uz_ ?_; intro ⟨p,arr⟩ ⟨hp,hbd⟩;dsimp only at hp hbd ⊢;refine F2 ?_; refine cC (fun h7=>?_) fun h7=>?_
       ·have hpt:(p:Int) < y.args.length:=by simpa using h7
        obtain ⟨a,ha⟩:∃ a,y.args[p]? = some a:=⟨y.args[p]'om_,si_⟩;obtain ⟨r,rfl,hr⟩:=hdp2.ch a (n_1 ha);obtain ⟨v,hv,hv0,hv1⟩:=hbd.le _ _ hdp2.hd;have hal:=hbd.len;have hrl:=(n_0.1 hr).1;obtain ⟨v2,hv2,_⟩:=hbd.le _ _ hr;have hve:v<=((if y.k=4 then e else e+1:Nat):Int):=by split <;> omega
        have hb1:=hbd.set hr hv0 hve;have hget:(arr.set r v)[r]? = some v:=by rw [b4J om_]
        refine a1O ?_; refine cY (t6 rfl tt tt rfl rfl t_5 t_1 om_ (j8 ha) rfl) ?_; refine cY a3D ?_; refine z_2 ?_; refine a0n ?_; refine cY j7 ?_; refine cY a4g ?_; refine cY b7G ?_; refine cY a4g ?_;refine cD (N8 ((arr.set r v).map icv) rfl tt tt rfl c6 t_1 (.inl rfl) rfl (by simpa using j8 (f:=icv) hv2) rfl (nb rfl) (by simp only [n_8,a23]; exact a6S _ _ _) rfl ?_);refine U2 ?_; refine cY b7Q ?_; refine cY a7o ?_; refine cY j7 ?_; refine cY d5K ?_; refine cY (a49 rfl tt rfl a8b rfl t_1 de_) ?_; refine cY a3D ?_; refine G9 ?_; refine cC (fun h8=>?_) fun h8=>?_
        ·have u8:¬ y.k=4:=by simpa using h8
         rw [if_neg u8] at hr;refine R7 ?_; refine cY a4g ?_; refine cY (a0i rfl tt rfl a3o rfl (by simpa using j8 (f:=icv) hget) rfl) ?_; refine cY S8 ?_; refine cY a4g ?_;refine cD (N8 ((arr.set r (v+1)).map icv) rfl tt tt rfl c6 t_1 (.inl rfl) rfl (by simpa using j8 (f:=icv) hget) rfl (nb rfl) (by simp only [n_8,a23]; refine (a6S _ _ _).trans ?_; rw [List.set_set]) rfl ?_);refine a2F ?_;exact ⟨(p+1,arr.set r (v+1)),_,⟨do_,do_,hbd.set hr om_ om_⟩,tu_,rfl⟩
        ·refine a2h ?_;exact ⟨(p+1,arr.set r v),_,⟨do_,do_,hb1⟩,tu_,rfl⟩
       ·refine z6 ?_; refine z_5 ?_; refine a5w ?_;exact ⟨(m,arr),_,⟨do_,do_,hbd⟩,⟨B0,B0,⟨tt,(congrArg (fun z:Int=>(CV.val (.int .i64 z))) do_)⟩,B0,B0,B0,tt⟩,rfl⟩
    ·exact d0I
  ·exact c0M
theorem b8e (x:Src) (h:a7F x) (σ:List c5):b8 CC 243 [.agg x.cells] σ fun r σ'=>r = .ret (.val (.bool false))/\σ'=σ:=by
 refine b8.anyw hCC pu_ pu_ ?_ σ;refine d4 (c4 Tryz.func243 rfl rfl ?_);refine a2n ?_; refine a8D ?_; refine b1z ?_; refine A2 hCC 1 rfl (α:=Nat × List Sn) (fun y=>[(1,.ptr 0 0),(3,(.list (y.2.map Sn.cv) (gnn y.2.length) (E7 y.2.length 1))),(7,(.list (x.decls.map De.cv) (gnn x.decls.length) none)),(8,(.val (.int .i64 (x.decls.length:Int)))),(9,(.val (.int .i64 (y.1:Int))))]) (fun y=>[.box x.cells,r7 y.2.length]) (fun y=>y.1<=x.decls.length/\y.2=(x.decls.take y.1).map b69) (fun y=>x.decls.length - y.1) ⟨(0,[]),[0,9],⟨n_3 _,rfl⟩,⟨rfl,rfl⟩,q_3,⟨.inr ⟨_,rfl,.same rfl (Src.old _ _)⟩,.inl rfl,tt⟩⟩ ?_; intro ⟨i,l⟩ ⟨hi,hl⟩;dsimp only at hi hl ⊢;have hdl:=h.decl;have hll:l.length=i:=by rw [hl,a0B,a5t]; omega
 refine F2 ?_; refine cC (fun h1=>?_) fun h1=>?_
 ·have hlt:(i:Int) < x.decls.length:=by simpa using h1
  obtain ⟨d,hd⟩:∃ d,x.decls[i]? = some d:=⟨x.decls[i]'om_,si_⟩;have hg:=h.dec d (n_1 hd);have hls:=S9 l (b69 d);refine a1O ?_; refine cY b2T ?_; refine cY b0M ?_; refine b8I ?_; refine a2i ?_; refine a5L ?_; refine cY (c7 rfl Tryz.call282 ⟨tt,tt⟩ (a8w d.params _ (by have:=hg.parl; omega) hg.nod _) rfl) ?_; refine i7 ?_; refine cC (fun h2=>?_) fun h2=>?_
  ·cases h2
  ·refine b1q ?_; refine a5x ?_; refine a8U ?_; refine cY (x9 #[(0,1),(1,1)] rfl j1 Tryz.runUnderlying305 c1a rfl ⟨_,rfl⟩ (fun w=>by kernel_rfl) rfl rfl) ?_; refine cY (A3 [Sn.cv (b69 d)] rfl ⟨tt,tt⟩ b8j b34 c1a rfl rfl rfl rfl rfl rfl rfl rfl rfl) ?_;refine cD (D9 rfl tt tt rfl si_ R6 b8j b34 Tryz.typeInfo305 c1a rfl (.inr rfl) X0 (by have hb:Tryz.t305.bytes=24:=rfl; rw [hb]; first|omega|(simp; done)|(simp; omega)) H3 ((l++[b69 d]).map Sn.cv) (l++[b69 d]).length si_ si_ ?_);refine a8G ?_;exact ⟨(i+1,l++[b69 d]),[0,3],⟨do_,do_,by rw [hl,b0l,hd,b5x]; rfl⟩,⟨rfl,rfl⟩,q_3,⟨.inr ⟨_,rfl,.same rfl (Src.old _ _)⟩,.inr ⟨_,rfl,.same rfl s9⟩,tt⟩⟩
 ·have hin:i=x.decls.length:=by simp at h1; omega
  rw [hin,b1E] at hl;have hil:=h.impl;refine Z5 ?_; refine a8P ?_; refine b25 ?_; refine cY (c7 rfl c6V j1 (Y5 x.imports _ x.pkg om_ _) rfl) ?_; refine cY j7 ?_; refine d1v ?_; refine cG (fun hg=>c7 rfl Tryz.call282 ⟨hg,tt⟩ (a8w x.imports _ om_ h.impn _) rfl) ?_; refine b5N ?_; refine cG (fun hg=>c7 rfl Tryz.call283 ⟨hg,tt⟩ (b8n l _ om_ (by rw [hl]; exact c6B h.decn) _) rfl) ?_; refine cY a6W ?_; refine z_7 ?_;exact ⟨_,j5 rfl tt c6,_,_,rfl,rfl,j4 (by simp [h.impp])⟩
theorem b0r (x:Src) (h:a7F x) (σ:List c5):b8 CC 198 [.agg x.cells] σ fun r σ'=>r = .ret (.val (.int .i64 (0)))/\σ'=σ:=by
 refine b8.anyw hCC pu_ pu_ ?_ σ;refine d4 (c4 Tryz.func198 rfl rfl ?_);refine a2n ?_; refine a8o ?_; refine z_0 ?_; refine cY a3Y ?_; refine cY (c7 rfl Tryz.call242 ⟨tt,tt⟩ (b7M x h _) rfl) ?_; refine cY a5M ?_; refine z_2 ?_; refine cC (fun h1=>?_) fun h1=>?_
 ·cases h1
 ·refine z_0 ?_; refine cY a3Y ?_; refine cY (c7 rfl Tryz.call243 ⟨tt,tt⟩ (b8e x h _) rfl) ?_; refine z_2 ?_; refine cC (fun h2=>?_) fun h2=>?_
  ·cases h2
  ·refine z_0 ?_; refine cY a3Y ?_; refine cY (c7 rfl Tryz.call244 ⟨tt,tt⟩ (c2l x h _) rfl) ?_; refine z_2 ?_; refine cC (fun h3=>?_) fun h3=>?_
   ·cases h3
   ·refine i8 ?_; refine G5 ?_;exact ⟨_,j5 rfl tt c6,_,_,rfl,rfl,H6 rfl⟩
structure Fi where
 p:Str
 b:Str
deriving DecidableEq
variable {fl:List Fi}
abbrev Fi.cells (x:Fi):List CV:=[sv x.p,sv x.b]
def Fi.cv (x:Fi):List CV:=x.cells
theorem Fi.pure (x:Fi):S2 x.cells:=⟨.val _,.val _,tt⟩
theorem D4 (l:List Fi) (nn:Bool):p9 (.list (l.map Fi.cv) nn none):=M3 (f:=Fi.cv) Fi.pure l nn
theorem t7 (n:Nat) (l:List Fi) (nn:Bool):Old n (.list (l.map Fi.cv) nn none):=(D4 l nn).old
abbrev u0 (l:List Fi) (nn:Bool):List CV:=[.list (l.map Fi.cv) nn none]
structure Va where
 n:Str
 v:Int
deriving DecidableEq
abbrev Va.cells (x:Va):List CV:=[sv x.n,.val (.int .i64 x.v)]
def Va.cv (x:Va):List CV:=x.cells
theorem Va.pure (x:Va):S2 x.cells:=⟨.val _,.val _,tt⟩
theorem a0v (l:List Va) (nn:Bool):p9 (.list (l.map Va.cv) nn none):=M3 (f:=Va.cv) Va.pure l nn
theorem O4 (n:Nat) (l:List Va) (nn:Bool):Old n (.list (l.map Va.cv) nn none):=(a0v l nn).old
abbrev L8 (l:List Va) (nn:Bool):List CV:=[.list (l.map Va.cv) nn none]
def prv {α:Type} (l:List α) (i:Nat):Option α:=if i=0 then none else l[i - 1]?
theorem b5U {l:List α} {x:α} (h:l[i]? = some x):prv l (i+1)=some x:=by unfold prv; simp [h]
theorem a0r {l:List α} {p:α} (hp:0 < i->l[i - 1]? = some p) (q:α->Bool):(prv l i).any q=(decide ((i:Int) > 0) && q p):=by
 unfold prv;by_cases h:i=0
 ·subst h; rfl
 ·rw [if_neg h,hp om_];have:decide ((i:Int) > 0)=true:=a2H om_;rw [this]; rfl
theorem b79 {l:List α} (hi:i < l.length):∃ p,0 < i->l[((i:Int) - 1).toNat]? = some p/\l[i - 1]? = some p:=by
 refine ⟨l[i - 1]'om_,fun h0=>?_⟩;rw [show ((i:Int) - 1).toNat=i - 1 by omega];simp
def G6 (pv:Option Fi) (f:Fi):Int:=if C1 f.p=false then 6 else if (pv.any fun g=>decide (f.p=g.p))=true then 10 else if (pv.any fun g=>Op.bytesLess f.p g.p)=true then 6 else if 16384 < f.b.length then 2 else 0
def rvE:Option Fi->List Fi->Int
 | _,[]=>0
 | pv,f::l=>if G6 pv f=0 then rvE (some f) l else G6 pv f
def C2 (l:List Fi):Int:=if 64 < l.length then 2 else rvE none l
theorem b70 {l:List Fi} {f:Fi} (h:l[i]? = some f):rvE (prv l i) (l.drop i)=if G6 (prv l i) f=0 then rvE (prv l (i+1)) (l.drop (i+1)) else G6 (prv l i) f:=by
 obtain ⟨hlt,rfl⟩:=n_0.1 h;rw [b5U h,Q9 hlt,rvE]
def a3d (pv:Option Va) (v:Va):Bool:=B1 v.n && (decide (-9007199254740992<=v.v) && decide (v.v<=9007199254740992)) && !(pv.any fun g=>Op.bytesLess v.n g.n || decide (v.n=g.n))
def evB:Option Va->List Va->Bool
 | _,[]=>true
 | pv,v::l=>a3d pv v && evB (some v) l
def a8u (l:List Va):Bool:=decide (l.length<=16) && evB none l
theorem c48 {l:List Va} {v:Va} (h:l[i]? = some v):evB (prv l i) (l.drop i)=(a3d (prv l i) v && evB (prv l (i+1)) (l.drop (i+1))):=by
 obtain ⟨hlt,rfl⟩:=n_0.1 h;rw [b5U h,Q9 hlt,evB]
def a11 (s:Str):Bool:=C1 s && (decide ((s.length:Int) > 4) && b8G [46,115,114,99] s)
theorem b9v (l:List Fi) (nn:Bool) (hl:∀ f∈l,f.p.length<=1000000000) (σ:List c5):b8 CC 100 [.agg (u0 l nn)] σ fun r σ'=>r = .ret (.val (.int .i64 (C2 l)))/\σ'=σ:=by
 refine b8.anyw hCC pu_ pu_ ?_ σ;refine d4 (c4 Tryz.func100 rfl rfl ?_);refine a7h ?_; refine d3E ?_; refine G9 ?_; refine cC (fun h1=>?_) fun h1=>?_
 ·have hlen:64 < l.length:=by simp at h1; omega
  exact d1W
 ·have hlen:¬ 64 < l.length:=by simp at h1; omega
  refine a19 ?_; refine a0U ?_; refine o0 hCC (α:=Nat) (fun i=>[(1,.ptr 0 0),(10,(.list (l.map Fi.cv) nn none)),(11,(.val (.int .i64 (l.length:Int)))),(12,(.val (.int .i64 (i:Int))))]) (fun _=>[.box (u0 l nn)]) (fun i=>i<=l.length/\C2 l=rvE (prv l i) (l.drop i)) (fun i=>l.length - i) 0 ⟨n_3 _,by rw [C2,if_neg hlen]; rfl⟩ tu_ (extra0:=[]) rfl A1 uz_ ?_; intro i ⟨hi,hr⟩; refine F2 ?_; refine cC (fun h2=>?_) fun h2=>?_
  ·have hlt:(i:Int) < l.length:=by simpa using h2
   obtain ⟨y,hb⟩:∃ y,l[i]? = some y:=⟨l[i]'om_,si_⟩;obtain ⟨p,hp⟩:=b79 (l:=l) (i:=i) om_;have hpp:0 < i->l[i - 1]? = some p:=fun h=>(hp h).2;have hpl:=hl y (n_1 hb);rw [b70 hb] at hr;refine Z0 ?_; refine d3h ?_; refine c8D ?_; refine a5q ?_; refine z_0 ?_; refine a4m ?_; refine cY (c7 rfl c3i ⟨tt,tt⟩ (a1k y.p hpl _) rfl) ?_; refine cY a5M ?_; refine z_2 ?_; refine cC (fun h3=>?_) fun h3=>?_
   ·have u3:C1 y.p=false:=by simpa using h3
    have us:G6 (prv l i) y=6:=by rw [G6,if_pos u3]
    rw [us] at hr;exact b4f
   ·have u3:¬ C1 y.p=false:=by simpa using h3
    refine w8 ?_; refine d2A ?_; refine hY P1 ?_; refine hY j7 ?_; refine b93 ?_; refine c0e ?_; refine b96 ?_; refine c4b ?_; refine O2 rfl rfl tt rfl b04 ?_; refine hY a5z ?_; refine hY I1 ?_; refine a6T ?_; refine cC (fun h4=>?_) fun h4=>?_
    ·have u4:((prv l i).any fun g=>decide (y.p=g.p))=true:=by rw [a0r hpp]; exact h4
     have us:G6 (prv l i) y=10:=by rw [G6,if_neg u3,if_pos u4]
     rw [us] at hr;exact b4f
    ·have u4:¬ ((prv l i).any fun g=>decide (y.p=g.p))=true:=by rw [a0r hpp]; simpa using h4
     refine w8 ?_; refine d2A ?_; refine hY P1 ?_; refine hY j7 ?_; refine b93 ?_; refine c0e ?_; refine b96 ?_; refine d24 ?_; refine hY a5z ?_; refine hY I1 ?_; refine a6T ?_; refine cC (fun h5=>?_) fun h5=>?_
     ·have u5:((prv l i).any fun g=>Op.bytesLess y.p g.p)=true:=by rw [a0r hpp]; exact h5
      have us:G6 (prv l i) y=6:=by rw [G6,if_neg u3,if_neg u4,if_pos u5]
      rw [us] at hr;exact b4f
     ·have u5:¬ ((prv l i).any fun g=>Op.bytesLess y.p g.p)=true:=by rw [a0r hpp]; simpa using h5
      refine z_0 ?_; refine a4m ?_; refine cY V4 ?_; refine a9M ?_; refine cC (fun h6=>?_) fun h6=>?_
      ·have u6:16384 < y.b.length:=by simp at h6; omega
       have us:G6 (prv l i) y=2:=by rw [G6,if_neg u3,if_neg u4,if_neg u5,if_pos u6]
       rw [us] at hr;exact b4f
      ·have u6:¬ 16384 < y.b.length:=by simp at h6; omega
       have us:G6 (prv l i) y=0:=by rw [G6,if_neg u3,if_neg u4,if_neg u5,if_neg u6]
       rw [us,if_pos rfl] at hr;exact b3R
  ·exact d0O
theorem c1z (a b c d e:Bool):(a && b && !(c && (d || e))) = !((!a || !b) || (c && (d || e))):=by cases a <;> cases b <;> cases c <;> cases d <;> cases e <;> rfl
theorem c4A (s:Str):((C1 s && decide ((s.length:Int) > 4)) && b8G [46,115,114,99] s)=a11 s:=by rw [a11,b8c]
theorem b1V (s:Str) (hs:s.length<=1000000000) (σ:List c5):b8 CC 101 [(sv s)] σ fun r σ'=>r = .ret (.val (.bool (a11 s)))/\σ'=σ:=by
 refine b8.anyw hCC pu_ pu_ ?_ σ;refine d4 (c4 Tryz.func101 rfl rfl ?_);refine a1T ?_; refine cY (c7 rfl c3i ⟨tt,tt⟩ (a1k s hs _) rfl) ?_; refine a6i ?_; refine cG a3G ?_; refine b21 ?_; refine cG (fun hg=>c7 rfl Tryz.call152 ⟨hg,rfl,tt⟩ (a5n s _ om_ de_ _) rfl) ?_; refine a6Q ?_;exact ⟨_,j5 rfl tt c6,_,_,rfl,rfl,j4 (c4A _)⟩
theorem b6B (v:Int) (σ:List c5):b8 CC 104 [(.val (.int .i64 v))] σ fun r σ'=>r = .ret (.val (.bool (decide (-9007199254740992<=v) && decide (v<=9007199254740992))))/\σ'=σ:=by
 refine b8.anyw hCC pu_ pu_ ?_ σ;refine d4 (c4 Tryz.func104 rfl rfl ?_);refine a1T ?_; refine a1b ?_; refine b9t ?_;exact c4o
theorem a3L (l:List Va) (nn:Bool) (hl:∀ v∈l,v.n.length<=1000000000) (σ:List c5):b8 CC 57 [.agg (L8 l nn)] σ fun r σ'=>r = .ret (.val (.bool (a8u l)))/\σ'=σ:=by
 refine b8.anyw hCC pu_ pu_ ?_ σ;refine d4 (c4 Tryz.func57 rfl rfl ?_);refine a7h ?_; refine cY b7e ?_; refine cY c1F ?_; refine cY c5q ?_; refine G9 ?_; refine cC (fun h1=>?_) fun h1=>?_
 ·have hlen:¬ l.length<=16:=by simp at h1; omega
  refine G5 ?_;exact ⟨_,j5 rfl tt c6,_,_,rfl,rfl,j4 (by rw [a8u,a3l hlen]; rfl)⟩
 ·have hlen:l.length<=16:=by simp at h1; omega
  refine a19 ?_; refine cY b7e ?_; refine cY c1F ?_; refine cY c5q ?_; refine a1n ?_; refine o0 hCC (α:=Nat) (fun i=>[(1,.ptr 0 0),(10,(.list (l.map Va.cv) nn none)),(11,(.val (.int .i64 (l.length:Int)))),(12,(.val (.int .i64 (i:Int))))]) (fun _=>[.box (L8 l nn)]) (fun i=>i<=l.length/\a8u l=evB (prv l i) (l.drop i)) (fun i=>l.length - i) 0 ⟨n_3 _,by rw [a8u,a2H hlen]; rfl⟩ tu_ (extra0:=[]) rfl A1 uz_ ?_; intro i ⟨hi,hr⟩; refine F2 ?_; refine cC (fun h2=>?_) fun h2=>?_
  ·have hlt:(i:Int) < l.length:=by simpa using h2
   obtain ⟨y,hb⟩:∃ y,l[i]? = some y:=⟨l[i]'om_,si_⟩;obtain ⟨p,hp⟩:=b79 (l:=l) (i:=i) om_;have hpp:0 < i->l[i - 1]? = some p:=fun h=>(hp h).2;have hpl:=hl y (n_1 hb);rw [c48 hb] at hr;refine Z0 ?_; refine d2o ?_;refine cD (r6 rfl c4N rfl o4 ?_);refine cY I1 ?_;refine cD (j3 rfl tt tt rfl c6 b73 o4 rfl rfl (nb rfl) ?_);refine z_8 ?_; refine B4 26 [0,1,3,7,15,31,63,127,255,511,1023,2047,4095,8191,16383,32767,16383,81919,16383,278527,999423,2047999,4145151,8388607,16777215,33554431] d5 d5 rfl ?_; refine hY (j2 rfl tt rfl b8f rfl t_0 de_) ?_; refine hY Y2 ?_; refine hY (c7 rfl c2V ⟨tt,tt⟩ (a1i y.n om_ _) rfl) ?_; refine hY a5M ?_; refine hY j7 ?_; refine O2 rfl rfl tt rfl (fun hg=>j2 rfl tt rfl b8f rfl t_1 de_) ?_; refine O2 rfl rfl tt rfl b0R ?_; refine O2 rfl rfl tt rfl (fun hg=>c7 rfl Tryz.call104 ⟨hg,tt⟩ (b6B y.v _) rfl) ?_; refine O2 rfl rfl tt rfl a83 ?_; refine hY a6W ?_; refine hY j7 ?_; refine O2 rfl rfl tt rfl Y6 ?_; refine O2 rfl rfl tt rfl b0O ?_; refine O2 rfl rfl tt rfl b5r ?_; refine a5Z rfl rfl (fun h=>h) rfl (fun hk hg=>j2 rfl tt rfl b8f rfl t_0 de_) ?_; refine a5Z rfl rfl (fun h=>h) rfl (fun hk hg=>o9 rfl ⟨hk,hg⟩ rfl t_8 rfl rfl) ?_; refine a5Z rfl rfl (fun h=>h) rfl (fun hk hg=>j2 rfl tt rfl b90 rfl c07 de_) ?_; refine a5Z rfl rfl (fun h=>h) rfl (fun hk hg=>o9 rfl ⟨hk,hg⟩ rfl c6D rfl rfl) ?_; refine a5Z rfl rfl (fun h=>h) rfl (fun hk hg=>a3h rfl tt c6) ?_; refine a5Z rfl rfl (fun h=>h) rfl (fun hk hg=>a63 rfl ⟨hk,hg⟩ rfl rfl rfl c54 c54) ?_; refine a5Z rfl rfl (fun h=>h) rfl (fun hk hg=>t6 rfl ⟨hk,hg⟩ ⟨hk,hg⟩ rfl rfl c5I b73 c54 (j8 (hp (by change (_:Bool)=_ at hk; simp at hk hg; omega)).1) rfl) ?_; refine a5Z rfl rfl (fun h=>h) rfl (fun hk hg=>a49 rfl ⟨hk,hg⟩ rfl b8f rfl t_0 de_) ?_; refine a5Z rfl rfl (fun h=>h) rfl (fun hk hg=>T9 rfl ⟨hk,hg⟩ rfl t_8 rfl) ?_; refine a5Z rfl rfl (fun h=>h) rfl (fun hk hg=>a0N rfl ⟨hk,hg⟩ ⟨hk,hg⟩ rfl rfl (b5O _ _)) ?_;refine O2 rfl rfl tt rfl c51 ?_; refine hY a6W ?_; refine a6T ?_; refine cC (fun h3=>?_) fun h3=>?_
   ·have u3:a3d (prv l i) y=false:=by rw [a3d,a0r hpp,c1z]; rw [h3]; rfl
    rw [u3,Bool.false_and] at hr;refine G5 ?_;exact ⟨_,j5 rfl tt c6,_,_,rfl,rfl,j4 hr.symm⟩
   ·have u3:a3d (prv l i) y=true:=by rw [a3d,a0r hpp,c1z]; rw [h3]; rfl
    rw [u3,b9o] at hr;exact b3R
  ·refine a3y ?_;exact ⟨_,j5 rfl tt c6,_,_,rfl,rfl,j4 d1u⟩
def a6s (l:List Va) (s:Str):Option Int:=(l.find? fun v=>decide (v.n=s)).map Va.v
theorem c3m {l:List Va} {v:Va} (h:l[i]? = some v) (s:Str):a6s (l.drop i) s=if v.n=s then some v.v else a6s (l.drop (i+1)) s:=by
 obtain ⟨hlt,rfl⟩:=n_0.1 h;rw [Q9 hlt];unfold a6s;rw [List.find?_cons];by_cases hh:l[i].n=s
 ·simp [hh]
 ·simp [hh]
theorem b14 (l:List Va) (nn:Bool) (s:Str) (hl:l.length<=1000000000) (σ:List c5):b8 CC 112 [.agg (L8 l nn),(sv s)] σ fun r σ'=>r = .ret (.tup [(.val (.int .i64 ((a6s l s).getD 0))),(.val (.bool ((a6s l s).isSome)))])/\σ'=σ:=by
 refine b8.anyw hCC pu_ pu_ ?_ σ;refine d4 (c4 Tryz.func112 rfl rfl ?_);refine a6m ?_; refine a0w ?_; refine a1R ?_; refine cY b7e ?_; refine cY c1F ?_; refine cY c5q ?_; refine a1n ?_; refine o0 hCC (α:=Nat) (fun i=>[(1,(sv s)),(9,(.list (l.map Va.cv) nn none)),(10,(.val (.int .i64 (l.length:Int)))),(11,(.val (.int .i64 (i:Int))))]) (fun _=>[.box (L8 l nn)]) (fun i=>i<=l.length/\a6s l s=a6s (l.drop i) s) (fun i=>l.length - i) 0 ⟨n_3 _,rfl⟩ tu_ (extra0:=[]) rfl A1 uz_ ?_; intro i ⟨hi,hr⟩; refine F2 ?_; refine cC (fun h1=>?_) fun h1=>?_
 ·have hlt:(i:Int) < l.length:=by simpa using h1
  obtain ⟨y,hb⟩:∃ y,l[i]? = some y:=⟨l[i]'om_,si_⟩;rw [c3m hb] at hr;refine a1O ?_; refine d2o ?_;refine cD (r6 rfl c4N rfl o4 ?_);refine cD (j3 rfl tt tt rfl c6 b73 o4 rfl rfl (nb rfl) ?_);refine U2 ?_; refine cY (j2 rfl tt rfl b8f rfl t_0 de_) ?_; refine cY Y2 ?_; refine cY j7 ?_; refine b2k ?_; refine cC (fun h2=>?_) fun h2=>?_
  ·have u2:y.n=s:=by simpa using h2
   rw [if_pos u2] at hr;refine z_0 ?_; refine cY (j2 rfl tt rfl b8f rfl t_1 de_) ?_; refine cY a0F ?_; refine a4x ?_;exact ⟨_,l9 (rs:=[.tmp 4,.tmp 5]) (cs:=[_,_]) rfl V9 (n_2 rfl),_,_,rfl,rfl,(by rw [hr]; exact .tups ⟨.old (.val _),.old (.val _),tt⟩)⟩
  ·have u2:¬ y.n=s:=by simpa using h2
   rw [if_neg u2] at hr;exact b3R
 ·have hge:l.length<=i:=by simp at h1; omega
  rw [U5 hge] at hr;refine Z5 ?_; refine a2V ?_;exact ⟨_,l9 (rs:=[.tmp 4,.tmp 5]) (cs:=[_,_]) rfl V9 (n_2 rfl),_,_,rfl,rfl,(by rw [hr]; exact .tups ⟨.old (.val _),.old (.val _),tt⟩)⟩
structure Nm where
 k:Int
 p:Str
 o:Str
deriving DecidableEq
abbrev Nm.cells (x:Nm):List CV:=[.val (.int .i64 x.k),sv x.p,sv x.o]
def Nm.kc (x:Nm):CV:=.agg x.cells
def Nm.kv (x:Nm):Value:=.agg #[.int .i64 x.k,.string (str x.p),.string (str x.o)]
theorem Nm.pure (x:Nm):p9 x.kc:=o8 ⟨.val _,.val _,.val _,tt⟩
def H9 (k:Int) (p o:Str):Nm:=⟨k,if k=3 then [] else p,o⟩
theorem d4y (x y:Nm):∀ w,(Op.equal 175 x.kv y.kv).run CC.P w = .ok (decide (x=y)) w:=by
 intro w;show (Op.equal _ _ _).run Tryz.prog w=_;simp [Op.equal,Op.maxDepth,go_sem,Nm.kv,W8];obtain ⟨a,b,c⟩:=x;obtain ⟨a',b',c'⟩:=y;by_cases h1:a=a' <;> by_cases h2:b=b' <;> by_cases h3:c=c' <;> simp [h1,h2,h3]
theorem d4P {M:r9} {w:World} {x:Nm} {v:Value} (h:RV M w x.kc v):v=x.kv:=a7g (l:=[.int .i64 x.k,.string (str x.p),.string (str x.o)]) h
theorem d3X {M:r9} {w:World} (x:Nm):RV M w x.kc x.kv:=by
 refine .agg rfl (fun c hc=>?_) fun i c hc=>?_
 ·simp at hc
  rcases hc with rfl | rfl | rfl <;> rfl
 ·rcases i with _ | _ | _ | i
  ·injection hc with hc; subst hc; exact .val _
  ·injection hc with hc; subst hc; exact .val _
  ·injection hc with hc; subst hc; exact .val _
  ·cases hc
theorem c4g:c7d (α:=Nm) CC.P 175 Nm.kc Nm.kv where
 rv _ _ _ _ h:=d4P h
 rv' _ _ a:=d3X a
 check b a w:=by
  have:∀ n,(Instr.checkKey b (n+2) 175 a.kv).run Tryz.prog w = .ok () w:=fun n=>by simp [Instr.checkKey,Nm.kv,go_sem]
  exact this 9998
 eq a b w:=d4y a b w
 now:=⟨_,c7A,fun a b=>rfl⟩
 bits a:=by
  have:∀ n,Instr.sameBits (n+2) a.kv a.kv=true:=fun n=>by simp [Instr.sameBits,Nm.kv,b4E]
  exact this 9998
theorem c9B:R1 (α:=Nm) CC.P 175 Nm.kc Nm.kv:=c4g.find
theorem b6C (k:Int) (p o:Str) (σ:List c5):b8 CC 133 [(.val (.int .i64 k)),(sv p),(sv o)] σ fun r σ'=>r = .ret (.agg (H9 k p o).cells)/\σ'=σ:=by
 refine b8.anyw hCC pu_ pu_ ?_ σ;refine d4 (c4 Tryz.func133 rfl rfl ?_);refine z_0 ?_;refine cD (r6 rfl c5M rfl o4 ?_);refine a2s ?_; refine G9 ?_; refine cC (fun h1=>?_) fun h1=>?_
 ·have u1:k=3:=by simpa using h1
  refine b2X ?_; refine a0n ?_; refine d10 ?_; refine b1p ?_;exact ⟨_,A8 rfl ⟨tt,_,_,_,rfl,rfl,.inr ⟨_,c58,c8x,nb rfl,rfl⟩⟩,_,_,rfl,rfl,(by rw [H9,if_pos u1]; exact .old ((Nm.pure ⟨k,[],o⟩).old))⟩
 ·have u1:¬ k=3:=by simpa using h1
  refine a5C ?_; refine d10 ?_; refine b1p ?_;exact ⟨_,A8 rfl ⟨tt,_,_,_,rfl,rfl,.inr ⟨_,c58,c8x,nb rfl,rfl⟩⟩,_,_,rfl,rfl,(by rw [H9,if_neg u1]; exact .old ((Nm.pure ⟨k,p,o⟩).old))⟩
structure En where
 p:Str
 o:Str
 k:Int
 pl:Str
 ix:Int
 ct:Int
deriving DecidableEq
variable {o:Option α} {k:Int}
abbrev En.cells (x:En):List CV:=[sv x.p,sv x.o,.val (.int .i64 x.k),sv x.pl,.val (.int .i64 x.ix),.val (.int .i64 x.ct)]
abbrev En.z:En:=⟨[],[],0,[],0,0⟩
theorem En.pure (x:En):p9 (.agg x.cells):=o8 ⟨.val _,.val _,.val _,.val _,.val _,.val _,tt⟩
def vcE (x:En):CV:=.agg x.cells
def vcS (x:Src):CV:=.agg x.cells
abbrev Src.z:Src:=⟨[],[],[]⟩
variable {z:Int × Nat × List Ex}
theorem a7p (x:Src):p9 (vcS x):=o8 x.pure
theorem a40 {z:Value} (d:β) (hd:F1 z=vc d) (o:Option β):(o.map vc).getD (F1 z)=vc (o.getD d):=by cases o <;> simp [hd]
theorem c6I {kc:α->CV} (hk:∀ a,p9 (kc a)) (hv:∀ b,p9 (vc b)) (n:Nat) (l:List (α × β)):F5 n (.map (gm kc vc l)):=fun x hx=>by
 obtain ⟨y,_,rfl⟩:=K3.1 hx;exact ⟨(hk _).old,(hv _).old⟩
theorem a7Y {kc:α->CV} (hk:∀ a,p9 (kc a)) (hv:∀ b,p9 (vc b)) (l:List (α × β)):H4 R (.map (gm kc vc l)) (.map (gm kc vc l)):=.map ⟨rfl,fun i x x' h h'=>by
 rw [h] at h'; injection h' with h'; subst h'
 obtain ⟨y,_,rfl⟩:=K3.1 (n_1 h);exact ⟨.pure (hk _),.pure (hv _)⟩⟩
abbrev SM:=List (Str × Src)
variable {ms:SM}
abbrev EM:=List (Nm × En)
variable {me:EM}
abbrev smO (m:SM):c5:=.map (gm sv vcS m)
abbrev emO (m:EM):c5:=.map (gm Nm.kc vcE m)
theorem a9R (s:Str):p9 (sv s):=.val _
abbrev wbx (fl:List Fi) (nn va:Bool) (br:List Str) (q1 q2 t:Nat):c5:=.box [.list (fl.map Fi.cv) nn none,.val (.bool va),.map q1,.list (br.map scv) (gnn br.length) (E7 br.length t),.map q2]
abbrev wst (fl:List Fi) (nn va:Bool) (br:List Str) (ms:SM) (me:EM):List c5:=[wbx fl nn va br 1 2 3,smO ms,emO me,r7 br.length]
structure WAt (σ:List c5) (w q1 q2 t:Nat) (fl:List Fi) (nn va:Bool) (br:List Str) (ms:SM) (me:EM):Prop where
 hw:σ[w]? = some (wbx fl nn va br q1 q2 t)
 hs:σ[q1]? = some (smO ms)
 he:σ[q2]? = some (emO me)
 ht:σ[t]? = some (r7 br.length)
 nd:b4T [w,q1,q2,t]
theorem b4r {b c d:Nat} (h:a≠b/\a≠c/\a≠d/\b≠c/\b≠d/\c≠d):b4T [a,b,c,d]:=fun i j k h1 h2=>by
 obtain ⟨h3,h4,h5,h6,h7,h8⟩:=h
 rcases i with _ | _ | _ | _ | i <;> rcases j with _ | _ | _ | _ | j <;> simp at h1 h2 <;> omega
theorem b4B {p1 p2 u:Nat} (h1:R q1 p1) (h2:R q2 p2) (h3:R t u):H4 R (wbx fl nn va br q1 q2 t) (wbx fl nn va br p1 p2 u) :=
 .box (.cons (.pure (D4 _ _)) (.cons (.pure (.val _)) (.cons (.map h1) (.cons (by
  refine .list rfl (fun i r r' h1 h2=>by rw [h1] at h2; injection h2 with h2; rw [h2]) (fun i j r r' c c' h1 h2 h3 h4=>?_) ?_
  ·rw [h1] at h2; injection h2 with h2; subst h2; rw [h3] at h4; injection h4 with h4; subst h4
   obtain ⟨y,_,rfl⟩:=K3.1 (n_1 h1);have hm:=n_1 h3;simp [scv] at hm;subst hm;exact .pure (.val _)
  ·cases hb:br.length with
   | zero=>exact .inl ⟨rfl,rfl⟩
   | succ m=>exact .inr ⟨t,u,rfl,rfl,h3⟩) (.cons (.map h2) .nil)))))
theorem a3k (h1:q1 < L) (h2:q2 < L) (h3:t < L):F5 L (wbx fl nn va br q1 q2 t):=s8 ⟨t7 _ _ _,.val _,.map h1,.list (fun i j r c h h'=>by
 obtain ⟨y,_,rfl⟩:=K3.1 (n_1 h);have hm:=n_1 h';simp [scv] at hm;subst hm;exact .val _) (fun k hk=>by
  cases hb:br.length with
  | zero=>rw [hb] at hk; cases hk
  | succ m=>rw [hb] at hk; injection hk with hk; omega),.map h2,tt⟩
theorem c1K (n:Nat) (m:SM):F5 n (smO m):=c6I a9R a7p n m
theorem c0U (n:Nat) (m:EM):F5 n (emO m):=c6I Nm.pure En.pure n m
theorem a2W {rest:List c5} {c':CV} (hτ:τ=wbx fl nn va br 1 2 3::smO ms::emO me::r7 br.length::rest) (hc:r8 4 [0,1,2,3] c c'):C6 4 τ (.ret c) (.ret c') (wst fl nn va br ms me):=by
 subst hτ;exact ⟨[0,1,2,3],rfl,rfl,.ret hc,.inr ⟨_,rfl,.same rfl (a3k de_ de_ de_)⟩,.inr ⟨_,rfl,.same rfl a1W⟩,.inr ⟨_,rfl,.same rfl a14⟩,.inr ⟨_,rfl,.same rfl s9⟩,tt⟩
theorem d2O {w:Nat} (h:WAt σ w q1 q2 t fl nn va br ms me):∀ (i k:Nat) (ob:c5),[w,q1,q2,t][i]? = some k->(wst fl nn va br ms me)[i]? = some ob->∃ ob',[wbx fl nn va br q1 q2 t,smO ms,emO me,r7 br.length][i]? = some ob'/\σ[k]? = some ob'/\H4 (fun i k=>[w,q1,q2,t][i]? = some k) ob ob':=fun i k ob h1 h2=>by
 rcases i with _ | _ | _ | _ | i
 ·injection h1 with h1; injection h2 with h2; subst h1 h2; exact ⟨_,rfl,h.hw,b4B rfl rfl rfl⟩
 ·injection h1 with h1; injection h2 with h2; subst h1 h2; exact ⟨_,rfl,h.hs,a7Y a9R a7p _⟩
 ·injection h1 with h1; injection h2 with h2; subst h1 h2; exact ⟨_,rfl,h.he,a7Y Nm.pure En.pure _⟩
 ·injection h1 with h1; injection h2 with h2; subst h1 h2; exact ⟨_,rfl,h.ht,a1y _⟩
 ·cases h1
theorem d53 {f:FuncId} {c:α->CV} (hargs:∀ a∈args,p9 a) (hc:∀ a,p9 (c a))
 (h:b8 CC f (.ptr 0 0::args) (wst fl nn va br ms me) fun r τ=>∃ a,C6 4 τ r (.ret (c a)) (wst fl nn va br ms me)/\P a) {σ:List c5} {w q1 q2 t:Nat} (hσ:WAt σ w q1 q2 t fl nn va br ms me):b8 CC f (.ptr w 0::args) σ fun r τ=>∃ a,r = .ret (c a)/\τ=σ/\P a :=
 b0D [w,q1,q2,t] hCC rfl hσ.nd (d2O hσ) (.cons (.ptr rfl) (M4 hargs)) (fun a _=>hc a) (N9 hCC (h.mono fun _ _ ⟨a,h1,h2⟩=>⟨_,_,h1,a,rfl,rfl,h2⟩))
theorem b3k {f:FuncId} (hargs:∀ a∈args,p9 a) (hc:p9 c)
 (h:b8 CC f (.ptr 0 0::args) (wst fl nn va br ms me) fun r τ=>C6 4 τ r (.ret c) (wst fl nn va br ms me)) {σ:List c5} {w q1 q2 t:Nat} (hσ:WAt σ w q1 q2 t fl nn va br ms me):b8 CC f (.ptr w 0::args) σ fun r τ=>r = .ret c/\τ=σ :=
 (d53 (α:=Unit) (c:=fun _=>c) (P:=fun _=>True) hargs (fun _=>hc) (h.mono fun _ _ hh=>⟨(),hh,tt⟩) hσ).mono fun _ _ ⟨_,h1,h2,_⟩=>⟨h1,h2⟩
def a4q (me:EM) (x:En):EM:=W2 me (H9 x.k x.p x.o) (match glk me (H9 x.k x.p x.o) with | some f=>{ f with ct:=f.ct+1} | none=>x)
def Y7 (va:Bool) (me:EM) (k:Int) (p o:Str):En:=if va=true then (match glk me (H9 k p o) with | some x=>x | none=>⟨(H9 k p o).p,o,k,[],0,0⟩) else En.z
def C7 (fl:List Fi) (s:Str):Option Str:=(fl.find? fun f=>decide (f.p=s)).map Fi.b
theorem a93 {l:List Fi} {v:Fi} (h:l[i]? = some v) (s:Str):C7 (l.drop i) s=if v.p=s then some v.b else C7 (l.drop (i+1)) s:=by
 obtain ⟨hlt,rfl⟩:=n_0.1 h;rw [Q9 hlt];unfold C7;rw [List.find?_cons];by_cases hh:l[i].p=s
 ·simp [hh]
 ·simp [hh]
theorem c3f (fl:List Fi) (nn va:Bool) (br:List Str) (ms:SM) (me:EM) (x:En) (hct:∀ k e,glk me k=some e->0<=e.ct/\e.ct<=1000000):b8 CC 103 [.ptr 0 0,.agg x.cells] (wst fl nn va br ms me) fun r τ=>C6 4 τ r (.ret (.tup [])) (wst fl nn va br ms (a4q me x)):=by
 refine (c4 Tryz.func103 rfl rfl ?_);refine a6m ?_; refine U2 ?_; refine a1M ?_; refine a39 ?_; refine a39 ?_; refine cY (c7 rfl Tryz.call133 B9 (b6C x.k x.p x.o _) rfl) ?_; refine d2I ?_; refine z_8 ?_; refine d1f ?_; refine a8d ?_; refine chf rfl (d6 rfl b2K) ?_; refine chf rfl (d6 rfl b2i) ?_; refine chf rfl (d6 rfl b3z) ?_; refine chf rfl (d6 rfl d4A) ?_; refine chf rfl U4 ?_; refine chf rfl b2A ?_; refine chf rfl b2A ?_; refine D2 ?_;refine A9 rfl rfl (r6 rfl a7n rfl o4 ?_);refine ⟨⟨C8,a1K,(by exact d6 rfl b2K),(by exact d6 rfl b2i),(by exact d6 rfl b3z),(by exact d6 rfl d4A),C8,a9b,a9b,tt⟩,?_⟩;refine d1r ?_; refine a9f ?_; refine z_1 ?_; refine i7 ?_; refine cC (fun h1=>?_) fun h1=>?_
 ·obtain ⟨e,he⟩:∃ e,glk me (H9 x.k x.p x.o)=some e:=b8X.1 h1;have hle:=hct _ _ he;rw [he];have hle2:0<=((some e).getD En.z).ct/\((some e).getD En.z).ct<=1000000:=hle;refine z_0 ?_; refine cY a8I ?_; refine c3n ?_; refine A0 ?_; refine a1M ?_; refine cY S8 ?_; refine cY b5c ?_; refine c2o ?_; refine B4 6 [0,1,3,7,0,0,63] d5 d5 rfl ?_; refine a5r ?_; refine hY b2K ?_; refine hY b2i ?_; refine hY b3z ?_; refine hY a8I ?_; refine N3 ?_;refine cD (k8 (vc:=vcE) (l:=me) (a:=(H9 x.k x.p x.o)) (b:={ e with ct:=e.ct+1}) c9B (.inl rfl) tt tt trivial rfl rfl rfl c0s rfl ?_);refine i7 ?_;exact ⟨_,l9 (rs:=[]) (cs:=[]) rfl tt (n_2 rfl),(by have ha:a4q me x=W2 me (H9 x.k x.p x.o) { e with ct:=e.ct+1}:=(by rw [a4q,he]); exact a2W (by rw [ha]; rfl) (.old (Old.tup (fun i c h=>by cases h))))⟩
 ·have he:glk me (H9 x.k x.p x.o)=none:=by simpa using h1
  refine i8 ?_; refine B4 6 [0,1,3,7,0,0,63] d5 d5 rfl ?_; refine a5r ?_; refine hY b2K ?_; refine hY b2i ?_; refine hY b3z ?_; refine hY a8I ?_; refine N3 ?_;refine cD (k8 (vc:=vcE) (l:=me) (a:=(H9 x.k x.p x.o)) (b:=x) c9B (.inl rfl) tt tt trivial rfl rfl rfl c0s rfl ?_);refine i7 ?_;exact ⟨_,l9 (rs:=[]) (cs:=[]) rfl tt (n_2 rfl),(by have ha:a4q me x=W2 me (H9 x.k x.p x.o) x:=(by rw [a4q,he]); exact a2W (by rw [ha]; rfl) (.old (Old.tup (fun i c h=>by cases h))))⟩
theorem c70 (fl:List Fi) (nn va:Bool) (br:List Str) (ms:SM) (me:EM) (k:Int) (p o:Str):b8 CC 90 [.ptr 0 0,(.val (.int .i64 k)),(sv p),(sv o)] (wst fl nn va br ms me) fun r τ=>C6 4 τ r (.ret (.agg (Y7 va me k p o).cells)) (wst fl nn va br ms me):=by
 refine (c4 Tryz.func90 rfl rfl ?_);refine z_0 ?_;refine cD (r6 rfl a7n rfl o4 ?_);refine z_8 ?_; refine a4R ?_; refine c5e ?_; refine T7 ?_; refine cC (fun h1=>?_) fun h1=>?_
 ·have hv:va=false:=by simpa using h1
  refine z_0 ?_; refine cY (x9 #[(0,1),(1,1),(2,1),(3,1),(4,1),(5,1)] rfl tt c17 a7n rfl ⟨_,rfl⟩ (fun w=>by kernel_rfl) rfl rfl) ?_; refine c3n ?_; refine G3 ?_;exact ⟨_,A8 rfl c0F,(by rw [Y7,if_neg (by rw [hv]; decide)]; exact a2W rfl (.old (c:=.agg En.z.cells) (En.pure _).old))⟩
 ·have hv:va=true:=by simpa using h1
  refine a5C ?_; refine cY (c7 rfl Tryz.call133 B9 (b6C k p o _) rfl) ?_; refine d2I ?_; refine z_8 ?_; refine d1f ?_; refine a8d ?_; refine chf rfl (d6 rfl b2K) ?_; refine chf rfl (d6 rfl b2i) ?_; refine chf rfl (d6 rfl b3z) ?_; refine chf rfl (d6 rfl d5d) ?_; refine chf rfl U4 ?_; refine chf rfl b2A ?_; refine chf rfl b2A ?_; refine D2 ?_;refine A9 rfl rfl (r6 rfl a7n rfl o4 ?_);refine ⟨⟨C8,a1K,(by exact d6 rfl b2K),(by exact d6 rfl b2i),(by exact d6 rfl b3z),(by exact d6 rfl d5d),C8,a9b,a9b,tt⟩,?_⟩;refine d1r ?_; refine a9f ?_; refine z_1 ?_; refine i7 ?_; refine cC (fun h2=>?_) fun h2=>?_
  ·obtain ⟨e,he⟩:∃ e,glk me (H9 k p o)=some e:=b8X.1 h2;rw [he];refine z_0 ?_; refine cY a8I ?_; refine c3n ?_; refine G3 ?_;exact ⟨_,A8 rfl c0F,(by rw [Y7,if_pos hv,he]; exact a2W rfl (.old (c:=.agg e.cells) (En.pure _).old))⟩
  ·have he:glk me (H9 k p o)=none:=by simpa using h2
   refine a0x ?_; refine cY (j2 rfl tt rfl c7A rfl t_0 de_) ?_; refine cY Y2 ?_; refine a8a ?_; refine cY d4u ?_; refine c3n ?_; refine G3 ?_;exact ⟨_,A8 rfl c0F,(by rw [Y7,if_pos hv,he]; exact a2W rfl (.old (c:=.agg (⟨(H9 k p o).p,o,k,[],0,0⟩:En).cells) (En.pure _).old))⟩
theorem c4S (fl:List Fi) (nn va:Bool) (br:List Str) (ms:SM) (me:EM) (s:Str) (hfl:fl.length<=1000000):b8 CC 110 [.ptr 0 0,(sv s)] (wst fl nn va br ms me) fun r τ=>C6 4 τ r (.ret (.tup [sv ((C7 fl s).getD []),.val (.bool (C7 fl s).isSome)])) (wst fl nn va br ms me):=by
 refine (c4 Tryz.func110 rfl rfl ?_);refine z_0 ?_; refine a0w ?_; refine b6k ?_; refine cY (j2 rfl tt rfl b6Y rfl a6h de_) ?_; refine a0U ?_; refine o0 hCC (α:=Nat) (fun i=>[(1,(sv s)),(12,(.list (fl.map Fi.cv) nn none)),(13,(.val (.int .i64 (fl.length:Int)))),(14,(.val (.int .i64 (i:Int))))]) (fun _=>(wst fl nn va br ms me)) (fun i=>i<=fl.length/\C7 fl s=C7 (fl.drop i) s) (fun i=>fl.length - i) 0 ⟨n_3 _,rfl⟩ tu_ (extra0:=[]) rfl A1 uz_ ?_; intro i ⟨hi,hr⟩; refine F2 ?_; refine cC (fun h1=>?_) fun h1=>?_
 ·have hlt:(i:Int) < fl.length:=by simpa using h1
  obtain ⟨y,hb⟩:∃ y,fl[i]? = some y:=⟨fl[i]'om_,si_⟩;rw [a93 hb] at hr;refine b2j ?_; refine cC (fun h2=>?_) fun h2=>?_
  ·have u2:y.p=s:=by simpa using h2
   rw [if_pos u2] at hr;refine z_0 ?_; refine a4m ?_; refine a4x ?_;exact ⟨_,l9 (rs:=[.tmp 4,.tmp 5]) (cs:=[_,_]) rfl V9 (n_2 rfl),(by rw [hr]; exact a2W rfl (.old (c:=.tup [sv y.b,.val (.bool true)]) (p9.old (.tup (fun c hc=>by simp at hc; rcases hc with rfl | rfl <;> exact .val _)))))⟩
  ·have u2:¬ y.p=s:=by simpa using h2
   rw [if_neg u2] at hr;exact b3R
 ·have hge:fl.length<=i:=by simp at h1; omega
  rw [U5 hge] at hr;refine Z5 ?_; refine a2V ?_;exact ⟨_,l9 (rs:=[.tmp 4,.tmp 5]) (cs:=[_,_]) rfl V9 (n_2 rfl),(by rw [hr]; exact a2W rfl (.old (c:=.tup [sv [],.val (.bool false)]) (p9.old (.tup (fun c hc=>by simp at hc; rcases hc with rfl | rfl <;> exact .val _)))))⟩
def addDs (me:EM) (path pkg:Str):List De->Nat->EM
 | [],_=>me
 | d::ds,k=>addDs (a4q me ⟨pkg,d.name,d.k,path,(k:Int),1⟩) path pkg ds (k+1)
abbrev WS:=List Str × SM × EM
def a0Z (s:WS) (f:Fi):WS:=if a11 f.p=true then (match L6 f.b with | none=>(s.1++[f.p],s.2.1,s.2.2) | some x=>(s.1,W2 s.2.1 f.p x,addDs s.2.2 f.p x.pkg x.decls 0)) else s
def a9L (fl:List Fi) (s:WS):WS:=fl.foldl a0Z s
def H0 (fl:List Fi):WS:=if C2 fl=0 then a9L fl ([],[],[]) else ([],[],[])
def CtB (n:Nat) (me:EM):Prop:=∀ k e,glk me k=some e->0<=e.ct/\e.ct<=(n:Int)
theorem CtB.add {n:Nat} (h:CtB n me) {x:En} (hx:x.ct=1):CtB (n+1) (a4q me x):=fun k e he=>by
 rw [a4q,M7] at he;split at he
 ·injection he with he
  subst he;cases hg:glk me (H9 x.k x.p x.o) with
  | none=>simp only; omega
  | some f=>have:=h _ _ hg; simp only; omega
 ·have:=h _ _ he;omega
theorem CtB.nil (n:Nat):CtB n []:=fun k e h=>by cases h
theorem CtB.mono {n m:Nat} (h:CtB n me) (hnm:n<=m):CtB m me:=fun k e he=>by have:=h k e he; omega
theorem a58 {path pkg:Str} {l:List De} {k:Nat} {d:De} (h:l[k]? = some d):addDs me path pkg (l.drop k) k=addDs (a4q me ⟨pkg,d.name,d.k,path,(k:Int),1⟩) path pkg (l.drop (k+1)) (k+1):=by
 obtain ⟨hlt,rfl⟩:=n_0.1 h;rw [Q9 hlt,addDs]
theorem c2X {l:List Fi} {f:Fi} (h:l[i]? = some f) (s:WS):a9L (l.drop i) s=a9L (l.drop (i+1)) (a0Z s f):=by
 obtain ⟨hlt,rfl⟩:=n_0.1 h;unfold a9L;rw [Q9 hlt,List.foldl_cons]
theorem b95:∀ {pv:Option Fi} {l:List Fi},rvE pv l=0->∀ f∈l,C1 f.p=true/\f.b.length<=16384
 | _,[],_,f,h=>by cases h
 | pv,x::l,h0,f,h=>by
  rw [rvE] at h0;split at h0
  ·rename_i hs
   rcases Q2.1 h with rfl | h
   ·unfold G6 at hs;split at hs
    ·cases hs
    ·rename_i hp;split at hs
     ·cases hs
     ·split at hs
      ·cases hs
      ·split at hs
       ·cases hs
       ·exact ⟨by simpa using hp,om_⟩
   ·exact b95 h0 f h
  ·rename_i hs;exact absurd h0 hs
theorem b5f {l:List Fi} (h:C2 l=0):l.length<=64/\∀ f∈l,C1 f.p=true/\f.b.length<=16384:=by
 unfold C2 at h;split at h
 ·cases h
 ·exact ⟨om_,b95 h⟩
theorem b1J:∀ (f:Nat) {T:List Tok} {n:Nat} {l:List De} {x:List De × Nat},L5 f T n l=some x->x.1.length+1<=l.length+f
 | 0,T,n,l,x,h=>by cases h
 | f+1,T,n,l,x,h=>by
  rw [L5] at h;split at h
  ·injection h with h; subst h; simp only; omega
  ·cases hd:W1 T l n with
   | none=>rw [hd] at h; cases h
   | some y =>
    rw [hd,n_5] at h;have:=b1J f h;rw [n_6,b5M] at this;omega
theorem b3v {x:Src} (h:R3 T=some x):x.decls.length<=64:=by
 unfold R3 at h;cases h1:pIs T 0 1 [112,97,99,107,97,103,101] with
 | none=>rw [h1] at h; cases h
 | some n1 =>
  rw [h1,n_5] at h;cases h2:F6 T n1 with
  | none=>rw [h2] at h; cases h
  | some w =>
   rw [h2,n_5] at h;cases h3:pIs T w.2 4 [59] with
   | none=>rw [h3] at h; cases h
   | some n2 =>
    rw [h3,n_5] at h;cases h4:Z7 9 T w.1.t n2 [] with
    | none=>rw [h4] at h; cases h
    | some y =>
     rw [h4,n_5] at h;cases h5:L5 65 T y.2 [] with
     | none=>rw [h5] at h; cases h
     | some z =>
      rw [h5,n_5] at h;injection h with h
      subst h;have:=b1J _ h5;simp only [I7] at this ⊢;omega
theorem b9A {x:Src} (h:L6 s=some x):x.decls.length<=64:=by
 unfold L6 at h;cases h1:a0D s with
 | none=>rw [h1] at h; cases h
 | some T=>rw [h1,n_5] at h; exact b3v h
theorem c8I {w:Nat} (hσ:WAt σ w q1 q2 t fl nn va br ms me) (x:En) (hct:∀ k e,glk me k=some e->0<=e.ct/\e.ct<=1000000):b8 CC 103 [.ptr w 0,.agg x.cells] σ fun r τ=>∃ _:Unit,r = .ret (.tup [])/\τ=b0I σ [w,q1,q2,t] [wbx fl nn va br q1 q2 t,smO ms,emO (a4q me x),r7 br.length]/\True :=
 b4F (α:=Unit) (obs:=wst fl nn va br ms me) (res:=fun _=>.ret (.tup [])) (res':=fun _=>.ret (.tup [])) (S:=fun _=>wst fl nn va br ms (a4q me x)) (S':=fun _=>[wbx fl nn va br q1 q2 t,smO ms,emO (a4q me x),r7 br.length]) (P:=fun _=>True) [w,q1,q2,t] hCC rfl hσ.nd (fun i k ob h1 h2=>by
  obtain ⟨ob',_,h3,h4⟩:=d2O hσ i k ob h1 h2;exact ⟨ob',h3,h4.symm fun _ _ h=>h⟩) (.cons (.ptr rfl) (M4 fun a ha=>by simp at ha; subst ha; exact En.pure x)) (N9 hCC ((c3f fl nn va br ms me x hct).mono fun r τ h=>⟨_,_,h,(),rfl,rfl,tt⟩)) a0Y (fun _ i k y h1 h2=>by
  rcases i with _ | _ | _ | _ | i
  ·injection h2 with h2; subst h2; exact ⟨_,rfl,b4B rfl rfl rfl⟩
  ·injection h2 with h2; subst h2; exact ⟨_,rfl,a7Y a9R a7p _⟩
  ·injection h2 with h2; subst h2; exact ⟨_,rfl,a7Y Nm.pure En.pure _⟩
  ·injection h2 with h2; subst h2; exact ⟨_,rfl,a1y _⟩
  ·cases h2) fun _=>.ret (.pure (B2 trivial))
theorem d0C (fl:List Fi) (nn:Bool) (hl:∀ f∈fl,f.p.length<=1000000000):b8 CC 56 [.agg (u0 fl nn)] [] fun r τ=>C6 0 τ r (.ret (.ptr 0 0)) (wst fl nn (C2 fl == 0) (H0 fl).1 (H0 fl).2.1 (H0 fl).2.2):=by
 refine (c4 Tryz.func56 rfl rfl ?_);refine a2n ?_; refine w8 ?_; refine a2z [5] [] [0,1,2,3,4,5,6,7,8] 4 [0,0,2,6,0,0,63,127,255] [[0,1,2,3],[0,1,2,3],[],[],[]] (hd1l:=[0,1,2,3]) (tll:=[(4,[0,1,2,3]),(5,[0,1,2,3]),(6,[]),(7,[]),(8,[])]) d5 d5 d5 ⟨⟨_,_,_,rfl,.inr ⟨_,rfl,rfl⟩,rfl,rfl⟩,tt⟩ rfl rfl rfl ?_; refine chf rfl b0X ?_; refine chf rfl b0X ?_; refine chf rfl (d6 rfl c6M) ?_; refine chf rfl (d6 rfl P1) ?_; refine D2 ?_;refine a3A rfl rfl rfl rfl (X9 rfl ?_);refine ⟨⟨V7,V7,(by exact d6 rfl c6M),(by exact d6 rfl P1),tt⟩,?_⟩;refine d4Y rfl rfl rfl rfl ?_;refine ⟨⟨V7,V7,(by exact d6 rfl c6M),(by exact d6 rfl P1),tt⟩,?_⟩;refine b3C rfl rfl rfl (d6 rfl (x9 #[(0,1),(1,1),(2,1),(3,1),(4,1)] rfl a5Q b6Y Tryz.zeroValue112 rfl ⟨_,rfl⟩ (fun w=>by kernel_rfl) rfl rfl)) ⟨tt,?_⟩;refine a3A rfl rfl rfl rfl (a5W rfl tt c6 o4 ?_);refine ⟨tt,?_⟩;refine c0Y ?_; refine b6k ?_; refine c5e ?_; refine T7 ?_; refine cC (fun h1=>?_) fun h1=>?_
 ·have hv:¬ C2 fl=0:=by simpa using h1
  refine a8B ?_;exact ⟨_,j5 rfl tt c6,(by rw [H0,if_neg hv]; exact ⟨[3,1,2,9],rfl,rfl,.ret (.ptr rfl),.inr ⟨_,rfl,.box ⟨.old R5,.old (.val _),.map rfl,.old a3H,.map rfl,tt⟩⟩,.inr ⟨_,rfl,.same rfl a1W⟩,.inr ⟨_,rfl,.same rfl a14⟩,.inl rfl,tt⟩)⟩
 ·have hv:C2 fl=0:=by simpa using h1
  obtain ⟨hfl,hfa⟩:=b5f hv;have hsp:H0 fl=a9L fl ([],[],[]):=by rw [H0,if_pos hv]
  refine a19 ?_; refine a0U ?_; refine A2 hCC 4 rfl (α:=Nat × WS) (fun x=>[(3,.ptr 3 0),(26,(.list (fl.map Fi.cv) nn none)),(27,(.val (.int .i64 (fl.length:Int)))),(28,(.val (.int .i64 (x.1:Int))))]) (fun x=>[.box (u0 fl nn),smO x.2.2.1,emO x.2.2.2,wbx fl nn (C2 fl == 0) x.2.1 1 2 4,r7 x.2.1.length]) (fun x=>x.1<=fl.length/\x.2.1.length<=x.1/\CtB (64*x.1) x.2.2.2/\H0 fl=a9L (fl.drop x.1) x.2) (fun x=>fl.length - x.1) ⟨(0,[],[],[]),[0,1,2,3,9],⟨n_3 _,n_3 _,CtB.nil _,hsp⟩,⟨rfl,rfl⟩,q_9,⟨.inr ⟨_,rfl,.same rfl a0Q⟩,.inr ⟨_,rfl,.same rfl a1W⟩,.inr ⟨_,rfl,.same rfl a14⟩,.inr ⟨_,rfl,.box ⟨.old R5,.old (.val _),.map rfl,.old a3H,.map rfl,tt⟩⟩,.inl rfl,tt⟩⟩ ?_; intro ⟨i,br,ms,me⟩ ⟨hi,hbr,hct,hr⟩;dsimp only at hi hbr hct hr ⊢;refine F2 ?_; refine cC (fun h2=>?_) fun h2=>?_
  ·have hlt:(i:Int) < fl.length:=by simpa using h2
   obtain ⟨y,hb⟩:∃ y,fl[i]? = some y:=⟨fl[i]'om_,si_⟩;have hy:=hfa y (n_1 hb);have hyl:=hl y (n_1 hb);rw [c2X hb,a0Z] at hr;refine b2Z ?_; refine a2i ?_; refine a4m ?_; refine cY (c7 rfl Tryz.call101 ⟨tt,tt⟩ (b1V y.p hyl _) rfl) ?_; refine T7 ?_; refine cC (fun h3=>?_) fun h3=>?_
   ·have u3:¬ a11 y.p=true:=by simpa using h3
    rw [if_neg u3] at hr;refine a8O ?_;exact ⟨(i+1,br,ms,me),[0,1,2,3,4],⟨do_,do_,do_,hct.mono om_,hr⟩,⟨rfl,rfl⟩,q_9,⟨.inr ⟨_,rfl,.same rfl a0Q⟩,.inr ⟨_,rfl,.same rfl a1W⟩,.inr ⟨_,rfl,.same rfl a14⟩,.inr ⟨_,rfl,.box ⟨.old R5,.old (.val _),.map rfl,r8.grow (f:=scv) (fun _=>⟨.val _,tt⟩) rfl,.map rfl,tt⟩⟩,.inr ⟨_,rfl,.same rfl s9⟩,tt⟩⟩
   ·have u3:a11 y.p=true:=by simpa using h3
    rw [if_pos u3] at hr;refine a0x ?_; refine a4m ?_;refine cD (b9 rfl Tryz.call102 ⟨tt,tt⟩ (c7z y.b om_ _) rfl ?_);rintro ⟨x,at_,e⟩ hP;dsimp only at hP ⊢;refine b2I ?_; refine c5v ?_; refine b5v ?_; refine cC (fun h4=>?_) fun h4=>?_
    ·have he:e≠0:=by simpa using h4
     have hps:L6 y.b=none:=by
      rcases hP with ⟨_,_,g⟩ | ⟨g,_⟩
      ·exact absurd g he
      ·exact g
     rw [hps] at hr;simp only at hr;have hls:=S9 br y.p;refine w8 ?_; refine B5 [0,1,2,3,4,5,6,7,8,9,10,11] 8 [0,0,2,6,14,0,32,96,254,511,1023,2047] [[0],[],[],[]] (hd1l:=[0,1,2,3,4,5,6,7]) (tll:=[(8,[0]),(9,[]),(10,[]),(11,[])]) d5 d5 rfl rfl rfl ?_; refine chf rfl U4 ?_; refine a8d ?_; refine chf rfl (d6 rfl (j2 rfl tt rfl b6Y rfl a3O de_)) ?_; refine chf rfl c7u ?_; refine b2D ?_; refine chf rfl d5B ?_; refine D2 ?_;refine A9 rfl rfl (D9 rfl tt tt rfl si_ R6 t_2 t_0 a8h t_3 rfl (.inr rfl) X0 V5 H3 ((br++[y.p]).map scv) (br++[y.p]).length si_ si_ ?_);refine c7R ?_;refine D5 rfl (d6 rfl (j2 rfl tt rfl b6Y rfl a3O de_)) ⟨tt,?_⟩;refine A9 rfl rfl (j3 rfl tt tt rfl c6 a3O (.inl rfl) rfl rfl (nb rfl) ?_);refine a3E ?_; refine a8O ?_;exact ⟨(i+1,br++[y.p],ms,me),[0,1,2,3,7],⟨do_,do_,do_,hct.mono om_,hr⟩,⟨rfl,rfl⟩,q_9,⟨.inr ⟨_,rfl,.same rfl a0Q⟩,.inr ⟨_,rfl,.same rfl a1W⟩,.inr ⟨_,rfl,.same rfl a14⟩,.inr ⟨_,rfl,.box ⟨.old R5,.old (.val _),.map rfl,r8.grow (f:=scv) (fun _=>⟨.val _,tt⟩) rfl,.map rfl,tt⟩⟩,.inr ⟨_,rfl,.same rfl s9⟩,tt⟩⟩
    ·have he:e=0:=by simpa using h4
     have hps:L6 y.b=some x:=by
      rcases hP with ⟨g,_⟩ | ⟨_,_,g⟩
      ·exact g
      ·exact absurd he g
     rw [hps] at hr;simp only at hr;have hdl:=b9A hps;refine z_9 ?_; refine B4 7 [0,1,3,7,0,16,0,127] d5 d5 rfl ?_; refine a5r ?_; refine hY b71 ?_; refine hY b66 ?_; refine hY b5l ?_; refine hY Y2 ?_; refine hY a3Y ?_; refine N3 ?_;refine cD (k8 (vc:=vcS) (l:=ms) (a:=y.p) (b:=x) b6h (.inl rfl) tt tt trivial rfl rfl rfl c1T rfl ?_);refine U2 ?_; refine b1z ?_; refine A2 hCC 7 rfl (α:=Nat × EM) (fun z=>[(3,.ptr 3 0),(26,(.list (fl.map Fi.cv) nn none)),(27,(.val (.int .i64 (fl.length:Int)))),(28,(.val (.int .i64 (i:Int)))),(5,.ptr 5 0),(6,.ptr 6 0),(64,(.list (x.decls.map De.cv) (gnn x.decls.length) none)),(65,(.val (.int .i64 (x.decls.length:Int)))),(66,(.val (.int .i64 (z.1:Int))))]) (fun z=>[.box (u0 fl nn),smO (W2 ms y.p x),emO z.2,wbx fl nn (C2 fl == 0) br 1 2 4,r7 br.length,.box y.cells,.box x.cells]) (fun z=>z.1<=x.decls.length/\CtB (64*i+z.1) z.2/\addDs me y.p x.pkg x.decls 0=addDs z.2 y.p x.pkg (x.decls.drop z.1) z.1) (fun z=>x.decls.length - z.1) ⟨(0,me),[0,1,2,3,4,5,6],⟨n_3 _,hct,rfl⟩,⟨rfl,rfl⟩,⟨a07,a07,a07,a07,a07,a07,a07,a07,a07,tt⟩,⟨.inr ⟨_,rfl,.same rfl a0Q⟩,.inr ⟨_,rfl,.same rfl a1W⟩,.inr ⟨_,rfl,.same rfl a14⟩,.inr ⟨_,rfl,.box ⟨.old R5,.old (.val _),.map rfl,r8.grow (f:=scv) (fun _=>⟨.val _,tt⟩) rfl,.map rfl,tt⟩⟩,.inr ⟨_,rfl,.same rfl s9⟩,.inr ⟨_,rfl,.same rfl b1c⟩,.inr ⟨_,rfl,.same rfl (s8 ⟨.val _,A5 _ _ _,L2 _ _ _,tt⟩)⟩,tt⟩⟩ ?_; intro ⟨k,me2⟩ ⟨hk,hct2,hr2⟩;dsimp only at hk hct2 hr2 ⊢;refine F2 ?_; refine cC (fun h5=>?_) fun h5=>?_
     ·have hkt:(k:Int) < x.decls.length:=by simpa using h5
      obtain ⟨d,hd⟩:∃ d,x.decls[k]? = some d:=⟨x.decls[k]'om_,si_⟩;rw [a58 hd] at hr2;refine Z0 ?_; refine cY b2T ?_; refine cY b0M ?_;refine cD (r6 rfl a9t rfl o4 ?_);refine cY I1 ?_; refine c0v ?_; refine z_5 ?_; refine b25 ?_; refine a8U ?_; refine a5x ?_; refine d20 ?_; refine cY (x9 #[(0,1),(1,1),(2,1),(3,1),(4,1),(5,1)] rfl ⟨tt,tt,tt,tt,tt,rfl,tt⟩ c17 a7n rfl ⟨_,rfl⟩ (fun w=>by kernel_rfl) rfl rfl) ?_;refine cD (b9 rfl Tryz.call103 j1 (c8I (w:=3) (q1:=1) (q2:=2) (t:=4) ⟨rfl,rfl,rfl,rfl,b4r de_⟩ ⟨x.pkg,d.name,d.k,y.p,(k:Int),1⟩ (fun a b h=>by have:=hct2 a b h; omega)) rfl ?_);rintro _ _; refine c8 [.box (u0 fl nn),smO (W2 ms y.p x),emO (a4q me2 ⟨x.pkg,d.name,d.k,y.p,(k:Int),1⟩),wbx fl nn (C2 fl == 0) br 1 2 4,r7 br.length,.box y.cells,.box x.cells,.box d.cells] rfl ?_; refine a2F ?_;exact ⟨(k+1,a4q me2 ⟨x.pkg,d.name,d.k,y.p,(k:Int),1⟩),[0,1,2,3,4,5,6],⟨do_,do_,(hct2.add rfl).mono om_,hr2⟩,⟨rfl,rfl⟩,⟨a07,a07,a07,a07,a07,a07,a07,a07,a07,tt⟩,⟨.inr ⟨_,rfl,.same rfl a0Q⟩,.inr ⟨_,rfl,.same rfl a1W⟩,.inr ⟨_,rfl,.same rfl a14⟩,.inr ⟨_,rfl,.box ⟨.old R5,.old (.val _),.map rfl,r8.grow (f:=scv) (fun _=>⟨.val _,tt⟩) rfl,.map rfl,tt⟩⟩,.inr ⟨_,rfl,.same rfl s9⟩,.inr ⟨_,rfl,.same rfl b1c⟩,.inr ⟨_,rfl,.same rfl (s8 ⟨.val _,A5 _ _ _,L2 _ _ _,tt⟩)⟩,tt⟩⟩
     ·have hkt:x.decls.length<=k:=by simp at h5; omega
      rw [U5 hkt,addDs] at hr2;refine a8O ?_;exact ⟨(i+1,br,W2 ms y.p x,me2),[0,1,2,3,4],⟨do_,do_,do_,hct2.mono om_,by rw [hr,hr2]⟩,⟨rfl,rfl⟩,q_9,⟨.inr ⟨_,rfl,.same rfl a0Q⟩,.inr ⟨_,rfl,.same rfl a1W⟩,.inr ⟨_,rfl,.same rfl a14⟩,.inr ⟨_,rfl,.box ⟨.old R5,.old (.val _),.map rfl,r8.grow (f:=scv) (fun _=>⟨.val _,tt⟩) rfl,.map rfl,tt⟩⟩,.inr ⟨_,rfl,.same rfl s9⟩,tt⟩⟩
  ·have hge:fl.length<=i:=by simp at h2; omega
   rw [U5 hge,a9L,List.foldl_nil] at hr;refine a33 ?_;exact ⟨_,j5 rfl tt c6,(by rw [hr]; exact ⟨[3,1,2,4],rfl,rfl,.ret (.ptr rfl),.inr ⟨_,rfl,.box ⟨.old R5,.old (.val _),.map rfl,r8.grow (f:=scv) (fun _=>⟨.val _,tt⟩) rfl,.map rfl,tt⟩⟩,.inr ⟨_,rfl,.same rfl a1W⟩,.inr ⟨_,rfl,.same rfl a14⟩,.inr ⟨_,rfl,.same rfl s9⟩,tt⟩)⟩
abbrev d5l (fl:List Fi) (nn va:Bool) (br:List Str) (ms:SM) (me:EM) (n:Nat):List c5:=[wbx fl nn va br (n+1) (n+2) (n+3),smO ms,emO me,r7 br.length]
theorem d3S (fl:List Fi) (nn:Bool) (hl:∀ f∈fl,f.p.length<=1000000000) (σ:List c5):b8 CC 56 [.agg (u0 fl nn)] σ fun r τ=>∃ _:Unit,r = .ret (.ptr σ.length 0)/\τ=σ++d5l fl nn (C2 fl == 0) (H0 fl).1 (H0 fl).2.1 (H0 fl).2.2 σ.length/\True :=
 a54 (α:=Unit) hCC (fun a ha=>by simp at ha; subst ha; exact o8 ⟨D4 _ _,tt⟩) (res:=fun _=>.ret (.ptr 0 0)) (res':=fun _ n=>.ret (.ptr n 0)) (S:=fun _=>wst fl nn (C2 fl == 0) (H0 fl).1 (H0 fl).2.1 (H0 fl).2.2) (S':=fun _ n=>d5l fl nn (C2 fl == 0) (H0 fl).1 (H0 fl).2.1 (H0 fl).2.2 n) (P:=fun _=>True) (N9 hCC ((d0C fl nn hl).mono fun r τ h=>⟨_,_,h,(),rfl,rfl,tt⟩)) (fun _ _=>rfl) (fun _ n i x h=>by
  rcases i with _ | _ | _ | _ | i
  ·injection h with h; subst h; exact ⟨_,rfl,b4B rfl rfl rfl⟩
  ·injection h with h; subst h; exact ⟨_,rfl,a7Y a9R a7p _⟩
  ·injection h with h; subst h; exact ⟨_,rfl,a7Y Nm.pure En.pure _⟩
  ·injection h with h; subst h; exact ⟨_,rfl,a1y _⟩
  ·cases h) (fun _ n=>.ret (.ptr rfl)) σ
theorem b7n (s:Str) (a:Nat) (ks:List Int):sub s a (r4 s a ks)=(s.drop a).takeWhile (inK ks):=by
 unfold sub r4;rw [List.drop_take,b68];have h:=List.takeWhile_prefix (inK ks) (l:=s.drop a);exact (List.prefix_iff_eq_take.1 h).symm
theorem c27 {b:UInt8} (hb:s[a]? = some b) (hk:j9 b.toNat=1) (hl:¬ 24 < r4 s a [1,2,3] - a):B1 (sub s a (r4 s a [1,2,3]))=true:=by
 have hlen:(sub s a (r4 s a [1,2,3])).length=r4 s a [1,2,3] - a:=by
  rw [b7n]; unfold r4; omega
 rw [b7n] at hlen ⊢;obtain ⟨hlt,rfl⟩:=n_0.1 hb;have hall:((s.drop a).takeWhile (inK [1,2,3])).all (inK [1,2,3])=true:=R8.2 fun c hc=>a1G hc;rw [Q9 hlt,b6v,if_pos (by simp [inK,hk])] at hlen hall ⊢;unfold B1;simp only [Y0,a5s];exact ⟨⟨om_,hk⟩,hall⟩
theorem c9a {b:UInt8} (hb:s[a]? = some b):((A7 s a b).1.k=1->B1 (A7 s a b).1.t=true)/\(A7 s a b).1.n<=9007199254740992:=by
 have z:((⟨0,[],0,0⟩:Tok).k=1->B1 (⟨0,[],0,0⟩:Tok).t=true)/\(⟨0,[],0,0⟩:Tok).n<=9007199254740992:=⟨fun h=>absurd h de_,de_⟩;unfold A7
 split
 ·rename_i hk
  split
  ·exact z
  ·rename_i hl;exact ⟨fun _=>c27 hb hk hl,show (0:Int)<=9007199254740992 by decide⟩
 ·split
  ·split
   ·exact z
   ·rename_i hl;exact ⟨fun h=>absurd h (show ¬ (2:Int)=1 by decide),show a3M _<=9007199254740992 by omega⟩
  ·split
   ·split
    ·exact z
    ·exact ⟨fun h=>absurd h (show ¬ (3:Int)=1 by decide),show (0:Int)<=9007199254740992 by decide⟩
   ·split
    ·split
     ·exact ⟨fun h=>absurd h (show ¬ (4:Int)=1 by decide),show (0:Int)<=9007199254740992 by decide⟩
     ·exact ⟨fun h=>absurd h (show ¬ (4:Int)=1 by decide),show (0:Int)<=9007199254740992 by decide⟩
    ·exact z
theorem b3W (s:Str):∀ (f i:Nat) (T:List Tok),O8 f s i=some T->∀ t∈T,(t.k=1->B1 t.t=true)/\t.n<=9007199254740992
 | 0,i,T,h=>by cases h
 | f+1,i,T,h=>by
  rw [O8] at h;cases hb:s[r4 s i [5]]? with
  | none =>
   rw [hb] at h;injection h with h
   subst h; intro t ht;simp at ht;subst ht;exact ⟨fun h=>absurd h (show ¬ (5:Int)=1 by decide),show (0:Int)<=9007199254740992 by decide⟩
  | some b =>
   rw [hb] at h;simp only at h;split at h
   ·exact b3W s f _ T h
   ·split at h
    ·cases h
    ·cases hq:O8 f s (A7 s (r4 s i [5]) b).2.1.toNat with
     | none=>rw [hq] at h; cases h
     | some T' =>
      rw [hq] at h;simp only [b2z,Option.some.injEq] at h;subst h; intro t ht
      rcases Q2.1 ht with rfl | ht
      ·exact c9a hb
      ·exact b3W s f _ T' hq t ht
theorem d0p (h:a0D s=some T):TG T:=fun i=>by
 have hc:=(b0S h).1.nn i;unfold a0D at h;split at h
 ·cases h
 ·rcases b77 (T:=T) i with h1 | h1
  ·have:=b3W s _ _ T h _ h1;exact ⟨this.1,hc.1,this.2⟩
  ·rw [h1];exact ⟨fun h=>absurd h de_,de_,de_⟩
theorem b3o {b:List Ex} {x:Ex} {w:Nat × List Ex} (h:U3 b x=some w) (hb:b.length<=256):w.2.length<=256:=by
 unfold U3 at h;split at h
 ·cases h
 ·injection h with h
  subst h;simp only [n_6,b5M];omega
theorem V2 {b:List Ex} {x:Ex} {m:Nat} {y:PX} (h:J8 b x m=some y) (hb:b.length<=256):y.2.2.length<=256:=b3o (w:=(y.1,y.2.2)) (a2Q h).1 hb
theorem c3p (hF:∀ d n b x,b.length<=256->F.ex d n b=some x->x.2.2.length<=256) {d n:Nat} {b:List Ex} {y:PX} (hb:b.length<=256) (h:P8 T F u d n b=some y):y.2.2.length<=256:=by
 unfold P8 at h;obtain ⟨n1,_,h⟩:=c9 h;split at h
 ·obtain ⟨s,h1,h⟩:=c9 h;obtain ⟨n2,_,h⟩:=c9 h;obtain ⟨x,h3,h⟩:=c9 h;obtain ⟨m,_,h⟩:=c9 h;exact V2 h (hF _ _ _ _ hb h3)
 ·split at h
  ·obtain ⟨s,h1,h⟩:=c9 h;obtain ⟨m,_,h⟩:=c9 h;exact V2 h hb
  ·split at h
   ·obtain ⟨s,h1,h⟩:=c9 h;obtain ⟨m,_,h⟩:=c9 h;exact V2 h hb
   ·split at h
    ·obtain ⟨s,h1,h⟩:=c9 h;split at h
     ·obtain ⟨m,_,h⟩:=c9 h;exact V2 h hb
     ·cases h
    ·obtain ⟨s,h1,h⟩:=c9 h;split at h
     ·cases h
     ·obtain ⟨m,_,h⟩:=c9 h;exact V2 h hb
theorem c0j {T:List Tok} {ps:List Str}:∀ f:Nat,
 (∀ d n b x,b.length<=256->(s7 T ps f).ex d n b=some x->x.2.2.length<=256) /\
 (∀ lv d n b x,b.length<=256->(s7 T ps f).bin lv d n b=some x->x.2.2.length<=256) /\
 (∀ d n b x,b.length<=256->(s7 T ps f).fac d n b=some x->x.2.2.length<=256) /\
 (∀ lv d i n b x,b.length<=256->(s7 T ps f).lp lv d i n b=some x->x.2.2.length<=256) /\
 (∀ d n b acc y,b.length<=256->(s7 T ps f).ag d n b acc=some y->y.2.2.length<=256)
 | 0=>by
  refine ⟨fun d n b x _ h=>?_,fun lv d n b x _ h=>?_,fun d n b x _ h=>?_,fun lv d i n b x _ h=>?_,fun d n b acc y _ h=>?_⟩ <;> cases h
 | f+1=>by
  obtain ⟨hE,hB,hF,hL,hA⟩:=c0j (T:=T) (ps:=ps) f;refine ⟨fun d n b x hb h=>?_,fun lv d n b x hb h=>?_,fun d n b y hb h=>?_,fun lv d i n b x hb h=>?_,fun d n b acc y hb h=>?_⟩
  ·change (C3 T ps (s7 T ps f)).ex d n b=some x at h;simp only [C3] at h;split at h
   ·cases h
   ·split at h
    ·obtain ⟨x1,h1,h⟩:=c9 h;obtain ⟨n2,_,h⟩:=c9 h;obtain ⟨x2,h2,h⟩:=c9 h;obtain ⟨n3,_,h⟩:=c9 h;obtain ⟨x3,h3,h⟩:=c9 h;exact V2 h (hE _ _ _ _ (hE _ _ _ _ (hE _ _ _ _ hb h1) h2) h3)
    ·exact hB _ _ _ _ _ hb h
  ·change (C3 T ps (s7 T ps f)).bin lv d n b=some x at h;simp only [C3] at h;split at h
   ·exact hF _ _ _ _ hb h
   ·obtain ⟨x1,h1,h⟩:=c9 h;exact hL _ _ _ _ _ _ (hB _ _ _ _ _ hb h1) h
  ·change (C3 T ps (s7 T ps f)).fac d n b=some y at h;simp only [C3] at h;split at h
   ·exact V2 h hb
   ·split at h
    ·obtain ⟨s,h1,h⟩:=c9 h;exact V2 h hb
    ·split at h
     ·obtain ⟨x1,h1,h⟩:=c9 h;obtain ⟨m,_,h⟩:=c9 h;injection h with h
      subst h;exact hE _ _ _ x1 hb h1
     ·split at h
      ·cases h
      ·split at h
       ·exact c3p hE hb h
       ·split at h
        ·cases h
        ·split at h
         ·obtain ⟨a,h1,h⟩:=c9 h;unfold a0A at h1;obtain ⟨n1,_,h1⟩:=c9 h1;refine V2 h ?_;split at h1
          ·injection h1 with h1
           subst h1;exact hb
          ·exact hA _ _ _ _ _ hb h1
         ·split at h
          ·cases h
          ·exact V2 h hb
  ·change (C3 T ps (s7 T ps f)).lp lv d i n b=some x at h;simp only [C3] at h;split at h
   ·injection h with h
    subst h;exact hb
   ·obtain ⟨y,h1,h⟩:=c9 h;obtain ⟨w,h2,h⟩:=c9 h;have hw:=b3o h2 (hB _ _ _ _ _ hb h1);split at h
    ·injection h with h
     subst h;exact hw
    ·exact hL _ _ _ _ _ _ hw h
  ·change (C3 T ps (s7 T ps f)).ag d n b acc=some y at h;simp only [C3] at h;obtain ⟨x1,h1,h⟩:=c9 h;have hx:=hE _ _ _ _ hb h1;split at h
   ·exact hA _ _ _ _ _ hx h
   ·obtain ⟨m,_,h⟩:=c9 h;injection h with h
    subst h;exact hx
theorem a62 (hT:TG T) {n:Nat} {x:Tok × Nat} (h:F6 T n=some x):B1 x.1.t=true/\O1 x.1.t=false:=by
 obtain ⟨y,h1,h2⟩:=c9 h;obtain ⟨e1,e2⟩:=a6a h1;split at h2
 ·cases h2
 ·rename_i hr;injection h2 with h2
  subst h2;refine ⟨?_,by simpa using hr⟩;rw [e1];exact (hT n).1 e2
structure a9i (l:List Str):Prop where
 ok:∀ s∈l,B1 s=true/\O1 s=false
 len:l.length<=8
 nod:l.Nodup
theorem a6l {l:List α} {x:α} (h:l.Nodup) (hx:x∉l):(l++[x]).Nodup:=by
 rw [List.nodup_append];exact ⟨h,si_,fun a ha b hb=>by simp at hb; subst hb; exact fun e=>hx (e ▸ ha)⟩
theorem a9i.snoc {l:List Str} {x:Str} (h:a9i l) (hx:B1 x=true/\O1 x=false) (h8:¬ l.length=8) (hn:¬ x∈l):a9i (l++[x]):=⟨fun s hs=>by
 rcases a0y.1 hs with hs | hs
 ·exact h.ok s hs
 ·simp at hs; subst hs; exact hx,by have:=h.len; rw [n_6,b5M]; omega,a6l h.nod hn⟩
theorem b7N {T:List Tok} (hT:TG T):∀ (f n:Nat) (l:List Str) (y:List Str × Nat),a9i l->a0H f T n l=some y->a9i y.1
 | 0,n,l,y,_,h=>by cases h
 | f+1,n,l,y,hl,h=>by
  rw [a0H] at h;obtain ⟨x,h1,h⟩:=c9 h;have hx:=a62 hT h1;split at h
  ·cases h
  ·rename_i h8;split at h
   ·cases h
   ·rename_i hn;have hs:=hl.snoc hx h8 hn;split at h
    ·exact b7N hT f _ _ y hs h
    ·obtain ⟨m,_,h⟩:=c9 h;injection h with h
     subst h;exact hs
theorem a43:a9i []:=⟨fun s h=>(by cases h),n_3 _,List.nodup_nil⟩
theorem c6f (hT:TG T) {n:Nat} {y:List Str × Nat} (h:a0S T kd n=some y):a9i y.1/\(kd≠1->y.1=[]):=by
 unfold a0S at h;split at h
 ·rename_i hk;unfold G7 at h;obtain ⟨m,_,h⟩:=c9 h;refine ⟨?_,fun h=>absurd hk h⟩;split at h
  ·injection h with h
   subst h;exact a43
  ·exact b7N hT _ _ _ y a43 h
 ·injection h with h
  subst h;exact ⟨a43,fun _=>rfl⟩
theorem c2Q (s:Str):C9 s=0\/C9 s=1\/C9 s=2\/C9 s=3:=by
 unfold C9 dkL;rw [M7,M7,M7]
 split
 ·exact .inr (.inr (.inr rfl))
 ·split
  ·exact .inr (.inr (.inl rfl))
  ·split
   ·exact .inr (.inl rfl)
   ·exact .inl rfl
theorem c8l (hT:TG T) {n:Nat} {y:De × Nat} (h:W1 T bs n=some y):DeG y.1/\(bs.any fun d=>(d.k == y.1.k) && decide (d.name=y.1.name))=false:=by
 unfold W1 at h;split at h
 ·cases h
 ·rename_i h0;split at h
  ·cases h
  ·obtain ⟨x,h1,h⟩:=c9 h;split at h
   ·cases h
   ·rename_i hany;obtain ⟨q,h2,h⟩:=c9 h;obtain ⟨m,_,h⟩:=c9 h;obtain ⟨e,h3,h⟩:=c9 h;obtain ⟨m2,_,h⟩:=c9 h;injection h with h
    subst h;obtain ⟨p1,p2⟩:=c6f hT h2;obtain ⟨t,t1,_,t3⟩:=(c08 hT (8*T.length+6)).1 _ _ _ _ h3;have hlen:=(c0j (8*T.length+6)).1 _ _ _ _ (n_3 _) h3;refine ⟨⟨?_,fun hk=>?_,fun hk=>?_,p2,p1.ok,p1.len,p1.nod,⟨t,by rw [t1]; rfl,t3⟩,hlen⟩,by simpa using hany⟩
    ·have:=c2Q (tk T n).t
     rcases this with g | g | g | g
     ·exact absurd (.inr g) h0
     ·exact .inl g
     ·exact .inr (.inl g)
     ·exact .inr (.inr g)
    ·unfold a0R at h1;rw [if_neg hk] at h1;exact a62 hT h1
    ·unfold a0R at h1;rw [if_pos hk] at h1;exact a64 h1
structure c8c (l:List De):Prop where
 ok:∀ d∈l,DeG d
 nod:(l.map fun d=>(d.k,d.name)).Nodup
theorem b2Q {T:List Tok} (hT:TG T):∀ (f n:Nat) (l:List De) (y:List De × Nat),c8c l->L5 f T n l=some y->c8c y.1
 | 0,n,l,y,_,h=>by cases h
 | f+1,n,l,y,hl,h=>by
  rw [L5] at h;split at h
  ·injection h with h
   subst h;exact hl
  ·obtain ⟨x,h1,h⟩:=c9 h;obtain ⟨g1,g2⟩:=c8l hT h1;refine b2Q hT f _ _ y ⟨fun d hd=>?_,?_⟩ h
   ·rcases a0y.1 hd with hd | hd
    ·exact hl.ok d hd
    ·simp at hd; subst hd; exact g1
   ·rw [b5x];refine a6l hl.nod fun hm=>?_;obtain ⟨d,hd,he⟩:=K3.1 hm;injection he with e1 e2
    have:=List.any_eq_false.1 g2 d hd;simp [e1,e2] at this
structure d4R (pkg:Str) (l:List Str):Prop where
 g:a9i l
 p:pkg∉l
theorem b7y {T:List Tok} (hT:TG T) {pkg:Str}:∀ (f n:Nat) (l:List Str) (y:List Str × Nat),d4R pkg l->Z7 f T pkg n l=some y->d4R pkg y.1
 | 0,n,l,y,_,h=>by cases h
 | f+1,n,l,y,hl,h=>by
  rw [Z7] at h;split at h
  ·split at h
   ·cases h
   ·rename_i h8;obtain ⟨x,h1,h⟩:=c9 h;split at h
    ·cases h
    ·rename_i hno;obtain ⟨m,_,h⟩:=c9 h;refine b7y hT f _ _ y ⟨hl.g.snoc (a62 hT h1) h8 fun hm=>hno (.inr hm),fun hm=>?_⟩ h
     rcases a0y.1 hm with hm | hm
     ·exact hl.p hm
     ·simp at hm; exact hno (.inl hm.symm)
  ·injection h with h
   subst h;exact hl
theorem c4v (hT:TG T) {x:Src} (h:R3 T=some x):a7F x:=by
 have hlen:=b3v h;unfold R3 at h;obtain ⟨n1,_,h⟩:=c9 h;obtain ⟨w,h1,h⟩:=c9 h;obtain ⟨n2,_,h⟩:=c9 h;obtain ⟨y,h2,h⟩:=c9 h;obtain ⟨z,h3,h⟩:=c9 h;injection h with h
 subst h;have hi:=b7y hT _ _ _ _ ⟨a43,fun h=>(by cases h)⟩ h2;have hd:=b2Q hT _ _ _ _ (⟨fun d h=>(by cases h),List.nodup_nil⟩:c8c []) h3;exact ⟨a62 hT h1,hi.g.ok,hi.g.len,hi.g.nod,hi.p,hd.ok,hlen,hd.nod⟩
theorem b3c {x:Src} (h:L6 s=some x):a7F x:=by
 unfold L6 at h;obtain ⟨T,h1,h2⟩:=c9 h;exact c4v (d0p h1) h2
def woF (l:List Fi) (p:Str):List Fi:=l.filter fun f=>decide (f.p≠p)
theorem c6R {l:List Fi} {y:Fi} (h:l[i]? = some y) (p:Str):woF (l.drop i) p=(if y.p≠p then [y] else [])++woF (l.drop (i+1)) p:=by
 obtain ⟨hlt,rfl⟩:=n_0.1 h;rw [Q9 hlt];unfold woF;rw [a9N];by_cases hh:l[i].p≠p
 ·rw [if_pos (a2H hh),if_pos hh]; rfl
 ·rw [if_neg (by simpa using hh),if_neg hh]; rfl
def wiF (x:Fi):Bool->List Fi->List Fi
 | d,[]=>if d=true then [] else [x]
 | d,y::l=>if (!d && Op.bytesLess x.p y.p)=true then x::y::wiF x true l else y::wiF x d l
theorem c8h {l:List Fi} {y:Fi} (h:l[i]? = some y) (x:Fi) (d:Bool):wiF x d (l.drop i)=if (!d && Op.bytesLess x.p y.p)=true then x::y::wiF x true (l.drop (i+1)) else y::wiF x d (l.drop (i+1)):=by
 obtain ⟨hlt,rfl⟩:=n_0.1 h;rw [Q9 hlt]; rfl
theorem c7J (l:List Fi) (p:Str):(woF l p).length<=l.length:=List.length_filter_le _ _
def a7O (l:List Fi) (p b:Str):List Fi × Int:=if C2 l≠0 then ([],C2 l) else if C1 p=false then ([],6) else if 16384 < b.length\/64 < (wiF ⟨p,b⟩ false (woF l p)).length then ([],2) else (wiF ⟨p,b⟩ false (woF l p),0)
theorem b74 (l:List Fi) (nn:Bool) (σ:List c5):b8 CC 52 [.agg (u0 l nn)] σ fun r σ'=>r = .ret (.val (.int .i64 (C2 l)))/\σ'=σ:=by
 refine b8.anyw hCC pu_ pu_ ?_ σ;refine d4 (c4 Tryz.func52 rfl rfl ?_);refine a7h ?_; refine d3E ?_; refine G9 ?_; refine cC (fun h1=>?_) fun h1=>?_
 ·have hlen:64 < l.length:=by simp at h1; omega
  exact d1W
 ·have hlen:¬ 64 < l.length:=by simp at h1; omega
  refine a19 ?_; refine a0U ?_; refine o0 hCC (α:=Nat) (fun i=>[(1,.ptr 0 0),(10,(.list (l.map Fi.cv) nn none)),(11,(.val (.int .i64 (l.length:Int)))),(12,(.val (.int .i64 (i:Int))))]) (fun _=>[.box (u0 l nn)]) (fun i=>i<=l.length/\C2 l=rvE (prv l i) (l.drop i)) (fun i=>l.length - i) 0 ⟨n_3 _,by rw [C2,if_neg hlen]; rfl⟩ tu_ (extra0:=[]) rfl A1 uz_ ?_; intro i ⟨hi,hr⟩; refine F2 ?_; refine cC (fun h2=>?_) fun h2=>?_
  ·have hlt:(i:Int) < l.length:=by simpa using h2
   obtain ⟨y,hb⟩:∃ y,l[i]? = some y:=⟨l[i]'om_,si_⟩;obtain ⟨p,hp⟩:=b79 (l:=l) (i:=i) om_;have hpp:0 < i->l[i - 1]? = some p:=fun h=>(hp h).2;rw [b70 hb] at hr;refine Z0 ?_; refine d3h ?_; refine c8D ?_; refine a2i ?_; refine a4m ?_; refine cY (c7 rfl c05 ⟨tt,tt⟩ (a44 y.p _) rfl) ?_; refine T7 ?_; refine cC (fun h3=>?_) fun h3=>?_
   ·have u3:C1 y.p=false:=by simpa using h3
    have us:G6 (prv l i) y=6:=by rw [G6,if_pos u3]
    rw [us] at hr;exact b4f
   ·have u3:¬ C1 y.p=false:=by simpa using h3
    refine z_9 ?_; refine w8 ?_; refine d0X ?_; refine hY P1 ?_; refine hY j7 ?_; refine b93 ?_; refine c0e ?_; refine b96 ?_; refine c4b ?_; refine O2 rfl rfl tt rfl b04 ?_; refine b2r ?_; refine cC (fun h4=>?_) fun h4=>?_
    ·have u4:((prv l i).any fun g=>decide (y.p=g.p))=true:=by rw [a0r hpp]; exact h4
     have us:G6 (prv l i) y=10:=by rw [G6,if_neg u3,if_pos u4]
     rw [us] at hr;exact b4f
    ·have u4:¬ ((prv l i).any fun g=>decide (y.p=g.p))=true:=by rw [a0r hpp]; simpa using h4
     refine z_9 ?_; refine w8 ?_; refine d0X ?_; refine hY P1 ?_; refine hY j7 ?_; refine b93 ?_; refine c0e ?_; refine b96 ?_; refine d24 ?_; refine b2r ?_; refine cC (fun h5=>?_) fun h5=>?_
     ·have u5:((prv l i).any fun g=>Op.bytesLess y.p g.p)=true:=by rw [a0r hpp]; exact h5
      have us:G6 (prv l i) y=6:=by rw [G6,if_neg u3,if_neg u4,if_pos u5]
      rw [us] at hr;exact b4f
     ·have u5:¬ ((prv l i).any fun g=>Op.bytesLess y.p g.p)=true:=by rw [a0r hpp]; simpa using h5
      refine a0x ?_; refine a4m ?_; refine a84 ?_; refine cC (fun h6=>?_) fun h6=>?_
      ·have u6:16384 < y.b.length:=by simp at h6; omega
       have us:G6 (prv l i) y=2:=by rw [G6,if_neg u3,if_neg u4,if_neg u5,if_pos u6]
       rw [us] at hr;exact b4f
      ·have u6:¬ 16384 < y.b.length:=by simp at h6; omega
       have us:G6 (prv l i) y=0:=by rw [G6,if_neg u3,if_neg u4,if_neg u5,if_neg u6]
       rw [us,if_pos rfl] at hr;exact b3R
  ·exact d0O
theorem c2S (s:Str):((C1 s && decide ((s.length:Int) > 4)) && decide (((s.take s.length).drop (s.length - 4))=[46,115,114,99]))=a11 s:=by
 rw [a11,b8c,b1E];by_cases h:(s.length:Int) > 4
 ·have h4:([46,115,114,99]:Str).length=4:=rfl;have h5:decide ((4:Nat)<=s.length)=true:=a2H om_;rw [b8G,h4,h5,b9o]
 ·rw [a3l h]; rfl
theorem a50 (s:Str) (hs:s.length<=1000000000) (σ:List c5):b8 CC 24 [(sv s)] σ fun r σ'=>r = .ret (.val (.bool (a11 s)))/\σ'=σ:=by
 refine b8.anyw hCC pu_ pu_ ?_ σ;refine d4 (c4 Tryz.func24 rfl rfl ?_);refine a1T ?_; refine cY (c7 rfl c05 ⟨tt,tt⟩ (a44 s _) rfl) ?_; refine a6i ?_; refine cG a3G ?_; refine a87 ?_; refine cG a3G ?_; refine cG d32 ?_; refine cG (fun hg=>G8 (a:=(s.length - 4)) rfl hg rfl t_4 ⟨hg,_,_,rfl,by first|omega|(simp at hg; omega),by first|omega|(simp at hg; omega)⟩ rfl (by simp at hg; omega) (by simp at hg; omega)) ?_; refine cG a5F ?_; refine a6Q ?_;exact ⟨_,j5 rfl tt c6,_,_,rfl,rfl,j4 (c2S _)⟩
theorem c20 (l:List Fi) (nn:Bool) (p:Str) (hl:l.length<=1000000) (σ:List c5):b8 CC 87 [.agg (u0 l nn),(sv p)] σ fun r σ'=>r = .ret (.tup [sv ((if C2 l=0 then C7 l p else none).getD []),.val (.bool (if C2 l=0 then C7 l p else none).isSome)])/\σ'=σ:=by
 refine b8.anyw hCC pu_ pu_ ?_ σ;refine d4 (c4 Tryz.func87 rfl rfl ?_);refine a6m ?_; refine a0w ?_; refine a1R ?_; refine cY a15 ?_; refine cY c1E ?_; refine G9 ?_; refine cC (fun h1=>?_) fun h1=>?_
 ·have h0:¬ C2 l=0:=by simpa using h1
  refine z_0 ?_; refine a2V ?_;exact ⟨_,l9 (rs:=[.tmp 4,.tmp 5]) (cs:=[_,_]) rfl V9 (n_2 rfl),_,_,rfl,rfl,(by rw [if_neg h0]; exact .tups ⟨.old (.val _),.old (.val _),tt⟩)⟩
 ·have h0:C2 l=0:=by simpa using h1
  refine a19 ?_; refine a0U ?_; refine o0 hCC (α:=Nat) (fun i=>[(1,(sv p)),(12,(.list (l.map Fi.cv) nn none)),(13,(.val (.int .i64 (l.length:Int)))),(14,(.val (.int .i64 (i:Int))))]) (fun _=>[.box (u0 l nn)]) (fun i=>i<=l.length/\C7 l p=C7 (l.drop i) p) (fun i=>l.length - i) 0 ⟨n_3 _,rfl⟩ tu_ (extra0:=[]) rfl A1 uz_ ?_; intro i ⟨hi,hr⟩; refine F2 ?_; refine cC (fun h2=>?_) fun h2=>?_
  ·have hlt:(i:Int) < l.length:=by simpa using h2
   obtain ⟨y,hb⟩:∃ y,l[i]? = some y:=⟨l[i]'om_,si_⟩;rw [a93 hb] at hr;refine b2j ?_; refine cC (fun h3=>?_) fun h3=>?_
   ·have u2:y.p=p:=by simpa using h3
    rw [if_pos u2] at hr;refine z_0 ?_; refine a4m ?_; refine a4x ?_;exact ⟨_,l9 (rs:=[.tmp 4,.tmp 5]) (cs:=[_,_]) rfl V9 (n_2 rfl),_,_,rfl,rfl,(by rw [if_pos h0,hr]; exact .tups ⟨.old (.val _),.old (.val _),tt⟩)⟩
   ·have u2:¬ y.p=p:=by simpa using h3
    rw [if_neg u2] at hr;exact b3R
  ·have hge:l.length<=i:=by simp at h2; omega
   rw [U5 hge] at hr;refine Z5 ?_; refine a2V ?_;exact ⟨_,l9 (rs:=[.tmp 4,.tmp 5]) (cs:=[_,_]) rfl V9 (n_2 rfl),_,_,rfl,rfl,(by rw [if_pos h0,hr]; exact .tups ⟨.old (.val _),.old (.val _),tt⟩)⟩
theorem b7p (l:List Fi) (nn:Bool) (p:Str) (hl:l.length<=1000000):b8 CC 65 [.agg (u0 l nn),(sv p)] [] fun r τ=>∃ _:Unit,a08 0 τ r (.ret (.agg (u0 (woF l p) (gnn (woF l p).length))))/\True:=by
 refine (c4 Tryz.func65 rfl rfl ?_);refine a6m ?_; refine b6I ?_; refine a2i ?_; refine a0U ?_; refine A2 hCC 3 rfl (α:=Nat × List Fi) (fun x=>[(1,(sv p)),(4,.ptr 1 0),(5,.ptr 2 0),(9,(.list (l.map Fi.cv) nn none)),(10,(.val (.int .i64 (l.length:Int)))),(11,(.val (.int .i64 (x.1:Int))))]) (fun x=>[.box (u0 l nn),.box [.list [] false none],.box [(.list (x.2.map Fi.cv) (gnn x.2.length) (E7 x.2.length 3))],r7 x.2.length]) (fun x=>x.1<=l.length/\x.2.length<=x.1/\woF l p=x.2++woF (l.drop x.1) p) (fun x=>l.length - x.1) ⟨(0,[]),[0,1,2,9],⟨n_3 _,n_4 _,rfl⟩,⟨rfl,rfl⟩,q_4,⟨.inr ⟨_,rfl,.box ⟨.old R5,tt⟩⟩,.inr ⟨_,rfl,.box ⟨.old (t7 _ [] _),tt⟩⟩,.inr ⟨_,rfl,.box ⟨.old (t7 _ [] _),tt⟩⟩,.inl rfl,tt⟩⟩ ?_; intro ⟨i,out⟩ ⟨hi,hol,hr⟩;dsimp only at hi hol hr ⊢;refine F2 ?_; refine cC (fun h1=>?_) fun h1=>?_
 ·have hlt:(i:Int) < l.length:=by simpa using h1
  obtain ⟨y,hb⟩:∃ y,l[i]? = some y:=⟨l[i]'om_,si_⟩;rw [c6R hb] at hr;refine c6P ?_; refine b2V ?_; refine cC (fun h2=>?_) fun h2=>?_
  ·have u2:y.p≠p:=by simpa using h2
   rw [if_pos u2] at hr;refine a8Q ?_; refine cY d34 ?_;refine cD (D9 rfl tt tt rfl si_ R6 a27 a1S b9N a34 rfl (.inr rfl) X0 d2x H3 ((out++[y]).map Fi.cv) (out++[y]).length si_ si_ ?_);refine b2m ?_;exact ⟨(i+1,out++[y]),[0,1,2,5],⟨do_,do_,by dsimp only; simp; omega,by dsimp only; rw [hr,n_9]⟩,⟨rfl,rfl⟩,q_4,⟨.inr ⟨_,rfl,.box ⟨.old R5,tt⟩⟩,.inr ⟨_,rfl,.box ⟨.old (t7 _ [] _),tt⟩⟩,.inr ⟨_,rfl,.box ⟨r8.grow (f:=Fi.cv) (fun _=>⟨.val _,.val _,tt⟩) rfl,tt⟩⟩,.inr ⟨_,rfl,.same rfl s9⟩,tt⟩⟩
  ·have u2:¬ y.p≠p:=by simpa using h2
   rw [if_neg u2,a7u] at hr;refine a2h ?_;exact ⟨(i+1,out),[0,1,2,3],⟨do_,do_,do_,hr⟩,⟨rfl,rfl⟩,q_4,⟨.inr ⟨_,rfl,.box ⟨.old R5,tt⟩⟩,.inr ⟨_,rfl,.box ⟨.old (t7 _ [] _),tt⟩⟩,.inr ⟨_,rfl,.box ⟨r8.grow (f:=Fi.cv) (fun _=>⟨.val _,.val _,tt⟩) rfl,tt⟩⟩,.inr ⟨_,rfl,.same rfl s9⟩,tt⟩⟩
 ·have hge:l.length<=i:=by simp at h1; omega
  rw [U5 hge] at hr;replace hr:woF l p=out:=by rw [hr]; exact a0P _
  refine Z5 ?_; refine b0E ?_;exact ⟨_,A8 rfl a1Z,⟨(),by rw [hr]; exact .ret (.aggs ⟨.tok (A6 (f:=Fi.cv) (fun a=>(Fi.pure a).all) _),tt⟩),tt⟩⟩
theorem b8T (l:List Fi) (nn:Bool) (p:Str) (hl:l.length<=1000000) (σ:List c5):b8 CC 65 [.agg (u0 l nn),(sv p)] σ fun r τ=>r = .ret (.agg (u0 (woF l p) (gnn (woF l p).length)))/\τ=σ :=
 (E9 (α:=Unit) (res:=fun _=>.ret (.agg (u0 (woF l p) (gnn (woF l p).length)))) hCC (fun c h=>by simp at h; rcases h with rfl|rfl <;> first|exact .val _|exact o8 ⟨D4 _ _,tt⟩) (b7p l nn p hl) (fun _ _=>o8 ⟨D4 _ _,tt⟩) σ).mono fun _ _ ⟨_,h1,h2,_⟩=>⟨h1,h2⟩
theorem c78 (l:List Fi) (nn:Bool) (x:Fi) (hl:l.length<=1000000):b8 CC 64 [.agg (u0 l nn),.agg x.cells] [] fun r τ=>∃ _:Unit,a08 0 τ r (.ret (.agg (u0 (wiF x false l) (gnn (wiF x false l).length))))/\True:=by
 refine (c4 Tryz.func64 rfl rfl ?_);refine b01 ?_; refine b6I ?_; refine i7 ?_; refine a8D ?_; refine a0U ?_; refine A2 hCC 4 rfl (α:=Nat × Bool × List Fi) (fun a=>[(3,.ptr 1 0),(4,.ptr 2 0),(5,.ptr 3 0),(6,(.val (.bool a.2.1))),(10,(.list (l.map Fi.cv) nn none)),(11,(.val (.int .i64 (l.length:Int)))),(12,(.val (.int .i64 (a.1:Int))))]) (fun a=>[.box (u0 l nn),.box x.cells,.box [.list [] false none],.box [(.list (a.2.2.map Fi.cv) (gnn a.2.2.length) (E7 a.2.2.length 4))],r7 a.2.2.length]) (fun a=>a.1<=l.length/\a.2.2.length<=a.1+1/\(a.2.1=false->a.2.2.length<=a.1)/\wiF x false l=a.2.2++wiF x a.2.1 (l.drop a.1)) (fun a=>l.length - a.1) ⟨(0,false,[]),[0,1,2,3,9],⟨n_3 _,n_3 _,fun _=>n_4 _,rfl⟩,⟨rfl,rfl⟩,q_1,⟨.inr ⟨_,rfl,.box ⟨.old R5,tt⟩⟩,.inr ⟨_,rfl,.box ⟨.old (.val _),.old (.val _),tt⟩⟩,.inr ⟨_,rfl,.box ⟨.old (t7 _ [] _),tt⟩⟩,.inr ⟨_,rfl,.box ⟨.old (t7 _ [] _),tt⟩⟩,.inl rfl,tt⟩⟩ ?_; intro ⟨i,d,out⟩ ⟨hi,hol,hdl,hr⟩;dsimp only at hi hol hdl hr ⊢;refine F2 ?_; refine cC (fun h1=>?_) fun h1=>?_
 ·have hlt:(i:Int) < l.length:=by simpa using h1
  obtain ⟨y,hb⟩:∃ y,l[i]? = some y:=⟨l[i]'om_,si_⟩;rw [c8h hb] at hr;refine b2Z ?_; refine a2s ?_; refine cY a5M ?_; refine cY j7 ?_; refine cG b7b ?_; refine cG a0X ?_; refine cG b7b ?_; refine cG a0X ?_; refine cG (fun hg=>a0N rfl hg hg rfl rfl (b1f _ _)) ?_; refine a6J ?_; refine cC (fun h2=>?_) fun h2=>?_
  ·have u2:(!d && Op.bytesLess x.p y.p)=true:=by simpa using h2
   rw [if_pos u2] at hr;have hd:d=false:=by cases d; rfl; simp at u2
   have hdl:=hdl hd;refine z_0 ?_; refine c4u ?_; refine cY c0f ?_; refine cY d6f ?_;refine cD (D9 rfl tt tt rfl si_ R6 a27 a1S b9N a34 rfl (.inr rfl) X0 d2x H3 ((out++[x]).map Fi.cv) (out++[x]).length si_ si_ ?_);refine b8Q ?_; refine i7 ?_; refine b2X ?_; refine a8Q ?_; refine cY d34 ?_;refine cD (D9 rfl tt tt rfl si_ R6 a27 a1S b9N a34 rfl (.inr rfl) X0 d2x H3 ((out++[x]++[y]).map Fi.cv) (out++[x]++[y]).length si_ si_ ?_);refine b2m ?_;exact ⟨(i+1,true,out++[x]++[y]),[0,1,2,3,7],⟨do_,do_,by dsimp only; simp; omega,fun h=>(by cases h),by dsimp only; rw [hr,n_9,n_9]; rfl⟩,⟨rfl,rfl⟩,q_1,⟨.inr ⟨_,rfl,.box ⟨.old R5,tt⟩⟩,.inr ⟨_,rfl,.box ⟨.old (.val _),.old (.val _),tt⟩⟩,.inr ⟨_,rfl,.box ⟨.old (t7 _ [] _),tt⟩⟩,.inr ⟨_,rfl,.box ⟨r8.grow (f:=Fi.cv) (fun _=>⟨.val _,.val _,tt⟩) rfl,tt⟩⟩,.inr ⟨_,rfl,.same rfl s9⟩,tt⟩⟩
  ·have u2:¬ (!d && Op.bytesLess x.p y.p)=true:=by simpa using h2
   rw [if_neg u2] at hr;refine i8 ?_; refine a8Q ?_; refine cY d34 ?_;refine cD (D9 rfl tt tt rfl si_ R6 a27 a1S b9N a34 rfl (.inr rfl) X0 d2x H3 ((out++[y]).map Fi.cv) (out++[y]).length si_ si_ ?_);refine b2m ?_;exact ⟨(i+1,d,out++[y]),[0,1,2,3,6],⟨do_,do_,by dsimp only; simp; omega,fun h=>by have:=hdl h; dsimp only; simp; omega,by dsimp only; rw [hr,n_9]; rfl⟩,⟨rfl,rfl⟩,q_1,⟨.inr ⟨_,rfl,.box ⟨.old R5,tt⟩⟩,.inr ⟨_,rfl,.box ⟨.old (.val _),.old (.val _),tt⟩⟩,.inr ⟨_,rfl,.box ⟨.old (t7 _ [] _),tt⟩⟩,.inr ⟨_,rfl,.box ⟨r8.grow (f:=Fi.cv) (fun _=>⟨.val _,.val _,tt⟩) rfl,tt⟩⟩,.inr ⟨_,rfl,.same rfl s9⟩,tt⟩⟩
 ·have hge:l.length<=i:=by simp at h1; omega
  rw [U5 hge] at hr;refine z6 ?_; refine a3c ?_; refine T7 ?_; refine cC (fun h3=>?_) fun h3=>?_
  ·have u3:d=false:=by simpa using h3
   subst u3;replace hr:wiF x false l=out++[x]:=hr;refine a8Q ?_; refine cY d6f ?_;refine cD (D9 rfl tt tt rfl si_ R6 a27 a1S b9N a34 rfl (.inr rfl) X0 d2x H3 ((out++[x]).map Fi.cv) (out++[x]).length si_ si_ ?_);refine b8Q ?_; refine U2 ?_; refine b0E ?_;exact ⟨_,A8 rfl a1Z,⟨(),by rw [hr]; exact .ret (.aggs ⟨.tok (A6 (f:=Fi.cv) (fun a=>(Fi.pure a).all) _),tt⟩),tt⟩⟩
  ·have u3:d=true:=by simpa using h3
   subst u3;replace hr:wiF x false l=out:=by rw [hr]; exact a0P _
   refine a0x ?_; refine b0E ?_;exact ⟨_,A8 rfl a1Z,⟨(),by rw [hr]; exact .ret (.aggs ⟨.tok (A6 (f:=Fi.cv) (fun a=>(Fi.pure a).all) _),tt⟩),tt⟩⟩
theorem c9U (l:List Fi) (nn:Bool) (x:Fi) (hl:l.length<=1000000) (σ:List c5):b8 CC 64 [.agg (u0 l nn),.agg x.cells] σ fun r τ=>r = .ret (.agg (u0 (wiF x false l) (gnn (wiF x false l).length)))/\τ=σ :=
 (E9 (α:=Unit) (res:=fun _=>.ret (.agg (u0 (wiF x false l) (gnn (wiF x false l).length)))) hCC (fun c h=>by simp at h; rcases h with rfl|rfl <;> first|exact o8 (Fi.pure _)|exact o8 ⟨D4 _ _,tt⟩) (c78 l nn x hl) (fun _ _=>o8 ⟨D4 _ _,tt⟩) σ).mono fun _ _ ⟨_,h1,h2,_⟩=>⟨h1,h2⟩
theorem b4d (x:Fi):∀ (l:List Fi) (d:Bool),(wiF x d l).length<=l.length+1
 | [],d=>by unfold wiF; split <;> simp
 | y::l,d=>by
  unfold wiF;have h2:=b4d x l d
  split
  ·rename_i h;have h1:∀ l:List Fi,(wiF x true l).length=l.length:=fun l=>by induction l with
    | nil=>rfl
    | cons y l ih=>simp [wiF,ih]
   simp [h1]
  ·simp; omega
theorem c8d (l:List Fi) (nn:Bool) (p b:Str) (hl:l.length<=1000000) (hb:b.length<=1000000000) (σ:List c5):b8 CC 26 [.agg (u0 l nn),(sv p),(sv b)] σ fun r σ'=>r = .ret (.tup [.agg (u0 (a7O l p b).1 (gnn (a7O l p b).1.length)),.val (.int .i64 (a7O l p b).2)])/\σ'=σ:=by
 refine b8.anyw hCC pu_ pu_ ?_ σ;refine d4 (c4 Tryz.func26 rfl rfl ?_);refine a6m ?_;refine cD (r6 rfl b3L rfl o4 ?_);refine z_3 ?_; refine a1R ?_; refine cY a15 ?_; refine cY c1E ?_; refine M9 ?_; refine G9 ?_; refine cC (fun h1=>?_) fun h1=>?_
 ·have h0:C2 l≠0:=by simpa using h1
  have hp:a7O l p b=([],C2 l):=by rw [a7O,if_pos h0]
  refine z_0 ?_; refine cY d3v ?_; refine cY j7 ?_;refine cD (j3 rfl tt tt rfl c6 a6h o4 rfl rfl (nb rfl) ?_);refine z_7 ?_;exact ⟨_,l9 (rs:=[.cell 6 32,.tmp 7]) (cs:=[_,_]) rfl d4Z (n_2 rfl),_,_,rfl,rfl,d47⟩
 ·have h0:¬ C2 l≠0:=by simpa using h1
  refine a4V ?_; refine cY (c7 rfl c05 ⟨tt,tt⟩ (a44 p _) rfl) ?_; refine T7 ?_; refine cC (fun h2=>?_) fun h2=>?_
  ·have h4:C1 p=false:=by simpa using h2
   have hp:a7O l p b=([],6):=by rw [a7O,if_neg h0,if_pos h4]
   refine z_0 ?_; refine cY d3v ?_; refine d03 ?_;exact ⟨_,l9 (rs:=[.cell 6 32,.tmp 7]) (cs:=[_,_]) rfl d4Z (n_2 rfl),_,_,rfl,rfl,d47⟩
  ·have h4:¬ C1 p=false:=by simpa using h2
   have hw1:=c7J l p;have hw2:=b4d ⟨p,b⟩ (woF l p) false;refine a0x ?_; refine cY a15 ?_; refine cY j7 ?_; refine cY (c7 rfl Tryz.call65 j1 (b8T l nn p hl _) rfl) ?_; refine a8a ?_; refine cY d5j ?_; refine cY (c7 rfl Tryz.call64 j1 (c9U (woF l p) _ ⟨p,b⟩ om_ _) rfl) ?_; refine c82 ?_; refine a2s ?_; refine cY V4 ?_; refine a4O ?_; refine cG d0U ?_; refine cG d1i ?_; refine cG (fun hg=>X7 rfl hg rfl a27 a4c rfl) ?_; refine a8M ?_; refine cC (fun h3=>?_) fun h3=>?_
   ·have h5:16384 < b.length\/64 < (wiF ⟨p,b⟩ false (woF l p)).length:=by
     simp at h3;omega
    have hp:a7O l p b=([],2):=by rw [a7O,if_neg h0,if_neg h4,if_pos h5]
    refine z_0 ?_; refine cY d3v ?_; refine d03 ?_;exact ⟨_,l9 (rs:=[.cell 6 32,.tmp 7]) (cs:=[_,_]) rfl d4Z (n_2 rfl),_,_,rfl,rfl,d47⟩
   ·have h5:¬ (16384 < b.length\/64 < (wiF ⟨p,b⟩ false (woF l p)).length):=by
     simp at h3;omega
    have hp:a7O l p b=(wiF ⟨p,b⟩ false (woF l p),0):=by rw [a7O,if_neg h0,if_neg h4,if_neg h5]
    refine a0x ?_; refine cY a15 ?_; refine d03 ?_;exact ⟨_,l9 (rs:=[.cell 6 32,.tmp 7]) (cs:=[_,_]) rfl d4Z (n_2 rfl),_,_,rfl,rfl,(by rw [hp]; exact .tups ⟨.aggs ⟨.old R5,tt⟩,.old (.val _),tt⟩)⟩
def tkE (e:Int) (m s:Nat):Option Nat:=if e=0 then E7 m s else none
def o7 (e:Int) (m:Nat):c5:=if e=0 then r7 m else .dead
abbrev rbx (T:List Tok) (n:Nat) (at_ e:Int) (ps:List Str) (b:List Ex) (s:Nat):c5:=.box [.list (T.map Tok.cv) true none,.val (.int .i64 (n:Int)),.val (.int .i64 at_),.val (.int .i64 e),.list (ps.map scv) (gnn ps.length) none,.list (b.map Ex.cv) (gnn b.length) (tkE e b.length s),.list [] false none]
abbrev rst (T:List Tok) (n:Nat) (at_ e:Int) (ps:List Str) (b:List Ex):List c5:=[rbx T n at_ e ps b 1,o7 e b.length]
abbrev a55 (T:List Tok) (n:Nat) (at_ e:Int) (ps:List Str) (b:List Ex):List c5:=[rbx T n at_ e ps b 2,.dead,o7 e b.length]
theorem c3H {b:List Ex} {e:Int} {s s':Nat} (h:R s s'):P5 R (.list (b.map Ex.cv) (gnn b.length) (tkE e b.length s)) (.list (b.map Ex.cv) (gnn b.length) (tkE e b.length s')):=by
 refine .list rfl (fun i r r' h1 h2=>by rw [h1] at h2; injection h2 with h2; rw [h2]) (fun i j r r' c c' h1 h2 h3 h4=>?_) ?_
 ·rw [h1] at h2; injection h2 with h2; subst h2; rw [h3] at h4; injection h4 with h4; subst h4
  exact .pure (A6 (f:=Ex.cv) (fun a=>(Ex.pure a).all) _ r (n_1 h1) c (n_1 h3))
 ·unfold tkE
  split
  ·cases hb:b.length with
   | zero=>exact .inl ⟨rfl,rfl⟩
   | succ m=>exact .inr ⟨s,s',rfl,rfl,h⟩
  ·exact .inl ⟨rfl,rfl⟩
theorem a6U {n:Nat} {at_ e:Int} {ps:List Str} {b:List Ex} {s s':Nat} (h:R s s'):H4 R (rbx T n at_ e ps b s) (rbx T n at_ e ps b s') :=
 .box (.cons (.pure (a2w _ _)) (.cons (.pure (.val _)) (.cons (.pure (.val _)) (.cons (.pure (.val _)) (.cons (.pure (F7 _ _)) (.cons (c3H h) (.cons (.pure (a2D [] false)) .nil)))))))
theorem a4d (e:Int) (m:Nat):H4 R (o7 e m) (o7 e m):=by
 unfold o7
 split
 ·exact a1y m
 ·exact .dead
def RAt (σ:List c5) (q s:Nat) (T:List Tok) (n:Nat) (at_ e:Int) (ps:List Str) (b:List Ex):Prop:=σ[q]? = some (rbx T n at_ e ps b s)/\σ[s]? = some (o7 e b.length)/\q≠s
theorem a7P {f:FuncId} {c:α->CV} {g:α->Bool} {n:Nat} {at_ e:Int} {ps:List Str} {b:List Ex} (hargs:∀ a∈args,p9 a) (hc:∀ a,p9 (c a))
 (h:b8 CC f (.ptr 0 0::args) (rst T n at_ e ps b) fun r τ=>∃ a,C6 2 τ r (.ret (c a)) (if g a=true then a55 T (N a) (A a) (E a) ps (B a) else rst T (N a) (A a) (E a) ps (B a))/\P a) {σ:List c5} {q s:Nat} (hσ:RAt σ q s T n at_ e ps b) :
 b8 CC f (.ptr q 0::args) σ fun r τ=>∃ a,r = .ret (c a)/\τ=(if g a=true then (σ.set q (rbx T (N a) (A a) (E a) ps (B a) σ.length)).set s .dead++[o7 (E a) (B a).length] else (σ.set q (rbx T (N a) (A a) (E a) ps (B a) s)).set s (o7 (E a) (B a).length))/\P a:=by
 obtain ⟨h1,h2,h3⟩:=hσ;have hq:=(n_0.1 h1).1;have hs:=(n_0.1 h2).1;have h':b8 CC f (.ptr 0 0::args) (rst T n at_ e ps b) fun r τ=>∃ a,r = .ret (c a)/\τ=(if g a=true then a55 T (N a) (A a) (E a) ps (B a) else rst T (N a) (A a) (E a) ps (B a))/\P a :=
  N9 hCC (h.mono fun r τ ⟨a,k1,k2⟩=>⟨_,_,k1,a,rfl,rfl,k2⟩)
 refine H5 [q,s] hCC rfl (fun i j k g1 g2=>?_) (fun i k ob g1 g2=>?_) (.cons (.ptr rfl) (M4 hargs)) h' fun r τ hk=>?_
 ·rcases i with _ | _ | i <;> rcases j with _ | _ | j <;> simp at g1 g2 <;> first|rfl|(exfalso; exact h3 (g1.trans g2.symm))|(exfalso; exact h3 (g2.trans g1.symm))
 ·rcases i with _ | _ | i
  ·simp at g1 g2;subst g1 g2;exact ⟨_,h1,a6U rfl⟩
  ·simp at g1 g2;subst g1 g2;exact ⟨_,h2,a4d _ _⟩
  ·simp at g1
 ·obtain ⟨a,rfl,rfl,hp⟩:=hk;refine ⟨by split <;> simp,.ret (c a),(if g a=true then (σ.set q (rbx T (N a) (A a) (E a) ps (B a) σ.length)).set s .dead++[o7 (E a) (B a).length] else (σ.set q (rbx T (N a) (A a) (E a) ps (B a) s)).set s (o7 (E a) (B a).length)),.ret (.pure (hc a)),by split <;> simp,fun k hk hks=>?_,fun i k x ha hx=>?_,a,rfl,rfl,hp⟩
  ·have n1:q≠k:=fun e=>hks a2u;have n2:s≠k:=fun e=>hks a2u
   split
   ·rw [L4 a3F];simp [n1,n2]
   ·simp [n1,n2]
  ·split at hx <;> rename_i hg
   ·rcases ha with ha | ⟨ha,rfl⟩
    ·rcases i with _ | _ | i
     ·simp at ha hx;subst ha hx;refine ⟨rbx T (N a) (A a) (E a) ps (B a) σ.length,?_,a6U (.inr ⟨si_,si_⟩)⟩;rw [if_pos hg,L4 a9l,a3q h3.symm];simp [hq]
     ·simp at ha hx;subst ha hx;refine ⟨.dead,?_,.dead⟩;rw [if_pos hg,L4 (by simpa using hs)];simp [hs]
     ·simp at ha
    ·rcases i with _ | _ | _ | i
     ·simp at ha
     ·simp at ha
     ·simp at hx;subst hx;refine ⟨o7 (E a) (B a).length,?_,a4d _ _⟩;rw [if_pos hg,a0a si_];simp
     ·simp at hx
   ·rcases ha with ha | ⟨ha,rfl⟩
    ·rcases i with _ | _ | i
     ·simp at ha hx;subst ha hx;refine ⟨rbx T (N a) (A a) (E a) ps (B a) s,?_,a6U (.inl rfl)⟩;rw [if_neg hg,a3q h3.symm];simp [hq]
     ·simp at ha hx;subst ha hx;refine ⟨o7 (E a) (B a).length,?_,a4d _ _⟩;rw [if_neg hg];simp [hs]
     ·simp at ha
    ·rcases i with _ | _ | i
     ·simp at ha
     ·simp at ha
     ·simp at hx
def Ok {α:Type} (e:Int) (o:Option α) (e':Int) (y:α):Prop:=(e=0->(o=some y/\e'=0)\/(o=none/\e'≠0))/\(e≠0->e'≠0)
theorem Ok.bind {e:Int} {f:α->Option β} {z:β} (h:Ok e o e1 y) (k:Ok e1 (f y) e2 z):Ok e (o.bind f) e2 z:=by
 refine ⟨fun h0=>?_,fun h0=>k.2 (h.2 h0)⟩
 rcases h.1 h0 with ⟨rfl,h1⟩ | ⟨rfl,h1⟩
 ·exact k.1 h1
 ·exact .inr ⟨rfl,k.2 h1⟩
theorem Ok.none {e:Int} (h:e'≠0):Ok e (Option.none:Option α) e' y:=⟨fun _=>.inr ⟨rfl,h⟩,fun _=>h⟩
theorem Ok.some {e:Int}:Ok e (Option.some y) e y:=⟨fun h=>.inl ⟨rfl,h⟩,fun h=>h⟩
theorem Ok.dead {e:Int} (h:e≠0) (h':e'≠0):Ok e o e' y:=⟨fun h0=>absurd h0 h,fun _=>h'⟩
theorem d0F {b:List Ex} {e:Int} {s:Nat} (h:s < L):Old L (.list (b.map Ex.cv) (gnn b.length) (tkE e b.length s)) :=
 .list (fun i j r c h1 h2=>(A6 (f:=Ex.cv) (fun a=>(Ex.pure a).all) _ r (n_1 h1) c (n_1 h2)).old) (fun k hk=>by
  unfold tkE at hk;split at hk
  ·cases hb:b.length with
   | zero=>rw [hb] at hk; cases hk
   | succ m=>rw [hb] at hk; injection hk with hk; omega
  ·cases hk)
theorem b6c (n:Nat) (e:Int) (m:Nat):F5 n (o7 e m):=by
 unfold o7
 split
 ·exact a7r _ _
 ·trivial
theorem c12 {n:Nat} {at_ e:Int} {ps:List Str} {b:List Ex} {s:Nat} (h:s < L):F5 L (rbx T n at_ e ps b s):=s8 ⟨S7 _ _ _,.val _,.val _,.val _,A5 _ _ _,d0F h,J5 _ [] false,tt⟩
theorem a1I {rest:List c5} {n:Nat} {at_ e:Int} {ps:List Str} {b:List Ex} (hτ:τ=rbx T n at_ e ps b 1::o7 e b.length::rest) (hc:Old 2 c):C6 2 τ (.ret c) (.ret c) (rst T n at_ e ps b):=by
 subst hτ;exact ⟨[0,1],rfl,rfl,.ret (.old hc),.inr ⟨_,rfl,.same rfl (c12 de_)⟩,.inr ⟨_,rfl,.same rfl P6⟩,tt⟩
theorem d3j {n:Nat} {at_ e:Int} {ps:List Str} {b:List Ex} (he:e≠0) (h0:τ[0]? = some (.box [.list (T.map Tok.cv) true none,.val (.int .i64 (n:Int)),.val (.int .i64 at_),.val (.int .i64 e),.list (ps.map scv) (gnn ps.length) none,.list (b.map Ex.cv) (gnn b.length) tok,.list [] false none])) (hc:Old 2 c):C6 2 τ (.ret c) (.ret c) (rst T n at_ e ps b):=by
 have ht:∀ m s,tkE e m s=none:=fun m s=>if_neg he;have hp:o7 e b.length = .dead:=if_neg he;refine ⟨[0,1],rfl,rfl,.ret (.old hc),.inr ⟨_,h0,.box ⟨.old a16,.old (.val _),.old (.val _),.old (.val _),.old O0,.list (fun r hr c hc=>(A6 (f:=Ex.cv) (fun a=>(Ex.pure a).all) _ r hr c hc).old) (fun j hj=>by rw [ht] at hj; cases hj),.old a5J,tt⟩⟩,.inl hp,tt⟩
theorem c9p {f:FuncId} {n:Nat} {at_ e:Int} {ps:List Str} {b:List Ex} (hargs:∀ a∈args,p9 a) (hc:p9 c)
 (h:b8 CC f (.ptr 0 0::args) (rst T n at_ e ps b) fun r τ=>C6 2 τ r (.ret c) (rst T n at_ e ps b)) {σ:List c5} {q s:Nat} (hσ:RAt σ q s T n at_ e ps b):b8 CC f (.ptr q 0::args) σ fun r τ=>r = .ret c/\τ=σ:=by
 refine (a7P (α:=Unit) (c:=fun _=>c) (N:=fun _=>n) (A:=fun _=>at_) (E:=fun _=>e) (B:=fun _=>b) (g:=fun _=>false) (P:=fun _=>True) hargs (fun _=>hc) (h.mono fun r τ hh=>⟨(),hh,tt⟩) hσ).mono fun r τ hh=>?_;obtain ⟨_,h1,h2,_⟩:=hh;refine ⟨h1,h2.trans ?_⟩;show (σ.set q _).set s _=σ;rw [a1A hσ.1,a1A hσ.2.1]
abbrev rS0 (σ:List c5) (q s:Nat) (T:List Tok) (n:Nat) (at_ e:Int) (ps:List Str) (b:List Ex):List c5:=(σ.set q (rbx T n at_ e ps b s)).set s (o7 e b.length)
theorem X3 {f:FuncId} {c:α->CV} {n:Nat} {at_ e:Int} {ps:List Str} {b:List Ex} (hargs:∀ a∈args,p9 a) (hc:∀ a,p9 (c a))
 (h:b8 CC f (.ptr 0 0::args) (rst T n at_ e ps b) fun r τ=>∃ a,C6 2 τ r (.ret (c a)) (rst T (N a) (A a) (E a) ps b)/\P a) {σ:List c5} {q s:Nat} (hσ:RAt σ q s T n at_ e ps b) :
 b8 CC f (.ptr q 0::args) σ fun r τ=>∃ a,r = .ret (c a)/\τ=rS0 σ q s T (N a) (A a) (E a) ps b/\P a :=
 a7P (c:=c) (N:=N) (A:=A) (E:=E) (B:=fun _=>b) (g:=fun _=>false) (P:=P) hargs hc (h.mono fun _ _ ⟨a,h1,h2⟩=>⟨a,h1,h2⟩) hσ
theorem c87 (T:List Tok) (n:Nat) (at_ e:Int) (ps:List Str) (b:List Ex) (_:T.length<=1000000) (hn:n < T.length):b8 CC 183 [.ptr 0 0] (rst T n at_ e ps b) (fun r τ=>C6 2 τ r (.ret (.agg (tk T n).cells)) (rst T n at_ e ps b)):=by
 refine (c4 Tryz.func183 rfl rfl ?_);refine b1P ?_; refine z_8 ?_; refine d0M ?_; refine hY (j2 rfl tt rfl b7K rfl Tryz.sizeOf191 de_) ?_; refine hY (o9 rfl tt rfl Tryz.isAgg191 rfl rfl) ?_; refine a5r ?_; refine hY b3F ?_; refine hY a0F ?_; refine d0R ?_; refine N3 ?_; refine b2F ?_;exact ⟨_,A8 rfl b29,a1I rfl (a4W _ _)⟩
theorem Z1 {n:Nat} {at_ e:Int} {ps:List Str} {b:List Ex} (hT:T.length<=1000000) (hn:n < T.length) {s:Nat} (hσ:RAt σ q s T n at_ e ps b):b8 CC 183 [.ptr q 0] σ fun r τ=>r = .ret (.agg (tk T n).cells)/\τ=σ:=c9p (fun _ h=>by cases h) (Y8 _) (c87 T n at_ e ps b hT hn) hσ
theorem c8K (T:List Tok) (n:Nat) (at_ e:Int) (ps:List Str) (b:List Ex) (x y:Int) (hy:y≠0):b8 CC 182 [.ptr 0 0,(.val (.int .i64 x)),(.val (.int .i64 y))] (rst T n at_ e ps b) (fun r τ=>∃ a:Int × Int,C6 2 τ r (.ret (.tup [])) (rst T n a.1 a.2 ps b)/\a.2≠0):=by
 refine (c4 Tryz.func182 rfl rfl ?_);refine a5O ?_; refine G9 ?_; refine cC (fun h1=>?_) fun h1=>?_
 ·have he:e=0:=by simpa using h1
  refine c6m ?_; refine cY J2 ?_; refine cY b3F ?_;refine cD (j3 rfl tt tt rfl c6 t_1 (.inl rfl) rfl rfl (nb rfl) ?_);refine cY J2 ?_; refine cY b61 ?_; refine d2k ?_;exact ⟨_,l9 (rs:=[]) (cs:=[]) rfl tt (n_2 rfl),(by exact ⟨(x,y),d3j hy rfl (.tup fun i c h=>by simp at h),hy⟩)⟩
 ·have he:e≠0:=by simpa using h1
  refine i8 ?_;exact ⟨_,l9 (rs:=[]) (cs:=[]) rfl tt (n_2 rfl),(by exact ⟨(at_,e),a1I rfl (.tup fun i c h=>by simp at h),he⟩)⟩
theorem a18 {n:Nat} {at_ e:Int} {ps:List Str} {b:List Ex} (x y:Int) (hy:y≠0) {s:Nat} (hσ:RAt σ q s T n at_ e ps b):b8 CC 182 [.ptr q 0,(.val (.int .i64 x)),(.val (.int .i64 y))] σ fun r τ=>∃ a:Int × Int,r = .ret (.tup [])/\τ=rS0 σ q s T n a.1 a.2 ps b/\a.2≠0 :=
 X3 (c:=fun _:Int × Int=>.tup []) (N:=fun _=>n) (A:=fun a=>a.1) (E:=fun a=>a.2) (fun _ h=>by simp at h; rcases h with rfl | rfl <;> exact .val _) (fun _=>B2 trivial) (c8K T n at_ e ps b x y hy) hσ
def sgB (T:List Tok) (n:Nat) (e:Int) (k:Int) (u:Str):Bool:=decide (e=0) && isT (tk T n) k u
theorem R2 {n:Nat} {e:Int} (h:sgB T n e k u=true):e=0/\isT (tk T n) k u=true:=by
 simpa [sgB] using h
theorem a9Q {n:Nat} {e:Int} (h:sgB T n e k u=true):Ok e (pIs T n k u) e (n+1):=by
 obtain ⟨h1,h2⟩:=R2 h;rw [pIs,if_pos h2];exact .some
theorem b9T {n:Nat} {e:Int} {y:Nat} (h:sgB T n e k u=false) (h2:e2≠0):Ok e (pIs T n k u) e2 y:=by
 by_cases he:e=0
 ·have:isT (tk T n) k u=false:=by simpa [sgB,he] using h
  rw [pIs,if_neg (by rw [this]; decide)];exact .none h2
 ·exact .dead he h2
theorem c4i (T:List Tok) (n:Nat) (at_ e:Int) (ps:List Str) (b:List Ex) (hT:T.length<=1000000) (hn:n < T.length) (_:a0e T) (u:Str):b8 CC 230 [.ptr 0 0,(sv u)] (rst T n at_ e ps b) (fun r τ=>C6 2 τ r (.ret (.val (.bool (sgB T n e 4 u)))) (rst T (if (sgB T n e 4 u)=true then n+1 else n) at_ e ps b)):=by
 refine (c4 Tryz.func230 rfl rfl ?_);refine a04 ?_; refine cY J2 ?_; refine c9i ?_; refine a1b ?_; refine cG c0L ?_; refine cG c1S ?_; refine b21 ?_; refine cG c0L ?_; refine cG c7o ?_; refine b7r ?_; refine a6J ?_; refine cC (fun h1=>?_) fun h1=>?_
 ·have hv:(sgB T n e 4 u)=true:=by simpa [sgB,isT,b8c] using h1
  rw [hv,if_pos rfl];refine a4R ?_; refine b2h ?_;exact c0k
 ·have hv:(sgB T n e 4 u)=false:=by simpa [sgB,isT,b8c] using h1
  rw [hv,if_neg de_];refine i8 ?_;exact c0k
theorem U1 {n:Nat} {at_ e:Int} {ps:List Str} {b:List Ex} (hT:T.length<=1000000) (hn:n < T.length) (hW:a0e T) (u:Str) {s:Nat} (hσ:RAt σ q s T n at_ e ps b):b8 CC 230 [.ptr q 0,(sv u)] σ fun r τ=>∃ a:Bool × Nat,r = .ret (.val (.bool a.1))/\τ=rS0 σ q s T a.2 at_ e ps b/\(a.1=(sgB T n e 4 u)/\(a.1=true->a.2=n+1)/\(a.1=false->a.2=n)/\a.2 < T.length) :=
 X3 (c:=fun a:Bool × Nat=>.val (.bool a.1)) (N:=fun a=>a.2) (A:=fun _=>at_) (E:=fun _=>e) (fun _ h=>by simp at h; subst h; exact .val _) (fun _=>.val _) ((c4i T n at_ e ps b hT hn hW u).mono fun r τ h=>⟨((sgB T n e 4 u),if (sgB T n e 4 u)=true then n+1 else n),h,rfl,fun h=>if_pos h,fun h=>if_neg (by dsimp only at h; rw [h]; decide),by
  dsimp only
  split
  ·rename_i h2;exact hW n hn (a59 (R2 h2).2 de_)
  ·exact hn⟩) hσ
theorem c7w (T:List Tok) (n:Nat) (at_ e:Int) (ps:List Str) (b:List Ex) (hT:T.length<=1000000) (hn:n < T.length) (_:a0e T) (u:Str):b8 CC 181 [.ptr 0 0,(sv u)] (rst T n at_ e ps b) (fun r τ=>C6 2 τ r (.ret (.val (.bool (sgB T n e 1 u)))) (rst T (if (sgB T n e 1 u)=true then n+1 else n) at_ e ps b)):=by
 refine (c4 Tryz.func181 rfl rfl ?_);refine a04 ?_; refine cY J2 ?_; refine c9i ?_; refine a1b ?_; refine cG c0L ?_; refine cG c1S ?_; refine b21 ?_; refine cG c0L ?_; refine cG c7o ?_; refine b7r ?_; refine a6J ?_; refine cC (fun h1=>?_) fun h1=>?_
 ·have hv:(sgB T n e 1 u)=true:=by simpa [sgB,isT,b8c] using h1
  rw [hv,if_pos rfl];refine a4R ?_; refine b2h ?_;exact c0k
 ·have hv:(sgB T n e 1 u)=false:=by simpa [sgB,isT,b8c] using h1
  rw [hv,if_neg de_];refine i8 ?_;exact c0k
theorem W4 {n:Nat} {at_ e:Int} {ps:List Str} {b:List Ex} (hT:T.length<=1000000) (hn:n < T.length) (hW:a0e T) (u:Str) {s:Nat} (hσ:RAt σ q s T n at_ e ps b):b8 CC 181 [.ptr q 0,(sv u)] σ fun r τ=>∃ a:Bool × Nat,r = .ret (.val (.bool a.1))/\τ=rS0 σ q s T a.2 at_ e ps b/\(a.1=(sgB T n e 1 u)/\(a.1=true->a.2=n+1)/\(a.1=false->a.2=n)/\a.2 < T.length) :=
 X3 (c:=fun a:Bool × Nat=>.val (.bool a.1)) (N:=fun a=>a.2) (A:=fun _=>at_) (E:=fun _=>e) (fun _ h=>by simp at h; subst h; exact .val _) (fun _=>.val _) ((c7w T n at_ e ps b hT hn hW u).mono fun r τ h=>⟨((sgB T n e 1 u),if (sgB T n e 1 u)=true then n+1 else n),h,rfl,fun h=>if_pos h,fun h=>if_neg (by dsimp only at h; rw [h]; decide),by
  dsimp only
  split
  ·rename_i h2;exact hW n hn (a59 (R2 h2).2 de_)
  ·exact hn⟩) hσ
theorem c7L (T:List Tok) (n:Nat) (at_ e:Int) (ps:List Str) (b:List Ex) (hT:T.length<=1000000) (hn:n < T.length) (hW:a0e T) (u:Str):b8 CC 185 [.ptr 0 0,(sv u)] (rst T n at_ e ps b) (fun r τ=>∃ a:Nat × Int × Int,C6 2 τ r (.ret (.tup [])) (rst T a.1 a.2.1 a.2.2 ps b)/\(Ok e (pIs T n 4 u) a.2.2 a.1/\a.1 < T.length)):=by
 refine (c4 Tryz.func185 rfl rfl ?_);refine z_4 ?_;refine cD (b9 rfl a75 j1 (U1 hT hn hW u ⟨rfl,rfl,de_⟩) rfl ?_);rintro ⟨v,m⟩ ⟨hv,hm1,hm2,hm⟩;dsimp only at hv hm1 hm2 hm ⊢;refine c8 [rbx T m at_ e ps b 1,o7 e b.length] rfl ?_; refine T7 ?_; refine cC (fun h1=>?_) fun h1=>?_
 ·have hvf:v=false:=by simpa using h1
  rw [hvf] at hv;refine R7 ?_; refine cY (c7 rfl a6E ⟨tt,tt⟩ (Z1 hT hm ⟨rfl,rfl,de_⟩) rfl) ?_; refine d1C ?_; rintro ⟨x,y⟩ hy;dsimp only at hy ⊢;refine c8 [rbx T m x y ps b 1,o7 y b.length] rfl ?_; refine i7 ?_;exact ⟨_,l9 (rs:=[]) (cs:=[]) rfl tt (n_2 rfl),(by exact ⟨(m,x,y),a1I rfl (.tup fun i c h=>by simp at h),b9T hv.symm hy,hm⟩)⟩
 ·have hvt:v=true:=by simpa using h1
  rw [hvt] at hv;refine i8 ?_;exact ⟨_,l9 (rs:=[]) (cs:=[]) rfl tt (n_2 rfl),(by exact ⟨(m,at_,e),a1I rfl (.tup fun i c h=>by simp at h),by dsimp only; rw [hm1 hvt]; exact a9Q hv.symm,hm⟩)⟩
theorem L1 {n:Nat} {at_ e:Int} {ps:List Str} {b:List Ex} (hT:T.length<=1000000) (hn:n < T.length) (hW:a0e T) (u:Str) {s:Nat} (hσ:RAt σ q s T n at_ e ps b):b8 CC 185 [.ptr q 0,(sv u)] σ fun r τ=>∃ a:Nat × Int × Int,r = .ret (.tup [])/\τ=rS0 σ q s T a.1 a.2.1 a.2.2 ps b/\(Ok e (pIs T n 4 u) a.2.2 a.1/\a.1 < T.length) :=
 X3 (c:=fun _:Nat × Int × Int=>.tup []) (N:=fun a=>a.1) (A:=fun a=>a.2.1) (E:=fun a=>a.2.2) (fun _ h=>by simp at h; subst h; exact .val _) (fun _=>B2 trivial) (c7L T n at_ e ps b hT hn hW u) hσ
abbrev a7G:List Str:=[[112,97,99,107,97,103,101],[105,109,112,111,114,116],[102,117,110,99],[116,101,115,116],[103,101,110],[105,102],[116,104,101,110],[101,108,115,101],[114,101,97,100],[115,105,122,101],[104,97,115],[101,110,118],[102,108,105,112]]
theorem b63 {l:List Str} {w:Str} (h:l[i]? = some w) (hd:decide (u∈l)=decide (u∈l.drop i)) (hne:¬ w=u):decide (u∈l)=decide (u∈l.drop (i+1)):=by
 obtain ⟨hlt,rfl⟩:=n_0.1 h;rw [hd,Q9 hlt];have:¬ u=l[i]:=fun e=>hne e.symm;exact decide_eq_decide.2 ⟨fun h=>(Q2.1 h).resolve_left this,a9r _⟩
theorem b6J (l:List Str) (nn:Bool) (u:Str) (hl:l.length<=1000000) (σ:List c5):b8 CC 186 [(.list (l.map scv) nn none),(sv u)] σ fun r σ'=>r = .ret (.val (.bool (decide (u∈l))))/\σ'=σ:=by
 refine b8.anyw hCC pu_ pu_ ?_ σ;refine d4 (c4 Tryz.func186 rfl rfl ?_);refine a04 ?_; refine a0W ?_; refine o0 hCC (α:=Nat) (fun i=>[(1,(sv u)),(7,(.list (l.map scv) nn none)),(8,(.val (.int .i64 (l.length:Int)))),(9,(.val (.int .i64 (i:Int))))]) (fun _=>[]) (fun i=>i<=l.length/\decide (u∈l)=decide (u∈l.drop i)) (fun i=>l.length - i) 0 ⟨n_3 _,rfl⟩ tu_ (extra0:=[]) rfl A1 uz_ ?_; intro i ⟨hi,hd⟩; refine F2 ?_; refine cC (fun h1=>?_) fun h1=>?_
 ·have hlt:i < l.length:=by simp at h1; omega
  obtain ⟨w,hb⟩:∃ w,l[i]? = some w:=⟨l[i]'hlt,si_⟩;refine b2v ?_; refine a7J ?_; refine b2k ?_; refine cC (fun h2=>?_) fun h2=>?_
  ·have hw:w=u:=by simpa using h2
   refine G5 ?_;exact ⟨_,j5 rfl tt c6,_,_,rfl,rfl,j4 (show true=decide (u∈l) from (a2H (hw ▸ n_1 hb)).symm)⟩
  ·have hw:¬ w=u:=by simpa using h2
   refine a2h ?_;exact ⟨(i+1),_,⟨om_,om_,b63 hb hd hw⟩,tu_,rfl⟩
 ·have hge:l.length<=i:=by simp at h1; omega
  refine a3y ?_;exact ⟨_,j5 rfl tt c6,_,_,rfl,rfl,j4 (show false=decide (u∈l) by rw [hd,U5 hge]; simp)⟩
theorem b19 (u:Str) (σ:List c5):b8 CC 229 [(sv u)] σ fun r σ'=>r = .ret (.val (.bool (O1 u)))/\σ'=σ:=by
 refine b8.anyw hCC pu_ pu_ ?_ σ;refine d4 (c4 Tryz.func229 rfl rfl ?_);refine a8D ?_; refine cY (A3 (a7G.map scv) rfl ⟨rfl,rfl,rfl,rfl,rfl,rfl,rfl,rfl,rfl,rfl,rfl,rfl,rfl,tt⟩ t_2 t_0 t_3 rfl rfl rfl rfl rfl rfl rfl rfl rfl) ?_; refine a0W ?_; refine o0 hCC (α:=Nat) (fun i=>[(0,(sv u)),(5,(.list (a7G.map scv) true none)),(6,(.val (.int .i64 (a7G.length:Int)))),(7,(.val (.int .i64 (i:Int))))]) (fun _=>[]) (fun i=>i<=a7G.length/\decide (u∈a7G)=decide (u∈a7G.drop i)) (fun i=>a7G.length - i) 0 ⟨n_3 _,rfl⟩ tu_ (extra0:=[]) rfl A1 uz_ ?_; intro i ⟨hi,hd⟩;have hL:a7G.length=13:=rfl;refine F2 ?_; refine cC (fun h1=>?_) fun h1=>?_
 ·have hlt:i < a7G.length:=by simp at h1; omega
  obtain ⟨w,hb⟩:∃ w,a7G[i]? = some w:=⟨a7G[i]'hlt,a1q hlt⟩;refine b2v ?_; refine a7J ?_; refine b2k ?_; refine cC (fun h2=>?_) fun h2=>?_
  ·have hw:u=w:=by simpa using h2
   refine G5 ?_;exact ⟨_,j5 rfl tt c6,_,_,rfl,rfl,j4 (show true=decide (u∈a7G) from (a2H (hw ▸ n_1 hb)).symm)⟩
  ·have hw:¬ u=w:=by simpa using h2
   refine a2h ?_;exact ⟨(i+1),_,⟨om_,om_,b63 hb hd (fun e=>hw e.symm)⟩,tu_,rfl⟩
 ·have hge:a7G.length<=i:=by simp at h1; omega
  refine a3y ?_;exact ⟨_,j5 rfl tt c6,_,_,rfl,rfl,j4 (show false=decide (u∈a7G) by rw [hd,U5 hge]; simp)⟩
def a01 (T:List Tok) (path:Bool) (n:Nat):Option (Tok × Nat):=(B6 T n 3).bind fun x=>if (if path=true then C1 x.1.t else B1 x.1.t)=true then some x else none
theorem a3g (T:List Tok) (n:Nat):a01 T true n=V0 T n:=by simp [a01,V0]
theorem c35 {n:Nat} {e:Int} {y:Str × Nat} (h:e≠0\/(tk T n).k≠1\/O1 (tk T n).t=true) (h2:e2≠0):Ok e ((F6 T n).map fun x=>(x.1.t,x.2)) e2 y:=by
 by_cases he:e=0
 ·have hn:F6 T n=none:=by
   unfold F6 B6
   split
   ·rename_i hk
    rcases h with h | h | h
    ·exact absurd he h
    ·exact absurd hk h
    ·simp [h]
   ·rfl
  rw [hn];exact .none h2
 ·exact .dead he h2
theorem c3a {n:Nat} {e:Int} (h:(tk T n).k=1/\O1 (tk T n).t=false):Ok e ((F6 T n).map fun x=>(x.1.t,x.2)) e ((tk T n).t,n+1):=by
 have hn:F6 T n=some (tk T n,n+1):=by
  unfold F6 B6;rw [if_pos h.1];simp [h.2]
 rw [hn];exact .some
theorem c6F (T:List Tok) (n:Nat) (at_ e:Int) (ps:List Str) (b:List Ex) (hT:T.length<=1000000) (hn:n < T.length) (hW:a0e T):b8 CC 184 [.ptr 0 0] (rst T n at_ e ps b) (fun r τ=>∃ a:Str × Nat × Int × Int,C6 2 τ r (.ret (sv a.1)) (rst T a.2.1 a.2.2.1 a.2.2.2 ps b)/\(Ok e ((F6 T n).map fun x=>(x.1.t,x.2)) a.2.2.2 (a.1,a.2.1)/\a.2.1 < T.length)):=by
 refine (c4 Tryz.func184 rfl rfl ?_);refine b5k ?_; refine a8m ?_; refine z_8 ?_; refine a5O ?_; refine a4O ?_; refine cG c6G ?_; refine cG b0R ?_; refine a5K ?_; refine cY j7 ?_; refine cG b6w ?_; refine cG a0X ?_; refine cG (fun hg=>c7 rfl Tryz.call229 ⟨hg,tt⟩ (b19 _ _) rfl) ?_; refine a4L ?_; refine cC (fun h1=>?_) fun h1=>?_
 ·have hv:e≠0\/(tk T n).k≠1\/O1 (tk T n).t=true:=by simpa [or_assoc] using h1
  refine z_1 ?_; refine c8N ?_; rintro ⟨x,y⟩ hy;dsimp only at hy ⊢;refine c8G ?_; refine G5 ?_;exact ⟨_,j5 rfl tt c6,(by exact ⟨([],n,x,y),a1I rfl (.val _),c35 hv hy,hn⟩)⟩
 ·have hv:e=0/\(tk T n).k=1/\O1 (tk T n).t=false:=by simpa [and_assoc] using h1
  refine a5X ?_; refine b2h ?_; refine z_0 ?_; refine a2K ?_; refine z_7 ?_;exact ⟨_,j5 rfl tt c6,(by exact ⟨((tk T n).t,n+1,at_,e),a1I rfl (.val _),c3a hv.2,hW n hn (by rw [hv.2.1]; decide)⟩)⟩
theorem a7t {n:Nat} {at_ e:Int} {ps:List Str} {b:List Ex} (hT:T.length<=1000000) (hn:n < T.length) (hW:a0e T) {s:Nat} (hσ:RAt σ q s T n at_ e ps b):b8 CC 184 [.ptr q 0] σ fun r τ=>∃ a:Str × Nat × Int × Int,r = .ret (sv a.1)/\τ=rS0 σ q s T a.2.1 a.2.2.1 a.2.2.2 ps b/\(Ok e ((F6 T n).map fun x=>(x.1.t,x.2)) a.2.2.2 (a.1,a.2.1)/\a.2.1 < T.length) :=
 X3 (c:=fun a:Str × Nat × Int × Int=>(sv a.1)) (N:=fun a=>a.2.1) (A:=fun a=>a.2.2.1) (E:=fun a=>a.2.2.2) (fun _ h=>by simp at h; try (subst h; exact .val _)) (fun _=>.val _) (c6F T n at_ e ps b hT hn hW) hσ
theorem c2P {n:Nat} {e:Int} {path:Bool} {y:Str × Nat} (h:e≠0\/(tk T n).k≠3\/(if path=true then C1 (tk T n).t else B1 (tk T n).t)=false) (h2:e2≠0):Ok e ((a01 T path n).map fun x=>(x.1.t,x.2)) e2 y:=by
 by_cases he:e=0
 ·have hn:a01 T path n=none:=by
   unfold a01 B6
   split
   ·rename_i hk
    rcases h with h | h | h
    ·exact absurd he h
    ·exact absurd hk h
    ·cases path <;> simp_all
   ·rfl
  rw [hn];exact .none h2
 ·exact .dead he h2
theorem c3S {n:Nat} {e:Int} {path:Bool} (h:(tk T n).k=3/\(if path=true then C1 (tk T n).t else B1 (tk T n).t)=true):Ok e ((a01 T path n).map fun x=>(x.1.t,x.2)) e ((tk T n).t,n+1):=by
 have hn:a01 T path n=some (tk T n,n+1):=by
  unfold a01 B6;rw [if_pos h.1];have h2:=h.2;cases path <;> simp_all
 rw [hn];exact .some
theorem c7N (T:List Tok) (n:Nat) (at_ e:Int) (ps:List Str) (b:List Ex) (hT:T.length<=1000000) (hn:n < T.length) (hW:a0e T) (path:Bool) (hL:c8v T):b8 CC 231 [.ptr 0 0,(.val (.bool path))] (rst T n at_ e ps b) (fun r τ=>∃ a:Str × Nat × Int × Int,C6 2 τ r (.ret (sv a.1)) (rst T a.2.1 a.2.2.1 a.2.2.2 ps b)/\(Ok e ((a01 T path n).map fun x=>(x.1.t,x.2)) a.2.2.2 (a.1,a.2.1)/\a.2.1 < T.length)):=by
 refine (c4 Tryz.func231 rfl rfl ?_);refine b5k ?_; refine a8m ?_; refine z_8 ?_; refine a5O ?_; refine a4O ?_; refine cG c6G ?_; refine cG b0R ?_; refine a5K ?_; refine a6i ?_; refine cG b5r ?_; refine d1d ?_; refine a4j rfl rfl (fun h=>h) rfl rfl (fun hk hg=>c7 rfl c05 ⟨⟨hk,hg⟩,tt⟩ (a44 _ _) rfl) ?_; refine d1P ?_; refine b5N ?_; refine cG a83 ?_; refine cG b5r ?_; refine d1d ?_; refine a4j rfl rfl (fun h=>h) rfl rfl (fun hk hg=>c7 rfl Tryz.call85 ⟨⟨hk,hg⟩,tt⟩ (c3h _ (by have:=hL n; omega) _) rfl) ?_; refine d1P ?_; refine a4L ?_; refine cC (fun h1=>?_) fun h1=>?_
 ·have hv:e≠0\/(tk T n).k≠3\/(if path=true then C1 (tk T n).t else B1 (tk T n).t)=false:=by
   cases path <;> simpa [or_assoc] using h1
  refine z_1 ?_; refine c8N ?_; rintro ⟨x,y⟩ hy;dsimp only at hy ⊢;refine c8G ?_; refine G5 ?_;exact ⟨_,j5 rfl tt c6,(by exact ⟨([],n,x,y),a1I rfl (.val _),c2P hv hy,hn⟩)⟩
 ·have hv:e=0/\(tk T n).k=3/\(if path=true then C1 (tk T n).t else B1 (tk T n).t)=true:=by
   cases path <;> simpa [and_assoc] using h1
  refine a5X ?_; refine b2h ?_; refine z_0 ?_; refine a2K ?_; refine z_7 ?_;exact ⟨_,j5 rfl tt c6,(by exact ⟨((tk T n).t,n+1,at_,e),a1I rfl (.val _),c3S hv.2,hW n hn (by rw [hv.2.1]; decide)⟩)⟩
theorem a9V {n:Nat} {at_ e:Int} {ps:List Str} {b:List Ex} (hT:T.length<=1000000) (hn:n < T.length) (hW:a0e T) (path:Bool) (hL:c8v T) {s:Nat} (hσ:RAt σ q s T n at_ e ps b):b8 CC 231 [.ptr q 0,(.val (.bool path))] σ fun r τ=>∃ a:Str × Nat × Int × Int,r = .ret (sv a.1)/\τ=rS0 σ q s T a.2.1 a.2.2.1 a.2.2.2 ps b/\(Ok e ((a01 T path n).map fun x=>(x.1.t,x.2)) a.2.2.2 (a.1,a.2.1)/\a.2.1 < T.length) :=
 X3 (c:=fun a:Str × Nat × Int × Int=>(sv a.1)) (N:=fun a=>a.2.1) (A:=fun a=>a.2.2.1) (E:=fun a=>a.2.2.2) (fun _ h=>by simp at h; try (subst h; exact .val _)) (fun _=>.val _) (c7N T n at_ e ps b hT hn hW path hL) hσ
theorem b5Y {n:Nat} {e:Int} {y:Int × Nat} (h:e≠0\/(tk T n).k≠2) (h2:e2≠0):Ok e ((B6 T n 2).map fun x=>(x.1.n,x.2)) e2 y:=by
 by_cases he:e=0
 ·have hn:B6 T n 2=none:=by
   unfold B6
   split
   ·rename_i hk
    rcases h with h | h
    ·exact absurd he h
    ·exact absurd hk h
   ·rfl
  rw [hn];exact .none h2
 ·exact .dead he h2
theorem b41 {n:Nat} {e:Int} (h:(tk T n).k=2):Ok e ((B6 T n 2).map fun x=>(x.1.n,x.2)) e ((tk T n).n,n+1):=by
 have hn:B6 T n 2=some (tk T n,n+1):=by
  unfold B6;rw [if_pos h];rfl
 rw [hn];exact .some
theorem b9b (T:List Tok) (n:Nat) (at_ e:Int) (ps:List Str) (b:List Ex) (hT:T.length<=1000000) (hn:n < T.length) (hW:a0e T) (hN:∀ i,0<=(tk T i).n/\(tk T i).n<=9007199254740993):b8 CC 322 [.ptr 0 0] (rst T n at_ e ps b) (fun r τ=>∃ a:Int × Nat × Int × Int,C6 2 τ r (.ret (.val (.int .i64 a.1))) (rst T a.2.1 a.2.2.1 a.2.2.2 ps b)/\(Ok e ((B6 T n 2).map fun x=>(x.1.n,x.2)) a.2.2.2 (a.1,a.2.1)/\a.2.1 < T.length/\-9007199254740993<=a.1/\a.1<=9007199254740993)):=by
 refine (c4 Tryz.func322 rfl rfl ?_);refine b5k ?_; refine a8m ?_; refine z_8 ?_; refine a5O ?_; refine a4O ?_; refine cG c6G ?_; refine cG b0R ?_; refine a8M ?_; refine cC (fun h1=>?_) fun h1=>?_
 ·have hv:e≠0\/(tk T n).k≠2:=by simpa using h1
  refine z_1 ?_; refine c8N ?_; rintro ⟨x,y⟩ hy;dsimp only at hy ⊢;refine c8G ?_; refine G5 ?_;exact ⟨_,j5 rfl tt c6,(by exact ⟨(0,n,x,y),a1I rfl (.val _),b5Y hv hy,hn,do_,do_⟩)⟩
 ·have hv:e=0/\(tk T n).k=2:=by simpa using h1
  refine a5X ?_; refine b2h ?_; refine z_0 ?_; refine a6y ?_; refine z_7 ?_;exact ⟨_,j5 rfl tt c6,(by exact ⟨((tk T n).n,n+1,at_,e),a1I rfl (.val _),b41 hv.2,hW n hn (by rw [hv.2]; decide),by have:=hN n; dsimp only; omega,by have:=hN n; dsimp only; omega⟩)⟩
theorem a8k {n:Nat} {at_ e:Int} {ps:List Str} {b:List Ex} (hT:T.length<=1000000) (hn:n < T.length) (hW:a0e T) (hN:∀ i,0<=(tk T i).n/\(tk T i).n<=9007199254740993) {s:Nat} (hσ:RAt σ q s T n at_ e ps b):b8 CC 322 [.ptr q 0] σ fun r τ=>∃ a:Int × Nat × Int × Int,r = .ret (.val (.int .i64 a.1))/\τ=rS0 σ q s T a.2.1 a.2.2.1 a.2.2.2 ps b/\(Ok e ((B6 T n 2).map fun x=>(x.1.n,x.2)) a.2.2.2 (a.1,a.2.1)/\a.2.1 < T.length/\-9007199254740993<=a.1/\a.1<=9007199254740993) :=
 X3 (c:=fun a:Int × Nat × Int × Int=>(.val (.int .i64 a.1))) (N:=fun a=>a.2.1) (A:=fun a=>a.2.2.1) (E:=fun a=>a.2.2.2) (fun _ h=>by cases h) (fun _=>.val _) (b9b T n at_ e ps b hT hn hW hN) hσ
theorem c5h {n k:Nat} {at_:Int} {ps:List Str} {b:List Ex} (h0:τ[0]? = some (.box [.list (T.map Tok.cv) true none,.val (.int .i64 (n:Int)),.val (.int .i64 at_),.val (.int .i64 0),.list (ps.map scv) (gnn ps.length) none,.list (b.map Ex.cv) (gnn b.length) (E7 b.length k),.list [] false none])) (hk:τ[k]? = some (r7 b.length)) (h2:2<=k) (hc:Old 2 c):C6 2 τ (.ret c) (.ret c) (a55 T n at_ 0 ps b):=by
 have k1:a5G 2 [0,1,k]=true:=rfl;have k2:U6 [0,1,k]=true:=by
  simp [U6];omega
 refine ⟨[0,1,k],k1,k2,.ret (.old hc),.inr ⟨_,h0,.box ?_⟩,.inl rfl,.inr ⟨_,hk,.same rfl s9⟩,tt⟩;refine ⟨.old a16,.old (.val _),.old (.val _),.old (.val _),.old O0,.list (fun r hr c hc=>(A6 (f:=Ex.cv) (fun a=>(Ex.pure a).all) _ r hr c hc).old) ?_,.old a5J,tt⟩;intro j hj;have hj':E7 b.length 2=some j:=hj;cases hb:b.length with
 | zero=>rw [hb] at hj'; cases hj'
 | succ m=>rw [hb] at hj'; injection hj' with hj'; subst hj'; exact ⟨k,rfl,rfl⟩
theorem a5c {n:Nat} {at_ e:Int} {ps:List Str} {b:List Ex} (he:e≠0) (h0:τ[0]? = some (.box [.list (T.map Tok.cv) true none,.val (.int .i64 (n:Int)),.val (.int .i64 at_),.val (.int .i64 e),.list (ps.map scv) (gnn ps.length) none,.list (b.map Ex.cv) (gnn b.length) tok,.list [] false none])) (hc:Old 2 c):C6 2 τ (.ret c) (.ret c) (a55 T n at_ e ps b):=by
 have ht:∀ m s,tkE e m s=none:=fun m s=>if_neg he;have hp:o7 e b.length = .dead:=if_neg he;refine ⟨[0,1,τ.length+2],rfl,by simp [U6],.ret (.old hc),.inr ⟨_,h0,.box ⟨.old a16,.old (.val _),.old (.val _),.old (.val _),.old O0,.list (fun r hr c hc=>(A6 (f:=Ex.cv) (fun a=>(Ex.pure a).all) _ r hr c hc).old) (fun j hj=>by rw [ht] at hj; cases hj),.old a5J,tt⟩⟩,.inl rfl,.inl hp,tt⟩
abbrev rS1 (σ:List c5) (q s:Nat) (T:List Tok) (n:Nat) (at_ e:Int) (ps:List Str) (b:List Ex):List c5:=(σ.set q (rbx T n at_ e ps b σ.length)).set s .dead++[o7 e b.length]
theorem a1t {f:FuncId} {c:α->CV} {n:Nat} {at_ e:Int} {ps:List Str} {b:List Ex} (hargs:∀ a∈args,p9 a) (hc:∀ a,p9 (c a))
 (h:b8 CC f (.ptr 0 0::args) (rst T n at_ e ps b) fun r τ=>∃ a,C6 2 τ r (.ret (c a)) (a55 T (N a) (A a) (E a) ps (B a))/\P a) {σ:List c5} {q s:Nat} (hσ:RAt σ q s T n at_ e ps b) :
 b8 CC f (.ptr q 0::args) σ fun r τ=>∃ a,r = .ret (c a)/\τ=rS1 σ q s T (N a) (A a) (E a) ps (B a)/\P a :=
 a7P (c:=c) (N:=N) (A:=A) (E:=E) (B:=B) (g:=fun _=>true) (P:=P) hargs hc (h.mono fun _ _ ⟨a,h1,h2⟩=>⟨a,h1,h2⟩) hσ
abbrev a8C (w:Nat × List Ex):Int × List Ex:=((w.1:Int),w.2)
theorem c09 {e:Int} {b:List Ex} {x:Ex} {y:Int × List Ex} (h:(e=0->(b.length=256/\e2≠0)\/(b.length≠256/\e2=0))/\(e≠0->e2≠0)) (hy:e2=0->y=((b.length:Int),b++[x])):Ok e ((U3 b x).map a8C) e2 y:=by
 refine ⟨fun h0=>?_,h.2⟩;unfold U3
 rcases h.1 h0 with ⟨h1,h2⟩ | ⟨h1,h2⟩
 ·rw [if_pos h1]; exact .inr ⟨rfl,h2⟩
 ·rw [if_neg h1,hy h2]; exact .inl ⟨rfl,h2⟩
theorem c4s (T:List Tok) (n:Nat) (at_ e:Int) (ps:List Str) (b:List Ex) (hb:b.length<=256) (x:Ex) (z:Int):b8 CC 272 [.ptr 0 0,.agg x.cells,(.val (.int .i64 z))] (rst T n at_ e ps b) (fun r τ=>∃ a:Int × Int × Int × List Ex,C6 2 τ r (.ret (.val (.int .i64 a.1))) (a55 T n a.2.1 a.2.2.1 ps a.2.2.2)/\(Ok e ((U3 b x).map a8C) a.2.2.1 (a.1,a.2.2.2)/\a.2.2.2.length<=256/\-1<=a.1/\a.1<=256)):=by
 refine (c4 Tryz.func272 rfl rfl ?_);refine a2n ?_; refine L7 (α:=Int × Int) (fun _=>[(0,.ptr 0 0),(4,.ptr 2 0)]) (fun a=>[rbx T n a.1 a.2 ps b 1,o7 a.2 b.length,.box x.cells]) (fun a=>(e=0->(b.length=256/\a.2≠0)\/(b.length≠256/\a.2=0))/\(e≠0->a.2≠0)) ?_ ?_
 ·
  refine a5O ?_; refine a1b ?_; refine cG (fun hg=>b7t rfl hg rfl) ?_; refine cG (fun hg=>j2 rfl hg rfl b7K rfl b2d de_) ?_; refine cG (fun hg=>o9 rfl hg rfl Tryz.isAgg117 rfl rfl) ?_; refine cG c5J ?_; refine a9j ?_; refine cC (fun h1=>?_) fun h1=>?_
  ·have hv:e=0/\b.length=256:=by simp at h1; omega
   refine c4z ?_; rintro ⟨x1,y1⟩ hy;dsimp only at hy ⊢;refine c8 [rbx T n x1 y1 ps b 1,o7 y1 b.length,.box x.cells] rfl ?_; refine i7 ?_;exact ⟨(x1,y1),⟨fun _=>.inl ⟨hv.2,hy⟩,fun _=>hy⟩,tu_,rfl⟩
  ·have hv:¬ (e=0/\b.length=256):=fun h=>by simp [h.1,h.2] at h1
   refine i8 ?_;exact ⟨(at_,e),⟨fun h0=>.inr ⟨fun h=>hv ⟨h0,h⟩,h0⟩,fun h=>h⟩,tu_,rfl⟩
 ·rintro ⟨x1,y1⟩ E1 hp;dsimp only at hp ⊢;refine a9c ?_; refine G9 ?_; refine cC (fun h2=>?_) fun h2=>?_
  ·obtain rfl:y1=0:=by simpa using h2
   have hbl:(b++[x]).length=b.length+1:=by simp
   have hl:b.length≠256:=by
    by_cases h0:e=0
    ·rcases hp.1 h0 with ⟨_,h⟩ | ⟨h,_⟩
     ·exact absurd rfl h
     ·exact h
    ·exact absurd rfl (hp.2 h0)
   refine J7 [.box [.list (T.map Tok.cv) true none,.val (.int .i64 (n:Int)),.val (.int .i64 x1),.val (.int .i64 0),.list (ps.map scv) (gnn ps.length) none,.list (b.map Ex.cv) (gnn b.length) (E7 b.length 1),.list [] false none],r7 b.length,.box x.cells] rfl ?_; refine d1X ?_; refine a8d ?_; refine chf rfl (d6 rfl b3b) ?_; refine chf rfl (d6 rfl a7o) ?_; refine chf rfl (d6 rfl a88) ?_; refine chf rfl d4I ?_; refine D2 ?_;refine A9 rfl rfl (D9 rfl tt tt rfl si_ R6 b50 a91 Tryz.typeInfo212 b4x rfl (.inr rfl) X0 (by have hb:Tryz.t212.bytes=64:=rfl; rw [hb]; first|omega|(simp; done)|(simp; omega)) H3 ((b++[x]).map Ex.cv) (b++[x]).length si_ si_ ?_);refine c7R ?_;refine D5 rfl (d6 rfl b3b) ⟨tt,?_⟩;refine d1A ?_; refine a4R ?_; refine cY b3b ?_; refine b53 ?_; refine cY a4K ?_; refine z_7 ?_;exact ⟨_,j5 rfl tt c6,(by exact ⟨(((b++[x]).length:Int) - 1,x1,0,b++[x]),c5h (k:=3) rfl rfl de_ (.val _),c09 hp (fun _=>by simp),by simp; omega,do_,by simp; omega⟩)⟩
  ·have hy1:y1≠0:=by simpa using h2
   refine a5X ?_; refine cY b3b ?_; refine b53 ?_; refine cY a4K ?_; refine z_7 ?_;exact ⟨_,j5 rfl tt c6,(by exact ⟨((b.length:Int) - 1,x1,y1,b),a5c hy1 rfl (.val _),c09 hp (fun h=>absurd h hy1),hb,do_,do_⟩)⟩
theorem c98 (x:Ex):p9 (.agg x.cells):=o8 (Ex.pure x)
theorem M5 {n:Nat} {at_ e:Int} {ps:List Str} {b:List Ex} (hb:b.length<=256) (x:Ex) (z:Int) {s:Nat} (hσ:RAt σ q s T n at_ e ps b):b8 CC 272 [.ptr q 0,.agg x.cells,(.val (.int .i64 z))] σ fun r τ=>∃ a:Int × Int × Int × List Ex,r = .ret (.val (.int .i64 a.1))/\τ=rS1 σ q s T n a.2.1 a.2.2.1 ps a.2.2.2/\(Ok e ((U3 b x).map a8C) a.2.2.1 (a.1,a.2.2.2)/\a.2.2.2.length<=256/\-1<=a.1/\a.1<=256) :=
 a1t (c:=fun a:Int × Int × Int × List Ex=>(.val (.int .i64 a.1))) (N:=fun _=>n) (A:=fun a=>a.2.1) (E:=fun a=>a.2.2.1) (B:=fun a=>a.2.2.2) (fun _ h=>by
  simp at h
  rcases h with rfl | rfl
  ·exact c98 x
  ·exact .val _) (fun _=>.val _) (c4s T n at_ e ps b hb x z) hσ
structure RX where
 x:Int
 n:Nat
 at_:Int
 e:Int
 b:List Ex
abbrev cx (p:PX):Int × Nat × List Ex:=((p.1:Int),p.2.1,p.2.2)
theorem Ok.alive {e:Int} (h:Ok e o e' y) (h0:e'=0):e=0/\o=Option.some y:=by
 by_cases he:e=0
 ·rcases h.1 he with ⟨h1,_⟩ | ⟨_,h1⟩
  ·exact ⟨he,h1⟩
  ·exact absurd h0 h1
 ·exact absurd h0 (h.2 he)
theorem Ok.bindM {γ:Type} {e:Int} {g:α->γ} {y:γ} {f:α->Option β} {z:β} (h:Ok e (o.map g) e1 y) (k:∀ p,o=Option.some p->g p=y->Ok e1 (f p) e2 z) (kd:e1≠0->e2≠0):Ok e (o.bind f) e2 z:=by
 refine ⟨fun h0=>?_,fun h0=>kd (h.2 h0)⟩
 rcases h.1 h0 with ⟨h1,h2⟩ | ⟨h1,h2⟩
 ·obtain ⟨p,hp,hg⟩:=Q1.1 h1;rw [hp];exact (k p hp hg).1 h2
 ·rw [b26.1 h1];exact .inr ⟨rfl,kd h2⟩
def RXP (T:List Tok) (n:Nat) (e:Int) (o:Option PX) (a:RX):Prop:=Ok e (o.map cx) a.e (a.x,a.n,a.b)/\a.n < T.length/\a.b.length<=256/\(a.e=0->n < a.n)/\-1<=a.x/\a.x<=256
def REC (T:List Tok) (ps:List Str) (f:Nat):Prop:=∀ (d n:Nat) (at_ e:Int) (b:List Ex),n < T.length->b.length<=256->d<=33->(e=0->8*(T.length - n)+6<=f)->∀ (σ:List c5) (q s:Nat),RAt σ q s T n at_ e ps b->b8 CC 232 [.ptr q 0,(.val (.int .i64 (d:Int)))] σ fun r τ=>∃ a:RX,r = .ret (.val (.int .i64 a.x))/\τ=rS1 σ q s T a.n a.at_ a.e ps a.b/\RXP T n e ((s7 T ps f).ex d n b) a
def RSC (T:List Tok) (ps:List Str) (f:Nat):Prop:=∀ (d n:Nat) (at_:Int) (b:List Ex),n < T.length->b.length<=256->d<=32->8*(T.length - n)+6<=f+2->∀ (σ:List c5) (q s:Nat),RAt σ q s T n at_ 0 ps b->b8 CC 273 [.ptr q 0,(.val (.int .i64 (d:Int)))] σ fun r τ=>∃ a:RX,r = .ret (.val (.int .i64 a.x))/\τ=rS1 σ q s T a.n a.at_ a.e ps a.b/\RXP T n 0 ((s7 T ps f).bin 2 d n b) a
def RTC (T:List Tok) (ps:List Str) (f:Nat):Prop:=∀ (d n:Nat) (at_:Int) (b:List Ex),n < T.length->b.length<=256->d<=32->8*(T.length - n)+6<=f+3->∀ (σ:List c5) (q s:Nat),RAt σ q s T n at_ 0 ps b->b8 CC 300 [.ptr q 0,(.val (.int .i64 (d:Int)))] σ fun r τ=>∃ a:RX,r = .ret (.val (.int .i64 a.x))/\τ=rS1 σ q s T a.n a.at_ a.e ps a.b/\RXP T n 0 ((s7 T ps f).bin 3 d n b) a
def RFC (T:List Tok) (ps:List Str) (f:Nat):Prop:=∀ (d n:Nat) (at_:Int) (b:List Ex),n < T.length->b.length<=256->d<=32->8*(T.length - n)+1<=f->∀ (σ:List c5) (q s:Nat),RAt σ q s T n at_ 0 ps b->b8 CC 316 [.ptr q 0,(.val (.int .i64 (d:Int)))] σ fun r τ=>∃ a:RX,r = .ret (.val (.int .i64 a.x))/\τ=rS1 σ q s T a.n a.at_ a.e ps a.b/\RXP T n 0 ((s7 T ps f).fac d n b) a
theorem RXP.dead {n m:Nat} {e x at2:Int} {o:Option PX} {b:List Ex} (h:e=0->o=Option.none) (h2:e2≠0) (hm:m < T.length) (hb:b.length<=256) (hx : -1<=x/\x<=256):RXP T n e o ⟨x,m,at2,e2,b⟩:=by
 refine ⟨⟨fun h0=>.inr ⟨by rw [h h0]; rfl,h2⟩,fun _=>h2⟩,hm,hb,fun h0=>absurd h0 h2,hx.1,hx.2⟩
theorem a1D {e x:Int} {b b2:List Ex} {y:Ex} {m:Nat} (h:Ok e ((U3 b y).map a8C) e2 (x,b2)):Ok e ((J8 b y m).map cx) e2 (x,m,b2):=by
 have e1:(J8 b y m).map cx=((U3 b y).map a8C).map fun w=>(w.1,m,w.2):=by
  unfold J8;cases U3 b y <;> rfl
 rw [e1];refine ⟨fun h0=>?_,h.2⟩
 rcases h.1 h0 with ⟨h1,h2⟩ | ⟨h1,h2⟩
 ·rw [h1]; exact .inl ⟨rfl,h2⟩
 ·rw [h1]; exact .inr ⟨rfl,h2⟩
theorem d6h {ps:List Str} {d n:Nat} {b:List Ex}:(s7 T ps (f+1+1)).bin 1 d n b=((s7 T ps (f+1)).bin 2 d n b).bind fun x=>if opS (tk T x.2.1) 1=0 then some x else ((s7 T ps f).bin 2 d (x.2.1+1) x.2.2).bind fun y=>J8 y.2.2 ⟨4,0,opS (tk T x.2.1) 1,[],[(x.1:Int),(y.1:Int)]⟩ y.2.1:=by
 have h:(s7 T ps (f+1+1)).bin 1 d n b=(C3 T ps (s7 T ps (f+1))).bin 1 d n b:=rfl;rw [h];simp only [C3];rw [if_neg de_];rfl
theorem d3p (t:Tok):opS t 1=if isT t 4 [60]=true then 6 else if isT t 4 [61,61]=true then 7 else 0:=by
 by_cases h1:isT t 4 [60]=true
 ·rw [if_pos h1];exact a4E (x:=(6,[60])) de_ (by simpa [opM,isT,G4] using h1)
 ·rw [if_neg h1];by_cases h2:isT t 4 [61,61]=true
  ·rw [if_pos h2];exact a4E (x:=(7,[61,61])) de_ (by simpa [opM,isT,G4] using h2)
  ·rw [if_neg h2];refine b0F fun x hx=>?_;simp only [S0,Q2,b0s,or_false] at hx
   rcases hx with rfl | rfl | rfl | rfl | rfl | rfl | rfl <;> simp_all [opM,isT,G4]
theorem R0 {n k:Nat} {at_ e:Int} {ps:List Str} {b:List Ex} (h0:τ[0]? = some (rbx T n at_ e ps b k)) (hk:τ[k]? = some (o7 e b.length)) (h2:2<=k) (hc:Old 2 c):C6 2 τ (.ret c) (.ret c) (a55 T n at_ e ps b):=by
 by_cases he:e=0
 ·subst he;exact c5h h0 hk h2 hc
 ·exact a5c he h0 hc
theorem a2x {sel:List Nat} {b:List Ex} {e:Int} {k p:Nat} (h:sel[p]? = some k):r8 L sel (.list (b.map Ex.cv) (gnn b.length) (tkE e b.length k)) (.list (b.map Ex.cv) (gnn b.length) (tkE e b.length p)):=by
 unfold tkE
 split
 ·exact a7D h
 ·exact .list (fun r hr c hc=>(A6 (f:=Ex.cv) (fun a=>(Ex.pure a).all) _ r hr c hc).old) (fun j hj=>by cases hj)
theorem Ok.bindP {e:Int} {f:α->Option PX} (h:Ok e o e1 y) (k:Ok e1 ((f y).map cx) e2 z):Ok e ((o.bind f).map cx) e2 z:=by
 have h1:(o.bind f).map cx=o.bind fun a=>(f a).map cx:=by cases o <;> rfl
 rw [h1];exact h.bind k
theorem Ok.bindX {e x:Int} {o:Option PX} {f:PX->Option PX} {n:Nat} {b:List Ex} (h:Ok e (o.map cx) e1 (x,n,b)) (k:∀ i:Nat,(i:Int)=x->Ok e1 ((f (i,n,b)).map cx) e2 z) (kd:e1≠0->e2≠0):Ok e ((o.bind f).map cx) e2 z:=by
 have h1:(o.bind f).map cx=o.bind fun a=>(f a).map cx:=by cases o <;> rfl
 rw [h1];refine h.bindM (fun p hp hg=>?_) kd;obtain ⟨i,m,c⟩:=p;obtain ⟨h1,h2,h3⟩:(i:Int)=x/\m=n/\c=b:=by simpa [cx] using hg
 subst h2 h3;exact k i h1
theorem Ok.bindT {e:Int} {o:Option (Tok × Nat)} {f:Tok × Nat->Option PX} {n:Nat} (h:Ok e (o.map fun x=>(x.1.t,x.2)) e1 (s,n)) (k:∀ t:Tok,t.t=s->Ok e1 ((f (t,n)).map cx) e2 z) (kd:e1≠0->e2≠0):Ok e ((o.bind f).map cx) e2 z:=by
 have h1:(o.bind f).map cx=o.bind fun a=>(f a).map cx:=by cases o <;> rfl
 rw [h1];refine h.bindM (fun p hp hg=>?_) kd;obtain ⟨t,m⟩:=p;obtain ⟨h1,h2⟩:t.t=s/\m=n:=by simpa using hg
 subst h2;exact k t h1
theorem Ok.bindI {e:Int} {o:Option (Tok × Nat)} {f:Tok × Nat->Option PX} {n:Nat} {s:Int} (h:Ok e (o.map fun x=>(x.1.n,x.2)) e1 (s,n)) (k:∀ t:Tok,t.n=s->Ok e1 ((f (t,n)).map cx) e2 z) (kd:e1≠0->e2≠0):Ok e ((o.bind f).map cx) e2 z:=by
 have h1:(o.bind f).map cx=o.bind fun a=>(f a).map cx:=by cases o <;> rfl
 rw [h1];refine h.bindM (fun p hp hg=>?_) kd;obtain ⟨t,m⟩:=p;obtain ⟨h1,h2⟩:t.n=s/\m=n:=by simpa using hg
 subst h2;exact k t h1
theorem Ok.zero {e:Int} (h:Ok 0 o e y):(e=0/\o=Option.some y)\/(e≠0/\o=Option.none):=by
 rcases h.1 rfl with ⟨h1,h2⟩ | ⟨h1,h2⟩
 ·exact .inl ⟨h2,h1⟩
 ·exact .inr ⟨h2,h1⟩
theorem b4h {o:Option PX} {x:Int} {n:Nat} {b:List Ex} (h:o.map cx=some (x,n,b)):∃ i:Nat,(i:Int)=x/\o=some (i,n,b):=by
 obtain ⟨⟨i,m,c⟩,hp,hg⟩:=Q1.1 h;obtain ⟨h1,h2,h3⟩:(i:Int)=x/\m=n/\c=b:=by simpa [cx] using hg
 subst h2 h3;exact ⟨i,h1,hp⟩
theorem b4v {o:Option PX} (h:o.map cx=none):o=none:=b26.1 h
theorem d0j {ps:List Str} {d n:Nat} {b:List Ex} (hd:32 < d):(s7 T ps f).ex d n b=none:=by
 cases f with
 | zero=>rfl
 | succ f=>exact if_pos hd
theorem d5P {t:Tok} (h:isT t 4 [60]=false) (h':isT t 4 [61,61]=false):opS t 1=0:=by
 rw [d3p];simp [h,h']
theorem c9Z {x1 c:Int} {n1:Nat} {b1:List Ex} {r:Option PX} (hi:(i:Int)=x1) (h:e1=0->c=0):Ok e1 ((if c=0 then some (i,n1,b1) else r).map cx) e1 (x1,n1,b1):=by
 by_cases he:e1=0
 ·rw [if_pos (h he),<- hi];exact .some
 ·exact .dead he he
theorem P7 {n:Nat} {v:Bool} (h:v=sgB T n 0 k u) (hv:v=false):isT (tk T n) k u=false:=by
 subst hv;simpa [sgB] using h.symm
theorem c7r {ps:List Str} (hc:Y1 T ps) (d n:Nat) (at_ e:Int) (b:List Ex) (hn:n < T.length) (hb:b.length<=256) (hd0:d<=33) (hx:e=0->∃ f,f0=f+3/\8*(T.length - n)+6<=f+3/\REC T ps (f+2)/\RSC T ps (f+1)/\RSC T ps f):b8 CC 232 [.ptr 0 0,(.val (.int .i64 (d:Int)))] (rst T n at_ e ps b) (fun r τ=>∃ a:RX,C6 2 τ r (.ret (.val (.int .i64 a.x))) (a55 T a.n a.at_ a.e ps a.b)/\RXP T n e ((s7 T ps f0).ex d n b) a):=by
 have hT:=hc.len;have hW:=hc.w;refine (c4 Tryz.func232 rfl rfl ?_);refine b5k ?_; refine cY a3I ?_; refine a5H ?_; refine cC (fun h1=>?_) fun h1=>?_
 ·have hd:32 < d:=by simp at h1; omega
  refine c4z ?_; rintro ⟨x0,y0⟩ hy0;dsimp only at hy0 ⊢;refine c8 [rbx T n x0 y0 ps b 1,o7 y0 b.length] rfl ?_; refine z_8 ?_; refine a5O ?_; refine G9 ?_; refine cC (fun h2=>?_) fun h2=>?_
  ·refine G5 ?_;exact ⟨_,j5 rfl tt c6,(by exact ⟨⟨0,n,x0,y0,b⟩,a5c hy0 rfl (.val _),.dead (fun _=>d0j hd) hy0 hn hb ⟨de_,de_⟩⟩)⟩
  ·exact absurd (show y0=0 by simpa using h2) hy0
 ·have hd:¬ 32 < d:=by simp at h1; omega
  refine z_9 ?_; refine a5O ?_; refine G9 ?_; refine cC (fun h8=>?_) fun h8=>?_
  ·have he:e≠0:=by simpa using h8
   refine G5 ?_;exact ⟨_,j5 rfl tt c6,(by exact ⟨⟨0,n,at_,e,b⟩,a5c he rfl (.val _),.dead (fun h0=>absurd h0 he) he hn hb ⟨de_,de_⟩⟩)⟩
  ·obtain rfl:e=0:=by simpa using h8
   obtain ⟨f,rfl,hf,hE,hS1,hS0⟩:=hx rfl;have hsp:(s7 T ps (f+3)).ex d n b=(C3 T ps (s7 T ps (f+2))).ex d n b:=rfl;simp only [C3] at hsp;rw [if_neg hd] at hsp;refine a4V ?_;refine cD (b9 rfl a9u o6 (W4 hT hn hW [105,102] ⟨rfl,rfl,de_⟩) rfl ?_);rintro ⟨v8,m8⟩ ⟨hv8,hs8,hf8,hm8⟩;dsimp only at hv8 hs8 hf8 hm8 ⊢;refine c8 [rbx T m8 at_ 0 ps b 1,o7 0 b.length] rfl ?_; refine i7 ?_; refine cC (fun h9=>?_) fun h9=>?_
   ·have hi:v8=true:=by simpa using h9
    have hm:=hs8 hi;subst m8;have hi2:=(R2 (hv8.symm.trans hi)).2;rw [if_pos hi2] at hsp;refine a8W ?_;refine cD (b9 rfl b6E j1 (hE (d+1) (n+1) at_ 0 b hm8 hb om_ (fun _=>by omega) _ 0 1 ⟨rfl,rfl,de_⟩) rfl ?_);rintro ⟨x1,n1,a1,e1,b1⟩ ⟨k1,y1,w1,z1,l1,u1⟩;dsimp only at k1 y1 w1 z1 l1 u1 ⊢;refine c8 [rbx T n1 a1 e1 ps b1 2,.dead,o7 e1 b1.length] rfl ?_; refine z_2 ?_; refine L7 (α:=Nat × Int × Int) (fun _=>[(0,.ptr 0 0),(1,(.val (.int .i64 (d:Int)))),(5,(.val (.int .i64 ((tk T n).at_)))),(6,(.val (.int .i64 x1)))]) (fun a=>[rbx T a.1 a.2.1 a.2.2 ps b1 2,.dead,o7 a.2.2 b1.length]) (fun a=>Ok e1 (pIs T n1 1 [116,104,101,110]) a.2.2 a.1/\a.1 < T.length) ?_ ?_
    ·
     refine z_1 ?_;refine cD (b9 rfl a9u o6 (W4 hT y1 hW [116,104,101,110] ⟨rfl,rfl,de_⟩) rfl ?_);rintro ⟨v9,m9⟩ ⟨hv9,hs9,hf9,hm9⟩;dsimp only at hv9 hs9 hf9 hm9 ⊢;refine c8 [rbx T m9 a1 e1 ps b1 2,.dead,o7 e1 b1.length] rfl ?_; refine T7 ?_; refine cC (fun h10=>?_) fun h10=>?_
     ·have hw:v9=false:=by simpa using h10
      refine R7 ?_; refine d1N ?_; rintro ⟨x0,y0⟩ hy0;dsimp only at hy0 ⊢;refine c8 [rbx T m9 x0 y0 ps b1 2,.dead,o7 y0 b1.length] rfl ?_;exact c5G
     ·have hw:v9=true:=by simpa using h10
      refine i8 ?_;exact ⟨(m9,a1,e1),⟨by dsimp only; rw [hs9 hw]; exact a9Q (hv9.symm.trans hw),hm9⟩,tu_,rfl⟩
    ·rintro ⟨n2,a2,e2⟩ E2 ⟨q2,y2⟩;dsimp only at q2 y2 ⊢;have g2:e2=0->n2=n1+1/\e1=0:=fun h0=>⟨N6 (q2.alive h0).2,(q2.alive h0).1⟩;refine a8W ?_;refine cD (b9 rfl b6E j1 (hE (d+1) n2 a2 e2 b1 y2 w1 om_ (fun h0=>by have:=g2 h0; have:=z1 this.2; omega) _ 0 2 ⟨rfl,rfl,de_⟩) rfl ?_);rintro ⟨x3,n3,a3,e3,b3⟩ ⟨k3,y3,w3,z3,l3,u3⟩;dsimp only at k3 y3 w3 z3 l3 u3 ⊢;refine c5S ?_; refine L7 (α:=Nat × Int × Int) (fun _=>[(0,.ptr 0 0),(1,(.val (.int .i64 (d:Int)))),(5,(.val (.int .i64 ((tk T n).at_)))),(6,(.val (.int .i64 x1))),(7,(.val (.int .i64 x3)))]) (fun a=>[rbx T a.1 a.2.1 a.2.2 ps b3 3,.dead,.dead,o7 a.2.2 b3.length]) (fun a=>Ok e3 (pIs T n3 1 [101,108,115,101]) a.2.2 a.1/\a.1 < T.length) ?_ ?_
     ·
      refine z_1 ?_;refine cD (b9 rfl a9u o6 (W4 hT y3 hW [101,108,115,101] ⟨rfl,rfl,de_⟩) rfl ?_);rintro ⟨v9,m9⟩ ⟨hv9,hs9,hf9,hm9⟩;dsimp only at hv9 hs9 hf9 hm9 ⊢;refine c8 [rbx T m9 a3 e3 ps b3 3,.dead,.dead,o7 e3 b3.length] rfl ?_; refine T7 ?_; refine cC (fun h11=>?_) fun h11=>?_
      ·have hw:v9=false:=by simpa using h11
       refine R7 ?_; refine d1N ?_; rintro ⟨x0,y0⟩ hy0;dsimp only at hy0 ⊢;refine c8 [rbx T m9 x0 y0 ps b3 3,.dead,.dead,o7 y0 b3.length] rfl ?_;exact c5G
      ·have hw:v9=true:=by simpa using h11
       refine i8 ?_;exact ⟨(m9,a3,e3),⟨by dsimp only; rw [hs9 hw]; exact a9Q (hv9.symm.trans hw),hm9⟩,tu_,rfl⟩
     ·rintro ⟨n4,a4,e4⟩ E4 ⟨q4,y4⟩;dsimp only at q4 y4 ⊢;have g4:e4=0->n4=n3+1/\e3=0:=fun h0=>⟨N6 (q4.alive h0).2,(q4.alive h0).1⟩;refine a8W ?_;refine cD (b9 rfl b6E j1 (hE (d+1) n4 a4 e4 b3 y4 w3 om_ (fun h0=>by have q:=g4 h0; have:=z3 q.2; have q:=g2 (k3.alive q.2).1; have:=z1 q.2; omega) _ 0 3 ⟨rfl,rfl,de_⟩) rfl ?_);rintro ⟨x5,n5,a5,e5,b5⟩ ⟨k5,y5,w5,z5,l5,u5⟩;dsimp only at k5 y5 w5 z5 l5 u5 ⊢;refine c8 [rbx T n5 a5 e5 ps b5 4,.dead,.dead,.dead,o7 e5 b5.length] rfl ?_; refine z_2 ?_; refine a0n ?_; refine cY j7 ?_; refine cY (A3 ([x1,x3,x5].map icv) rfl B9 t_5 t_1 t_6 rfl rfl rfl rfl rfl rfl rfl rfl rfl) ?_; refine b7R ?_;refine cD (b9 rfl a4D B9 (M5 w5 ⟨5,0,0,[],[x1,x3,x5]⟩ _ ⟨rfl,rfl,de_⟩) rfl ?_);rintro ⟨x6,a6,e6,b6⟩ ⟨k6,w6,l6,u6⟩;dsimp only at k6 w6 l6 u6 ⊢;refine c8 [rbx T n5 a6 e6 ps b6 5,.dead,.dead,.dead,.dead,o7 e6 b6.length] rfl ?_; refine z_7 ?_;exact ⟨_,j5 rfl tt c6,(by exact ⟨⟨x6,n5,a6,e6,b6⟩,R0 (k:=5) rfl rfl de_ (.val _),⟨by rw [hsp]; exact k1.bindX (fun i hi=>q2.bindP (k3.bindX (fun j hj=>q4.bindP (k5.bindX (fun l hl=>a1D (by rw [hi,hj,hl]; exact k6)) k6.2)) fun h=>k6.2 (k5.2 (q4.2 h)))) fun h=>k6.2 (k5.2 (q4.2 (k3.2 (q2.2 h)))),y5,w6,fun h0=>by have h5:=(k6.alive h0).1; have q5:=z5 h5; have q:=g4 (k5.alive h5).1; have:=z3 q.2; have q:=g2 (k3.alive q.2).1; have:=z1 q.2; dsimp only at h0 ⊢; omega,l6,u6⟩⟩)⟩
   ·have hi:v8=false:=by simpa using h9
    have hm:=hf8 hi;subst m8;rw [if_neg (by rw [P7 hv8 hi]; decide)] at hsp;replace hsp:=hsp.trans d6h;refine a8Y ?_;refine cD (b9 rfl c8a j1 (hS1 d n at_ b hn hb om_ om_ _ 0 1 ⟨rfl,rfl,de_⟩) rfl ?_);rintro ⟨x1,n1,a1,e1,b1⟩ ⟨k1,y1,w1,z1,l1,u1⟩;dsimp only at k1 y1 w1 z1 l1 u1 ⊢;refine c8 [rbx T n1 a1 e1 ps b1 2,.dead,o7 e1 b1.length] rfl ?_; refine M9 ?_; refine d2s ?_; refine cY a13 ?_; refine a4a ?_;refine cD (b9 rfl a75 o6 (U1 hT y1 hW [60] ⟨rfl,rfl,de_⟩) rfl ?_);rintro ⟨v2,m2⟩ ⟨hv2,hs2,hf2,hm2⟩;dsimp only at hv2 hs2 hf2 hm2 ⊢;refine c8 [rbx T m2 a1 e1 ps b1 2,.dead,o7 e1 b1.length] rfl ?_; refine i7 ?_; refine cC (fun h12=>?_) fun h12=>?_
    ·have hi2:v2=true:=by simpa using h12
     obtain ⟨he1,hi3⟩:=R2 (hv2.symm.trans hi2);subst e1;have hm:=hs2 hi2;subst m2;have hop:opS (tk T n1) 1=6:=by rw [d3p,if_pos hi3]
     refine b02 ?_;refine cD (b9 rfl c8a j1 (hS0 d (n1+1) a1 b1 hm2 w1 om_ (by have:=z1 rfl; omega) _ 0 2 ⟨rfl,rfl,de_⟩) rfl ?_);rintro ⟨x3,n3,a3,e3,b3⟩ ⟨k3,y3,w3,z3,l3,u3⟩;dsimp only at k3 y3 w3 z3 l3 u3 ⊢;refine c5S ?_; refine a0n ?_; refine cY j7 ?_; refine cY d5u ?_; refine a8T ?_;refine cD (b9 rfl a4D B9 (M5 w3 ⟨4,0,6,[],[x1,x3]⟩ _ ⟨rfl,rfl,de_⟩) rfl ?_);rintro ⟨x6,a6,e6,b6⟩ ⟨k6,w6,l6,u6⟩;dsimp only at k6 w6 l6 u6 ⊢;refine d2G ?_;exact ⟨_,j5 rfl tt c6,d4z⟩
    ·have hi2:v2=false:=by simpa using h12
     have hm:=hf2 hi2;subst m2; refine z_1 ?_;refine cD (b9 rfl a75 o6 (U1 hT y1 hW [61,61] ⟨rfl,rfl,de_⟩) rfl ?_);rintro ⟨v4,m4⟩ ⟨hv4,hs4,hf4,hm4⟩;dsimp only at hv4 hs4 hf4 hm4 ⊢;refine c8 [rbx T m4 a1 e1 ps b1 2,.dead,o7 e1 b1.length] rfl ?_; refine i7 ?_; refine cC (fun h13=>?_) fun h13=>?_
     ·have hi4:v4=true:=by simpa using h13
      obtain ⟨he1,hi3⟩:=R2 (hv4.symm.trans hi4);subst e1;have hm:=hs4 hi4;subst m4;have hop:opS (tk T n1) 1=7:=by rw [d3p,if_neg (by rw [P7 hv2 hi2]; decide),if_pos hi3]
      refine b02 ?_;refine cD (b9 rfl c8a j1 (hS0 d (n1+1) a1 b1 hm4 w1 om_ (by have:=z1 rfl; omega) _ 0 2 ⟨rfl,rfl,de_⟩) rfl ?_);rintro ⟨x3,n3,a3,e3,b3⟩ ⟨k3,y3,w3,z3,l3,u3⟩;dsimp only at k3 y3 w3 z3 l3 u3 ⊢;refine c5S ?_; refine a0n ?_; refine cY j7 ?_; refine cY d5u ?_; refine a8T ?_;refine cD (b9 rfl a4D B9 (M5 w3 ⟨4,0,7,[],[x1,x3]⟩ _ ⟨rfl,rfl,de_⟩) rfl ?_);rintro ⟨x6,a6,e6,b6⟩ ⟨k6,w6,l6,u6⟩;dsimp only at k6 w6 l6 u6 ⊢;refine d2G ?_;exact ⟨_,j5 rfl tt c6,d4z⟩
     ·have hi4:v4=false:=by simpa using h13
      have hm:=hf4 hi4;subst m4;have hend:e1=0->opS (tk T n1) 1=0:=fun h0=>by subst h0; exact d5P (P7 hv2 hi2) (P7 hv4 hi4)
      refine a8B ?_;exact ⟨_,j5 rfl tt c6,(by exact ⟨⟨x1,n1,a1,e1,b1⟩,R0 (k:=2) rfl rfl de_ (.val _),⟨by rw [hsp]; exact k1.bindX (fun i hi=>c9Z hi hend) id,y1,w1,z1,l1,u1⟩⟩)⟩
theorem c89 {ps:List Str} (hc:Y1 T ps) (H:∀ g,g < f0->REC T ps g/\RSC T ps g):REC T ps f0:=fun d n at_ e b hn hb hd hf σ q s hσ =>
 a1t (c:=fun a:RX=>(.val (.int .i64 a.x))) (N:=fun a=>a.n) (A:=fun a=>a.at_) (E:=fun a=>a.e) (B:=fun a=>a.b) (fun _ h=>by simp at h; subst h; exact .val _) (fun _=>.val _) (c7r hc d n at_ e b hn hb hd (fun h0=>by
  have h1:=hf h0;obtain ⟨f,rfl⟩:∃ f,f0=f+3:=⟨f0 - 3,om_⟩;exact ⟨f,rfl,h1,(H (f+2) om_).1,(H (f+1) om_).2,(H f om_).2⟩)) hσ
def ot1 (ph:Bool) (e:Int) (m:Nat):c5:=if ph=true then .dead else o7 e m
def ot2 (ph:Bool) (e:Int) (m:Nat):c5:=if ph=true then o7 e m else .dead
structure RL where
 x:Int
 m:Nat
 at_:Int
 e:Int
 b:List Ex
 ph:Bool
 g:Nat
variable {x:Int}
theorem d5a {ps:List Str} {d n lv:Nat} {b:List Ex} (h:lv≠4):(s7 T ps (f+1)).bin lv d n b=((s7 T ps f).bin (lv+1) d n b).bind fun x=>(s7 T ps f).lp lv d x.1 x.2.1 x.2.2:=by
 have h':(s7 T ps (f+1)).bin lv d n b=(C3 T ps (s7 T ps f)).bin lv d n b:=rfl;rw [h'];simp only [C3];rw [if_neg h]
theorem d5J {ps:List Str} {d n:Nat} {b:List Ex}:(s7 T ps (f+1)).bin 4 d n b=(s7 T ps f).fac d n b:=rfl
theorem lpS {ps:List Str} {g d x n lv:Nat} {b:List Ex} (h:lv≠1):(s7 T ps (g+1)).lp lv d x n b=if opS (tk T n) (lv:Int)=0 then some (x,n,b) else ((s7 T ps g).bin (lv+1) d (n+1) b).bind fun y=>(U3 y.2.2 ⟨4,0,opS (tk T n) (lv:Int),[],[(x:Int),(y.1:Int)]⟩).bind fun w=>(s7 T ps g).lp lv d w.1 y.2.1 w.2:=by
 have h':(s7 T ps (g+1)).lp lv d x n b=(C3 T ps (s7 T ps g)).lp lv d x n b:=rfl;rw [h'];simp only [C3,if_neg h]
theorem d3W (t:Tok):opS t 2=if isT t 4 [43]=true then 1 else if isT t 4 [45]=true then 2 else 0:=by
 by_cases h1:isT t 4 [43]=true
 ·rw [if_pos h1];exact a4E (x:=(1,[43])) de_ (by simpa [opM,isT,G4] using h1)
 ·rw [if_neg h1];by_cases h2:isT t 4 [45]=true
  ·rw [if_pos h2];exact a4E (x:=(2,[45])) de_ (by simpa [opM,isT,G4] using h2)
  ·rw [if_neg h2];refine b0F fun x hx=>?_;simp only [S0,Q2,b0s,or_false] at hx
   rcases hx with rfl | rfl | rfl | rfl | rfl | rfl | rfl <;> simp_all [opM,isT,G4]
theorem op3 (t:Tok):opS t 3=if isT t 4 [42]=true then 3 else if isT t 4 [47]=true then 4 else if isT t 4 [37]=true then 5 else 0:=by
 by_cases h1:isT t 4 [42]=true
 ·rw [if_pos h1];exact a4E (x:=(3,[42])) de_ (by simpa [opM,isT,G4] using h1)
 ·rw [if_neg h1];by_cases h2:isT t 4 [47]=true
  ·rw [if_pos h2];exact a4E (x:=(4,[47])) de_ (by simpa [opM,isT,G4] using h2)
  ·rw [if_neg h2];by_cases h3:isT t 4 [37]=true
   ·rw [if_pos h3];exact a4E (x:=(5,[37])) de_ (by simpa [opM,isT,G4] using h3)
   ·rw [if_neg h3];refine b0F fun x hx=>?_;simp only [S0,Q2,b0s,or_false] at hx
    rcases hx with rfl | rfl | rfl | rfl | rfl | rfl | rfl <;> simp_all [opM,isT,G4]
theorem b9D {o:Option (Nat × List Ex)} {b:List Ex} (h:o.map a8C=some (x,b)):∃ i:Nat,(i:Int)=x/\o=some (i,b):=by
 obtain ⟨⟨i,c⟩,hp,hg⟩:=Q1.1 h;obtain ⟨h1,h2⟩:(i:Int)=x/\c=b:=by simpa [a8C] using hg
 subst h2;exact ⟨i,h1,hp⟩
theorem b1N {o:Option PX} {K:Nat->Nat->List Ex->Option PX} {x1:Int} {n1:Nat} {b1:List Ex} (hs:S=o.bind fun y=>K y.1 y.2.1 y.2.2) (k:Ok 0 (o.map cx) e1 (x1,n1,b1)):(e1=0->∃ i:Nat,(i:Int)=x1/\S=K i n1 b1)/\(e1≠0->S=none):=by
 rcases k.zero with ⟨h3,ho⟩ | ⟨h3,ho⟩
 ·obtain ⟨j,hj,ho⟩:=b4h ho;exact ⟨fun _=>⟨j,hj,by rw [hs,ho]; rfl⟩,fun h=>absurd h3 h⟩
 ·exact ⟨fun h=>absurd h h3,fun _=>by rw [hs,b4v ho]; rfl⟩
theorem a2S {o:Option PX} {N:PX->Option (Nat × List Ex)} {K:Nat->Nat->List Ex->Option PX} {e4 x3 x4:Int} {b3 b4:List Ex} (hs:S=o.bind fun y=>(N y).bind fun w=>K w.1 y.2.1 w.2) (k3:Ok 0 (o.map cx) e3 (x3,n3,b3)) (k4:∀ j:Nat,(j:Int)=x3->Ok e3 ((N (j,n3,b3)).map a8C) e4 (x4,b4)) (k40:e3≠0->e4≠0) :
 (e4=0->e3=0/\∃ w:Nat,(w:Int)=x4/\S=K w n3 b4)/\(e4≠0->S=none):=by
 rcases k3.zero with ⟨h3,ho⟩ | ⟨h3,ho⟩
 ·obtain ⟨j,hj,ho⟩:=b4h ho;subst h3
  rcases (k4 j hj).zero with ⟨h4,hn⟩ | ⟨h4,hn⟩
  ·obtain ⟨w,hw,hn⟩:=b9D hn;exact ⟨fun _=>⟨rfl,w,hw,by rw [hs,ho,n_5,hn]; rfl⟩,fun h=>absurd h4 h⟩
  ·exact ⟨fun h=>absurd h h4,fun _=>by rw [hs,ho,n_5,b26.1 hn]; rfl⟩
 ·exact ⟨fun h=>absurd h (k40 h3),fun _=>by rw [hs,b4v ho]; rfl⟩
theorem b6s {n m:Nat} {at_:Int} {b:List Ex} (hS:S=some (i,m,b)) (hi:(i:Int)=x) (hm:m < T.length) (hb:b.length<=256) (hn:n < m) (h1 : -1<=x) (h2:x<=256):RXP T n 0 S ⟨x,m,at_,0,b⟩:=by
 subst hS hi;exact ⟨.some,hm,hb,fun _=>hn,h1,h2⟩
theorem d0x {ps:List Str} (hc:Y1 T ps) (hB:∀ g,g<=f->RTC T ps g) (d n:Nat) (at_:Int) (b:List Ex) (hn:n < T.length) (hb:b.length<=256) (hd0:d<=32) (hf:8*(T.length - n)+6<=f+1+2):b8 CC 273 [.ptr 0 0,(.val (.int .i64 (d:Int)))] (rst T n at_ 0 ps b) (fun r τ=>∃ a:RX,C6 2 τ r (.ret (.val (.int .i64 a.x))) (a55 T a.n a.at_ a.e ps a.b)/\RXP T n 0 ((s7 T ps (f+1)).bin 2 d n b) a):=by
 have hT:=hc.len;have hW:=hc.w;have hsp:=d5a (T:=T) (ps:=ps) (f:=f) (d:=d) (n:=n) (lv:=2) (b:=b) de_;refine (c4 Tryz.func273 rfl rfl ?_);refine a2U ?_;refine cD (b9 rfl c5Y j1 (hB f om_ d n at_ b hn hb hd0 om_ _ 0 1 ⟨rfl,rfl,de_⟩) rfl ?_);rintro ⟨x1,n1,a1,e1,b1⟩ ⟨k1,y1,w1,z1,l1,u1⟩;dsimp only at k1 y1 w1 z1 l1 u1 ⊢;refine c8 [rbx T n1 a1 e1 ps b1 2,.dead,o7 e1 b1.length] rfl ?_;have hfu:e1=0->8*(T.length - n1)+3<=f:=fun h0=>by have:=z1 h0; omega
 have hst:=b1N (K:=fun i m c=>(s7 T ps f).lp 2 d i m c) hsp k1;refine b1w ?_; refine A2 hCC 3 rfl (α:=RL) (fun a=>[(0,.ptr 0 0),(1,(.val (.int .i64 (d:Int)))),(5,(.val (.int .i64 a.x)))]) (fun a=>[rbx T a.m a.at_ a.e ps a.b (kf a.ph),.dead,ot1 a.ph a.e a.b.length,ot2 a.ph a.e a.b.length]) (fun a=>(a.e=0->∃ i:Nat,(i:Int)=a.x/\(s7 T ps (f+1)).bin 2 d n b=(s7 T ps a.g).lp 2 d i a.m a.b/\n < a.m/\8*(T.length - a.m)+3<=a.g)/\(a.e≠0->(s7 T ps (f+1)).bin 2 d n b=none)/\a.m < T.length/\a.b.length<=256/\-1<=a.x/\a.x<=256/\a.g<=f) (fun a=>if a.e=0 then T.length - a.m+1 else 0) ⟨⟨x1,n1,a1,e1,b1,false,f⟩,[0,1,2,7],⟨fun h0=>(hst.1 h0).elim fun i hi=>⟨i,hi.1,hi.2,z1 h0,hfu h0⟩,hst.2,y1,w1,l1,u1,n_4 _⟩,⟨rfl,rfl⟩,a3Q,⟨.inr ⟨_,rfl,.same rfl a2k⟩,.inl rfl,.inr ⟨_,rfl,.same rfl P6⟩,.inl rfl,tt⟩⟩ ?_; intro ⟨x,m,a2,e,b2,ph,g⟩ ⟨hI,hN,hm,hb2,hx1,hx2,hgf⟩;dsimp only at hI hN hm hb2 hx1 hx2 hgf ⊢;refine a9c ?_; refine G9 ?_; refine cC (fun h1=>?_) fun h1=>?_
 ·obtain rfl:e=0:=by simpa using h1
  obtain ⟨i,hi,hS,hnm,hg⟩:=hI rfl;clear hI;obtain ⟨g,rfl⟩:∃ g',g=g'+1:=⟨g - 1,om_⟩;rw [lpS de_] at hS;refine a2L ?_; refine z_1 ?_; refine cY d4p ?_; refine cY a3I ?_; refine cY a13 ?_; refine a4a ?_;refine cD (b9 rfl a75 o6 (U1 hT hm hW [43] (q:=0) (s:=kf ph) a1s) rfl ?_);rintro ⟨v10,m10⟩ ⟨hv10,hs10,hf10,hm10⟩;dsimp only at hv10 hs10 hf10 hm10 ⊢;refine c8 [rbx T m10 a2 0 ps b2 (kf ph),.dead,ot1 ph 0 b2.length,ot2 ph 0 b2.length] R9 ?_;refine i7 ?_; refine cC (fun h2=>?_) fun h2=>?_
  ·have hi10:v10=true:=by simpa using h2
   have hq:=(R2 (hv10.symm.trans hi10)).2;have hmm:=hs10 hi10;subst m10;have hop:opS (tk T m) (2:Nat)=1:=by
    show opS (tk T m) 2=1;rw [d3W,if_pos hq]
   rw [if_neg (by rw [hop]; decide),hop] at hS;refine b02 ?_;refine cD (b9 rfl c5Y j1 (hB g om_ d (m+1) a2 b2 hm10 hb2 hd0 om_ _ 0 (kf ph) a1s) rfl ?_);rintro ⟨x3,n3,a3,e3,b3⟩ ⟨k3,y3,w3,z3,l3,u3⟩;dsimp only at k3 y3 w3 z3 l3 u3 ⊢;refine c8 [rbx T n3 a3 e3 ps b3 4,.dead,.dead,.dead,o7 e3 b3.length] R9 ?_;refine z_2 ?_; refine b6y ?_; refine a8T ?_;refine cD (b9 rfl a4D B9 (M5 w3 ⟨4,0,1,[],[x,x3]⟩ _ ⟨rfl,rfl,de_⟩) rfl ?_);rintro ⟨x4,a4,e4,b4⟩ ⟨k4,w4,l4,u4⟩;dsimp only at k4 w4 l4 u4 ⊢;refine c8 [rbx T n3 a4 e4 ps b4 5,.dead,.dead,.dead,.dead,o7 e4 b4.length] rfl ?_;have hfu:e3=0->n < n3/\8*(T.length - n3)+3<=g:=fun h0=>by have:=z3 h0; omega
   have hme:(if e4=0 then T.length - n3+1 else 0) < (if (0:Int)=0 then T.length - m+1 else 0):=by
    rw [if_pos rfl]
    split
    ·rename_i h0;have:=z3 (k4.alive h0).1;omega
    ·omega
   have hst:=a2S (K:=fun i m c=>(s7 T ps g).lp 2 d i m c) hS k3 (fun j hj=>by rw [hi,hj]; exact k4) k4.2;exact d4L
  ·have hi10:v10=false:=by simpa using h2
   have hmm:=hf10 hi10;subst m10; refine z_1 ?_;refine cD (b9 rfl a75 o6 (U1 hT hm hW [45] (q:=0) (s:=kf ph) a1s) rfl ?_);rintro ⟨v11,m11⟩ ⟨hv11,hs11,hf11,hm11⟩;dsimp only at hv11 hs11 hf11 hm11 ⊢;refine c8 [rbx T m11 a2 0 ps b2 (kf ph),.dead,ot1 ph 0 b2.length,ot2 ph 0 b2.length] R9 ?_;refine i7 ?_; refine cC (fun h3=>?_) fun h3=>?_
   ·have hi11:v11=true:=by simpa using h3
    have hq:=(R2 (hv11.symm.trans hi11)).2;have hmm:=hs11 hi11;subst m11;have hop:opS (tk T m) (2:Nat)=2:=by
     show opS (tk T m) 2=2;rw [d3W,if_neg b6Z,if_pos hq]
    rw [if_neg (by rw [hop]; decide),hop] at hS;refine b02 ?_;refine cD (b9 rfl c5Y j1 (hB g om_ d (m+1) a2 b2 hm11 hb2 hd0 om_ _ 0 (kf ph) a1s) rfl ?_);rintro ⟨x3,n3,a3,e3,b3⟩ ⟨k3,y3,w3,z3,l3,u3⟩;dsimp only at k3 y3 w3 z3 l3 u3 ⊢;refine c8 [rbx T n3 a3 e3 ps b3 4,.dead,.dead,.dead,o7 e3 b3.length] R9 ?_;refine z_2 ?_; refine b6y ?_; refine a8T ?_;refine cD (b9 rfl a4D B9 (M5 w3 ⟨4,0,2,[],[x,x3]⟩ _ ⟨rfl,rfl,de_⟩) rfl ?_);rintro ⟨x4,a4,e4,b4⟩ ⟨k4,w4,l4,u4⟩;dsimp only at k4 w4 l4 u4 ⊢;refine c8 [rbx T n3 a4 e4 ps b4 5,.dead,.dead,.dead,.dead,o7 e4 b4.length] rfl ?_;have hfu:e3=0->n < n3/\8*(T.length - n3)+3<=g:=fun h0=>by have:=z3 h0; omega
    have hme:(if e4=0 then T.length - n3+1 else 0) < (if (0:Int)=0 then T.length - m+1 else 0):=by
     rw [if_pos rfl]
     split
     ·rename_i h0;have:=z3 (k4.alive h0).1;omega
     ·omega
    have hst:=a2S (K:=fun i m c=>(s7 T ps g).lp 2 d i m c) hS k3 (fun j hj=>by rw [hi,hj]; exact k4) k4.2;exact d4L
   ·have hi11:v11=false:=by simpa using h3
    have hmm:=hf11 hi11;subst m11; refine a33 ?_;exact ⟨_,j5 rfl tt c6,(by exact ⟨⟨x,m,a2,0,b2⟩,a7V,b6s (hS.trans (if_pos (by show opS (tk T m) 2=0; rw [d3W,if_neg b6Z,if_neg (by rw [P7 hv11 hi11]; decide)]))) hi hm hb2 hnm hx1 hx2⟩)⟩
 ·have he:e≠0:=by simpa using h1
  refine a33 ?_;exact ⟨_,j5 rfl tt c6,d09⟩
theorem d3o {ps:List Str} (hc:Y1 T ps) (H:∀ g,g < f0->RTC T ps g):RSC T ps f0:=fun d n at_ b hn hb hd hf σ q s hσ=>by
 obtain ⟨f,rfl⟩:∃ f,f0=f+1:=⟨f0 - 1,om_⟩;exact a1t (c:=fun a:RX=>(.val (.int .i64 a.x))) (N:=fun a=>a.n) (A:=fun a=>a.at_) (E:=fun a=>a.e) (B:=fun a=>a.b) (fun _ h=>by simp at h; subst h; exact .val _) (fun _=>.val _) (d0x hc (fun g hg=>H g om_) d n at_ b hn hb hd hf) hσ
theorem c5w {ps:List Str} (hc:Y1 T ps) (hB:∀ g,g<=f->RFC T ps g) (d n:Nat) (at_:Int) (b:List Ex) (hn:n < T.length) (hb:b.length<=256) (hd0:d<=32) (hf:8*(T.length - n)+6<=f+2+3):b8 CC 300 [.ptr 0 0,(.val (.int .i64 (d:Int)))] (rst T n at_ 0 ps b) (fun r τ=>∃ a:RX,C6 2 τ r (.ret (.val (.int .i64 a.x))) (a55 T a.n a.at_ a.e ps a.b)/\RXP T n 0 ((s7 T ps (f+2)).bin 3 d n b) a):=by
 have hT:=hc.len;have hW:=hc.w;have hsp:=d5a (T:=T) (ps:=ps) (f:=f+1) (d:=d) (n:=n) (lv:=3) (b:=b) de_;rw [d5J] at hsp;refine (c4 Tryz.func300 rfl rfl ?_);refine a2U ?_;refine cD (b9 rfl b9Y j1 (hB f om_ d n at_ b hn hb hd0 om_ _ 0 1 ⟨rfl,rfl,de_⟩) rfl ?_);rintro ⟨x1,n1,a1,e1,b1⟩ ⟨k1,y1,w1,z1,l1,u1⟩;dsimp only at k1 y1 w1 z1 l1 u1 ⊢;refine c8 [rbx T n1 a1 e1 ps b1 2,.dead,o7 e1 b1.length] rfl ?_;have hfu:e1=0->8*(T.length - n1)+3<=(f+1):=fun h0=>by have:=z1 h0; omega
 have hst:=b1N (K:=fun i m c=>(s7 T ps (f+1)).lp 3 d i m c) hsp k1;refine b1w ?_; refine A2 hCC 3 rfl (α:=RL) (fun a=>[(0,.ptr 0 0),(1,(.val (.int .i64 (d:Int)))),(5,(.val (.int .i64 a.x)))]) (fun a=>[rbx T a.m a.at_ a.e ps a.b (kf a.ph),.dead,ot1 a.ph a.e a.b.length,ot2 a.ph a.e a.b.length]) (fun a=>(a.e=0->∃ i:Nat,(i:Int)=a.x/\(s7 T ps (f+2)).bin 3 d n b=(s7 T ps a.g).lp 3 d i a.m a.b/\n < a.m/\8*(T.length - a.m)+3<=a.g)/\(a.e≠0->(s7 T ps (f+2)).bin 3 d n b=none)/\a.m < T.length/\a.b.length<=256/\-1<=a.x/\a.x<=256/\a.g<=f+1) (fun a=>if a.e=0 then T.length - a.m+1 else 0) ⟨⟨x1,n1,a1,e1,b1,false,(f+1)⟩,[0,1,2,7],⟨fun h0=>(hst.1 h0).elim fun i hi=>⟨i,hi.1,hi.2,z1 h0,hfu h0⟩,hst.2,y1,w1,l1,u1,n_4 _⟩,⟨rfl,rfl⟩,a3Q,⟨.inr ⟨_,rfl,.same rfl a2k⟩,.inl rfl,.inr ⟨_,rfl,.same rfl P6⟩,.inl rfl,tt⟩⟩ ?_; intro ⟨x,m,a2,e,b2,ph,g⟩ ⟨hI,hN,hm,hb2,hx1,hx2,hgf⟩;dsimp only at hI hN hm hb2 hx1 hx2 hgf ⊢;refine a9c ?_; refine G9 ?_; refine cC (fun h1=>?_) fun h1=>?_
 ·obtain rfl:e=0:=by simpa using h1
  obtain ⟨i,hi,hS,hnm,hg⟩:=hI rfl;clear hI;obtain ⟨g,rfl⟩:∃ g',g=g'+1:=⟨g - 1,om_⟩;rw [lpS de_] at hS;obtain ⟨g,rfl⟩:∃ g',g=g'+1:=⟨g - 1,om_⟩;rw [d5J] at hS;refine a2L ?_; refine z_1 ?_; refine cY d4p ?_; refine cY a3I ?_; refine cY a13 ?_; refine a4a ?_;refine cD (b9 rfl a75 o6 (U1 hT hm hW [42] (q:=0) (s:=kf ph) a1s) rfl ?_);rintro ⟨v10,m10⟩ ⟨hv10,hs10,hf10,hm10⟩;dsimp only at hv10 hs10 hf10 hm10 ⊢;refine c8 [rbx T m10 a2 0 ps b2 (kf ph),.dead,ot1 ph 0 b2.length,ot2 ph 0 b2.length] R9 ?_;refine i7 ?_; refine cC (fun h2=>?_) fun h2=>?_
  ·have hi10:v10=true:=by simpa using h2
   have hq:=(R2 (hv10.symm.trans hi10)).2;have hmm:=hs10 hi10;subst m10;have hop:opS (tk T m) (3:Nat)=3:=by
    show opS (tk T m) 3=3;rw [op3,if_pos hq]
   rw [if_neg (by rw [hop]; decide),hop] at hS;refine b02 ?_;refine cD (b9 rfl b9Y j1 (hB g om_ d (m+1) a2 b2 hm10 hb2 hd0 om_ _ 0 (kf ph) a1s) rfl ?_);rintro ⟨x3,n3,a3,e3,b3⟩ ⟨k3,y3,w3,z3,l3,u3⟩;dsimp only at k3 y3 w3 z3 l3 u3 ⊢;refine c8 [rbx T n3 a3 e3 ps b3 4,.dead,.dead,.dead,o7 e3 b3.length] R9 ?_;refine z_2 ?_; refine b6y ?_; refine a8T ?_;refine cD (b9 rfl a4D B9 (M5 w3 ⟨4,0,3,[],[x,x3]⟩ _ ⟨rfl,rfl,de_⟩) rfl ?_);rintro ⟨x4,a4,e4,b4⟩ ⟨k4,w4,l4,u4⟩;dsimp only at k4 w4 l4 u4 ⊢;refine c8 [rbx T n3 a4 e4 ps b4 5,.dead,.dead,.dead,.dead,o7 e4 b4.length] rfl ?_;have hfu:e3=0->n < n3/\8*(T.length - n3)+3<=(g+1):=fun h0=>by have:=z3 h0; omega
   have hme:(if e4=0 then T.length - n3+1 else 0) < (if (0:Int)=0 then T.length - m+1 else 0):=by
    rw [if_pos rfl]
    split
    ·rename_i h0;have:=z3 (k4.alive h0).1;omega
    ·omega
   have hst:=a2S (K:=fun i m c=>(s7 T ps (g+1)).lp 3 d i m c) hS k3 (fun j hj=>by rw [hi,hj]; exact k4) k4.2;exact d3R
  ·have hi10:v10=false:=by simpa using h2
   have hmm:=hf10 hi10;subst m10; refine z_1 ?_;refine cD (b9 rfl a75 o6 (U1 hT hm hW [47] (q:=0) (s:=kf ph) a1s) rfl ?_);rintro ⟨v11,m11⟩ ⟨hv11,hs11,hf11,hm11⟩;dsimp only at hv11 hs11 hf11 hm11 ⊢;refine c8 [rbx T m11 a2 0 ps b2 (kf ph),.dead,ot1 ph 0 b2.length,ot2 ph 0 b2.length] R9 ?_;refine i7 ?_; refine cC (fun h3=>?_) fun h3=>?_
   ·have hi11:v11=true:=by simpa using h3
    have hq:=(R2 (hv11.symm.trans hi11)).2;have hmm:=hs11 hi11;subst m11;have hop:opS (tk T m) (3:Nat)=4:=by
     show opS (tk T m) 3=4;rw [op3,if_neg b6Z,if_pos hq]
    rw [if_neg (by rw [hop]; decide),hop] at hS;refine b02 ?_;refine cD (b9 rfl b9Y j1 (hB g om_ d (m+1) a2 b2 hm11 hb2 hd0 om_ _ 0 (kf ph) a1s) rfl ?_);rintro ⟨x3,n3,a3,e3,b3⟩ ⟨k3,y3,w3,z3,l3,u3⟩;dsimp only at k3 y3 w3 z3 l3 u3 ⊢;refine c8 [rbx T n3 a3 e3 ps b3 4,.dead,.dead,.dead,o7 e3 b3.length] R9 ?_;refine z_2 ?_; refine b6y ?_; refine a8T ?_;refine cD (b9 rfl a4D B9 (M5 w3 ⟨4,0,4,[],[x,x3]⟩ _ ⟨rfl,rfl,de_⟩) rfl ?_);rintro ⟨x4,a4,e4,b4⟩ ⟨k4,w4,l4,u4⟩;dsimp only at k4 w4 l4 u4 ⊢;refine c8 [rbx T n3 a4 e4 ps b4 5,.dead,.dead,.dead,.dead,o7 e4 b4.length] rfl ?_;have hfu:e3=0->n < n3/\8*(T.length - n3)+3<=(g+1):=fun h0=>by have:=z3 h0; omega
    have hme:(if e4=0 then T.length - n3+1 else 0) < (if (0:Int)=0 then T.length - m+1 else 0):=by
     rw [if_pos rfl]
     split
     ·rename_i h0;have:=z3 (k4.alive h0).1;omega
     ·omega
    have hst:=a2S (K:=fun i m c=>(s7 T ps (g+1)).lp 3 d i m c) hS k3 (fun j hj=>by rw [hi,hj]; exact k4) k4.2;exact d3R
   ·have hi11:v11=false:=by simpa using h3
    have hmm:=hf11 hi11;subst m11; refine z_1 ?_;refine cD (b9 rfl a75 o6 (U1 hT hm hW [37] (q:=0) (s:=kf ph) a1s) rfl ?_);rintro ⟨v12,m12⟩ ⟨hv12,hs12,hf12,hm12⟩;dsimp only at hv12 hs12 hf12 hm12 ⊢;refine c8 [rbx T m12 a2 0 ps b2 (kf ph),.dead,ot1 ph 0 b2.length,ot2 ph 0 b2.length] R9 ?_; refine i7 ?_; refine cC (fun h4=>?_) fun h4=>?_
    ·have hi12:v12=true:=by simpa using h4
     have hq:=(R2 (hv12.symm.trans hi12)).2;have hmm:=hs12 hi12;subst m12;have hop:opS (tk T m) (3:Nat)=5:=by
      show opS (tk T m) 3=5;rw [op3,if_neg b6Z,if_neg (by rw [P7 hv11 hi11]; decide),if_pos hq]
     rw [if_neg (by rw [hop]; decide),hop] at hS;refine b02 ?_;refine cD (b9 rfl b9Y j1 (hB g om_ d (m+1) a2 b2 hm12 hb2 hd0 om_ _ 0 (kf ph) a1s) rfl ?_);rintro ⟨x3,n3,a3,e3,b3⟩ ⟨k3,y3,w3,z3,l3,u3⟩;dsimp only at k3 y3 w3 z3 l3 u3 ⊢;refine c8 [rbx T n3 a3 e3 ps b3 4,.dead,.dead,.dead,o7 e3 b3.length] R9 ?_;refine z_2 ?_; refine b6y ?_; refine a8T ?_;refine cD (b9 rfl a4D B9 (M5 w3 ⟨4,0,5,[],[x,x3]⟩ _ ⟨rfl,rfl,de_⟩) rfl ?_);rintro ⟨x4,a4,e4,b4⟩ ⟨k4,w4,l4,u4⟩;dsimp only at k4 w4 l4 u4 ⊢;refine c8 [rbx T n3 a4 e4 ps b4 5,.dead,.dead,.dead,.dead,o7 e4 b4.length] rfl ?_;have hfu:e3=0->n < n3/\8*(T.length - n3)+3<=(g+1):=fun h0=>by have:=z3 h0; omega
     have hme:(if e4=0 then T.length - n3+1 else 0) < (if (0:Int)=0 then T.length - m+1 else 0):=by
      rw [if_pos rfl]
      split
      ·rename_i h0;have:=z3 (k4.alive h0).1;omega
      ·omega
     have hst:=a2S (K:=fun i m c=>(s7 T ps (g+1)).lp 3 d i m c) hS k3 (fun j hj=>by rw [hi,hj]; exact k4) k4.2;exact d3R
    ·have hi12:v12=false:=by simpa using h4
     have hmm:=hf12 hi12;subst m12; refine a33 ?_;exact ⟨_,j5 rfl tt c6,(by exact ⟨⟨x,m,a2,0,b2⟩,a7V,b6s (hS.trans (if_pos (by show opS (tk T m) 3=0; rw [op3,if_neg b6Z,if_neg (by rw [P7 hv11 hi11]; decide),if_neg (by rw [P7 hv12 hi12]; decide)]))) hi hm hb2 hnm hx1 hx2⟩)⟩
 ·have he:e≠0:=by simpa using h1
  refine a33 ?_;exact ⟨_,j5 rfl tt c6,d09⟩
theorem c8W {ps:List Str} (hc:Y1 T ps) (H:∀ g,g < f0->RFC T ps g):RTC T ps f0:=fun d n at_ b hn hb hd hf σ q s hσ=>by
 obtain ⟨f,rfl⟩:∃ f,f0=f+2:=⟨f0 - 2,om_⟩;exact a1t (c:=fun a:RX=>(.val (.int .i64 a.x))) (N:=fun a=>a.n) (A:=fun a=>a.at_) (E:=fun a=>a.e) (B:=fun a=>a.b) (fun _ h=>by simp at h; subst h; exact .val _) (fun _=>.val _) (c5w hc (fun g hg=>H g om_) d n at_ b hn hb hd hf) hσ
theorem O5 {t:Tok} (h:isT t k s=true):t.k=k/\t.t=s:=by simpa [isT] using h
theorem a96 {ps:List Str} {d n:Nat} {b:List Ex}:(s7 T ps (f+1)).fac d n b=(C3 T ps (s7 T ps f)).fac d n b:=rfl
theorem d0z {ps:List Str} {d n:Nat} {b:List Ex} (h:(tk T n).k=2):(s7 T ps (f+1)).fac d n b=J8 b ⟨1,(tk T n).n,0,[],[]⟩ (n+1):=by
 rw [a96];simp only [C3];rw [if_pos h]
theorem c80 {ps:List Str} {d n:Nat} {b:List Ex} (h:isT (tk T n) 4 [45]=true):(s7 T ps (f+1)).fac d n b=(B6 T (n+1) 2).bind fun y=>J8 b ⟨1,-y.1.n,0,[],[]⟩ y.2:=by
 rw [a96];simp only [C3];rw [if_neg (by rw [(O5 h).1]; decide),if_pos h]
theorem c90 {ps:List Str} {d n:Nat} {b:List Ex} (h:isT (tk T n) 4 [40]=true):(s7 T ps (f+1)).fac d n b=((s7 T ps f).ex (d+1) (n+1) b).bind fun x=>(pIs T x.2.1 4 [41]).bind fun m=>some (x.1,m,x.2.2):=by
 rw [a96];simp only [C3];rw [if_neg (by rw [(O5 h).1]; decide),if_neg (by simp [isT,(O5 h).2]),if_pos h]
theorem a47 {ps:List Str} {d n:Nat} {b:List Ex} (h:isT (tk T n) 1 u=true) (hu:u=[114,101,97,100]\/u=[115,105,122,101]\/u=[104,97,115]\/u=[101,110,118]\/u=[102,108,105,112]):(s7 T ps (f+1)).fac d n b=P8 T (s7 T ps f) u d (n+1) b:=by
 obtain ⟨hk,ht⟩:=O5 h;rw [a96];simp only [C3];rw [if_neg (by rw [hk]; decide),if_neg (by simp [isT,hk]),if_neg (by simp [isT,hk]),if_neg (by simp [hk]),ht,if_pos hu]
theorem a3V {t:Tok} (h:isT t k s=false) (hk:t.k=k):¬ t.t=s:=by
 intro e;simp [isT,hk,e] at h
theorem c4P {ps:List Str} {d n:Nat} {b:List Ex} (h1:¬ (tk T n).k=2) (h2:isT (tk T n) 4 [45]=false) (h3:isT (tk T n) 4 [40]=false) (h4:isT (tk T n) 1 [114,101,97,100]=false) (h5:isT (tk T n) 1 [115,105,122,101]=false) (h6:isT (tk T n) 1 [104,97,115]=false) (h7:isT (tk T n) 1 [101,110,118]=false) (h8:isT (tk T n) 1 [102,108,105,112]=false) :
 (s7 T ps (f+1)).fac d n b=(F6 T n).bind fun s=>if isT (tk T s.2) 4 [40]=true then (a0A T (s7 T ps f) d s.2 b).bind fun a=>J8 a.2.2 ⟨3,0,0,s.1.t,a.1⟩ a.2.1 else if ixS ps s.1.t 0 < 0 then none else J8 b ⟨2,ixS ps s.1.t 0,0,[],[]⟩ s.2:=by
 rw [a96];simp only [C3];rw [if_neg h1,if_neg (by rw [h2]; decide),if_neg (by rw [h3]; decide)];by_cases hk:(tk T n).k=1
 ·rw [if_neg (fun h=>h hk),if_neg (by
   rintro (h | h | h | h | h)
   ·exact a3V h4 hk h
   ·exact a3V h5 hk h
   ·exact a3V h6 hk h
   ·exact a3V h7 hk h
   ·exact a3V h8 hk h)]
  by_cases hr:O1 (tk T n).t=true
  ·rw [if_pos hr];simp [F6,B6,hk,hr]
  ·rw [if_neg hr];simp [F6,B6,hk,hr]
 ·rw [if_pos hk];simp [F6,B6,hk]
theorem c9T {d n:Nat} {b:List Ex}:P8 T F [114,101,97,100] d n b=(pIs T n 4 [40]).bind fun n1=>(a01 T true n1).bind fun s=>(pIs T s.2 4 [44]).bind fun n2=>(F.ex (d+1) n2 b).bind fun x=>(pIs T x.2.1 4 [41]).bind fun m=>J8 x.2.2 ⟨6,0,0,s.1.t,[(x.1:Int)]⟩ m:=by
 simp only [a3g];rfl
theorem c9m {d n:Nat} {b:List Ex}:P8 T F [115,105,122,101] d n b=(pIs T n 4 [40]).bind fun n1=>(a01 T true n1).bind fun s=>(pIs T s.2 4 [41]).bind fun m=>J8 b ⟨7,0,0,s.1.t,[]⟩ m:=by
 simp only [a3g];rfl
theorem d3V {d n:Nat} {b:List Ex}:P8 T F [104,97,115] d n b=(pIs T n 4 [40]).bind fun n1=>(a01 T true n1).bind fun s=>(pIs T s.2 4 [41]).bind fun m=>J8 b ⟨8,0,0,s.1.t,[]⟩ m:=by
 simp only [a3g];rfl
theorem d3q {d n:Nat} {b:List Ex}:P8 T F [101,110,118] d n b=(pIs T n 4 [40]).bind fun n1=>(a01 T false n1).bind fun s=>(pIs T s.2 4 [41]).bind fun m=>J8 b ⟨9,0,0,s.1.t,[]⟩ m:=by
 have e:P8 T F [101,110,118] d n b=(pIs T n 4 [40]).bind fun n1=>(B6 T n1 3).bind fun s=>if B1 s.1.t=true then (pIs T s.2 4 [41]).bind fun m=>J8 b ⟨9,0,0,s.1.t,[]⟩ m else none:=rfl
 rw [e];refine congrArg _ (funext fun n1=>?_);unfold a01;cases B6 T n1 3 with
 | none=>rfl
 | some s =>
  simp only [n_5];by_cases h:B1 s.1.t=true
  ·simp [h]
  ·simp [h]
theorem c1I {d n:Nat} {b:List Ex}:P8 T F [102,108,105,112] d n b=(pIs T n 4 [40]).bind fun n1=>(B6 T n1 2).bind fun s=>if 64<=s.1.n then none else (pIs T s.2 4 [41]).bind fun m=>J8 b ⟨10,s.1.n,0,[],[]⟩ m:=rfl
theorem I2 {n:Nat} {e:Int} (q:Ok e (pIs T n k u) e' n') (h:e'=0):e=0/\n'=n+1:=⟨(q.alive h).1,N6 (q.alive h).2⟩
theorem b0U {n:Nat} {x:Tok × Nat} (hk:k≠5) (h:B6 T n k=some x):x=(tk T n,n+1)/\(tk T n).k=k:=by
 unfold B6 at h;by_cases h1:(tk T n).k=k
 ·rw [if_pos h1,if_neg hk] at h;injection h with h
  exact ⟨h.symm,h1⟩
 ·rw [if_neg h1] at h;cases h
theorem c5D {n:Nat} {e:Int} (q:Ok e ((B6 T n 2).map fun x=>(x.1.n,x.2)) e' (x,n')) (h:e'=0):e=0/\n'=n+1:=by
 obtain ⟨h1,h2⟩:=q.alive h;obtain ⟨p,hp,hg⟩:=Q1.1 h2;obtain ⟨rfl,_⟩:=b0U de_ hp;injection hg with _ hg
 exact ⟨h1,hg.symm⟩
theorem d3L {n:Nat} (q:Ok 0 ((B6 T n 2).map fun x=>(x.1.n,x.2)) e' (x,n')) (hk:(tk T n).k=2):e'=0/\x=(tk T n).n/\n'=n+1:=by
 have hp:B6 T n 2=some (tk T n,n+1):=by
  unfold B6;rw [if_pos hk,if_neg de_]
 rw [hp] at q
 rcases q.zero with ⟨h1,h2⟩ | ⟨_,h2⟩
 ·injection h2 with h2
  injection h2 with h3 h4
  exact ⟨h1,h3.symm,h4.symm⟩
 ·cases h2
theorem a6V {n:Nat} {e:Int} {p:Bool} {x:Str} (q:Ok e ((a01 T p n).map fun x=>(x.1.t,x.2)) e' (x,n')) (h:e'=0):e=0/\n'=n+1:=by
 obtain ⟨h1,h2⟩:=q.alive h;obtain ⟨t,hp,hg⟩:=Q1.1 h2;obtain ⟨y,hy,hz⟩:=c5a.1 hp;obtain ⟨rfl,_⟩:=b0U de_ hy;by_cases hc:(if p=true then C1 (tk T n).t else B1 (tk T n).t)=true
 ·rw [if_pos hc] at hz;injection hz with hz
  subst hz;injection hg with _ hg
  exact ⟨h1,hg.symm⟩
 ·rw [if_neg hc] at hz;cases hz
theorem a9P {n:Nat} {e:Int} {x:Str} (q:Ok e ((F6 T n).map fun x=>(x.1.t,x.2)) e' (x,n')) (h:e'=0):e=0/\n'=n+1/\x=(tk T n).t/\F6 T n=some (tk T n,n+1):=by
 obtain ⟨h1,h2⟩:=q.alive h;obtain ⟨t,hp,hg⟩:=Q1.1 h2;obtain ⟨y,hy,hz⟩:=c5a.1 hp;obtain ⟨rfl,_⟩:=b0U de_ hy;by_cases hc:O1 (tk T n).t=true
 ·rw [if_pos hc] at hz;cases hz
 ·rw [if_neg hc] at hz;injection hz with hz
  subst hz;injection hg with hg1 hg
  exact ⟨h1,hg.symm,hg1.symm,hp⟩
def a4l (T:List Tok) (ps:List Str) (d g m:Nat) (b:List Ex) (l:List Int):Option (List Int × Nat × List Ex) :=
 if l=[] then (if isT (tk T m) 4 [41]=true then some ([],m+1,b) else (s7 T ps g).ag d m b [])
 else if isT (tk T m) 4 [44]=true then (s7 T ps g).ag d (m+1) b l else (pIs T m 4 [41]).bind fun m'=>some (l,m',b)
theorem c16 {ps:List Str} {d n:Nat} {b:List Ex} (h:isT (tk T n) 4 [40]=true):a0A T (s7 T ps f) d n b=a4l T ps d f (n+1) b []:=by
 unfold a0A pIs a4l;rw [if_pos h,n_5,if_pos rfl]
theorem c3e {ps:List Str} {d g m:Nat} {b:List Ex} {l:List Int} (h:isT (tk T m) 4 [41]=true):a4l T ps d g m b l=some (l,m+1,b):=by
 unfold a4l;by_cases hl:l=[]
 ·rw [if_pos hl,if_pos h,hl]
 ·rw [if_neg hl,if_neg (by simp [isT,(O5 h).2]),pIs,if_pos h];rfl
theorem b9i {ps:List Str} {d g m:Nat} {b:List Ex} {l:List Int} (h:isT (tk T m) 4 [41]=false) (hl:l≠[]):a4l T ps d g m b l=(pIs T m 4 [44]).bind fun m'=>(s7 T ps g).ag d m' b l:=by
 unfold a4l;rw [if_neg hl];unfold pIs;by_cases h4:isT (tk T m) 4 [44]=true
 ·rw [if_pos h4,if_pos h4];rfl
 ·rw [if_neg h4,if_neg h4,if_neg (by rw [h]; decide)];rfl
theorem b6L {ps:List Str} {d g m:Nat} {b:List Ex} (h:isT (tk T m) 4 [41]=false):a4l T ps d g m b []=(some m).bind fun m'=>(s7 T ps g).ag d m' b []:=by
 unfold a4l;rw [if_pos rfl,if_neg (by rw [h]; decide)];rfl
theorem agS {ps:List Str} {g d n:Nat} {b:List Ex} {l:List Int}:(s7 T ps (g+1)).ag d n b l=((s7 T ps g).ex (d+1) n b).bind fun x=>a4l T ps d g x.2.1 x.2.2 (l++[(x.1:Int)]):=by
 show ((s7 T ps g).ex (d+1) n b).bind _=_;refine congrArg _ (funext fun x=>?_);unfold a4l;exact (if_neg si_).symm
theorem b5L {o:Option Nat} {X:Nat->Option PX} {R:PX->Option (List Int × Nat × List Ex)} {P:List Int × Nat × List Ex->Option PX} {x3:Int} {b3:List Ex} (hs:S=(o.bind fun m=>(X m).bind R).bind P) (q:Ok 0 o e2 n2) (k:Ok e2 ((X n2).map cx) e3 (x3,n3,b3)) :
 (e3=0->e2=0/\∃ j:Nat,(j:Int)=x3/\S=(R (j,n3,b3)).bind P)/\(e3≠0->S=none):=by
 rcases q.zero with ⟨h2,ho⟩ | ⟨h2,ho⟩
 ·subst h2
  rcases k.zero with ⟨h3,hX⟩ | ⟨h3,hX⟩
  ·obtain ⟨j,hj,hX⟩:=b4h hX;exact ⟨fun _=>⟨rfl,j,hj,by rw [hs,ho,n_5,hX]; rfl⟩,fun h=>absurd h3 h⟩
  ·exact ⟨fun h=>absurd h h3,fun _=>by rw [hs,ho,n_5,b4v hX]; rfl⟩
 ·exact ⟨fun h=>absurd h (k.2 h2),fun _=>by rw [hs,ho]; rfl⟩
structure RG where
 l:List Int
 m:Nat
 at_:Int
 e:Int
 b:List Ex
 ph:Bool
 g:Nat
variable {g:Nat}
def kg5 (ph:Bool):Nat:=if ph=true then 4 else 1
theorem b9a {ps:List Str} (hc:Y1 T ps) (hE:∀ g,g<=f->REC T ps g) (d n:Nat) (at_:Int) (b:List Ex) (hn:n < T.length) (hb:b.length<=256) (hd0:d<=32) (hf:8*(T.length - n)+1<=f+1):b8 CC 316 [.ptr 0 0,(.val (.int .i64 (d:Int)))] (rst T n at_ 0 ps b) (fun r τ=>∃ a:RX,C6 2 τ r (.ret (.val (.int .i64 a.x))) (a55 T a.n a.at_ a.e ps a.b)/\RXP T n 0 ((s7 T ps (f+1)).fac d n b) a):=by
 have hT:=hc.len;have hW:=hc.w;refine (c4 Tryz.func316 rfl rfl ?_);refine b5k ?_; refine a8m ?_; refine U2 ?_; refine a6y ?_; refine b1w ?_; refine a5O ?_; refine a9M ?_; refine cC (fun h1=>?_) fun h1=>?_
 ·simp at h1
 ·refine z_0 ?_; refine a6y ?_; refine a9M ?_; refine cC (fun h2=>?_) fun h2=>?_
  ·have hk:(tk T n).k=2:=by simpa using h2
   refine z_4 ?_;refine cD (b9 rfl c4f ⟨tt,tt⟩ (a8k hT hn hW hc.nn ⟨rfl,rfl,de_⟩) rfl ?_);rintro ⟨x1,n1,a1,e1⟩ ⟨q1,y1,l1,u1⟩;dsimp only at q1 y1 l1 u1 ⊢;refine c8 [rbx T n1 a1 e1 ps b 1,o7 e1 b.length,.box (tk T n).cells] rfl ?_;obtain ⟨rfl,rfl,rfl⟩:=d3L q1 hk;refine b7R ?_;refine cD (b9 rfl a4D B9 (M5 hb ⟨1,(tk T n).n,0,[],[]⟩ _ ⟨rfl,rfl,de_⟩) rfl ?_);rintro ⟨x6,a6,e6,b6⟩ ⟨k6,w6,l6,u6⟩;dsimp only at k6 w6 l6 u6 ⊢;refine c8 [rbx T (n+1) a6 e6 ps b6 3,.dead,.box (tk T n).cells,o7 e6 b6.length] rfl ?_; refine z_7 ?_;exact ⟨_,j5 rfl tt c6,(by exact ⟨⟨x6,n+1,a6,e6,b6⟩,R0 (k:=3) rfl rfl de_ (.val _),⟨by rw [d0z hk]; exact a1D k6,do_,w6,fun h0=>by dsimp only; omega,l6,u6⟩⟩)⟩
  ·have hk:¬ (tk T n).k=2:=by simpa using h2
   refine z_1 ?_;refine cD (b9 rfl a75 o6 (U1 hT hn hW [45] ⟨rfl,rfl,de_⟩) rfl ?_);rintro ⟨v1,m1⟩ ⟨hv1,hs1,hf1,hm1⟩;dsimp only at hv1 hs1 hf1 hm1 ⊢;refine c8 [rbx T m1 at_ 0 ps b 1,o7 0 b.length,.box (tk T n).cells] rfl ?_; refine z_2 ?_; refine cC (fun h3=>?_) fun h3=>?_
   ·have hi1:v1=true:=by simpa using h3
    have hq:=(R2 (hv1.symm.trans hi1)).2;have hmm:=hs1 hi1;subst m1; refine z_4 ?_;refine cD (b9 rfl c4f ⟨tt,tt⟩ (a8k hT hm1 hW hc.nn ⟨rfl,rfl,de_⟩) rfl ?_);rintro ⟨x2,n2,a2,e2⟩ ⟨q2,y2,l2,u2⟩;dsimp only at q2 y2 l2 u2 ⊢;refine c8 [rbx T n2 a2 e2 ps b 1,o7 e2 b.length,.box (tk T n).cells] rfl ?_;have ew : -x2=IntKind.i64.wrap (0 - x2):=by rw [b1L om_ om_]; omega
    refine cY (d2f rfl tt rfl) ?_; refine b7R ?_;refine cD (b9 rfl a4D B9 (M5 hb ⟨1,IntKind.i64.wrap (0 - x2),0,[],[]⟩ _ ⟨rfl,rfl,de_⟩) rfl ?_);rintro ⟨x6,a6,e6,b6⟩ ⟨k6,w6,l6,u6⟩;dsimp only at k6 w6 l6 u6 ⊢;refine c8 [rbx T n2 a6 e6 ps b6 3,.dead,.box (tk T n).cells,o7 e6 b6.length] rfl ?_; refine z_7 ?_;exact ⟨_,j5 rfl tt c6,(by exact ⟨⟨x6,n2,a6,e6,b6⟩,R0 (k:=3) rfl rfl de_ (.val _),⟨by rw [c80 hq]; exact q2.bindI (fun t ht=>a1D (by rw [ht,ew]; exact k6)) k6.2,do_,w6,fun h0=>by have:=(c5D q2 (k6.alive h0).1).2; dsimp only; omega,l6,u6⟩⟩)⟩
   ·have hi1:v1=false:=by simpa using h3
    have hg1:=P7 hv1 hi1;have hmm:=hf1 hi1;subst m1; refine z_1 ?_;refine cD (b9 rfl a75 o6 (U1 hT hn hW [40] ⟨rfl,rfl,de_⟩) rfl ?_);rintro ⟨v2,m2⟩ ⟨hv2,hs2,hf2,hm2⟩;dsimp only at hv2 hs2 hf2 hm2 ⊢;refine c8 [rbx T m2 at_ 0 ps b 1,o7 0 b.length,.box (tk T n).cells] rfl ?_; refine z_2 ?_; refine cC (fun h4=>?_) fun h4=>?_
    ·have hi2:v2=true:=by simpa using h4
     have hq:=(R2 (hv2.symm.trans hi2)).2;have hmm:=hs2 hi2;subst m2; refine a8W ?_;refine cD (b9 rfl b6E j1 (hE f (n_4 _) (d+1) (n+1) at_ 0 b hm2 hb om_ (fun _=>by omega) _ 0 1 ⟨rfl,rfl,de_⟩) rfl ?_);rintro ⟨x3,n3,a3,e3,b3⟩ ⟨k3,y3,w3,z3,l3,u3⟩;dsimp only at k3 y3 w3 z3 l3 u3 ⊢;refine c8 [rbx T n3 a3 e3 ps b3 3,.dead,.box (tk T n).cells,o7 e3 b3.length] rfl ?_; refine M9 ?_;refine cD (b9 rfl a3N o6 (L1 hT y3 hW [41] ⟨rfl,rfl,de_⟩) rfl ?_);rintro ⟨n4,a4,e4⟩ ⟨q4,y4⟩;dsimp only at q4 y4 ⊢;refine c8 [rbx T n4 a4 e4 ps b3 3,.dead,.box (tk T n).cells,o7 e4 b3.length] rfl ?_; refine O3 ?_; refine z_7 ?_;exact ⟨_,j5 rfl tt c6,(by exact ⟨⟨x3,n4,a4,e4,b3⟩,R0 (k:=3) rfl rfl de_ (.val _),⟨by rw [c90 hq]; exact k3.bindX (fun i hi=>q4.bindP (by rw [<- hi]; exact .some)) q4.2,y4,w3,fun h0=>by have g:=I2 q4 h0; have:=z3 g.1; dsimp only; omega,l3,u3⟩⟩)⟩
    ·have hi2:v2=false:=by simpa using h4
     have hg2:=P7 hv2 hi2;have hmm:=hf2 hi2;subst m2; refine z_1 ?_;refine cD (b9 rfl a9u o6 (W4 hT hn hW [114,101,97,100] ⟨rfl,rfl,de_⟩) rfl ?_);rintro ⟨v3,m3⟩ ⟨hv3,hs3,hf3,hm3⟩;dsimp only at hv3 hs3 hf3 hm3 ⊢;refine c8 [rbx T m3 at_ 0 ps b 1,o7 0 b.length,.box (tk T n).cells] rfl ?_; refine z_2 ?_; refine cC (fun h5=>?_) fun h5=>?_
     ·have hi3:v3=true:=by simpa using h5
      have hq:=(R2 (hv3.symm.trans hi3)).2;have hmm:=hs3 hi3;subst m3; refine z_1 ?_;refine cD (b9 rfl a3N o6 (L1 hT hm3 hW [40] ⟨rfl,rfl,de_⟩) rfl ?_);rintro ⟨n1,a1,e1⟩ ⟨q1,y1⟩;dsimp only at q1 y1 ⊢;refine d1o ?_;refine cD (b9 rfl c0A o6 (a9V hT y1 hW true hc.l ⟨rfl,rfl,de_⟩) rfl ?_);rintro ⟨s2,n2,a2,e2⟩ ⟨q2,y2⟩;dsimp only at q2 y2 ⊢;refine d1O ?_;refine cD (b9 rfl a3N o6 (L1 hT y2 hW [44] ⟨rfl,rfl,de_⟩) rfl ?_);rintro ⟨n3,a3,e3⟩ ⟨q3,y3⟩;dsimp only at q3 y3 ⊢;refine c2y ?_; refine a8W ?_;refine cD (b9 rfl b6E j1 (hE f (n_4 _) (d+1) n3 a3 e3 b y3 hb om_ (fun h0=>by have g:=I2 q3 h0; have g':=a6V q2 g.1; have:=I2 q1 g'.1; omega) _ 0 1 ⟨rfl,rfl,de_⟩) rfl ?_);rintro ⟨x4,n4,a4,e4,b4⟩ ⟨k4,y4,w4,z4,l4,u4⟩;dsimp only at k4 y4 w4 z4 l4 u4 ⊢;refine c8 [rbx T n4 a4 e4 ps b4 3,.dead,.box (tk T n).cells,o7 e4 b4.length] rfl ?_; refine M9 ?_;refine cD (b9 rfl a3N o6 (L1 hT y4 hW [41] ⟨rfl,rfl,de_⟩) rfl ?_);rintro ⟨n5,a5,e5⟩ ⟨q5,y5⟩;dsimp only at q5 y5 ⊢;refine c8 [rbx T n5 a5 e5 ps b4 3,.dead,.box (tk T n).cells,o7 e5 b4.length] rfl ?_; refine i7 ?_; refine a0n ?_; refine cY (A3 ([x4].map icv) rfl ⟨tt,tt⟩ t_5 t_1 t_6 rfl rfl rfl rfl rfl rfl rfl rfl rfl) ?_; refine a8T ?_;refine cD (b9 rfl a4D B9 (M5 w4 ⟨6,0,0,s2,[x4]⟩ _ ⟨rfl,rfl,de_⟩) rfl ?_);rintro ⟨x6,a6,e6,b6⟩ ⟨k6,w6,l6,u6⟩;dsimp only at k6 w6 l6 u6 ⊢;refine c8 [rbx T n5 a6 e6 ps b6 4,.dead,.box (tk T n).cells,.dead,o7 e6 b6.length] rfl ?_; refine z_7 ?_;exact ⟨_,j5 rfl tt c6,(by exact ⟨⟨x6,n5,a6,e6,b6⟩,R0 (k:=4) rfl rfl de_ (.val _),⟨by rw [a47 hq de_,c9T]; exact q1.bindP (q2.bindT (fun t ht=>q3.bindP (k4.bindX (fun i hi=>q5.bindP (a1D (by rw [ht,hi]; exact k6))) fun h=>k6.2 (q5.2 h))) fun h=>k6.2 (q5.2 (k4.2 (q3.2 h)))),do_,w6,fun h0=>by have g5:=I2 q5 (k6.alive h0).1; have:=z4 g5.1; have g3:=I2 q3 (k4.alive g5.1).1; have g2:=a6V q2 g3.1; have:=I2 q1 g2.1; dsimp only; omega,l6,u6⟩⟩)⟩
     ·have hi3:v3=false:=by simpa using h5
      have hg3:=P7 hv3 hi3;have hmm:=hf3 hi3;subst m3; refine a3c ?_;refine cD (b9 rfl a9u o6 (W4 hT hn hW [115,105,122,101] ⟨rfl,rfl,de_⟩) rfl ?_);rintro ⟨v4,m4⟩ ⟨hv4,hs4,hf4,hm4⟩;dsimp only at hv4 hs4 hf4 hm4 ⊢;refine c8 [rbx T m4 at_ 0 ps b 1,o7 0 b.length,.box (tk T n).cells] rfl ?_; refine z_2 ?_; refine cC (fun h6=>?_) fun h6=>?_
      ·have hi4:v4=true:=by simpa using h6
       have hq:=(R2 (hv4.symm.trans hi4)).2;have hmm:=hs4 hi4;subst m4;have hw:=(O5 hq).2;refine i8 ?_; refine cC (fun h7=>?_) fun h7=>?_
       ·refine a8D ?_; refine a2K ?_; refine b3K ?_; refine cC (fun h8=>?_) fun h8=>?_
        ·simp [hw] at h8
        ·refine z_0 ?_; refine a2K ?_; refine b3K ?_; refine cC (fun h9=>?_) fun h9=>?_
         ·simp [hw] at h9
         ·refine a05 ?_;refine cD (b9 rfl a3N o6 (L1 hT hm4 hW [40] ⟨rfl,rfl,de_⟩) rfl ?_);rintro ⟨n1,a1,e1⟩ ⟨q1,y1⟩;dsimp only at q1 y1 ⊢;refine c7I ?_; refine d2T ?_; rintro ⟨s2,n2,a2,e2⟩ ⟨q2,y2⟩;dsimp only at q2 y2 ⊢;refine c4w ?_; rintro ⟨n3,a3,e3⟩ ⟨q3,y3⟩;dsimp only at q3 y3 ⊢;refine c2y ?_; refine a0n ?_; refine cY d3l ?_; refine cY j7 ?_;refine cD (b9 rfl a4D B9 (M5 hb ⟨7,0,0,s2,[]⟩ _ ⟨rfl,rfl,de_⟩) rfl ?_);rintro ⟨x6,a6,e6,b6⟩ ⟨k6,w6,l6,u6⟩;dsimp only at k6 w6 l6 u6 ⊢;refine c1B ?_;exact ⟨_,j5 rfl tt c6,(by exact ⟨⟨x6,n3,a6,e6,b6⟩,R0 (k:=3) rfl rfl de_ (.val _),⟨by rw [a47 hq de_,c9m]; exact q1.bindP (q2.bindT (fun t ht=>q3.bindP (a1D (by rw [ht]; exact k6))) fun h=>k6.2 (q3.2 h)),do_,w6,fun h0=>by have g3:=I2 q3 (k6.alive h0).1; have g2:=a6V q2 g3.1; have:=I2 q1 g2.1; dsimp only; omega,l6,u6⟩⟩)⟩
       ·rw [hi4] at h7;cases h7
      ·have hi4:v4=false:=by simpa using h6
       have hg4:=P7 hv4 hi4;have hmm:=hf4 hi4;subst m4; refine z_1 ?_;refine cD (b9 rfl a9u o6 (W4 hT hn hW [104,97,115] ⟨rfl,rfl,de_⟩) rfl ?_);rintro ⟨v5,m5⟩ ⟨hv5,hs5,hf5,hm5⟩;dsimp only at hv5 hs5 hf5 hm5 ⊢;refine c8 [rbx T m5 at_ 0 ps b 1,o7 0 b.length,.box (tk T n).cells] rfl ?_; refine z_2 ?_; refine cC (fun h19=>?_) fun h19=>?_
       ·have hi5:v5=true:=by simpa using h19
        have hq:=(R2 (hv5.symm.trans hi5)).2;have hmm:=hs5 hi5;subst m5;have hw:=(O5 hq).2;refine i8 ?_; refine cC (fun h20=>?_) fun h20=>?_
        ·refine a8D ?_; refine a2K ?_; refine b3K ?_; refine cC (fun h21=>?_) fun h21=>?_
         ·refine b2X ?_; refine z_1 ?_;refine cD (b9 rfl a3N o6 (L1 hT hm5 hW [40] ⟨rfl,rfl,de_⟩) rfl ?_);rintro ⟨n1,a1,e1⟩ ⟨q1,y1⟩;dsimp only at q1 y1 ⊢;refine c7I ?_; refine d2T ?_; rintro ⟨s2,n2,a2,e2⟩ ⟨q2,y2⟩;dsimp only at q2 y2 ⊢;refine c4w ?_; rintro ⟨n3,a3,e3⟩ ⟨q3,y3⟩;dsimp only at q3 y3 ⊢;refine c2y ?_; refine a0n ?_; refine cY d3l ?_; refine cY j7 ?_;refine cD (b9 rfl a4D B9 (M5 hb ⟨8,0,0,s2,[]⟩ _ ⟨rfl,rfl,de_⟩) rfl ?_);rintro ⟨x6,a6,e6,b6⟩ ⟨k6,w6,l6,u6⟩;dsimp only at k6 w6 l6 u6 ⊢;refine c1B ?_;exact ⟨_,j5 rfl tt c6,(by exact ⟨⟨x6,n3,a6,e6,b6⟩,R0 (k:=3) rfl rfl de_ (.val _),⟨by rw [a47 hq de_,d3V]; exact q1.bindP (q2.bindT (fun t ht=>q3.bindP (a1D (by rw [ht]; exact k6))) fun h=>k6.2 (q3.2 h)),do_,w6,fun h0=>by have g3:=I2 q3 (k6.alive h0).1; have g2:=a6V q2 g3.1; have:=I2 q1 g2.1; dsimp only; omega,l6,u6⟩⟩)⟩
         ·simp [hw] at h21
        ·rw [hi5] at h20;cases h20
       ·have hi5:v5=false:=by simpa using h19
        have hg5:=P7 hv5 hi5;have hmm:=hf5 hi5;subst m5; refine z_5 ?_;refine cD (b9 rfl a9u o6 (W4 hT hn hW [101,110,118] ⟨rfl,rfl,de_⟩) rfl ?_);rintro ⟨v6,m6⟩ ⟨hv6,hs6,hf6,hm6⟩;dsimp only at hv6 hs6 hf6 hm6 ⊢;refine c8 [rbx T m6 at_ 0 ps b 1,o7 0 b.length,.box (tk T n).cells] rfl ?_; refine z_2 ?_; refine cC (fun h32=>?_) fun h32=>?_
        ·have hi6:v6=true:=by simpa using h32
         have hq:=(R2 (hv6.symm.trans hi6)).2;have hmm:=hs6 hi6;subst m6;have hw:=(O5 hq).2;refine a8D ?_; refine a2K ?_; refine b3K ?_; refine cC (fun h33=>?_) fun h33=>?_
         ·simp [hw] at h33
         ·refine z_0 ?_; refine a2K ?_; refine b3K ?_; refine cC (fun h34=>?_) fun h34=>?_
          ·refine b2X ?_; refine z_1 ?_;refine cD (b9 rfl a3N o6 (L1 hT hm6 hW [40] ⟨rfl,rfl,de_⟩) rfl ?_);rintro ⟨n1,a1,e1⟩ ⟨q1,y1⟩;dsimp only at q1 y1 ⊢;refine c7I ?_; refine cY P1 ?_;refine cD (b9 rfl c0A j1 (a9V hT y1 hW false hc.l ⟨rfl,rfl,de_⟩) rfl ?_);rintro ⟨s2,n2,a2,e2⟩ ⟨q2,y2⟩;dsimp only at q2 y2 ⊢;refine c4w ?_; rintro ⟨n3,a3,e3⟩ ⟨q3,y3⟩;dsimp only at q3 y3 ⊢;refine c2y ?_; refine a0n ?_; refine cY d3l ?_; refine cY j7 ?_;refine cD (b9 rfl a4D B9 (M5 hb ⟨9,0,0,s2,[]⟩ _ ⟨rfl,rfl,de_⟩) rfl ?_);rintro ⟨x6,a6,e6,b6⟩ ⟨k6,w6,l6,u6⟩;dsimp only at k6 w6 l6 u6 ⊢;refine c1B ?_;exact ⟨_,j5 rfl tt c6,(by exact ⟨⟨x6,n3,a6,e6,b6⟩,R0 (k:=3) rfl rfl de_ (.val _),⟨by rw [a47 hq de_,d3q]; exact q1.bindP (q2.bindT (fun t ht=>q3.bindP (a1D (by rw [ht]; exact k6))) fun h=>k6.2 (q3.2 h)),do_,w6,fun h0=>by have g3:=I2 q3 (k6.alive h0).1; have g2:=a6V q2 g3.1; have:=I2 q1 g2.1; dsimp only; omega,l6,u6⟩⟩)⟩
          ·simp [hw] at h34
        ·have hi6:v6=false:=by simpa using h32
         have hg6:=P7 hv6 hi6;have hmm:=hf6 hi6;subst m6; refine z_1 ?_;refine cD (b9 rfl a9u o6 (W4 hT hn hW [102,108,105,112] ⟨rfl,rfl,de_⟩) rfl ?_);rintro ⟨v7,m7⟩ ⟨hv7,hs7,hf7,hm7⟩;dsimp only at hv7 hs7 hf7 hm7 ⊢;refine c8 [rbx T m7 at_ 0 ps b 1,o7 0 b.length,.box (tk T n).cells] rfl ?_; refine z_2 ?_; refine cC (fun h35=>?_) fun h35=>?_
         ·have hi7:v7=true:=by simpa using h35
          have hq:=(R2 (hv7.symm.trans hi7)).2;have hmm:=hs7 hi7;subst m7; refine z_1 ?_;refine cD (b9 rfl a3N o6 (L1 hT hm7 hW [40] ⟨rfl,rfl,de_⟩) rfl ?_);rintro ⟨n1,a1,e1⟩ ⟨q1,y1⟩;dsimp only at q1 y1 ⊢;refine d1o ?_; refine d2s ?_; refine M9 ?_;refine cD (b9 rfl c4f ⟨tt,tt⟩ (a8k hT y1 hW hc.nn ⟨rfl,rfl,de_⟩) rfl ?_);rintro ⟨x2,n2,a2,e2⟩ ⟨q2,y2,l2,u2⟩;dsimp only at q2 y2 l2 u2 ⊢;refine c8 [rbx T n2 a2 e2 ps b 1,o7 e2 b.length,.box (tk T n).cells] rfl ?_; refine a5H ?_; refine cC (fun h36=>?_) fun h36=>?_
          ·have hge:64<=x2:=by simpa using h36
           refine c4z ?_; rintro ⟨x0,y0⟩ hy0;dsimp only at hy0 ⊢;refine c8 [rbx T n2 x0 y0 ps b 1,o7 y0 b.length,.box (tk T n).cells] rfl ?_; refine O3 ?_;refine cD (b9 rfl a3N o6 (L1 hT y2 hW [41] ⟨rfl,rfl,de_⟩) rfl ?_);rintro ⟨n3,a3,e3⟩ ⟨q3,y3⟩;dsimp only at q3 y3 ⊢;refine c2y ?_; refine z_4 ?_; refine d2U ?_; rintro ⟨x6,a6,e6,b6⟩ ⟨k6,w6,l6,u6⟩;dsimp only at k6 w6 l6 u6 ⊢;refine c8 [rbx T n3 a6 e6 ps b6 3,.dead,.box (tk T n).cells,o7 e6 b6.length] rfl ?_;have he6:=k6.2 (q3.2 hy0);refine z_7 ?_;exact ⟨_,j5 rfl tt c6,(by exact ⟨⟨x6,n3,a6,e6,b6⟩,R0 (k:=3) rfl rfl de_ (.val _),⟨by rw [a47 hq de_,c1I]; exact q1.bindP (q2.bindI (fun t ht=>by dsimp only; rw [if_pos (by rw [ht]; exact hge)]; exact .none he6) fun _=>he6),do_,w6,fun h0=>absurd h0 he6,l6,u6⟩⟩)⟩
          ·have hge:¬ 64<=x2:=by simpa using h36
           refine a05 ?_;refine cD (b9 rfl a3N o6 (L1 hT y2 hW [41] ⟨rfl,rfl,de_⟩) rfl ?_);rintro ⟨n3,a3,e3⟩ ⟨q3,y3⟩;dsimp only at q3 y3 ⊢;refine c2y ?_; refine z_4 ?_; refine d2U ?_; rintro ⟨x6,a6,e6,b6⟩ ⟨k6,w6,l6,u6⟩;dsimp only at k6 w6 l6 u6 ⊢;refine c1B ?_;exact ⟨_,j5 rfl tt c6,(by exact ⟨⟨x6,n3,a6,e6,b6⟩,R0 (k:=3) rfl rfl de_ (.val _),⟨by rw [a47 hq de_,c1I]; exact q1.bindP (q2.bindI (fun t ht=>by dsimp only; rw [if_neg (by rw [ht]; exact hge)]; exact q3.bindP (a1D (by rw [ht]; exact k6))) fun h=>k6.2 (q3.2 h)),do_,w6,fun h0=>by have g3:=I2 q3 (k6.alive h0).1; have g2:=c5D q2 g3.1; have:=I2 q1 g2.1; dsimp only; omega,l6,u6⟩⟩)⟩
         ·have hi7:v7=false:=by simpa using h35
          have hg7:=P7 hv7 hi7;have hmm:=hf7 hi7;subst m7;have hsp:=c4P (ps:=ps) (f:=f) (d:=d) (b:=b) hk hg1 hg2 hg3 hg4 hg5 hg6 hg7;refine a05 ?_;refine cD (b9 rfl c6X ⟨tt,tt⟩ (a7t hT hn hW ⟨rfl,rfl,de_⟩) rfl ?_);rintro ⟨s1,n1,a1,e1⟩ ⟨q1,y1⟩;dsimp only at q1 y1 ⊢;refine c8 [rbx T n1 a1 e1 ps b 1,o7 e1 b.length,.box (tk T n).cells] rfl ?_; refine a4a ?_;refine cD (b9 rfl a75 o6 (U1 hT y1 hW [40] ⟨rfl,rfl,de_⟩) rfl ?_);rintro ⟨v8,m8⟩ ⟨hv8,hs8,hf8,hm8⟩;dsimp only at hv8 hs8 hf8 hm8 ⊢;refine c8 [rbx T m8 a1 e1 ps b 1,o7 e1 b.length,.box (tk T n).cells] rfl ?_; refine T7 ?_; refine cC (fun h37=>?_) fun h37=>?_
          ·have hi8:v8=false:=by simpa using h37
           have hmm:=hf8 hi8;subst m8; refine b6k ?_; refine cY c4R ?_; refine cY a5U ?_; refine a0W ?_; refine S3 (α:=Nat) (fun j=>[(0,.ptr 0 0),(6,(.val (.int .i64 ((tk T n).at_)))),(14,(sv s1)),(137,(.list (ps.map scv) (gnn ps.length) none)),(138,(.val (.int .i64 (ps.length:Int)))),(139,(.val (.int .i64 (j:Int))))]) (fun _=>[rbx T n1 a1 e1 ps b 1,o7 e1 b.length,.box (tk T n).cells]) (fun j=>j<=ps.length/\(e1=0->ixS ps s1 0=ixS (ps.drop j) s1 j)) (fun j=>ps.length - j) 0 ⟨n_3 _,fun _=>rfl⟩ tu_ rfl ?_; intro j E5 ⟨hj,hjx⟩;have hps:=hc.ps;refine F2 ?_; refine cC (fun h38=>?_) fun h38=>?_
           ·have hlt:j < ps.length:=by simp at h38; omega
            obtain ⟨w,hbw⟩:∃ w,ps[j]? = some w:=⟨ps[j]'hlt,si_⟩;refine Z0 ?_; refine cY (t6 rfl tt tt rfl rfl t_2 t_0 om_ (j8 hbw) rfl) ?_; refine cY a0T ?_; refine cY I1 ?_; refine a7J ?_; refine cY c6n ?_; refine a6i ?_; refine cG (fun hg=>b7t rfl hg rfl) ?_; refine cG (fun hg=>j2 rfl hg rfl b7K rfl c2c de_) ?_; refine cG (fun hg=>o9 rfl hg rfl c4G rfl rfl) ?_; refine a9j ?_; refine cC (fun h39=>?_) fun h39=>?_
            ·obtain ⟨hw,he1⟩:w=s1/\e1=0:=by simpa using h39
             subst he1;obtain ⟨_,hn1,hs1,hpn⟩:=a9P q1 rfl;have hix:ixS ps s1 0=j:=by rw [hjx rfl,b0w hbw,if_pos hw]
             refine z_4 ?_; refine b7R ?_;refine cD (b9 rfl a4D B9 (M5 hb ⟨2,(j:Int),0,[],[]⟩ _ ⟨rfl,rfl,de_⟩) rfl ?_);rintro ⟨x6,a6,e6,b6⟩ ⟨k6,w6,l6,u6⟩;dsimp only at k6 w6 l6 u6 ⊢;refine c8 [rbx T n1 a6 e6 ps b6 3,.dead,.box (tk T n).cells,o7 e6 b6.length] rfl ?_; refine z_7 ?_;exact ⟨_,j5 rfl tt c6,(by exact ⟨⟨x6,n1,a6,e6,b6⟩,R0 (k:=3) rfl rfl de_ (.val _),⟨by rw [hsp,hpn,n_5]; dsimp only; rw [<- hn1,<- hs1,if_neg (by rw [P7 hv8 hi8]; decide),hix,if_neg om_]; exact a1D k6,do_,w6,fun h0=>by dsimp only; omega,l6,u6⟩⟩)⟩
            ·have hno:e1=0->¬ w=s1:=fun h0 hw=>by simp [hw,h0] at h39
             refine a2h ?_;exact ⟨(j+1),om_,⟨om_,fun h0=>by rw [hjx h0,b0w hbw,if_neg (hno h0)]⟩,tu_,rfl⟩
           ·have hge:ps.length<=j:=by simp at h38; omega
            refine z6 ?_; refine z_4 ?_;refine cD (b9 rfl b5J a66 (a18 _ _ de_ ⟨rfl,rfl,de_⟩) rfl ?_);rintro ⟨x0,y0⟩ hy0;dsimp only at hy0 ⊢;refine c8 [rbx T n1 x0 y0 ps b 1,o7 y0 b.length,.box (tk T n).cells] rfl ?_; refine i7 ?_; refine G5 ?_;exact ⟨_,j5 rfl tt c6,(by exact ⟨⟨0,n1,x0,y0,b⟩,a5c hy0 rfl (.val _),.dead (fun _=>by
             rcases q1.zero with ⟨h0,_⟩ | ⟨_,h0⟩
             ·subst h0;obtain ⟨_,hn1,hs1,hpn⟩:=a9P q1 rfl;rw [hsp,hpn,n_5];dsimp only;rw [<- hn1,<- hs1,if_neg (by rw [P7 hv8 hi8]; decide),hjx rfl,U5 hge];rfl
             ·rw [hsp,b26.1 h0];rfl) hy0 y1 hb ⟨de_,de_⟩⟩)⟩
          ·have hi8:v8=true:=by simpa using h37
           obtain ⟨he1,hq8⟩:=R2 (hv8.symm.trans hi8);subst e1;have hmm:=hs8 hi8;subst m8;obtain ⟨_,hn1,hs1,hpn⟩:=a9P q1 rfl;rw [hpn,n_5] at hsp;dsimp only at hsp;rw [<- hn1,<- hs1,if_pos hq8,c16 hq8] at hsp;refine a05 ?_; refine cY b9E ?_; refine c6q ?_; refine z_8 ?_; refine B7 ?_; refine A2 hCC 4 rfl (α:=RG) (fun a=>[(0,.ptr 0 0),(1,(.val (.int .i64 (d:Int)))),(6,(.val (.int .i64 ((tk T n).at_)))),(17,.ptr 3 0)]) (fun a=>[rbx T a.m a.at_ a.e ps a.b (kg5 a.ph),ot1 a.ph a.e a.b.length,.dead,.box [(.val (.int .i64 (3))),(.val (.int .i64 (0))),(.val (.int .i64 (0))),(sv s1),.list (a.l.map icv) (gnn a.l.length) (E7 a.l.length 5)],ot2 a.ph a.e a.b.length,r7 a.l.length]) (fun a=>(a.e=0->(s7 T ps (f+1)).fac d n b=(a4l T ps d a.g a.m a.b a.l).bind (fun a:List Int × Nat × List Ex=>J8 a.2.2 ⟨3,0,0,s1,a.1⟩ a.2.1)/\n < a.m/\a.l.length<=a.m/\8*(T.length - a.m)+7<=a.g)/\(a.e≠0->(s7 T ps (f+1)).fac d n b=none)/\a.m < T.length/\a.b.length<=256/\a.l.length<=T.length/\a.g<=f) (fun a=>if a.e=0 then T.length - a.m+1 else 0) ⟨⟨[],n1+1,a1,0,b,false,f⟩,[0,1,2,3,7,8],⟨fun _=>⟨hsp,do_,n_3 _,do_⟩,fun h=>absurd rfl h,hm8,hb,n_3 _,n_4 _⟩,⟨rfl,rfl⟩,c4E,⟨.inr ⟨_,rfl,.same rfl a2k⟩,.inr ⟨_,rfl,.same rfl (b6c 4 0 b.length)⟩,.inl rfl,.inr ⟨_,rfl,.same rfl (s8 ⟨.val _,.val _,.val _,.val _,T3 _ [] _,tt⟩)⟩,.inl rfl,.inl rfl,tt⟩⟩ ?_; intro ⟨l,m,a2,e,b2,ph,g⟩ ⟨hI,hN,hm,hb2,hlT,hgf⟩;dsimp only at hI hN hm hb2 hlT hgf ⊢;refine a9c ?_; refine a1b ?_;refine b6b (.val (.bool false)) rfl rfl tt rfl rfl (fun hg=>b9 rfl a75 ⟨hg,rfl,tt⟩ (U1 hT hm hW [41] (q:=0) (s:=kg5 ph) a1s) rfl ?_) (fun hg=>?_)
           ·
            obtain rfl:e=0:=by simpa using hg
            obtain ⟨hS,hnm,hlm,hgm⟩:=hI rfl;rintro ⟨v9,m9⟩ ⟨hv9,hs9,hf9,hm9⟩;dsimp only at hv9 hs9 hf9 hm9 ⊢;refine c8 [rbx T m9 a2 0 ps b2 (kg5 ph),ot1 ph 0 b2.length,.dead,.box [(.val (.int .i64 (3))),(.val (.int .i64 (0))),(.val (.int .i64 (0))),(sv s1),.list (l.map icv) (gnn l.length) (E7 l.length 5)],ot2 ph 0 b2.length,r7 l.length] R9 ?_; refine b6M ?_; refine cC (fun h40=>?_) fun h40=>?_
            ·have hi9:v9=false:=by simpa using h40
             have hg9:=P7 hv9 hi9;have hmm:=hf9 hi9;subst m9;obtain ⟨g,rfl⟩:∃ g',g=g'+1:=⟨g - 1,om_⟩;refine a2L ?_; refine a1R ?_; refine a52 ?_; refine cY a7l ?_; refine G9 ?_; refine cC (fun h41=>?_) fun h41=>?_
             ·have hl:l≠[]:=by intro hl; subst hl; simp at h41
              rw [b9i hg9 hl] at hS;simp only [agS] at hS;refine z_5 ?_;refine cD (b9 rfl a3N o6 (L1 hT hm hW [44] (q:=0) (s:=kg5 ph) a1s) rfl ?_);rintro ⟨n2,a4,e2⟩ ⟨q2,y2⟩;dsimp only at q2 y2 ⊢;refine c8 [rbx T n2 a4 e2 ps b2 (kg5 ph),ot1 ph e2 b2.length,.dead,.box [(.val (.int .i64 (3))),(.val (.int .i64 (0))),(.val (.int .i64 (0))),(sv s1),.list (l.map icv) (gnn l.length) (E7 l.length 5)],ot2 ph e2 b2.length,r7 l.length] R9 ?_; refine i7 ?_; refine d2W ?_; refine chf rfl (d6 rfl b5g) ?_; refine a6M ?_; refine chf rfl (d6 rfl S8) ?_; refine D2 ?_;refine A9 rfl rfl (b9 rfl b6E j1 (hE g om_ (d+1) n2 a4 e2 b2 y2 hb2 om_ (fun h0=>by have:=I2 q2 h0; omega) _ 0 (kg5 ph) a1s) rfl ?_);rintro ⟨x3,n3,a3,e3,b3⟩ ⟨k3,y3,w3,z3,l3,u3⟩;dsimp only at k3 y3 w3 z3 l3 u3 ⊢;have hls:=S9 l x3;have hfu:e3=0->m < n3/\n < n3/\(l++[x3]).length<=n3/\8*(T.length - n3)+7<=g:=fun h0=>by have:=z3 h0; have hq:=I2 q2 (k3.alive h0).1; omega
              have hme:(if e3=0 then T.length - n3+1 else 0) < (if (0:Int)=0 then T.length - m+1 else 0):=by
               rw [if_pos rfl]
               split
               ·rename_i h0;have:=hfu h0;omega
               ·omega
              have hl2:(l++[x3]).length<=T.length/\g<=f:=by omega
              have hst:=b5L hS q2 k3;refine a1c [rbx T n3 a3 e3 ps b3 6,.dead,.dead,.box [(.val (.int .i64 (3))),(.val (.int .i64 (0))),(.val (.int .i64 (0))),(sv s1),.list (l.map icv) (gnn l.length) (E7 l.length 5)],.dead,r7 l.length,o7 e3 b3.length] R9 ?_;refine ⟨⟨c1n,d1D,tt⟩,?_⟩;refine D5 rfl d5Z ⟨⟨c1n,d1D,tt⟩,?_⟩;refine A9 rfl rfl (D9 rfl tt tt rfl si_ R6 t_5 t_1 c5E t_6 rfl (.inr rfl) X0 b2C H3 ((l++[x3]).map icv) (l++[x3]).length si_ si_ ?_);refine ⟨tt,?_⟩;refine d11 ?_; refine a3E ?_;exact ⟨⟨l++[x3],n3,a3,e3,b3,true,g⟩,[0,1,2,3,6,7],⟨hme,fun h0=>(hst.1 h0).2.elim fun j hj=>⟨by rw [hj.2,<- hj.1],(hfu h0).2⟩,hst.2,y3,w3,hl2⟩,⟨rfl,rfl⟩,c4E,⟨.inr ⟨_,rfl,.box ⟨.old a16,.old (.val _),.old (.val _),.old (.val _),.old O0,a2x rfl,.old a5J,tt⟩⟩,.inl rfl,.inl rfl,.inr ⟨_,rfl,.box ⟨.old (.val _),.old (.val _),.old (.val _),.old (.val _),r8.grow (f:=icv) (fun _=>⟨.val _,tt⟩) rfl,tt⟩⟩,.inr ⟨_,rfl,.same rfl P6⟩,.inr ⟨_,rfl,.same rfl s9⟩,tt⟩⟩
             ·have hl:l=[]:=by
               cases l with
               | nil=>rfl
               | cons x l=>simp at h41 <;> omega
              subst hl;rw [b6L hg9] at hS;simp only [agS] at hS;have q2:Ok 0 (some m) 0 m:=.some;refine i8 ?_; refine d2W ?_; refine chf rfl (d6 rfl b5g) ?_; refine a6M ?_; refine chf rfl (d6 rfl S8) ?_; refine D2 ?_;refine A9 rfl rfl (b9 rfl b6E j1 (hE g om_ (d+1) m a2 0 b2 hm hb2 om_ (fun _=>by omega) _ 0 (kg5 ph) a1s) rfl ?_);rintro ⟨x3,n3,a3,e3,b3⟩ ⟨k3,y3,w3,z3,l3,u3⟩;dsimp only at k3 y3 w3 z3 l3 u3 ⊢;have hls:=S9 ([]:List Int) x3;have hfu:e3=0->m < n3/\n < n3/\(([]:List Int)++[x3]).length<=n3/\8*(T.length - n3)+7<=g:=fun h0=>by have:=z3 h0; omega
              have hme:(if e3=0 then T.length - n3+1 else 0) < (if (0:Int)=0 then T.length - m+1 else 0):=by
               rw [if_pos rfl]
               split
               ·rename_i h0;have:=hfu h0;omega
               ·omega
              have hl2:(([]:List Int)++[x3]).length<=T.length/\g<=f:=by omega
              have hst:=b5L hS q2 k3;refine a1c [rbx T n3 a3 e3 ps b3 6,.dead,.dead,.box [(.val (.int .i64 (3))),(.val (.int .i64 (0))),(.val (.int .i64 (0))),(sv s1),.list ([].map icv) (gnn ([]:List Int).length) (E7 ([]:List Int).length 5)],.dead,r7 ([]:List Int).length,o7 e3 b3.length] R9 ?_;refine ⟨⟨c1n,d1D,tt⟩,?_⟩;refine D5 rfl d5Z ⟨⟨c1n,d1D,tt⟩,?_⟩;refine A9 rfl rfl (D9 rfl tt tt rfl si_ R6 t_5 t_1 c5E t_6 rfl (.inr rfl) X0 b2C H3 (([]++[x3]).map icv) ([]++[x3]).length si_ si_ ?_);refine ⟨tt,?_⟩;refine d11 ?_; refine a3E ?_;exact ⟨⟨[]++[x3],n3,a3,e3,b3,true,g⟩,[0,1,2,3,6,7],⟨hme,fun h0=>(hst.1 h0).2.elim fun j hj=>⟨by rw [hj.2,<- hj.1],(hfu h0).2⟩,hst.2,y3,w3,hl2⟩,⟨rfl,rfl⟩,c4E,⟨.inr ⟨_,rfl,.box ⟨.old a16,.old (.val _),.old (.val _),.old (.val _),.old O0,a2x rfl,.old a5J,tt⟩⟩,.inl rfl,.inl rfl,.inr ⟨_,rfl,.box ⟨.old (.val _),.old (.val _),.old (.val _),.old (.val _),r8.grow (f:=icv) (fun _=>⟨.val _,tt⟩) rfl,tt⟩⟩,.inr ⟨_,rfl,.same rfl P6⟩,.inr ⟨_,rfl,.same rfl s9⟩,tt⟩⟩
            ·have hi9:v9=true:=by simpa using h40
             obtain ⟨_,hq9⟩:=R2 (hv9.symm.trans hi9);have hmm:=hs9 hi9;subst m9;rw [c3e hq9,n_5] at hS;refine a9I ?_; refine cY a88 ?_; refine cY j7 ?_;refine cD (b9 rfl a4D B9 (M5 hb2 ⟨3,0,0,s1,l⟩ _ (q:=0) (s:=kg5 ph) a1s) rfl ?_); rintro ⟨x6,a6,e6,b6⟩ ⟨k6,w6,l6,u6⟩;dsimp only at k6 w6 l6 u6 ⊢;refine c8 [rbx T (m+1) a6 e6 ps b6 6,.dead,.dead,.box [(.val (.int .i64 (3))),(.val (.int .i64 (0))),(.val (.int .i64 (0))),(sv s1),.list (l.map icv) (gnn l.length) (E7 l.length 5)],.dead,r7 l.length,o7 e6 b6.length] R9 ?_; refine z_7 ?_;exact ⟨_,j5 rfl tt c6,(by exact ⟨⟨x6,m+1,a6,e6,b6⟩,R0 (k:=6) rfl rfl de_ (.val _),⟨by rw [hS]; exact a1D k6,do_,w6,fun h0=>by dsimp only; omega,l6,u6⟩⟩)⟩
           ·
            refine b6M ?_; refine cC (fun h42=>?_) fun h42=>?_
            ·have he:e≠0:=by simpa using hg
             simp [he] at h42
            ·have he:e≠0:=by simpa using hg
             refine a9I ?_; refine cY a88 ?_; refine cY j7 ?_;refine cD (b9 rfl a4D B9 (M5 hb2 ⟨3,0,0,s1,l⟩ _ (q:=0) (s:=kg5 ph) a1s) rfl ?_); rintro ⟨x6,a6,e6,b6⟩ ⟨k6,w6,l6,u6⟩;dsimp only at k6 w6 l6 u6 ⊢;refine c8 [rbx T m a6 e6 ps b6 6,.dead,.dead,.box [(.val (.int .i64 (3))),(.val (.int .i64 (0))),(.val (.int .i64 (0))),(sv s1),.list (l.map icv) (gnn l.length) (E7 l.length 5)],.dead,r7 l.length,o7 e6 b6.length] R9 ?_; refine z_7 ?_;exact ⟨_,j5 rfl tt c6,(by exact ⟨⟨x6,m,a6,e6,b6⟩,R0 (k:=6) rfl rfl de_ (.val _),.dead (fun _=>hN he) (k6.2 he) hm w6 ⟨l6,u6⟩⟩)⟩
theorem c2L {ps:List Str} (hc:Y1 T ps) (H:∀ g,g < f0->REC T ps g):RFC T ps f0:=fun d n at_ b hn hb hd hf σ q s hσ=>by
 obtain ⟨f,rfl⟩:∃ f,f0=f+1:=⟨f0 - 1,om_⟩;exact a1t (c:=fun a:RX=>(.val (.int .i64 a.x))) (N:=fun a=>a.n) (A:=fun a=>a.at_) (E:=fun a=>a.e) (B:=fun a=>a.b) (fun _ h=>by simp at h; subst h; exact .val _) (fun _=>.val _) (b9a hc (fun g hg=>H g om_) d n at_ b hn hb hd hf) hσ
theorem d36 {ps:List Str} (hc:Y1 T ps):∀ f,REC T ps f/\RSC T ps f/\RTC T ps f/\RFC T ps f:=fun f=>by
 induction f using Nat.strongRecOn with
 | ind f H =>
  exact ⟨c89 hc fun g hg=>⟨(H g hg).1,(H g hg).2.1⟩,d3o hc fun g hg=>(H g hg).2.2.1,c8W hc fun g hg=>(H g hg).2.2.2,c2L hc fun g hg=>(H g hg).1⟩
theorem c2k {l:List De} {p:De->Bool} {y:De} (h:l[i]? = some y) (hd:l.any p=(l.drop i).any p) (hy:p y=false):l.any p=(l.drop (i+1)).any p:=by
 obtain ⟨hlt,rfl⟩:=n_0.1 h;rw [hd,Q9 hlt,List.any_cons,hy,b0J]
theorem c3c {l:List De} {p:De->Bool} {y:De} (h:l[i]? = some y) (hy:p y=true):l.any p=true:=c2Y.2 ⟨y,n_1 h,hy⟩
theorem b8h (f:Src) (k:Int) (u:Str) (hl:f.decls.length<=1000000) (σ:List c5):b8 CC 224 [.agg f.cells,(.val (.int .i64 k)),(sv u)] σ fun r σ'=>r = .ret (.val (.bool (f.decls.any fun d=>(d.k == k) && decide (d.name=u))))/\σ'=σ:=by
 refine b8.anyw hCC pu_ pu_ ?_ σ;refine d4 (c4 Tryz.func224 rfl rfl ?_);refine a7h ?_; refine b1z ?_; refine o0 hCC (α:=Nat) (fun i=>[(1,(.val (.int .i64 k))),(2,(sv u)),(10,(.list (f.decls.map De.cv) (gnn f.decls.length) none)),(11,(.val (.int .i64 (f.decls.length:Int)))),(12,(.val (.int .i64 (i:Int))))]) (fun _=>[.box f.cells]) (fun i=>i<=f.decls.length/\(f.decls.any fun d=>(d.k == k) && decide (d.name=u))=((f.decls.drop i).any fun d=>(d.k == k) && decide (d.name=u))) (fun i=>f.decls.length - i) 0 ⟨n_3 _,rfl⟩ tu_ (extra0:=[]) rfl A1 uz_ ?_; intro i ⟨hi,hd⟩; refine F2 ?_; refine cC (fun h1=>?_) fun h1=>?_
 ·have hlt:i < f.decls.length:=by simp at h1; omega
  obtain ⟨w,hb⟩:∃ w,f.decls[i]? = some w:=⟨f.decls[i]'hlt,si_⟩;refine a1O ?_; refine d2L ?_; refine b8I ?_; refine U2 ?_; refine a5x ?_; refine cY j7 ?_; refine cY a2B ?_; refine cY j7 ?_; refine cG c1l ?_; refine b6g ?_; refine a6J ?_; refine cC (fun h2=>?_) fun h2=>?_
  ·have hw:((w.k == k) && decide (w.name=u))=true:=by simpa using h2
   refine G5 ?_;exact ⟨_,j5 rfl tt c6,_,_,rfl,rfl,j4 (show true=(f.decls.any fun d=>(d.k == k) && decide (d.name=u)) from (c3c hb hw).symm)⟩
  ·have hw:((w.k == k) && decide (w.name=u))=false:=by simpa using h2
   refine a2h ?_;exact ⟨(i+1),_,⟨om_,om_,c2k hb hd hw⟩,tu_,rfl⟩
 ·have hge:f.decls.length<=i:=by simp at h1; omega
  refine a3y ?_;exact ⟨_,j5 rfl tt c6,_,_,rfl,rfl,j4 (show false=(f.decls.any fun d=>(d.k == k) && decide (d.name=u)) by rw [hd,U5 hge]; rfl)⟩
theorem c0P {n k:Nat} {at_ e:Int} {ps:List Str} {b:List Ex} {c':CV} (h0:τ[0]? = some (rbx T n at_ e ps b k)) (hk:τ[k]? = some (o7 e b.length)) (h2:2<=k) (hc:∀ sel,r8 2 sel c c'):C6 2 τ (.ret c) (.ret c') (a55 T n at_ e ps b):=by
 obtain ⟨sel,a1,a2,_,a4⟩:=R0 h0 hk h2 (.val (.int .i64 0));exact ⟨sel,a1,a2,.ret (hc sel),a4⟩
theorem b8d {f:FuncId} {c:α->CV} {Z:α->List Str} {n:Nat} {at_ e:Int} {ps:List Str} {b:List Ex} (hargs:∀ a∈args,p9 a) (hc:∀ a,p9 (c a))
 (h:b8 CC f (.ptr 0 0::args) (rst T n at_ e ps b) fun r τ=>∃ a,C6 2 τ r (.ret (c a)) (a55 T (N a) (A a) (E a) (Z a) (B a))/\P a) {σ:List c5} {q s:Nat} (hσ:RAt σ q s T n at_ e ps b) :
 b8 CC f (.ptr q 0::args) σ fun r τ=>∃ a,r = .ret (c a)/\τ=rS1 σ q s T (N a) (A a) (E a) (Z a) (B a)/\P a:=by
 obtain ⟨h1,h2,h3⟩:=hσ;have hq:=(n_0.1 h1).1;have hs:=(n_0.1 h2).1;have h':b8 CC f (.ptr 0 0::args) (rst T n at_ e ps b) fun r τ=>∃ a,r = .ret (c a)/\τ=a55 T (N a) (A a) (E a) (Z a) (B a)/\P a :=
  N9 hCC (h.mono fun r τ ⟨a,k1,k2⟩=>⟨_,_,k1,a,rfl,rfl,k2⟩)
 refine H5 [q,s] hCC rfl (fun i j k g1 g2=>?_) (fun i k ob g1 g2=>?_) (.cons (.ptr rfl) (M4 hargs)) h' fun r τ hk=>?_
 ·rcases i with _ | _ | i <;> rcases j with _ | _ | j <;> simp at g1 g2 <;> first|rfl|(exfalso; exact h3 (g1.trans g2.symm))|(exfalso; exact h3 (g2.trans g1.symm))
 ·rcases i with _ | _ | i
  ·simp at g1 g2;subst g1 g2;exact ⟨_,h1,a6U rfl⟩
  ·simp at g1 g2;subst g1 g2;exact ⟨_,h2,a4d _ _⟩
  ·simp at g1
 ·obtain ⟨a,rfl,rfl,hp⟩:=hk;refine ⟨si_,.ret (c a),rS1 σ q s T (N a) (A a) (E a) (Z a) (B a),.ret (.pure (hc a)),si_,fun k hk hks=>?_,fun i k x ha hx=>?_,a,rfl,rfl,hp⟩
  ·have n1:q≠k:=fun e=>hks a2u;have n2:s≠k:=fun e=>hks a2u;rw [L4 a3F];simp [n1,n2]
  ·rcases ha with ha | ⟨ha,rfl⟩
   ·rcases i with _ | _ | i
    ·simp at ha hx;subst ha hx;refine ⟨rbx T (N a) (A a) (E a) (Z a) (B a) σ.length,?_,a6U (.inr ⟨si_,si_⟩)⟩;rw [L4 a9l,a3q h3.symm];simp [hq]
    ·simp at ha hx;subst ha hx;refine ⟨.dead,?_,.dead⟩;rw [L4 (by simpa using hs)];simp [hs]
    ·simp at ha
   ·rcases i with _ | _ | _ | i
    ·simp at ha
    ·simp at ha
    ·simp at hx;subst hx;refine ⟨o7 (E a) (B a).length,?_,a4d _ _⟩;rw [a0a si_];simp
    ·simp at hx
theorem c99:C9 [102,117,110,99]=1:=by decide
theorem c9L:C9 [116,101,115,116]=2:=by decide
theorem c8Z:C9 [103,101,110]=3:=by decide
theorem c94 (h1:¬ u=[102,117,110,99]) (h2:¬ u=[116,101,115,116]) (h3:¬ u=[103,101,110]):C9 u=0:=by
 have e:dkL=[([102,117,110,99],1),([116,101,115,116],2),([103,101,110],3)]:=by decide
 rw [C9,e];simp only [glk,if_neg h1,if_neg h2,if_neg h3];rfl
theorem d4E {n:Nat} (h1:isT (tk T n) 1 [102,117,110,99]=false) (h2:isT (tk T n) 1 [116,101,115,116]=false) (h3:isT (tk T n) 1 [103,101,110]=false):(tk T n).k≠1\/C9 (tk T n).t=0:=by
 by_cases hk:(tk T n).k=1
 ·exact .inr (c94 (a3V h1 hk) (a3V h2 hk) (a3V h3 hk))
 ·exact .inl hk
theorem Ok.of {e:Int} (h1:e'=0->e=0/\o=Option.some y) (h2:e'≠0->e=0->o=Option.none):Ok e o e' y :=
 ⟨fun h=>by
  by_cases h':e'=0
  ·exact .inl ⟨(h1 h').2,h'⟩
  ·exact .inr ⟨h2 h' h,h'⟩,fun h h'=>h (h1 h').1⟩
theorem Ok.pre {e:Int} (h:Ok e1 o e' y) (h1:e=0->e1=0) (h2:e≠0->e1≠0):Ok e o e' y:=⟨fun h0=>h.1 (h1 h0),fun h0=>h.2 (h2 h0)⟩
def a5A (T:List Tok) (m:Nat) (l:List Str):Option (List Str × Nat) :=
 if l=[] then (if isT (tk T m) 4 [41]=true then Option.some ([],m+1) else a0H 9 T m [])
 else if isT (tk T m) 4 [44]=true then a0H (9 - l.length) T (m+1) l else (pIs T m 4 [41]).bind fun m'=>Option.some (l,m')
theorem c3J {n m:Nat} (h:pIs T n 4 [40]=some m):G7 T n=a5A T m []:=by
 rw [G7,h,n_5,a5A,if_pos rfl]
theorem c3A {m:Nat} {l:List Str} (h:isT (tk T m) 4 [41]=true):a5A T m l=some (l,m+1):=by
 unfold a5A;by_cases hl:l=[]
 ·rw [if_pos hl,if_pos h,hl]
 ·rw [if_neg hl,if_neg (by simp [isT,(O5 h).2]),pIs,if_pos h];rfl
def b3P (T:List Tok) (m:Nat) (l:List Str):Option Nat:=if l=[] then some m else pIs T m 4 [44]
theorem b8R {m:Nat} {l:List Str} (h:isT (tk T m) 4 [41]=false):a5A T m l=(b3P T m l).bind fun m'=>a0H (9 - l.length) T m' l:=by
 unfold a5A b3P;by_cases hl:l=[]
 ·subst hl;rw [if_pos rfl,if_pos rfl,if_neg (by rw [h]; decide)];rfl
 ·rw [if_neg hl,if_neg hl];unfold pIs;by_cases h4:isT (tk T m) 4 [44]=true
  ·rw [if_pos h4,if_pos h4];rfl
  ·rw [if_neg h4,if_neg h4,if_neg (by rw [h]; decide)];rfl
theorem d4w {m:Nat} {l:List Str} (hl:l.length<=8):a0H (9 - l.length) T m l=(F6 T m).bind fun x=>if l.length=8 then none else if x.1.t∈l then none else a5A T x.2 (l++[x.1.t]):=by
 obtain ⟨f,hf⟩:∃ f,9 - l.length=f+1:=⟨8 - l.length,om_⟩;rw [hf,a0H];refine congrArg _ (funext fun x=>?_);by_cases h8:l.length=8
 ·rw [if_pos h8,if_pos h8]
 ·rw [if_neg h8,if_neg h8];by_cases hm:x.1.t∈l
  ·rw [if_pos hm,if_pos hm]
  ·rw [if_neg hm,if_neg hm];unfold a5A;rw [show 9 - (l++[x.1.t]).length=f by simp; omega];exact (if_neg si_).symm
theorem a4S {m:Nat} {l:List Str} {S:Option (List Str × Nat)} {e4:Int} {s3:Str} (hl:l.length<=8) (hS:S=(b3P T m l).bind fun m'=>a0H (9 - l.length) T m' l) (q2:Ok 0 (b3P T m l) e2 n2) (q3:Ok e2 ((F6 T n2).map fun x=>(x.1.t,x.2)) e3 (s3,n3))
 (h1:l.length=8\/s3∈l->e4≠0) (h2:¬ l.length=8->¬ s3∈l->e4=e3) (h3:e3≠0->e4≠0):(e4=0->e3=0/\e2=0/\l.length < 8/\S=a5A T n3 (l++[s3]))/\(e4≠0->S=none):=by
 rcases q2.zero with ⟨g2,ho⟩ | ⟨g2,ho⟩
 ·subst g2;rw [ho,n_5,d4w hl] at hS
  rcases q3.zero with ⟨g3,hn⟩ | ⟨g3,hn⟩
  ·obtain ⟨x,hx,hg⟩:=Q1.1 hn;injection hg with hg1 hg2
   rw [hx,n_5,hg1,hg2] at hS;by_cases h8:l.length=8
   ·rw [if_pos h8] at hS;exact ⟨fun h=>absurd h (h1 (.inl h8)),fun _=>hS⟩
   ·rw [if_neg h8] at hS;by_cases hm:s3∈l
    ·rw [if_pos hm] at hS;exact ⟨fun h=>absurd h (h1 (.inr hm)),fun _=>hS⟩
    ·rw [if_neg hm] at hS;exact ⟨fun _=>⟨g3,rfl,om_,hS⟩,fun h=>absurd (by rw [h2 h8 hm,g3]) h⟩
  ·rw [b26.1 hn] at hS;exact ⟨fun h=>absurd h (h3 g3),fun _=>hS⟩
 ·rw [ho] at hS;exact ⟨fun h=>absurd h (h3 (q3.2 g2)),fun _=>hS⟩
structure RP5 where
 l:List Str
 m:Nat
 at_:Int
 e:Int
variable {m:Nat} {l:List Fi}
structure RD5 where
 d:De
 n:Nat
 at_:Int
 e:Int
 ps:List Str
 b:List Ex
variable {n d:Nat} {b:List Ex} {e at_:Int} {ps:List Str}
def RDP (T:List Tok) (bs:List De) (n:Nat) (a:RD5):Prop:=Ok 0 (W1 T bs n) a.e (a.d,a.n)/\a.n < T.length/\a.b.length<=256/\(a.e=0->n < a.n)
theorem d3T {l:List Str} (q:Ok 0 (b3P T m l) e2 n2) (h:e2=0):m<=n2:=by
 have h1:=(q.alive h).2;unfold b3P at h1;by_cases hl:l=[]
 ·rw [if_pos hl] at h1;injection h1 with h1
  omega
 ·rw [if_neg hl] at h1;have:=N6 h1;omega
theorem c8T {n6 n7 n8:Nat} {e5 e6 e7 e8 x7:Int} {s2:Str} {l:List Str} {b7:List Ex} (hu:¬ ((tk T n).k≠1\/C9 (tk T n).t=0)) (hkd:kd=C9 (tk T n).t) (p1:bs.length=64->e1≠0) (p2:bs.length≠64->e1=0) (q2:Ok e1 ((a0R T kd (n+1)).map fun x=>(x.1.t,x.2)) e2 (s2,n2))
 (p3:e2≠0->e3≠0) (p4:e2=0->(bs.any fun d=>(d.k == kd) && decide (d.name=s2))=true->e3≠0) (p5:e2=0->(bs.any fun d=>(d.k == kd) && decide (d.name=s2))=false->e3=0) (q5:Ok e3 (a0S T kd n2) e5 (l,m)) (q6:Ok e5 (pIs T m 4 [61]) e6 n6) (k7:Ok e6 (((s7 T l (8*T.length+6)).ex 1 n6 []).map cx) e7 (x7,n7,b7)) (q8:Ok e7 (pIs T n7 4 [59]) e8 n8) :
 Ok 0 (W1 T bs n) e8 (⟨kd,s2,l,b7⟩,n8):=by
 have d8:e3≠0->e8≠0:=fun h=>q8.2 (k7.2 (q6.2 (q5.2 h)));rw [W1,if_neg hu,<- hkd];by_cases h64:bs.length=64
 ·rw [if_pos h64];exact .none (d8 (p3 (q2.2 (p1 h64))))
 ·rw [if_neg h64];have he1:=p2 h64;subst he1;refine q2.bindM (fun p hp hg=>?_) fun h=>d8 (p3 h);obtain ⟨t,m2⟩:=p;injection hg with hg1 hg2
  dsimp only at hg1 hg2 ⊢;subst hg1 hg2;by_cases hin:(bs.any fun d=>(d.k == kd) && decide (d.name=t.t))=true
  ·rw [if_pos hin];by_cases h2:e2=0
   ·exact .none (d8 (p4 h2 hin))
   ·exact .none (d8 (p3 h2))
  ·rw [if_neg hin];refine Ok.pre ?_ (fun h=>p5 h (by simpa using hin)) p3;refine q5.bind (q6.bind ?_);refine k7.bindM (fun p hp hg=>?_) q8.2;obtain ⟨i,n7',b7'⟩:=p;injection hg with hg1 hg2
   injection hg2 with hg2 hg3
   dsimp only at hg2 hg3 ⊢;subst hg2 hg3;exact q8.bind .some
theorem c8Y {n6 n7 n8:Nat} {e5 e6 e7 e8 x7:Int} {s2:Str} {l:List Str} {b7:List Ex} (_:kd=C9 (tk T n).t) (_:bs.length=64->e1≠0) (_:bs.length≠64->e1=0) (q2:Ok e1 ((a0R T kd (n+1)).map fun x=>(x.1.t,x.2)) e2 (s2,n2))
 (p3:e2≠0->e3≠0) (_:e2=0->(bs.any fun d=>(d.k == kd) && decide (d.name=s2))=true->e3≠0) (_:e2=0->(bs.any fun d=>(d.k == kd) && decide (d.name=s2))=false->e3=0) (q5:Ok e3 (a0S T kd n2) e5 (l,m)) (q6:Ok e5 (pIs T m 4 [61]) e6 n6) (k7:Ok e6 (((s7 T l (8*T.length+6)).ex 1 n6 []).map cx) e7 (x7,n7,b7)) (z7:e7=0->n6 < n7) (q8:Ok e7 (pIs T n7 4 [59]) e8 n8) (h0:e8=0) :
 n < n8:=by
 have g8:=I2 q8 h0;have g7:=(k7.alive g8.1).1;have g6:=I2 q6 g7;have g5:=q5.alive g6.1;have h2:e2=0:=Classical.byContradiction fun h=>p3 h g5.1;obtain ⟨p,hp,hg⟩:=Q1.1 (q2.alive h2).2;obtain ⟨t,m2⟩:=p;injection hg with _ hg2
 dsimp only at hg2;subst hg2;have:=b51 hp;have:=b5X g5.2;have:=z7 g8.1;omega
theorem c7q (hc:Y1 T []) (pk:Str) (im:List Str) (bs:List De) (hbs:bs.length<=64) (n:Nat) (at_:Int) (b:List Ex) (hn:n < T.length):b8 CC 187 [.ptr 0 0,.agg (⟨pk,im,bs⟩:Src).cells] (rst T n at_ 0 ps b) (fun r τ=>∃ a:RD5,C6 2 τ r (.ret (.agg a.d.cells)) (a55 T a.n a.at_ a.e a.ps a.b)/\RDP T bs n a):=by
 have hT:=hc.len;have hW:=hc.w;refine (c4 Tryz.func187 rfl rfl ?_);refine b4l ?_; refine J7 [rbx T n at_ 0 ps b 1,o7 0 b.length,.dead] rfl ?_; refine a6m ?_;refine cD (r6 rfl a9t rfl o4 ?_);refine U2 ?_;refine cD (r6 rfl a9t rfl o4 ?_);refine a4s ?_; refine cY J2 ?_; refine cY c4R ?_;refine cD (j3 rfl tt rfl rfl c6 a3O (.inl rfl) rfl rfl (nb rfl) ?_);refine cY J2 ?_; refine cY b3b ?_;refine cD (j3 rfl tt rfl rfl c6 b2d (.inl rfl) rfl rfl (nb rfl) ?_);refine i7 ?_; refine J7 [rbx T n at_ 0 [] [] 2,o7 0 b.length,o7 0 ([]:List Ex).length,.box (⟨pk,im,bs⟩:Src).cells,.box (⟨0,[],[],[]⟩:De).cells,.box (⟨0,[],[],[]⟩:De).cells] rfl ?_; refine z_1 ?_; refine cY (c7 rfl a6E ⟨tt,tt⟩ (Z1 hT hn (q:=0) (s:=2) ⟨rfl,rfl,de_⟩) rfl) ?_; refine cY a3I ?_; refine z_2 ?_; refine L7 (α:=Int) (fun _=>[(0,.ptr 0 0),(3,.ptr 3 0),(4,.ptr 4 0),(5,.ptr 5 0),(6,(.val (.int .i64 ((tk T n).at_))))]) (fun kd=>[rbx T (n+1) at_ 0 [] [] 2,o7 0 b.length,o7 0 ([]:List Ex).length,.box (⟨pk,im,bs⟩:Src).cells,.box (⟨0,[],[],[]⟩:De).cells,.box (⟨kd,[],[],[]⟩:De).cells]) (fun kd=>kd=C9 (tk T n).t/\(tk T n).k=1/\(kd=1\/kd=2\/kd=3)/\n+1 < T.length) ?_ ?_
 ·
  refine z_1 ?_;refine cD (b9 rfl a9u o6 (W4 hT hn hW [102,117,110,99] (q:=0) (s:=2) ⟨rfl,rfl,de_⟩) rfl ?_);rintro ⟨v1,m1⟩ ⟨hv1,hs1,hf1,hm1⟩;dsimp only at hv1 hs1 hf1 hm1 ⊢;refine c8 [rbx T m1 at_ 0 [] [] 2,o7 0 b.length,o7 0 ([]:List Ex).length,.box (⟨pk,im,bs⟩:Src).cells,.box (⟨0,[],[],[]⟩:De).cells,.box (⟨0,[],[],[]⟩:De).cells] rfl ?_; refine i7 ?_; refine cC (fun h1=>?_) fun h1=>?_
  ·have hi1:v1=true:=by simpa using h1
   have hq:=(R2 (hv1.symm.trans hi1)).2;have hmm:=hs1 hi1;subst m1; refine A0 ?_; refine c4l ?_; refine i7 ?_;exact ⟨(1:Int),⟨by rw [(O5 hq).2,c99],(O5 hq).1,de_,hm1⟩,tu_,rfl⟩
  ·have hi1:v1=false:=by simpa using h1
   have hg1:=P7 hv1 hi1;have hmm:=hf1 hi1;subst m1; refine z_1 ?_;refine cD (b9 rfl a9u o6 (W4 hT hn hW [116,101,115,116] (q:=0) (s:=2) ⟨rfl,rfl,de_⟩) rfl ?_);rintro ⟨v2,m2⟩ ⟨hv2,hs2,hf2,hm2⟩;dsimp only at hv2 hs2 hf2 hm2 ⊢;refine c8 [rbx T m2 at_ 0 [] [] 2,o7 0 b.length,o7 0 ([]:List Ex).length,.box (⟨pk,im,bs⟩:Src).cells,.box (⟨0,[],[],[]⟩:De).cells,.box (⟨0,[],[],[]⟩:De).cells] rfl ?_; refine i7 ?_; refine cC (fun h2=>?_) fun h2=>?_
   ·have hi2:v2=true:=by simpa using h2
    have hq:=(R2 (hv2.symm.trans hi2)).2;have hmm:=hs2 hi2;subst m2; refine A0 ?_; refine c4l ?_; refine i7 ?_;exact ⟨(2:Int),⟨by rw [(O5 hq).2,c9L],(O5 hq).1,de_,hm2⟩,tu_,rfl⟩
   ·have hi2:v2=false:=by simpa using h2
    have hg2:=P7 hv2 hi2;have hmm:=hf2 hi2;subst m2; refine z_1 ?_;refine cD (b9 rfl a9u o6 (W4 hT hn hW [103,101,110] (q:=0) (s:=2) ⟨rfl,rfl,de_⟩) rfl ?_);rintro ⟨v3,m3⟩ ⟨hv3,hs3,hf3,hm3⟩;dsimp only at hv3 hs3 hf3 hm3 ⊢;refine c8 [rbx T m3 at_ 0 [] [] 2,o7 0 b.length,o7 0 ([]:List Ex).length,.box (⟨pk,im,bs⟩:Src).cells,.box (⟨0,[],[],[]⟩:De).cells,.box (⟨0,[],[],[]⟩:De).cells] rfl ?_; refine i7 ?_; refine cC (fun h3=>?_) fun h3=>?_
    ·have hi3:v3=true:=by simpa using h3
     have hq:=(R2 (hv3.symm.trans hi3)).2;have hmm:=hs3 hi3;subst m3; refine A0 ?_; refine c4l ?_; refine i7 ?_;exact ⟨(3:Int),⟨by rw [(O5 hq).2,c8Z],(O5 hq).1,de_,hm3⟩,tu_,rfl⟩
    ·have hi3:v3=false:=by simpa using h3
     have hg3:=P7 hv3 hi3;have hmm:=hf3 hi3;subst m3; refine z_4 ?_;refine cD (b9 rfl b5J a66 (a18 _ _ de_ (q:=0) (s:=2) ⟨rfl,rfl,de_⟩) rfl ?_);rintro ⟨x0,y0⟩ hy0;dsimp only at hy0 ⊢;refine c8 [rbx T n x0 y0 [] [] 2,o7 0 b.length,o7 y0 ([]:List Ex).length,.box (⟨pk,im,bs⟩:Src).cells,.box (⟨0,[],[],[]⟩:De).cells,.box (⟨0,[],[],[]⟩:De).cells] rfl ?_; refine U2 ?_; refine cY c01 ?_; refine c0v ?_; refine G3 ?_;exact ⟨_,A8 rfl c8A,(by exact ⟨⟨⟨0,[],[],[]⟩,n,x0,y0,[],[]⟩,c0P (k:=2) rfl rfl de_ (fun _=>b9F _ _ _ _ _),⟨by rw [W1,if_pos (d4E (P7 hv1 hi1) (P7 hv2 hi2) (P7 hv3 hi3))]; exact .none hy0,hn,n_3 _,fun h0=>absurd h0 hy0⟩⟩)⟩
 ·rintro kd E1 ⟨hkd,hk1,hk3,hn1⟩;have hu1:¬ ((tk T n).k≠1\/C9 (tk T n).t=0):=by rw [<- hkd]; omega
  refine L7 (α:=Int × Int) (fun _=>[(0,.ptr 0 0),(3,.ptr 3 0),(4,.ptr 4 0),(5,.ptr 5 0)]) (fun a=>[rbx T (n+1) a.1 a.2 [] [] 2,o7 0 b.length,o7 a.2 ([]:List Ex).length,.box (⟨pk,im,bs⟩:Src).cells,.box (⟨0,[],[],[]⟩:De).cells,.box (⟨kd,[],[],[]⟩:De).cells]) (fun a=>(bs.length=64->a.2≠0)/\(bs.length≠64->a.2=0)) ?_ ?_
  ·
   refine z_0 ?_; refine d06 ?_; refine G9 ?_; refine cC (fun h4=>?_) fun h4=>?_
   ·have h64:bs.length=64:=by simp at h4; omega
    refine c5F ?_; rintro ⟨x0,y0⟩ hy0;dsimp only at hy0 ⊢;refine c8 [rbx T (n+1) x0 y0 [] [] 2,o7 0 b.length,o7 y0 ([]:List Ex).length,.box (⟨pk,im,bs⟩:Src).cells,.box (⟨0,[],[],[]⟩:De).cells,.box (⟨kd,[],[],[]⟩:De).cells] rfl ?_; refine i7 ?_;exact ⟨(x0,y0),⟨fun _=>hy0,fun h=>absurd h64 h⟩,tu_,rfl⟩
   ·have h64:¬ bs.length=64:=by simp at h4; omega
    refine i8 ?_;exact ⟨(at_,0),⟨fun h=>absurd h h64,fun _=>rfl⟩,tu_,rfl⟩
  ·rintro ⟨a1,e1⟩ E2 ⟨p1,p2⟩;dsimp only at p1 p2 ⊢;refine z_1 ?_; refine cY (c7 rfl a6E ⟨tt,tt⟩ (Z1 hT hn1 (q:=0) (s:=2) ⟨rfl,rfl,de_⟩) rfl) ?_; refine cY a3I ?_; refine z_2 ?_; refine L7 (α:=Str × Nat × Int × Int) (fun _=>[(0,.ptr 0 0),(3,.ptr 3 0),(4,.ptr 4 0),(5,.ptr 5 0),(6,(.val (.int .i64 ((tk T (n+1)).at_))))]) (fun a=>[rbx T a.2.1 a.2.2.1 a.2.2.2 [] [] 2,o7 0 b.length,o7 a.2.2.2 ([]:List Ex).length,.box (⟨pk,im,bs⟩:Src).cells,.box (⟨0,[],[],[]⟩:De).cells,.box (⟨kd,a.1,[],[]⟩:De).cells]) (fun a=>Ok e1 ((a0R T kd (n+1)).map fun x=>(x.1.t,x.2)) a.2.2.2 (a.1,a.2.1)/\a.2.1 < T.length) ?_ ?_
   ·
    refine z_0 ?_; refine a5x ?_; refine G9 ?_; refine cC (fun h5=>?_) fun h5=>?_
    ·have hk:kd=3:=by simpa using h5
     have hh:∀ m,a0R T kd m=V0 T m:=fun m=>if_pos hk;refine z_5 ?_;refine cD (b9 rfl c0A o6 (a9V hT hn1 hW true hc.l (q:=0) (s:=2) ⟨rfl,rfl,de_⟩) rfl ?_);rintro ⟨s2,n2,a2,e2⟩ ⟨q2,y2⟩;dsimp only at q2 y2 ⊢;rw [a3g] at q2;refine d0K ?_; refine d1Q ?_;exact ⟨(s2,n2,a2,e2),⟨by rw [hh]; exact q2,y2⟩,tu_,rfl⟩
    ·have hk:¬ kd=3:=by simpa using h5
     have hh:∀ m,a0R T kd m=F6 T m:=fun m=>if_neg hk;refine z_5 ?_;refine cD (b9 rfl c6X ⟨tt,tt⟩ (a7t hT hn1 hW (q:=0) (s:=2) ⟨rfl,rfl,de_⟩) rfl ?_);rintro ⟨s2,n2,a2,e2⟩ ⟨q2,y2⟩;dsimp only at q2 y2 ⊢;refine d0K ?_; refine d1Q ?_;exact ⟨(s2,n2,a2,e2),⟨by rw [hh]; exact q2,y2⟩,tu_,rfl⟩
   ·rintro ⟨s2,n2,a2,e2⟩ E3 ⟨q2,y2⟩;dsimp only at q2 y2 ⊢;refine L7 (α:=Int × Int) (fun _=>[(0,.ptr 0 0),(4,.ptr 4 0),(5,.ptr 5 0)]) (fun a=>[rbx T n2 a.1 a.2 [] [] 2,o7 0 b.length,o7 a.2 ([]:List Ex).length,.box (⟨pk,im,bs⟩:Src).cells,.box (⟨0,[],[],[]⟩:De).cells,.box (⟨kd,s2,[],[]⟩:De).cells]) (fun a=>(e2≠0->a.2≠0)/\(e2=0->(bs.any fun d=>(d.k == kd) && decide (d.name=s2))=true->a.2≠0)/\(e2=0->(bs.any fun d=>(d.k == kd) && decide (d.name=s2))=false->a.2=0)) ?_ ?_
    ·
     refine a5O ?_; refine a4O ?_; refine cG (fun hg=>Q0 rfl tt rfl b8o a3m rfl (nb rfl)) ?_; refine cG (fun hg=>j2 rfl tt rfl b4z rfl t_1 de_) ?_; refine cG b0R ?_; refine cG c1l ?_; refine cG a0X ?_; refine cG (fun hg=>c7 rfl Tryz.call224 ⟨hg,hg,hg,tt⟩ (b8h ⟨pk,im,bs⟩ kd s2 (by show bs.length<=1000000; omega) _) rfl) ?_; refine a6J ?_; refine cC (fun h6=>?_) fun h6=>?_
     ·have ht:e2=0/\(bs.any fun d=>(d.k == kd) && decide (d.name=s2))=true:=by simpa using h6
      refine c5F ?_; rintro ⟨x0,y0⟩ hy0;dsimp only at hy0 ⊢;refine c8 [rbx T n2 x0 y0 [] [] 2,o7 0 b.length,o7 y0 ([]:List Ex).length,.box (⟨pk,im,bs⟩:Src).cells,.box (⟨0,[],[],[]⟩:De).cells,.box (⟨kd,s2,[],[]⟩:De).cells] rfl ?_; refine i7 ?_;exact ⟨(x0,y0),⟨fun _=>hy0,fun _ _=>hy0,fun _ h=>by rw [ht.2] at h; cases h⟩,tu_,rfl⟩
     ·have ht:¬ (e2=0/\(bs.any fun d=>(d.k == kd) && decide (d.name=s2))=true):=fun h=>by simp [h.1,h.2] at h6
      refine i8 ?_;exact ⟨(a2,e2),⟨fun h=>h,fun h0 h=>absurd ⟨h0,h⟩ ht,fun h0 _=>h0⟩,tu_,rfl⟩
    ·rintro ⟨a3,e3⟩ E4 ⟨p3,p4,p5⟩;dsimp only at p3 p4 p5 ⊢;refine b4c hCC 6 rfl (α:=RP5) (fun _=>[(0,.ptr 0 0),(4,.ptr 4 0),(5,.ptr 5 0)]) (fun a=>[rbx T a.m a.at_ a.e [] [] 2,o7 0 b.length,o7 a.e ([]:List Ex).length,.dead,.box (⟨0,[],[],[]⟩:De).cells,.box (⟨kd,s2,a.l,[]⟩:De).cells]) (fun a=>Ok e3 (a0S T kd n2) a.e (a.l,a.m)/\a.m < T.length/\a.l.length<=9) ?_ ?_
     ·
      refine z_0 ?_; refine a5x ?_; refine G9 ?_; refine cC (fun h7=>?_) fun h7=>?_
      ·have hk:kd=1:=by simpa using h7
       have hp:a0S T kd n2=G7 T n2:=if_pos hk;rw [hp];refine z_1 ?_;refine cD (b9 rfl a3N o6 (L1 hT y2 hW [40] (q:=0) (s:=2) ⟨rfl,rfl,de_⟩) rfl ?_);rintro ⟨n4,a4,e4⟩ ⟨q4,y4⟩;dsimp only at q4 y4 ⊢;refine c8 [rbx T n4 a4 e4 [] [] 2,o7 0 b.length,o7 e4 ([]:List Ex).length,.box (⟨pk,im,bs⟩:Src).cells,.box (⟨0,[],[],[]⟩:De).cells,.box (⟨kd,s2,[],[]⟩:De).cells] rfl ?_; refine a5q ?_;refine A2 hCC 6 rfl (α:=RP5) (fun _=>[(0,.ptr 0 0),(4,.ptr 4 0),(5,.ptr 5 0)]) (fun a=>[rbx T a.m a.at_ a.e [] [] 2,o7 0 b.length,o7 a.e ([]:List Ex).length,.dead,.box (⟨0,[],[],[]⟩:De).cells,.box [(.val (.int .i64 kd)),(sv s2),.list (a.l.map scv) (gnn a.l.length) (E7 a.l.length 6),.list [] false none],r7 a.l.length]) (fun a=>(a.e=0->e3=0/\G7 T n2=a5A T a.m a.l/\n2 < a.m/\a.l.length<=8)/\(a.e≠0->e3=0->G7 T n2=none)/\a.m < T.length/\a.l.length<=9) (fun a=>if a.e=0 then 10 - a.l.length else 0) ⟨⟨[],n4,a4,e4⟩,[0,1,2,3,4,5,10],⟨fun h0=>⟨(I2 q4 h0).1,c3J (q4.alive h0).2,by have:=(I2 q4 h0).2; dsimp only; omega,n_3 _⟩,fun h0 h3=>by
        subst h3
        rcases q4.zero with ⟨h,_⟩ | ⟨_,h⟩
        ·exact absurd h h0
        ·rw [G7,h]; rfl,y4,n_3 _⟩,⟨rfl,rfl⟩,a3Q,⟨.inr ⟨_,rfl,.same rfl a2k⟩,.inr ⟨_,rfl,.same rfl P6⟩,.inr ⟨_,rfl,.same rfl P6⟩,.inl rfl,.inr ⟨_,rfl,.same rfl a3B⟩,.inr ⟨_,rfl,.same rfl (s8 ⟨.val _,.val _,A5 _ [] _,J5 _ [] _,tt⟩)⟩,.inl rfl,tt⟩⟩ ?_
       intro ⟨l,m,a5,e⟩ ⟨hI,hN,hm,hl9⟩;dsimp only at hI hN hm hl9 ⊢;refine a9c ?_; refine a1b ?_;refine b6b (.val (.bool false)) rfl rfl tt rfl rfl (fun hg=>b9 rfl a75 ⟨hg,rfl,tt⟩ (U1 hT hm hW [41] (q:=0) (s:=2) ⟨rfl,rfl,de_⟩) rfl ?_) (fun hg=>?_)
       ·
        obtain rfl:e=0:=by simpa using hg
        obtain ⟨he3,hS,hnm,hl8⟩:=hI rfl;rintro ⟨v9,m9⟩ ⟨hv9,hs9,hf9,hm9⟩;dsimp only at hv9 hs9 hf9 hm9 ⊢;refine c8 [rbx T m9 a5 0 [] [] 2,o7 0 b.length,o7 0 ([]:List Ex).length,.dead,.box (⟨0,[],[],[]⟩:De).cells,.box [(.val (.int .i64 kd)),(sv s2),.list (l.map scv) (gnn l.length) (E7 l.length 6),.list [] false none],r7 l.length] rfl ?_; refine b6M ?_; refine cC (fun h8=>?_) fun h8=>?_
        ·have hi9:v9=false:=by simpa using h8
         have hg9:=P7 hv9 hi9;have hmm:=hf9 hi9;subst m9;rw [b8R hg9] at hS;refine a2L ?_; refine L7 (α:=Nat × Int × Int) (fun _=>[(0,.ptr 0 0),(4,.ptr 4 0),(5,.ptr 5 0)]) (fun a=>[rbx T a.1 a.2.1 a.2.2 [] [] 2,o7 0 b.length,o7 a.2.2 ([]:List Ex).length,.dead,.box (⟨0,[],[],[]⟩:De).cells,.box [(.val (.int .i64 kd)),(sv s2),.list (l.map scv) (gnn l.length) (E7 l.length 6),.list [] false none],r7 l.length]) (fun a=>Ok 0 (b3P T m l) a.2.2 a.1/\a.1 < T.length) ?_ ?_
         ·
          refine z_0 ?_; refine a5L ?_; refine a7B ?_; refine cC (fun h9=>?_) fun h9=>?_
          ·have hl:l≠[]:=by intro hl; subst hl; simp at h9
           refine z_5 ?_;refine cD (b9 rfl a3N o6 (L1 hT hm hW [44] (q:=0) (s:=2) ⟨rfl,rfl,de_⟩) rfl ?_);rintro ⟨n5,a6,e5⟩ ⟨q5,y5⟩;dsimp only at q5 y5 ⊢;refine c8 [rbx T n5 a6 e5 [] [] 2,o7 0 b.length,o7 e5 ([]:List Ex).length,.dead,.box (⟨0,[],[],[]⟩:De).cells,.box [(.val (.int .i64 kd)),(sv s2),.list (l.map scv) (gnn l.length) (E7 l.length 6),.list [] false none],r7 l.length] rfl ?_; refine i7 ?_;exact ⟨(n5,a6,e5),⟨by rw [b3P,if_neg hl]; exact q5,y5⟩,tu_,rfl⟩
          ·have hl:l=[]:=by
            cases l with
            | nil=>rfl
            | cons x l=>simp at h9 <;> omega
           refine i8 ?_;exact ⟨(m,a5,0),⟨by rw [b3P,if_pos hl]; exact .some,hm⟩,tu_,rfl⟩
         ·rintro ⟨n5,a6,e5⟩ E5 ⟨q5,y5⟩;dsimp only at q5 y5 ⊢;refine z_1 ?_; refine cY (c7 rfl a6E ⟨tt,tt⟩ (Z1 hT y5 (q:=0) (s:=2) ⟨rfl,rfl,de_⟩) rfl) ?_; refine cY a3I ?_; refine M9 ?_;refine cD (b9 rfl c6X ⟨tt,tt⟩ (a7t hT y5 hW (q:=0) (s:=2) ⟨rfl,rfl,de_⟩) rfl ?_);rintro ⟨s6,n6,a7,e6⟩ ⟨q6,y6⟩;dsimp only at q6 y6 ⊢;have hls:=S9 l s6;refine c8 [rbx T n6 a7 e6 [] [] 2,o7 0 b.length,o7 e6 ([]:List Ex).length,.dead,.box (⟨0,[],[],[]⟩:De).cells,.box [(.val (.int .i64 kd)),(sv s2),.list (l.map scv) (gnn l.length) (E7 l.length 6),.list [] false none],r7 l.length] rfl ?_; refine z_2 ?_; refine a1R ?_; refine a5L ?_; refine a7B ?_; refine cC (fun h10=>?_) fun h10=>?_
          ·have h8:l.length=8:=by simp at h10; omega
           refine c5F ?_; rintro ⟨x0,y0⟩ hy0;dsimp only at hy0 ⊢;refine c8 [rbx T n6 x0 y0 [] [] 2,o7 0 b.length,o7 y0 ([]:List Ex).length,.dead,.box (⟨0,[],[],[]⟩:De).cells,.box [(.val (.int .i64 kd)),(sv s2),.list (l.map scv) (gnn l.length) (E7 l.length 6),.list [] false none],r7 l.length] rfl ?_; refine a2i ?_; refine b3j ?_; refine d2t ?_; refine cC (fun h11=>?_) fun h11=>?_
           ·refine c5F ?_; rintro ⟨x1,y1⟩ hy1;dsimp only at hy1 ⊢;refine d1K ?_; refine A0 ?_; refine b3j ?_; refine cY d0B ?_;refine cD (D9 rfl tt tt rfl si_ R6 t_2 t_0 a8h t_3 rfl (.inr rfl) X0 V5 H3 ((l++[s6]).map scv) (l++[s6]).length si_ si_ ?_);refine cY c0O ?_; refine b9G ?_;exact ⟨⟨l++[s6],n6,x1,y1⟩,[0,1,2,3,4,5,7],⟨by
             dsimp only;rw [if_neg hy1,if_pos rfl];omega,fun h=>absurd h hy1,fun h _=>(a4S hl8 hS q5 q6 (e4:=y1) (fun _=>hy1) (fun h h'=>absurd h8 h) (fun _=>hy1)).2 h,y6,do_⟩,⟨rfl,rfl⟩,a3Q,⟨.inr ⟨_,rfl,.same rfl a2k⟩,.inr ⟨_,rfl,.same rfl P6⟩,.inr ⟨_,rfl,.same rfl P6⟩,.inl rfl,.inr ⟨_,rfl,.same rfl a3B⟩,.inr ⟨_,rfl,.box ⟨.old (.val _),.old (.val _),r8.grow (f:=scv) (fun _=>⟨.val _,tt⟩) rfl,.old (J5 _ [] _),tt⟩⟩,.inr ⟨_,rfl,.same rfl s9⟩,tt⟩⟩
           ·refine i8 (A0 ?_);refine b3j ?_; refine cY d0B ?_;refine cD (D9 rfl tt tt rfl si_ R6 t_2 t_0 a8h t_3 rfl (.inr rfl) X0 V5 H3 ((l++[s6]).map scv) (l++[s6]).length si_ si_ ?_);refine cY c0O ?_; refine b9G ?_;exact ⟨⟨l++[s6],n6,x0,y0⟩,[0,1,2,3,4,5,7],⟨by
             dsimp only;rw [if_neg hy0,if_pos rfl];omega,fun h=>absurd h hy0,fun h _=>(a4S hl8 hS q5 q6 (e4:=y0) (fun _=>hy0) (fun h h'=>absurd h8 h) (fun _=>hy0)).2 h,y6,do_⟩,⟨rfl,rfl⟩,a3Q,⟨.inr ⟨_,rfl,.same rfl a2k⟩,.inr ⟨_,rfl,.same rfl P6⟩,.inr ⟨_,rfl,.same rfl P6⟩,.inl rfl,.inr ⟨_,rfl,.same rfl a3B⟩,.inr ⟨_,rfl,.box ⟨.old (.val _),.old (.val _),r8.grow (f:=scv) (fun _=>⟨.val _,tt⟩) rfl,.old (J5 _ [] _),tt⟩⟩,.inr ⟨_,rfl,.same rfl s9⟩,tt⟩⟩
          ·have h8:¬ l.length=8:=by simp at h10; omega
           refine a19 ?_; refine b3j ?_; refine d2t ?_; refine cC (fun h12=>?_) fun h12=>?_
           ·have hin:s6∈l:=by simpa using h12
            refine c5F ?_; rintro ⟨x1,y1⟩ hy1;dsimp only at hy1 ⊢;refine d1K ?_; refine A0 ?_; refine b3j ?_; refine cY d0B ?_;refine cD (D9 rfl tt tt rfl si_ R6 t_2 t_0 a8h t_3 rfl (.inr rfl) X0 V5 H3 ((l++[s6]).map scv) (l++[s6]).length si_ si_ ?_);refine cY c0O ?_; refine b9G ?_;exact ⟨⟨l++[s6],n6,x1,y1⟩,[0,1,2,3,4,5,7],⟨by
             dsimp only;rw [if_neg hy1,if_pos rfl];omega,fun h=>absurd h hy1,fun h _=>(a4S hl8 hS q5 q6 (e4:=y1) (fun _=>hy1) (fun _ h'=>absurd hin h') (fun _=>hy1)).2 h,y6,do_⟩,⟨rfl,rfl⟩,a3Q,⟨.inr ⟨_,rfl,.same rfl a2k⟩,.inr ⟨_,rfl,.same rfl P6⟩,.inr ⟨_,rfl,.same rfl P6⟩,.inl rfl,.inr ⟨_,rfl,.same rfl a3B⟩,.inr ⟨_,rfl,.box ⟨.old (.val _),.old (.val _),r8.grow (f:=scv) (fun _=>⟨.val _,tt⟩) rfl,.old (J5 _ [] _),tt⟩⟩,.inr ⟨_,rfl,.same rfl s9⟩,tt⟩⟩
           ·have hin:¬ s6∈l:=by simpa using h12
            refine i8 (A0 ?_);refine b3j ?_; refine cY d0B ?_;refine cD (D9 rfl tt tt rfl si_ R6 t_2 t_0 a8h t_3 rfl (.inr rfl) X0 V5 H3 ((l++[s6]).map scv) (l++[s6]).length si_ si_ ?_);refine cY c0O ?_; refine b9G ?_;exact ⟨⟨l++[s6],n6,a7,e6⟩,[0,1,2,3,4,5,7],⟨by
             dsimp only;rw [if_pos rfl]
             split <;> omega,fun h=>by obtain ⟨_,g5,g8,hS'⟩:=(a4S hl8 hS q5 q6 (e4:=e6) (fun h=>absurd h (by rintro (h | h) <;> contradiction)) (fun _ _=>rfl) id).1 h; have:=(a9P q6 h).2.1; have:=d3T q5 g5; exact ⟨he3,hS',do_,do_⟩,fun h _=>(a4S hl8 hS q5 q6 (e4:=e6) (fun h=>absurd h (by rintro (h | h) <;> contradiction)) (fun _ _=>rfl) id).2 h,y6,do_⟩,⟨rfl,rfl⟩,a3Q,⟨.inr ⟨_,rfl,.same rfl a2k⟩,.inr ⟨_,rfl,.same rfl P6⟩,.inr ⟨_,rfl,.same rfl P6⟩,.inl rfl,.inr ⟨_,rfl,.same rfl a3B⟩,.inr ⟨_,rfl,.box ⟨.old (.val _),.old (.val _),r8.grow (f:=scv) (fun _=>⟨.val _,tt⟩) rfl,.old (J5 _ [] _),tt⟩⟩,.inr ⟨_,rfl,.same rfl s9⟩,tt⟩⟩
        ·have hi9:v9=true:=by simpa using h8
         obtain ⟨_,hq9⟩:=R2 (hv9.symm.trans hi9);have hmm:=hs9 hi9;subst m9;rw [c3A hq9] at hS;refine z6 ?_;exact ⟨⟨l,m+1,a5,0⟩,[0,1,2,3,4,5],⟨Ok.of (fun _=>⟨he3,hS⟩) fun h=>absurd rfl h,hm9,hl9⟩,⟨rfl,rfl⟩,a3Q,⟨.inr ⟨_,rfl,.same rfl a2k⟩,.inr ⟨_,rfl,.same rfl P6⟩,.inr ⟨_,rfl,.same rfl P6⟩,.inl rfl,.inr ⟨_,rfl,.same rfl a3B⟩,.inr ⟨_,rfl,.box ⟨.old (.val _),.old (.val _),W6 (f:=scv) (fun _=>⟨.val _,tt⟩) _,.old (J5 _ [] _),tt⟩⟩,tt⟩⟩
       ·
        refine b6M ?_; refine cC (fun h13=>?_) fun h13=>?_
        ·have he:e≠0:=by simpa using hg
         simp [he] at h13
        ·have he:e≠0:=by simpa using hg
         refine z6 ?_;exact ⟨⟨l,m,a5,e⟩,[0,1,2,3,4,5],⟨Ok.of (fun h=>absurd h he) (fun h h3=>hN h h3),hm,hl9⟩,⟨rfl,rfl⟩,a3Q,⟨.inr ⟨_,rfl,.same rfl a2k⟩,.inr ⟨_,rfl,.same rfl P6⟩,.inr ⟨_,rfl,.same rfl P6⟩,.inl rfl,.inr ⟨_,rfl,.same rfl a3B⟩,.inr ⟨_,rfl,.box ⟨.old (.val _),.old (.val _),W6 (f:=scv) (fun _=>⟨.val _,tt⟩) _,.old (J5 _ [] _),tt⟩⟩,tt⟩⟩
      ·have hk:¬ kd=1:=by simpa using h7
       have hp:a0S T kd n2=some ([],n2):=if_neg hk;refine i8 ?_;exact ⟨⟨[],n2,a3,e3⟩,[0,1,2,3,4,5],⟨by rw [hp]; exact .some,y2,n_3 _⟩,⟨rfl,rfl⟩,a3Q,⟨.inr ⟨_,rfl,.same rfl a2k⟩,.inr ⟨_,rfl,.same rfl P6⟩,.inr ⟨_,rfl,.same rfl P6⟩,.inl rfl,.inr ⟨_,rfl,.same rfl a3B⟩,.inr ⟨_,rfl,.same rfl (s8 ⟨.val _,.val _,A5 _ [] _,J5 _ [] _,tt⟩)⟩,tt⟩⟩
     ·rintro ⟨l,m,a5,e5⟩ ⟨q5,y5,hl9⟩;dsimp only at q5 y5 hl9 ⊢;have hc':Y1 T l:=⟨hT,hW,hc.l,om_,hc.nn⟩;refine z_1 ?_; refine a5L ?_; refine cY J2 ?_; refine cY c4R ?_;refine cD (j3 rfl tt tt rfl c6 a3O (.inl rfl) rfl rfl (nb rfl) ?_);refine O3 ?_;refine cD (b9 rfl a3N o6 (L1 hT y5 hW [61] (q:=0) (s:=2) ⟨rfl,rfl,de_⟩) rfl ?_);rintro ⟨n6,a6,e6⟩ ⟨q6,y6⟩;dsimp only at q6 y6 ⊢;refine c8 [rbx T n6 a6 e6 l [] 2,o7 0 b.length,o7 e6 ([]:List Ex).length,.dead,.box (⟨0,[],[],[]⟩:De).cells,.box (⟨kd,s2,l,[]⟩:De).cells] rfl ?_; refine O3 ?_;refine cD (b9 rfl b6E o6 ((d36 hc' (8*T.length+6)).1 1 n6 a6 e6 [] y6 (n_3 _) de_ (fun _=>by omega) _ 0 2 ⟨rfl,rfl,de_⟩) rfl ?_);rintro ⟨x7,n7,a7,e7,b7⟩ ⟨k7,y7,w7,z7,l7,u7⟩;dsimp only at k7 y7 w7 z7 l7 u7 ⊢;refine c8 [rbx T n7 a7 e7 l b7 6,o7 0 b.length,.dead,.dead,.box (⟨0,[],[],[]⟩:De).cells,.box (⟨kd,s2,l,[]⟩:De).cells,o7 e7 b7.length] rfl ?_; refine O3 ?_;refine cD (b9 rfl a3N o6 (L1 hT y7 hW [59] (q:=0) (s:=6) ⟨rfl,rfl,de_⟩) rfl ?_);rintro ⟨n8,a8,e8⟩ ⟨q8,y8⟩;dsimp only at q8 y8 ⊢;refine c8 [rbx T n8 a8 e8 l b7 6,o7 0 b.length,.dead,.dead,.box (⟨0,[],[],[]⟩:De).cells,.box (⟨kd,s2,l,[]⟩:De).cells,o7 e8 b7.length] rfl ?_; refine b48 ?_; refine cY b3b ?_; refine cY a7o ?_; refine d1k ?_; refine U2 ?_; refine cY c01 ?_; refine c0v ?_; refine G3 ?_;exact ⟨_,A8 rfl c8A,(by exact ⟨⟨⟨kd,s2,l,b7⟩,n8,a8,e8,l,b7⟩,c0P (k:=6) rfl rfl de_ (fun _=>b9F _ _ _ _ _),⟨c8T hu1 hkd p1 p2 q2 p3 p4 p5 q5 q6 k7 q8,y8,w7,fun h0=>c8Y hkd p1 p2 q2 p3 p4 p5 q5 q6 k7 z7 q8 h0⟩⟩)⟩
theorem c9x (hc:Y1 T []) (pk:Str) (im:List Str) (bs:List De) (hbs:bs.length<=64) (hn:n < T.length) {s:Nat} (hσ:RAt σ q s T n at_ 0 ps b):b8 CC 187 [.ptr q 0,.agg (⟨pk,im,bs⟩:Src).cells] σ fun r τ=>∃ a:RD5,r = .ret (.agg a.d.cells)/\τ=rS1 σ q s T a.n a.at_ a.e a.ps a.b/\RDP T bs n a :=
 b8d (c:=fun a:RD5=>.agg a.d.cells) (N:=fun a=>a.n) (A:=fun a=>a.at_) (E:=fun a=>a.e) (Z:=fun a=>a.ps) (B:=fun a=>a.b) (fun _ h=>by simp at h; subst h; exact o8 (Src.pure _)) (fun a=>o8 a.d.pure) (c7q hc pk im bs hbs n at_ b hn) hσ
theorem b0t (s:Str):∀ (n f f' i:Nat),s.length - i < n->i<=s.length->s.length < f+i->s.length < f'+i->O8 f s i=O8 f' s i
 | 0,_,_,_,h,_,_,_=>by omega
 | n+1,f,f',i,h,hi,hf,hf'=>by
  obtain ⟨f,rfl⟩:∃ g,f=g+1:=⟨f - 1,om_⟩;obtain ⟨f',rfl⟩:∃ g,f'=g+1:=⟨f' - 1,om_⟩;have h1:=(a0K (s:=s) (a:=i) (ks:=[5]) hi);rw [O8,O8];cases hb:s[r4 s i [5]]? with
  | none=>rfl
  | some b =>
   have hlt:=(n_0.1 hb).1;simp only;by_cases h6:j9 b.toNat=6
   ·rw [if_pos h6,if_pos h6];have h2:=a6G hb h6;have h3:=a4k (s:=s) (a:=r4 s i [5]) om_;exact b0t s n f f' _ om_ h3 om_ om_
   ·rw [if_neg h6,if_neg h6];by_cases h4:(A7 s (r4 s i [5]) b).2.2≠0
    ·rw [if_pos h4,if_pos h4]
    ·rw [if_neg h4,if_neg h4];obtain ⟨e,he,h5,h7⟩:=a1h hb h4;rw [he,a23];rw [b0t s n f f' e om_ h7 om_ om_]
def a5o (s:Str) (i:Nat):Option (List Tok):=O8 (s.length+1 - i) s i
theorem a3n (hi:i<=s.length) (hf:s.length < f+i):O8 f s i=a5o s i:=b0t s (s.length+1 - i) f _ i om_ hi hf om_
theorem c5f (s:Str):a0D s=if 16384 < s.length then none else a5o s 0:=by
 unfold a0D
 split
 ·rfl
 ·exact a3n (n_3 _) om_
theorem c7m (h:i=s.length):a5o s i=some [⟨5,[],0,(i:Nat)⟩]:=by
 subst h;unfold a5o;rw [show s.length+1 - s.length=0+1 by omega,b5B (a78 (n_4 _)).symm (n_4 _)]
theorem b8A {b:UInt8} (h:s[i]? = some b) (hk:j9 b.toNat=5):a5o s i=a5o s (i+1):=by
 have hlt:=(n_0.1 h).1;rw [<- a3n (f:=s.length+1) om_ om_,<- a3n (f:=s.length+1) (i:=i+1) om_ om_];have:r4 s i [5]=r4 s (i+1) [5]:=by rw [N7 h,if_pos (by simp [inK,hk])]
 rw [O8,O8,this]
theorem c71 {b:UInt8} (h:s[i]? = some b) (hk:j9 b.toNat=6):a5o s i=a5o s (K5 s i):=by
 have hlt:=(n_0.1 h).1;have h1:i=r4 s i [5]:=by rw [N7 h,if_neg (by simp [inK,hk])]
 have h3:=a4k (s:=s) (a:=i) om_;rw [<- a3n (f:=s.length+1+1) (i:=i) om_ om_,b0V h1 h hk];exact a3n h3 om_
theorem c8C {b:UInt8} (h:s[i]? = some b) (h5:j9 b.toNat≠5) (h6:j9 b.toNat≠6):a5o s i=if (A7 s i b).2.2≠0 then none else (a5o s (A7 s i b).2.1.toNat).map (({ (A7 s i b).1 with at_:=(i:Nat)}:Tok)::·):=by
 have hlt:=(n_0.1 h).1;have h1:i=r4 s i [5]:=by rw [N7 h,if_neg (by simp [inK,h5])]
 rw [<- a3n (f:=s.length+1+1) (i:=i) om_ om_];by_cases h4:(A7 s i b).2.2≠0
 ·rw [b7g h1 h h6 h4,if_pos h4]
 ·obtain ⟨e,he,h7,h8⟩:=a1h h h4;rw [b45 h1 h h6 h4,if_neg h4,he,a23];rw [a3n h8 om_]
def SkP (s:Str) (i n:Nat):Prop:=i<=n/\n<=s.length/\a5o s i=a5o s n/\∀ b,s[n]? = some b->j9 b.toNat≠5/\j9 b.toNat≠6
theorem c0t (b:UInt8):(((((b.toNat:Int) == 32) || ((b.toNat:Int) == 9)) || ((b.toNat:Int) == 10)) || ((b.toNat:Int) == 13))=decide (j9 b.toNat=5):=by
 generalize (b.toNat:Int)=c;by_cases h:c=9\/c=10\/c=13\/c=32
 ·unfold j9;rw [if_neg om_,if_neg om_,if_neg om_,if_neg om_,if_pos h]
  rcases h with h | h | h | h <;> subst h <;> rfl
 ·have hk:j9 c≠5:=by
   unfold j9
   repeat' split
   all_goals omega
  rw [a3l hk];simp; omega
theorem c7U (b:UInt8):((b.toNat:Int) == 35)=decide (j9 b.toNat=6):=by
 generalize (b.toNat:Int)=c;by_cases h:c=35
 ·subst h; rfl
 ·have hk:j9 c≠6:=by
   unfold j9
   repeat' split
   all_goals omega
  rw [a3l hk];simpa using h
theorem c4y {b:UInt8} (h:s[a]? = some b) (hb:b≠10):K5 s a=K5 s (a+1):=by
 obtain ⟨hlt,rfl⟩:=n_0.1 h;unfold K5;rw [Q9 hlt,b6v,if_pos a80,n_7];omega
theorem c6H {b:UInt8} (h:s[a]? = some b) (hb:b=10):K5 s a=a:=by
 obtain ⟨hlt,rfl⟩:=n_0.1 h;unfold K5;rw [Q9 hlt,b6v,if_neg a80]; rfl
theorem c3R (h:s.length<=a):K5 s a=a:=by
 unfold K5;rw [U5 h]; rfl
theorem d01 {b:UInt8}:((b.toNat:Int)=10)↔b=10:=by
 constructor
 ·intro h;have:b.toNat=(10:UInt8).toNat:=by have e:(10:UInt8).toNat=10:=rfl; omega
  exact b2s.1 this
 ·rintro rfl; rfl
theorem c8y (s:Str) (hs:s.length<=1000000000) (i:Nat) (hi:i<=s.length):b8 CC 227 [(sv s),(.val (.int .i64 (i:Int)))] [] fun r τ=>∃ n:Nat,r = .ret (.val (.int .i64 (n:Int)))/\τ=[]/\SkP s i n:=by
 refine (c4 Tryz.func227 rfl rfl ?_);refine z_6 ?_; refine a8o ?_; refine o0 hCC (fun n:Nat=>[(0,(sv s)),(1,(.val (.int .i64 (n:Int))))]) (fun _=>[]) (fun n=>i<=n/\n<=s.length/\a5o s i=a5o s n) (fun n=>s.length - n) i ⟨n_4 _,hi,rfl⟩ tu_ (extra0:=[]) rfl A1 uz_ ?_; intro n ⟨hin,hn,hr⟩; refine b2E ?_; refine cC (fun h1=>?_) fun h1=>?_
 ·have hlt:n < s.length:=by simp at h1; omega
  obtain ⟨b,hb⟩:∃ b,s[n]? = some b:=⟨s[n]'hlt,si_⟩;refine a2L ?_; refine B7 ?_; refine z_4 ?_; refine cY c6T ?_; refine cY P1 ?_; refine a7Z ?_; refine cG d4e ?_; refine a5K ?_; refine a7Z ?_; refine cG d4e ?_; refine a5K ?_; refine a7Z ?_; refine cG d4e ?_; refine a5K ?_; refine z_2 ?_; refine cC (fun h2=>?_) fun h2=>?_
  ·have hk:j9 b.toNat=5:=by rw [c0t] at h2; simpa using h2
   refine a4M ?_;exact ⟨(n+1),_,⟨om_,om_,om_,by rw [hr,b8A hb hk]⟩,tu_,rfl⟩
  ·have hk5:j9 b.toNat≠5:=by rw [c0t] at h2; simpa using h2
   refine z_4 ?_; refine cY c6T ?_; refine a9M ?_; refine cC (fun h3=>?_) fun h3=>?_
   ·have hk6:j9 b.toNat=6:=by rw [c7U] at h3; simpa using h3
    have hle:=a6G hb hk6;have hl2:=a4k (s:=s) (a:=n) om_;refine B7 ?_; refine o0 hCC (fun m:Nat=>[(0,(sv s)),(1,(.val (.int .i64 (m:Int))))]) (fun _=>[]) (fun m=>n<=m/\m<=s.length/\K5 s n=K5 s m) (fun m=>s.length - m) n ⟨n_4 _,hn,rfl⟩ tu_ (extra0:=[]) rfl A1 uz_ ?_; intro m ⟨hnm,hm,hr2⟩;obtain ⟨c,hc⟩:∃ c:UInt8,m < s.length->s[m]? = some c:=by
     by_cases hlm:m < s.length
     ·exact ⟨s[m],fun _=>by simp [hlm]⟩
     ·exact ⟨0,fun h=>absurd h hlm⟩
    refine b6V ?_; refine a9j ?_; refine cC (fun h4=>?_) fun h4=>?_
    ·have h4':m < s.length/\¬ (c.toNat:Int)=10:=by simpa using h4
     have hcm:=hc h4'.1;have hc10:c≠10:=fun e=>h4'.2 (d01.2 e);refine a2L ?_; refine a4M ?_;exact ⟨(m+1),_,⟨om_,om_,om_,by rw [hr2,c4y hcm hc10]⟩,tu_,rfl⟩
    ·have hme:K5 s n=m:=by
      rw [hr2];by_cases hlm:m < s.length
      ·have h4':(c.toNat:Int)=10:=by
        have:m < s.length->(c.toNat:Int)=10:=by simpa using h4
        exact this hlm
       exact c6H (hc hlm) (d01.1 h4')
      ·exact c3R om_
     refine z6 ?_;exact ⟨m,_,⟨om_,om_,om_,by rw [hr,c71 hb hk6,hme]⟩,tu_,rfl⟩
   ·have hk6:j9 b.toNat≠6:=by rw [c7U] at h3; simpa using h3
    refine a8B ?_;exact ⟨_,j5 rfl tt c6,⟨n,rfl,rfl,hin,hn,hr,fun b' hb'=>by rw [hb] at hb'; injection hb' with hb'; subst hb'; exact ⟨hk5,hk6⟩⟩⟩
 ·have hge:n=s.length:=by simp at h1; omega
  refine a33 ?_;exact ⟨_,j5 rfl tt c6,⟨n,rfl,rfl,hin,hn,hr,fun b hb=>by have:=(n_0.1 hb).1; omega⟩⟩
theorem c1t (s:Str) (hs:s.length<=1000000000) (i:Nat) (hi:i<=s.length) (σ:List c5):b8 CC 227 [(sv s),(.val (.int .i64 (i:Int)))] σ fun r τ=>∃ n:Nat,r = .ret (.val (.int .i64 (n:Int)))/\τ=σ/\SkP s i n :=
 d02 (c:=fun n:Nat=>(.val (.int .i64 (n:Int)))) hCC (fun a h=>by simp at h; rcases h with rfl | rfl <;> exact .val _) (fun _=>.val _) ((c8y s hs i hi).mono fun r τ ⟨n,h1,h2,h3⟩=>⟨n,by rw [h1]; exact c9A (.old (.val _)),h3⟩) σ
theorem b32:∀ a:Str,Op.bytesLess a a=false
 | []=>rfl
 | x::a=>by simp [Op.bytesLess,b32 a]
theorem a7K:∀ {a b c:Str},Op.bytesLess a b=true->Op.bytesLess b c=true->Op.bytesLess a c=true
 | [],[],_,h,_=>by cases h
 | [],_::_,[],_,h=>by cases h
 | [],_::_,_::_,_,_=>rfl
 | _::_,[],_,h,_=>by cases h
 | _::_,_::_,[],_,h=>by cases h
 | x::a,y::b,z::c,h1,h2=>by
  simp only [Op.bytesLess,a4T,a5s,Y0,beq_iff_eq] at h1 h2 ⊢
  rcases h1 with h1 | ⟨h1,h1'⟩ <;> rcases h2 with h2 | ⟨h2,h2'⟩
  ·exact .inl (UInt8.lt_trans h1 h2)
  ·exact .inl (h2 ▸ h1)
  ·exact .inl (h1 ▸ h2)
  ·exact .inr ⟨h1.trans h2,a7K h1' h2'⟩
theorem b9M:∀ {a b:Str},Op.bytesLess a b=false->a≠b->Op.bytesLess b a=true
 | [],[],_,h=>absurd rfl h
 | [],_::_,h,_=>by cases h
 | _::_,[],_,_=>rfl
 | x::a,y::b,h1,h2=>by
  simp only [Op.bytesLess,c0S,decide_eq_false_iff_not,Bool.and_eq_false_iff,beq_eq_false_iff_ne,a4T,a5s,Y0,beq_iff_eq] at h1 ⊢;by_cases hxy:x=y
  ·subst hxy;refine .inr ⟨rfl,b9M (h1.2.resolve_left fun h=>h rfl) fun h=>h2 (by rw [h])⟩
  ·have:=h1.1;exact .inl (by
    rcases c0y (fun h=>hxy (b2s.1 h):x.toNat≠y.toNat) with h | h
    ·exact absurd (UInt8.lt_iff_toNat_lt.2 h) this
    ·exact UInt8.lt_iff_toNat_lt.2 h)
def b2b (l:List Fi):Prop:=l.Pairwise fun f g=>Op.bytesLess f.p g.p=true
def G0:List Str:=([[97,46,115,114,99],[98,46,115,114,99],[100,47,99,46,115,114,99],[120,46,115,114,99]]:List Str)
theorem a6Z  (σ:List c5):b8 CC 66 [] σ fun r σ'=>r = .ret (.list (G0.map scv) true none)/\σ'=σ:=by
 refine b8.anyw hCC pu_ pu_ ?_ σ;refine d4 (c4 Tryz.func66 rfl rfl ?_);refine a3C ?_; refine cY (A3 (G0.map scv) rfl ⟨rfl,rfl,rfl,rfl,tt⟩ t_2 t_0 t_3 rfl rfl rfl rfl rfl rfl rfl rfl rfl) ?_; refine z_7 ?_;exact ⟨_,j5 rfl tt c6,_,_,rfl,rfl,a1z rfl pu_⟩
theorem a95 (l:List Str) (nn:Bool) (s:Str) (hl:l.length<=1000000000) (σ:List c5):b8 CC 120 [(.list (l.map scv) nn none),(sv s)] σ fun r σ'=>r = .ret (.val (.bool (decide (s∈l))))/\σ'=σ:=by
 refine b8.anyw hCC pu_ pu_ ?_ σ;refine d4 (c4 Tryz.func120 rfl rfl ?_);refine z_6 ?_; refine w8 ?_; refine b2y ?_; refine o0 hCC (fun i:Nat=>[(0,(.list (l.map scv) nn none)),(1,(sv s)),(5,(.val (.int .i64 (i:Int))))]) (fun _=>[]) (fun i=>i<=l.length/\decide (s∈l)=decide (s∈l.drop i)) (fun i=>l.length - i) 0 ⟨n_3 _,rfl⟩ tu_ (extra0:=[]) rfl A1 uz_ ?_; intro i ⟨hi,hr⟩; refine a6H ?_; refine cY a4N ?_; refine a9A ?_; refine cC (fun h1=>?_) fun h1=>?_
 ·have hlt:i < l.length:=by simp at h1; omega
  obtain ⟨y,hb⟩:∃ y,l[i]? = some y:=⟨l[i]'hlt,si_⟩;have hdr:l.drop i=y::l.drop (i+1):=by
   obtain ⟨hlt,rfl⟩:=n_0.1 hb;exact Q9 hlt
  rw [hdr] at hr;refine a6K ?_; refine z_4 ?_; refine b5R ?_; refine cY j7 ?_; refine b2k ?_; refine cC (fun h2=>?_) fun h2=>?_
  ·have hys:y=s:=by simpa using h2
   refine G5 ?_;exact ⟨_,j5 rfl tt c6,_,_,rfl,rfl,j4 (by rw [hr,hys]; simp)⟩
  ·have hys:¬ y=s:=by simpa using h2
   refine b08 ?_;exact ⟨(i+1),_,⟨om_,om_,by
    rw [hr];have:(s=y)=False:=by simpa using fun h=>hys h.symm
    simp [this]⟩,tu_,rfl⟩
 ·have hge:l.length<=i:=by simp at h1; omega
  rw [U5 hge] at hr;refine a3y ?_;exact ⟨_,j5 rfl tt c6,_,_,rfl,rfl,j4 d2q⟩
def a4z (n:Nat):Str:=if h:n < 10 then [UInt8.ofNat (48+n)] else a4z (n / 10)++[UInt8.ofNat (48+n%10)]
termination_by n
decreasing_by omega
theorem a7c (h:n < 10):a4z n=[UInt8.ofNat (48+n)]:=by rw [a4z,dif_pos h]
theorem d0o (h:¬ n < 10):a4z n=a4z (n / 10)++a4z (n%10):=by rw [a4z,dif_neg h,a7c (a6b _ om_)]
theorem a1C:∀ (m n:Nat),n < 10^(m+1)->(a4z n).length<=m+1
 | 0,n,h=>by rw [a7c V8]; simp
 | m+1,n,h=>by
  by_cases hn:n < 10
  ·rw [a7c hn]; simp
  ·rw [a4z,dif_neg hn,n_6];have:=a1C m (n / 10) (by rw [Nat.div_lt_iff_lt_mul om_]; rw [Nat.pow_succ] at h; exact h);simp only [n_7,I7];omega
theorem d6j:∀ n:Nat,n < 10->(([48,49,50,51,52,53,54,55,56,57]:Str).take (n+1)).drop n=[UInt8.ofNat (48+n)]:=by decide
theorem a61 (h:b8 CC 72 [(.val (.int .i64 (n:Int)))] [] fun r σ'=>r = .ret (sv (a4z n))/\σ'=[]) (σ:List c5):b8 CC 72 [(.val (.int .i64 (n:Int)))] σ fun r σ'=>r = .ret (sv (a4z n))/\σ'=σ :=
 b8.anyw hCC pu_ pu_ h σ
theorem b49 (n:Nat) (hn:n<=4611686018427387904) (σ:List c5):b8 CC 72 [(.val (.int .i64 (n:Int)))] σ fun r σ'=>r = .ret (sv (a4z n))/\σ'=σ:=by
 refine b8.anyw hCC pu_ pu_ ?_ σ
 induction n using Nat.strongRecOn
 rename_i n ih;refine d4 (c4 Tryz.func72 rfl rfl ?_);refine a04 ?_; refine G9 ?_; refine cC (fun h1=>?_) fun h1=>?_
 ·have hn9:n < 10:=by simp at h1; omega
  refine a8W ?_; refine cY (G8 (a:=n) (h:=(n+1)) rfl rfl rfl t_4 b0p b0p om_ (by show n+1<=10; omega)) ?_; refine z_7 ?_;exact ⟨_,j5 rfl tt c6,_,_,rfl,rfl,a0q (by rw [a7c hn9]; exact congrArg str (d6j n hn9))⟩
 ·have hn9:¬ n < 10:=by simp at h1; omega
  have hd:Int.tdiv (n:Int) 10=((n / 10:Nat):Int):=by rfl
  have hm:Int.tmod (n:Int) 10=((n%10:Nat):Int):=by rfl
  have g1:=a1C 18 (n / 10) om_;have g2:=a1C 18 (n%10) om_;have e1:IntKind.i64.wrap ((n:Int).tdiv 10)=((n / 10:Nat):Int):=by rw [hd]; exact b1L om_ om_
  have e2:(n:Int).tmod 10=((n%10:Nat):Int):=by exact hm
  refine a05 ?_; refine cY (a2E rfl tt rfl rfl rfl (rfl)) ?_; refine cY (c7 rfl c7n ⟨tt,tt⟩ (by have h:=a61 (ih (n / 10) om_ om_) []; rw [<- e1] at h; exact h) rfl) ?_; refine cY j7 ?_; refine cY (a2E rfl tt rfl rfl rfl (rfl)) ?_; refine cY (c7 rfl c7n ⟨tt,tt⟩ (by have h:=a61 (ih (n%10) om_ om_) []; rw [<- e2] at h; exact h) rfl) ?_; refine cY a8J ?_; refine z_7 ?_;exact ⟨_,j5 rfl tt c6,_,_,rfl,rfl,a0q (congrArg str (d0o hn9).symm)⟩
def leF (f x:Fi):Bool:=Op.bytesLess f.p x.p || decide (f.p=x.p)
def a7N (f:Fi):Bool->List Fi->List Fi
 | d,[]=>if d then [] else [f]
 | d,x::l=>(if !d && leF f x then [f] else [])++((if x.p=f.p then [] else [x])++a7N f (d || leF f x) l)
def a5g (l:List Fi) (f:Fi):List Fi:=a7N f false l
def a4B (l:List Fi) (s:Str):List Fi:=l.filter fun x=>!decide (x.p=s)
theorem c3G {f:Fi} {y:Fi} (h:l[i]? = some y) (d:Bool):a7N f d (l.drop i)=(if !d && leF f y then [f] else [])++((if y.p=f.p then [] else [y])++a7N f (d || leF f y) (l.drop (i+1))):=by
 obtain ⟨hlt,rfl⟩:=n_0.1 h;rw [Q9 hlt]; rfl
theorem c3l {y:Fi} (h:l[i]? = some y):a4B (l.drop i) s=(if y.p=s then [] else [y])++a4B (l.drop (i+1)) s:=by
 obtain ⟨hlt,rfl⟩:=n_0.1 h;rw [Q9 hlt,a4B,a9N];by_cases h:(l[i]).p=s
 ·simp [h,a4B]
 ·simp [h,a4B]
theorem b3N {sel:List Nat}:r8 L sel (.agg [.list (l.map Fi.cv) nn tok]) (.agg (u0 l nn)) :=
 .agg rfl fun i c c' h h'=>by
  rcases i with _ | i
  ·injection h with h; injection h' with h'; subst h h'; exact W6 (f:=Fi.cv) Fi.pure _
  ·cases h
theorem b8i (fl:List Fi) (nn:Bool) (f:Fi) (hfl:fl.length<=1000000):b8 CC 67 [.agg (u0 fl nn),.agg f.cells] [] fun r τ=>C6 0 τ r (.ret (.agg (u0 (a5g fl f) (gnn (a5g fl f).length)))) []:=by
 refine (c4 Tryz.func67 rfl rfl ?_);refine b01 ?_; refine b6I ?_; refine i7 ?_; refine a8D ?_; refine a0U ?_; refine A2 hCC 4 rfl (α:=List Fi × Bool × Nat) (fun x=>[(3,.ptr 1 0),(4,.ptr 2 0),(5,.ptr 3 0),(6,(.val (.bool x.2.1))),(10,(.list (fl.map Fi.cv) nn none)),(11,(.val (.int .i64 (fl.length:Int)))),(12,(.val (.int .i64 (x.2.2:Int))))]) (fun x=>[.box (u0 fl nn),.box f.cells,.box (u0 [] false),.box [(.list (x.1.map Fi.cv) (gnn x.1.length) (E7 x.1.length 4))],r7 x.1.length]) (fun x=>x.2.2<=fl.length/\x.1.length<=x.2.2+1/\(x.2.1=false->x.1.length<=x.2.2)/\a5g fl f=x.1++a7N f x.2.1 (fl.drop x.2.2)) (fun x=>fl.length - x.2.2) ⟨([],false,0),[0,1,2,3,9],⟨n_3 _,n_3 _,fun _=>n_3 _,rfl⟩,⟨rfl,rfl⟩,q_7,⟨.inr ⟨_,rfl,.same rfl a0Q⟩,.inr ⟨_,rfl,.same rfl b1c⟩,.inr ⟨_,rfl,.same rfl a86⟩,.inr ⟨_,rfl,.box ⟨.same rfl (t7 _ ([]:List Fi) _),tt⟩⟩,.inl rfl,tt⟩⟩ ?_; intro ⟨out,d,i⟩ ⟨hi,hol,hod,hr⟩;dsimp only at hi hol hod hr ⊢;refine F2 ?_; refine cC (fun h1=>?_) fun h1=>?_
 ·have hlt:i < fl.length:=by simp at h1; omega
  obtain ⟨y,hb⟩:∃ y,fl[i]? = some y:=⟨fl[i]'hlt,si_⟩;rw [c3G hb] at hr;refine b2Z ?_; refine a2s ?_; refine cY a5M ?_; refine cY j7 ?_; refine cG b7b ?_; refine cG a0X ?_; refine cG b7b ?_; refine cG a0X ?_; refine cG (fun hg=>a0N rfl hg hg rfl rfl (b5O _ _)) ?_; refine a6J ?_; refine cC (fun h2=>?_) fun h2=>?_
  ·have h2':d=false/\leF f y=true:=by
    have h2:(!d && leF f y)=true:=h2;simpa using h2
   obtain ⟨hd,hle⟩:=h2';subst hd;rw [hle] at hr;have hol2:=hod rfl;refine z_0 ?_; refine c4u ?_; refine cY c0f ?_; refine cY d6d ?_;refine cD (D9 rfl tt tt rfl si_ R6 a27 a1S b9N a34 rfl (.inr rfl) X0 d2x H3 ((out++[f]).map Fi.cv) (out++[f]).length si_ si_ ?_);refine b8Q ?_; refine i7 ?_; refine b2X ?_; refine z_0 ?_; refine a4m ?_; refine a4m ?_; refine b2V ?_; refine cC (fun h3=>?_) fun h3=>?_
   ·have hyp:¬ y.p=f.p:=by simpa using h3
    rw [if_neg hyp] at hr;refine a8Q ?_; refine cY d34 ?_;refine cD (D9 rfl tt tt rfl si_ R6 a27 a1S b9N a34 rfl (.inr rfl) X0 d2x H3 ((out++[f]++[y]).map Fi.cv) (out++[f]++[y]).length si_ si_ ?_);refine b2m ?_;exact ⟨(out++[f]++[y],true,i+1),[0,1,2,3,7],⟨do_,do_,by simp only [n_6,n_7,I7]; omega,(fun h=>by cases h),by rw [hr]; simp⟩,⟨rfl,rfl⟩,q_7,⟨.inr ⟨_,rfl,.same rfl a0Q⟩,.inr ⟨_,rfl,.same rfl b1c⟩,.inr ⟨_,rfl,.same rfl a86⟩,.inr ⟨_,rfl,.box ⟨r8.grow (f:=Fi.cv) (fun a=>⟨.val _,.val _,tt⟩) rfl,tt⟩⟩,.inr ⟨_,rfl,.same rfl s9⟩,tt⟩⟩
   ·have hyp:y.p=f.p:=by simpa using h3
    rw [if_pos hyp] at hr;refine a2h ?_;exact ⟨(out++[f],true,i+1),[0,1,2,3,6],⟨do_,do_,by simp only [n_6,n_7,I7]; omega,(fun h=>by cases h),by rw [hr]; simp⟩,⟨rfl,rfl⟩,q_7,⟨.inr ⟨_,rfl,.same rfl a0Q⟩,.inr ⟨_,rfl,.same rfl b1c⟩,.inr ⟨_,rfl,.same rfl a86⟩,.inr ⟨_,rfl,.box ⟨r8.grow (f:=Fi.cv) (fun a=>⟨.val _,.val _,tt⟩) rfl,tt⟩⟩,.inr ⟨_,rfl,.same rfl s9⟩,tt⟩⟩
  ·have hd:(!d && leF f y)=false:=by
    have h2:(!d && leF f y)=false:=h2;simpa using h2
   have hd2:(d || leF f y)=d:=by cases d <;> simp_all
   rw [hd,hd2] at hr;refine a0x ?_; refine a4m ?_; refine a4m ?_; refine b2V ?_; refine cC (fun h4=>?_) fun h4=>?_
   ·have hyp:¬ y.p=f.p:=by simpa using h4
    rw [if_neg hyp] at hr;refine a8Q ?_; refine cY d34 ?_;refine cD (D9 rfl tt tt rfl si_ R6 a27 a1S b9N a34 rfl (.inr rfl) X0 d2x H3 ((out++[y]).map Fi.cv) (out++[y]).length si_ si_ ?_);refine b2m ?_;exact ⟨(out++[y],d,i+1),[0,1,2,3,6],⟨do_,do_,by simp only [n_6,n_7,I7]; omega,(fun h=>by have:=hod h; simp only [n_6,n_7,I7]; omega),by rw [hr]; simp⟩,⟨rfl,rfl⟩,q_7,⟨.inr ⟨_,rfl,.same rfl a0Q⟩,.inr ⟨_,rfl,.same rfl b1c⟩,.inr ⟨_,rfl,.same rfl a86⟩,.inr ⟨_,rfl,.box ⟨r8.grow (f:=Fi.cv) (fun a=>⟨.val _,.val _,tt⟩) rfl,tt⟩⟩,.inr ⟨_,rfl,.same rfl s9⟩,tt⟩⟩
   ·have hyp:y.p=f.p:=by simpa using h4
    rw [if_pos hyp] at hr;refine a2h ?_;exact ⟨(out,d,i+1),[0,1,2,3,4],⟨do_,do_,do_,(fun h=>by have:=hod h; dsimp only; omega),by rw [hr]; simp⟩,⟨rfl,rfl⟩,q_7,⟨.inr ⟨_,rfl,.same rfl a0Q⟩,.inr ⟨_,rfl,.same rfl b1c⟩,.inr ⟨_,rfl,.same rfl a86⟩,.inr ⟨_,rfl,.box ⟨r8.grow (f:=Fi.cv) (fun a=>⟨.val _,.val _,tt⟩) rfl,tt⟩⟩,.inr ⟨_,rfl,.same rfl s9⟩,tt⟩⟩
 ·have hge:fl.length<=i:=by simp at h1; omega
  rw [U5 hge] at hr;refine z6 ?_; refine a3c ?_; refine T7 ?_; refine cC (fun h5=>?_) fun h5=>?_
  ·have hd:d=false:=by simpa using h5
   subst hd;replace hr:a5g fl f=out++[f]:=hr;refine a8Q ?_; refine cY d6d ?_;refine cD (D9 rfl tt tt rfl si_ R6 a27 a1S b9N a34 rfl (.inr rfl) X0 d2x H3 ((out++[f]).map Fi.cv) (out++[f]).length si_ si_ ?_);refine b8Q ?_; refine U2 ?_; refine b0E ?_;exact ⟨_,A8 rfl a1Z,(by rw [hr]; exact c9A b3N)⟩
  ·have hd:d=true:=by simpa using h5
   subst hd;replace hr:a5g fl f=out:=by rw [hr]; exact a0P _
   refine a0x ?_; refine b0E ?_;exact ⟨_,A8 rfl a1Z,(by rw [hr]; exact c9A b3N)⟩
theorem a0d (fl:List Fi) (nn:Bool) (f:Fi) (hfl:fl.length<=1000000) (σ:List c5):b8 CC 67 [.agg (u0 fl nn),.agg f.cells] σ fun r τ=>r = .ret (.agg (u0 (a5g fl f) (gnn (a5g fl f).length)))/\τ=σ :=
 c5l hCC (fun a h=>by simp at h; rcases h with rfl | rfl; exact o8 (cs:=u0 _ _) ⟨D4 _ _,tt⟩; exact o8 (Fi.pure _)) (o8 (cs:=u0 _ _) ⟨D4 _ _,tt⟩) (b8i fl nn f hfl) σ
theorem b9s (fl:List Fi) (nn:Bool) (s:Str) (hfl:fl.length<=1000000):b8 CC 71 [.agg (u0 fl nn),(sv s)] [] fun r τ=>C6 0 τ r (.ret (.agg (u0 (a4B fl s) (gnn (a4B fl s).length)))) []:=by
 refine (c4 Tryz.func71 rfl rfl ?_);refine a6m ?_; refine b6I ?_; refine a2i ?_; refine a0U ?_; refine A2 hCC 3 rfl (α:=List Fi × Nat) (fun x=>[(1,(sv s)),(4,.ptr 1 0),(5,.ptr 2 0),(9,(.list (fl.map Fi.cv) nn none)),(10,(.val (.int .i64 (fl.length:Int)))),(11,(.val (.int .i64 (x.2:Int))))]) (fun x=>[.box (u0 fl nn),.box (u0 [] false),.box [(.list (x.1.map Fi.cv) (gnn x.1.length) (E7 x.1.length 3))],r7 x.1.length]) (fun x=>x.2<=fl.length/\x.1.length<=x.2/\a4B fl s=x.1++a4B (fl.drop x.2) s) (fun x=>fl.length - x.2) ⟨([],0),[0,1,2,9],⟨n_3 _,n_3 _,rfl⟩,⟨rfl,rfl⟩,a8g,⟨.inr ⟨_,rfl,.same rfl a0Q⟩,.inr ⟨_,rfl,.same rfl a86⟩,.inr ⟨_,rfl,.box ⟨.same rfl (t7 _ ([]:List Fi) _),tt⟩⟩,.inl rfl,tt⟩⟩ ?_; intro ⟨out,i⟩ ⟨hi,hol,hr⟩;dsimp only at hi hol hr ⊢;refine F2 ?_; refine cC (fun h1=>?_) fun h1=>?_
 ·have hlt:i < fl.length:=by simp at h1; omega
  obtain ⟨y,hb⟩:∃ y,fl[i]? = some y:=⟨fl[i]'hlt,si_⟩;rw [c3l hb] at hr;refine c6P ?_; refine b2V ?_; refine cC (fun h2=>?_) fun h2=>?_
  ·have hyp:¬ y.p=s:=by simpa using h2
   rw [if_neg hyp] at hr;refine a8Q ?_; refine cY d34 ?_;refine cD (D9 rfl tt tt rfl si_ R6 a27 a1S b9N a34 rfl (.inr rfl) X0 d2x H3 ((out++[y]).map Fi.cv) (out++[y]).length si_ si_ ?_);refine b2m ?_;exact ⟨(out++[y],i+1),[0,1,2,5],⟨do_,do_,by simp only [n_6,n_7,I7]; omega,by rw [hr]; simp⟩,⟨rfl,rfl⟩,a8g,⟨.inr ⟨_,rfl,.same rfl a0Q⟩,.inr ⟨_,rfl,.same rfl a86⟩,.inr ⟨_,rfl,.box ⟨r8.grow (f:=Fi.cv) (fun a=>⟨.val _,.val _,tt⟩) rfl,tt⟩⟩,.inr ⟨_,rfl,.same rfl s9⟩,tt⟩⟩
  ·have hyp:y.p=s:=by simpa using h2
   rw [if_pos hyp] at hr;refine a2h ?_;exact ⟨(out,i+1),[0,1,2,3],⟨do_,do_,do_,by rw [hr]; simp⟩,⟨rfl,rfl⟩,a8g,⟨.inr ⟨_,rfl,.same rfl a0Q⟩,.inr ⟨_,rfl,.same rfl a86⟩,.inr ⟨_,rfl,.box ⟨r8.grow (f:=Fi.cv) (fun a=>⟨.val _,.val _,tt⟩) rfl,tt⟩⟩,.inr ⟨_,rfl,.same rfl s9⟩,tt⟩⟩
 ·have hge:fl.length<=i:=by simp at h1; omega
  rw [U5 hge] at hr;replace hr:a4B fl s=out:=by rw [hr]; exact a0P _
  refine Z5 ?_; refine b0E ?_;exact ⟨_,A8 rfl a1Z,(by rw [hr]; exact c9A b3N)⟩
theorem b3t (fl:List Fi) (nn:Bool) (s:Str) (hfl:fl.length<=1000000) (σ:List c5):b8 CC 71 [.agg (u0 fl nn),(sv s)] σ fun r τ=>r = .ret (.agg (u0 (a4B fl s) (gnn (a4B fl s).length)))/\τ=σ :=
 c5l hCC (fun a h=>by simp at h; rcases h with rfl | rfl; exact o8 (cs:=u0 _ _) ⟨D4 _ _,tt⟩; exact .val _) (o8 (cs:=u0 _ _) ⟨D4 _ _,tt⟩) (b9s fl nn s hfl) σ
theorem a2q {l:List Int} {k:Nat} {n:Int} (hn:1<=n):0<=O9 l k n/\O9 l k n < n:=b4D hn
theorem V1 (n:Nat) (l:List Int) (nn:Bool) (k:Nat):F5 n (p8 l nn k):=s8 ⟨T3 _ _ _,.val _,tt⟩
theorem b8r (l:List Int) (nn:Bool) (k:Nat) (hat:k<=900000000) (hl:l.length<=maxLen) (n:Nat) (hn:n<=1000) (al:Str) (ha:1<=al.length) (hal:al.length<=1000):b8 CC 121 [.ptr 0 0,(.val (.int .i64 (n:Int))),(sv al)] [p8 l nn k] fun r τ=>∃ a:Str × Nat,C6 1 τ r (.ret (sv a.1)) [p8 l nn a.2]/\(a.1.length=n/\k<=a.2/\a.2<=k+n):=by
 refine (c4 Tryz.func121 rfl rfl ?_);refine z_6 ?_; refine z_6 ?_; refine w8 ?_; refine b2y ?_; refine A2 hCC 1 rfl (α:=Str × Nat) (fun x=>[(0,.ptr 0 0),(1,(.val (.int .i64 (n:Int)))),(2,(sv al)),(7,(.list (x.1.map bcv) (gnn x.1.length) (E7 x.1.length 1))),(8,(.val (.int .i64 (x.1.length:Int))))]) (fun x=>[p8 l nn x.2,r7 x.1.length]) (fun x=>x.1.length<=n/\x.2=k+x.1.length) (fun x=>n - x.1.length) ⟨([],k),[0,9],⟨n_3 _,rfl⟩,⟨rfl,rfl⟩,⟨c8B,c8B,c8B,c8B,c8B,tt⟩,⟨.inr ⟨_,rfl,.same rfl I0⟩,.inl rfl,tt⟩⟩ ?_; intro ⟨out,p⟩ ⟨hol,hp⟩;dsimp only at hol hp ⊢;refine a6H ?_; refine a9A ?_; refine cC (fun h1=>?_) fun h1=>?_
 ·have hlt:out.length < n:=by simp at h1; omega
  have hb:=a2q (l:=l) (k:=p) (n:=(al.length:Int)) om_;obtain ⟨c,hc⟩:∃ c,al[(O9 l p (al.length:Int)).toNat]? = some c:=⟨al[(O9 l p (al.length:Int)).toNat]'om_,si_⟩;refine a6K ?_; refine c6m ?_; refine cY V4 ?_;refine cD (b9 rfl a76 j1 (K2 l nn p _ 0 rfl om_ hl (al.length:Int) om_) rfl ?_);intro _ _; refine cY (K7 rfl tt tt rfl rfl t_4 om_ hc) ?_; refine cY d45 ?_;refine cD (D9 rfl tt tt rfl si_ R6 t_7 a25 b42 a7M rfl (.inr rfl) X0 (by have hb:Tryz.t5.bytes=1:=rfl; rw [hb]; first|omega|(simp; done)|(simp; omega)) H3 ((out++[c]).map bcv) (out++[c]).length si_ si_ ?_);refine z_2 ?_; refine a4M ?_;exact ⟨(out++[c],p+1),[0,2],⟨by simp only [n_6,n_7,I7]; omega,by simp only [n_6,n_7,I7]; omega,by simp only [n_6,n_7,I7]; omega⟩,⟨rfl,rfl⟩,⟨c9l,c9l,c9l,c9l,⟨tt,(by first|exact .ptr rfl|exact .map rfl|exact .vec rfl|exact .same (congrArg (fun x=>CV.val (.int .i64 x)) (by simp:(out.length:Int)+1=((out++[c]).length:Int))) uo_|exact r8.grow (f:=bcv) (fun a=>⟨.val _,tt⟩) rfl)⟩,tt⟩,⟨.inr ⟨_,rfl,.same rfl I0⟩,.inr ⟨_,rfl,.same rfl s9⟩,tt⟩⟩
 ·have hge:out.length=n:=by simp at h1; omega
  refine a9I ?_; refine cY c4O ?_; refine z_7 ?_;exact ⟨_,j5 rfl tt c6,⟨(out,p),a1x rfl I0 (.old (.val _)),hge,do_,do_⟩⟩
theorem c3k (l:List Int) (nn:Bool) (k:Nat) (hat:k<=900000000) (hl:l.length<=maxLen) (n:Nat) (hn:n<=1000) (al:Str) (ha:1<=al.length) (hal:al.length<=1000) (σ:List c5) (q:Nat) (hq:σ[q]? = some (p8 l nn k)):b8 CC 121 [.ptr q 0,(.val (.int .i64 (n:Int))),(sv al)] σ fun r τ=>∃ a:Str × Nat,r = .ret (sv a.1)/\τ=σ.set q (p8 l nn a.2)/\(a.1.length=n/\k<=a.2/\a.2<=k+n) :=
 a6C (c:=fun a:Str × Nat=>sv a.1) (S:=fun a=>p8 l nn a.2) hCC (fun a h=>by simp at h; rcases h with rfl | rfl <;> exact .val _) (fun _=>.val _) (fun _=>D8 _ _ _) (D8 _ _ _) rfl (b8r l nn k hat hl n hn al ha hal) σ q hq
theorem c72 (l:List Int) (nn:Bool) (k:Nat) (hat:k<=800000000) (hl:l.length<=maxLen):b8 CC 70 [.ptr 0 0] [p8 l nn k] fun r τ=>∃ a:Str × Nat,C6 1 τ r (.ret (sv a.1)) [p8 l nn a.2]/\(a.1.length<=3/\k<=a.2/\a.2<=k+4):=by
 refine (c4 Tryz.func70 rfl rfl ?_);refine a2U ?_;refine cD (b9 rfl a76 o6 (K2 l nn k _ 0 rfl om_ hl 4 om_) rfl ?_);intro _ _;have hb:=a2q (l:=l) (k:=k) (n:=4) om_;obtain ⟨m,hm⟩:∃ m:Nat,O9 l k 4=(m:Int):=⟨(O9 l k 4).toNat,om_⟩;rw [hm] at hb ⊢;refine cD (b9 rfl Tryz.call121 a66 (c3k l nn (k+1) om_ hl m om_ [97,98,0,255,48] de_ de_ _ 0 rfl) rfl ?_);intro ⟨s,p⟩ ⟨hs,hp1,hp2⟩;dsimp only at hs hp1 hp2 ⊢;refine z_7 ?_;exact ⟨_,j5 rfl tt c6,⟨(s,p),a1x rfl I0 (.old (.val _)),do_,do_,do_⟩⟩
theorem c0H (l:List Int) (nn:Bool) (k:Nat) (hat:k<=800000000) (hl:l.length<=maxLen) (σ:List c5) (q:Nat) (hq:σ[q]? = some (p8 l nn k)):b8 CC 70 [.ptr q 0] σ fun r τ=>∃ a:Str × Nat,r = .ret (sv a.1)/\τ=σ.set q (p8 l nn a.2)/\(a.1.length<=3/\k<=a.2/\a.2<=k+4) :=
 a6C (c:=fun a:Str × Nat=>sv a.1) (S:=fun a=>p8 l nn a.2) hCC (fun a h=>by simp at h) (fun _=>.val _) (fun _=>D8 _ _ _) (D8 _ _ _) rfl (c72 l nn k hat hl) σ q hq
end Go.Proofs.YtlppbmfecjabeaaGreatDoor
