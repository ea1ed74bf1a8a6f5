/- Part 5 of what the claim needs: values without addresses, and what the program's functions do with them. -/
import Derived.Shelf.LaysM
import Derived.Shelf.Strconv.Itoa3
import Derived.Test.YtoblbdedgjfeaaaGreatDoorZ4
namespace Go.Proofs.YtoblbdedgjfeaaaGreatDoor
open Go Go.Cl
structure DeG (d:De):Prop where
 kind:d.k=1∨d.k=2∨d.k=3
 name:d.k≠3→t8 d.name=true∧K3 d.name=false
 path:d.k=3→C1 d.name=true
 pars:d.k≠1→d.params=[]
 par:∀ s∈d.params,t8 s=true∧K3 s=false
 parl:d.params.length≤8
 nod:d.params.Nodup
 tree:∃ t:Tr,d.body=t.flat 0∧t.wf d.params.length 1
 blen:d.body.length≤256
theorem B1 {s:Str} (h:t8 s=true):s.length≤24:=by
 unfold t8 at h
 cases s with
 | nil=>cases h
 | cons b s =>
  simp only [Bool.and_eq_true,decide_eq_true_eq] at h
  exact h.1.1
theorem a0b {s:Str} (h:C1 s=true):s.length≤80:=by
 unfold C1 at h
 simp only [Bool.and_eq_true,decide_eq_true_eq] at h
 exact h.1.1
theorem Q1.len {np:Nat} {k u o:Int} {nm:Str} {c:Nat} (h:Q1 np k u o nm c):nm.length≤80:=by
 have hk:=h.kind
 by_cases h3:k=3
 ·have:=B1 (h.k3 h3).1; omega
 ·by_cases h9:k=9
  ·have:=B1 (h.k9 h9); omega
  ·by_cases h6:k=6∨k=7∨k=8
   ·exact a0b (h.k678 h6)
   ·rw [h.name c4]; simp
theorem a21:∀ (l:List Tr),l.length≤p6 l
 | []=>Nat.le_refl _
 | t::l=>by have:=t.size_pos; have:=a21 l; rw [p6,List.length_cons]; omega
theorem a13:∀ (l:List Tr) (m:Nat),p6 (l.take m)≤p6 l
 | [],m=>by simp
 | t::l,0=>by simp [p6]
 | t::l,m+1=>by have:=a13 l m; rw [List.take_succ_cons,p6,p6]; omega
theorem b48 {S:List Nat} {n i:Nat} (hS:S.length=n) (hi:i < n):(a0P S n i)[i]? = some 0:=by
 unfold a0P
 rw [List.getElem?_append_right b2a,List.length_map,List.length_take,Nat.min_eq_left c4,Nat.sub_self,List.getElem?_replicate,if_pos c4]
theorem De.old (x:De) (n:Nat):C8 n (.box x.cells):=l2 ⟨.val _,.val _,m4 _ _ _,Q9 _ _ _,tt⟩
theorem Ex.old (x:Ex) (n:Nat):C8 n (.box x.cells):=l2 ⟨.val _,.val _,.val _,.val _,t6 _ _ _,tt⟩
theorem R8 (n:Nat) (l:List Int):C8 n (.vec 1 (l.map icv)):=fun r hr c hc=>by
 obtain ⟨a,_,rfl⟩:=List.mem_map.1 hr
 simp [icv] at hc
 subst hc
 exact .val _
theorem a2s (l:List Int) (i:Nat) (v:Int):(l.map icv).set i [.val (.int .i64 v)]=(l.set i v).map icv:=by rw [List.map_set]; rfl
set_option maxRecDepth 10000 in
set_option maxHeartbeats 1000000 in
theorem a9s (d:De) (h:DeG d):b8 CC 267 [.agg d.cells] [] fun r σ'=>r = .ret (.val (.bool (true)))∧σ'=[]:=by
 refine j4 (d8 Tryz.func267 rfl rfl ?_)
 refine a7 (a6 ?_)
 refine cD (w9 rfl tt c6 j3 ?_)
 refine cY i7 ?_; refine a8 ?_; refine R1 hCC (α:=Unit) (fun _=>[(1,.ptr 0 0)]) (fun _=>[.box d.cells]) (fun _=>True) y9 (fun a ha=>by repeat' (first|exact tt|exact .val _|exact .ptr (nb rfl)|exact .map (nb rfl)|exact De.old _ _|exact Ex.old _ _|exact R8 _ _|exact m4 _ _ _|exact Q9 _ _ _|exact .vec (nb rfl) | refine l2 ?_ | refine ⟨?_,?_⟩)) ?_ ?_
 ·
  refine a7 (a6 ?_)
  refine cY a6w ?_; refine cY t7 ?_
  refine a8 (d9 (a7 (a7 (a6 ?_))))
  refine cY k7 ?_; refine cY c7 ?_; refine a8 ?_
  refine b9 tt rfl (fun h1=>?_) (fun h1=>?_)
  ·have u1:d.k=1:=by simpa using h1
   have hnm:=h.name c4
   refine c8 ?_
   refine b9 tt rfl (fun h2=>?_) (fun h2=>?_)
   ·skip
    refine a7 (a6 ?_)
    refine cY a3y ?_; refine cY p7 ?_; refine cY b96 ?_; refine cY F1 ?_; refine a8 ?_
    refine b9 tt rfl (fun h3=>?_) (fun h3=>?_)
    ·exfalso
     simp [hnm] at h3
    ·skip
     refine c8 ?_
     exact ⟨(),_,tt,⟨⟨tt,rfl⟩,tt⟩,rfl⟩
   ·exfalso
    simp [u1] at h2
  ·have u1:¬ d.k=1:=by simpa using h1
   refine a6 ?_; refine cY k7 ?_; refine cY c7 ?_; refine a8 ?_
   refine b9 tt rfl (fun h4=>?_) (fun h4=>?_)
   ·have u4:d.k=2:=by simpa using h4
    have hnm:=h.name c4
    refine a7 (a6 ?_)
    refine cY a3y ?_; refine cY p7 ?_; refine cY b96 ?_; refine cY F1 ?_; refine a8 ?_
    refine b9 tt rfl (fun h5=>?_) (fun h5=>?_)
    ·exfalso
     simp [hnm] at h5
    ·skip
     refine c8 ?_
     exact ⟨(),_,tt,⟨⟨tt,rfl⟩,tt⟩,rfl⟩
   ·have u4:¬ d.k=2:=by simpa using h4
    refine a7 (a6 ?_)
    refine cY k7 ?_; refine cY c7 ?_; refine a8 ?_
    refine b9 tt rfl (fun h6=>?_) (fun h6=>?_)
    ·have u6:d.k=3:=by simpa using h6
     have hnm:=h.path u6
     refine a7 (a6 ?_)
     refine cY a3y ?_; refine cY p7 ?_; refine cY (i8 rfl Tryz.call66 ⟨tt,tt⟩ (Q6 d.name (by have:=a0b hnm; omega) _) rfl) ?_; refine cY F1 ?_; refine a8 ?_
     refine b9 tt rfl (fun h7=>?_) (fun h7=>?_)
     ·exfalso
      simp [hnm] at h7
     ·skip
      refine c8 ?_
      exact ⟨(),_,tt,⟨⟨tt,rfl⟩,tt⟩,rfl⟩
    ·exfalso
     have:=h.kind
     simp at h6
     omega
 ·intro _ _
  refine a7 (a7 (a6 ?_))
  refine cY a3z ?_; refine cY T2 ?_; refine cY Y4 ?_; refine cY z8 ?_
  refine a8 (d9 ?_)
  refine r6 hCC (α:=Nat) (fun i=>[(1,.ptr 0 0),(25,(.list (d.params.map scv) (gnn d.params.length) none)),(26,(.val (.int .i64 ((d.params.length:Int))))),(27,(.val (.int .i64 ((i:Int)))))]) (fun _=>[.box d.cells]) (fun i=>i≤d.params.length) (fun i=>d.params.length - i) 0 (Nat.zero_le _) ⟨⟨tt,rfl⟩,⟨tt,rfl⟩,⟨tt,rfl⟩,⟨tt,rfl⟩,tt⟩ (extra0:=[]) rfl y9 (fun a ha=>by repeat' (first|exact tt|exact .val _|exact .ptr (nb rfl)|exact .map (nb rfl)|exact De.old _ _|exact Ex.old _ _|exact R8 _ _|exact m4 _ _ _|exact Q9 _ _ _|exact .vec (nb rfl) | refine l2 ?_ | refine ⟨?_,?_⟩)) ?_; intro i hi
  have hpl:=h.parl
  refine a7 (a6 ?_)
  refine cY p8 ?_
  refine a8 (a7 ?_)
  refine b9 tt rfl (fun h8=>?_) (fun h8=>?_)
  ·have hlt:(i:Int) < d.params.length:=by simpa using h8
   obtain ⟨y,hb⟩:∃ y,d.params[i]? = some y:=⟨d.params[i]'c4,by simp⟩
   have hnm:=h.par y (List.mem_of_getElem? hb)
   have hk1:d.k=1:=by
    rcases Classical.em (d.k=1) with e | e
    ·exact e
    ·have:=h.pars e
     rw [this] at hb
     simp at hb
   refine c8 (a7 (d9 (a7 (a6 ?_))))
   refine cY b7D ?_; refine cY R4 ?_; refine cY c7 ?_
   refine a8 (a7 (a6 ?_))
   refine cY a6w ?_; refine cY t7 ?_; refine cY k7 ?_; refine cY b7 ?_; refine cG o6 ?_; refine cG (fun hg=>i8 rfl Tryz.call266 ⟨hg,tt⟩ (W2 y (by have:=B1 hnm.1; omega) _) rfl) ?_; refine cG (fun hg=>a5U rfl hg rfl) ?_; refine cY J0 ?_; refine a8 ?_
   refine b9 tt rfl (fun h9=>?_) (fun h9=>?_)
   ·exfalso
    simp [hnm,hk1] at h9
   ·skip
    refine c8 (a6 ?_)
    refine cY n9 ?_; refine cY b7 ?_; refine a8 ?_
    exact ⟨(i+1),_,⟨by omega,by omega⟩,⟨⟨tt,rfl⟩,⟨tt,rfl⟩,⟨tt,rfl⟩,⟨tt,rfl⟩,tt⟩,rfl⟩
  ·obtain ⟨t,hbody,hwf⟩:=h.tree
   have hbl:d.body.length=t.size:=by rw [hbody,t.flat_len]
   have hsl:(t.sts 0).length=d.body.length:=by rw [t.sts_len,hbl]
   have hb256:=h.blen
   have htp:=t.size_pos
   refine m8 (a7 (a6 ?_))
   refine cY a2w ?_; refine cY W9 ?_; refine cY a8U ?_
   refine cD (a9Z rfl tt tt rfl rfl (n:=d.body.length) (c:=d.body.length) rfl rfl Tryz.runUnderlying22 Tryz.sizeOf3 Tryz.typeInfo3 Tryz.zeroValue3 rfl (a1I rfl) rfl c4 c4 (by have hb:Tryz.t3.bytes=8:=rfl; rw [hb]; omega) ?_)
   refine cY c7 ?_; refine a8 ?_; refine I8 [.box d.cells,.vec 1 ((a0P (t.sts 0) d.body.length 0).map icv)] (by unfold a0P; simp [List.map_replicate]; exact .inr rfl) ?_
   refine a7 (a7 (a6 ?_))
   refine cY a2w ?_; refine cY W9 ?_; refine cY a8U ?_; refine cY z8 ?_
   refine a8 (d9 ?_)
   refine r6 hCC (α:=Nat) (fun i=>[(1,.ptr 0 0),(5,.vec 1 0 d.body.length),(45,(.list (d.body.map Ex.cv) (gnn d.body.length) none)),(46,(.val (.int .i64 ((d.body.length:Int))))),(47,(.val (.int .i64 ((i:Int)))))]) (fun i=>[.box d.cells,.vec 1 ((a0P (t.sts 0) d.body.length i).map icv)]) (fun i=>i≤d.body.length) (fun i=>d.body.length - i) 0 (Nat.zero_le _) ⟨⟨tt,rfl⟩,⟨tt,rfl⟩,⟨tt,rfl⟩,⟨tt,rfl⟩,⟨tt,rfl⟩,tt⟩ (extra0:=[]) rfl y9 (fun a ha=>by repeat' (first|exact tt|exact .val _|exact .ptr (nb rfl)|exact .map (nb rfl)|exact De.old _ _|exact Ex.old _ _|exact R8 _ _|exact m4 _ _ _|exact Q9 _ _ _|exact .vec (nb rfl) | refine l2 ?_ | refine ⟨?_,?_⟩)) ?_; intro i hi
   refine a7 (a6 ?_)
   refine cY p8 ?_
   refine a8 (a7 ?_)
   refine b9 tt rfl (fun h10=>?_) (fun h10=>?_)
   ·have hlt:(i:Int) < d.body.length:=by simpa using h10
    obtain ⟨x,z,ch,hnd⟩:=b1M hwf (j:=i) c4
    have hal:x.args.length=ch.length:=by rw [hnd.args,U7]
    have hcl:=a21 ch
    have hsz:=hnd.size
    have hzi:z+p6 (ch.take ch.length)=i:=by rw [List.take_length]; exact hsz
    refine c8 (a7 (d9 (a7 (a6 ?_))))
    refine cY b7 ?_; refine cY (o9 rfl tt tt rfl rfl Tryz.runUnderlying115 Tryz.sizeOf208 c4 (l6 (by rw [hbody]; exact hnd.e)) rfl) ?_; refine cY b5A ?_
    refine cD (m9 rfl Tryz.zeroValue208 rfl j3 ?_)
    refine cY c7 ?_
    refine cD (j1 rfl tt tt rfl c6 Tryz.sizeOf208 j3 rfl rfl (nb rfl) ?_)
    refine a8 (a7 (a7 (a6 ?_)))
    refine cY a14 ?_; refine cY a3z ?_; refine cY T2 ?_; refine cY Y4 ?_; refine cY (i8 rfl Tryz.call288 ⟨tt,tt,tt⟩ (b0z x d.params.length hnd.ok (by have:=hnd.ok.len; omega) c4 _) rfl) ?_; refine cY F1 ?_; refine a8 ?_
    refine b9 tt rfl (fun h11=>?_) (fun h11=>?_)
    ·exfalso
     simp at h11
    ·have hcur:=b48 (S:=t.sts 0) (i:=i) hsl c4
     refine c8 (a7 (a6 ?_))
     refine cY b7 ?_; refine cY b7 ?_; refine cY b7 ?_; refine cY a4W ?_
     refine cD (F9 (((a0P (t.sts 0) d.body.length i).set i ((z+p6 (ch.take ch.length):Nat):Int)).map icv) rfl tt tt rfl c6 Tryz.sizeOf3 (.inl rfl) rfl (by simpa using l6 (f:=icv) hcur) rfl (nb rfl) (by rw [hzi]; simp only [Nat.zero_add,Int.toNat_natCast]; exact a2s _ _ _) rfl ?_)
     refine a8 (a7 (a6 ?_))
     refine cY a0V ?_; refine cY a1o ?_; refine cY a7O ?_; refine cY T4 ?_; refine cY c7 ?_
     refine a8 (d9 ?_)
     refine r6 hCC (α:=Nat) (fun m=>[(1,.ptr 0 0),(5,.vec 1 0 d.body.length),(6,(.val (.int .i64 ((i:Int))))),(7,.ptr 2 0),(8,(.val (.int .i64 ((m:Int) - 1)))),(45,(.list (d.body.map Ex.cv) (gnn d.body.length) none)),(46,(.val (.int .i64 ((d.body.length:Int))))),(47,(.val (.int .i64 ((i:Int)))))]) (fun m=>[.box d.cells,.vec 1 (((a0P (t.sts 0) d.body.length i).set i ((z+p6 (ch.take m):Nat):Int)).map icv),.box x.cells]) (fun m=>m≤ch.length) (fun m=>m) ch.length (Nat.le_refl _) ⟨⟨tt,rfl⟩,⟨tt,rfl⟩,⟨tt,rfl⟩,⟨tt,rfl⟩,⟨tt,(congrArg (fun z:Nat=>(CV.val (.int .i64 ((z:Int) - 1)))) hal)⟩,⟨tt,rfl⟩,⟨tt,rfl⟩,⟨tt,rfl⟩,tt⟩ (extra0:=[]) rfl y9 (fun a ha=>by repeat' (first|exact tt|exact .val _|exact .ptr (nb rfl)|exact .map (nb rfl)|exact De.old _ _|exact Ex.old _ _|exact R8 _ _|exact m4 _ _ _|exact Q9 _ _ _|exact .vec (nb rfl) | refine l2 ?_ | refine ⟨?_,?_⟩)) ?_; intro m hm
     refine a7 (a7 (a6 ?_))
     refine cY b7 ?_; refine cY k7 ?_; refine a8 ?_
     refine b9 tt rfl (fun h12=>?_) (fun h12=>?_)
     ·have hmp:(0:Int)≤(m:Int) - 1:=by simpa using h12
      obtain ⟨m,rfl⟩:∃ m',m=m'+1:=⟨m - 1,by omega⟩
      obtain ⟨c,hc⟩:∃ c,ch[m]? = some c:=⟨ch[m]'c4,by simp⟩
      have hst:=a4B hc
      have hcp:=c.size_pos
      have hle:=a13 ch (m+1)
      refine c8 (a7 (d9 (a7 (a7 ?_))))
      refine r5 19 [0,1,0,7,15,0,0,96,224,480,1023,2047,4095,8191,4095,32767,65535,131071,262143] j6 j6 rfl ?_; refine hY a0V ?_; refine hY a1o ?_; refine hY b7 ?_; refine hY b91 ?_; refine hY W4 ?_; refine hY b7 ?_; refine hY b7 ?_; refine hY a4W ?_; refine hY (P7 rfl tt rfl Tryz.isAgg3 rfl (by simpa using l6 (f:=icv) (b1d hsl c4)) rfl) ?_; refine hY T4 ?_; refine hY p8 ?_; refine hY b7 ?_; refine A5 rfl rfl tt rfl (fun hg=>l9 rfl tt rfl Tryz.runUnderlying208 rfl Tryz.sizeOf22 j5) ?_; refine A5 rfl rfl tt rfl (fun hg=>o5 rfl hg rfl Tryz.isAgg22 rfl rfl) ?_; refine A5 rfl rfl tt rfl o6 ?_; refine A5 rfl rfl tt rfl (fun hg=>o9 rfl hg hg rfl rfl Tryz.runUnderlying22 Tryz.sizeOf3 a8F (l6 (by rw [show (((m+1:Nat):Int) - 1).toNat=m by omega,hnd.args]; exact Q3 hc)) rfl) ?_; refine A5 rfl rfl tt rfl (fun hg=>K7 rfl hg rfl Tryz.isAgg3 rfl) ?_; refine A5 rfl rfl tt rfl A6 ?_; refine hY J0 ?_
      refine u0 (a8 ?_)
      refine b9 tt rfl (fun h13=>?_) (fun h13=>?_)
      ·exfalso
       simp at h13
       omega
      ·skip
       refine c8 (a6 ?_)
       refine cY b7 ?_; refine cY b7 ?_; refine cY b7 ?_; refine cY a0V ?_; refine cY a1o ?_; refine cY b7 ?_; refine cY b91 ?_; refine cY W4 ?_; refine cY a4W ?_; refine cY (P7 rfl tt rfl Tryz.isAgg3 rfl (by simpa using l6 (f:=icv) (b7J (n:=d.body.length) (i:=i) (v:=((z+p6 (ch.take (m+1)):Nat):Int)) c4 (b1z hnd.chs hc))) rfl) ?_; refine cY a4W ?_
       refine cD (F9 (((a0P (t.sts 0) d.body.length i).set i ((z+p6 (ch.take m):Nat):Int)).map icv) rfl tt tt rfl c6 Tryz.sizeOf3 (.inl rfl) rfl (by simpa using l6 (f:=icv) (b1d hsl c4)) rfl (nb rfl) (by simp only [Nat.zero_add,Int.toNat_natCast]; refine (a2s _ _ _).trans ?_; rw [List.set_set,Int.natCast_add]) rfl ?_)
       refine a8 (a6 ?_)
       refine cY b7 ?_; refine cY T4 ?_; refine cY c7 ?_; refine a8 ?_
       exact ⟨m,_,⟨by omega,by omega⟩,⟨⟨tt,rfl⟩,⟨tt,rfl⟩,⟨tt,rfl⟩,⟨tt,rfl⟩,⟨tt,(congrArg (fun z:Int=>(CV.val (.int .i64 z))) c4)⟩,⟨tt,rfl⟩,⟨tt,rfl⟩,⟨tt,rfl⟩,tt⟩,rfl⟩
     ·have hm0:m=0:=by simp at h12; omega
      subst hm0; refine I8 [.box d.cells,.vec 1 ((a0P (t.sts 0) d.body.length (i+1)).map icv),.box x.cells] (by rw [← b2A hsl hnd.s]; rfl) ?_
      refine m8 (a6 ?_)
      refine cY n9 ?_; refine cY b7 ?_; refine a8 ?_
      exact ⟨(i+1),_,⟨by omega,by omega⟩,⟨⟨tt,rfl⟩,⟨tt,rfl⟩,⟨tt,rfl⟩,⟨tt,rfl⟩,⟨tt,rfl⟩,tt⟩,rfl⟩
   ·have hin:i=d.body.length:=by simp at h10; omega
    have hroot:(t.sts 0)[d.body.length - 1]? = some 0:=by rw [hbl]; exact t.sts_last 0
    refine m8 (a7 (a6 ?_))
    refine cY a2w ?_; refine cY W9 ?_; refine cY a8U ?_; refine cY k7 ?_; refine cY b7 ?_; refine cG o6 ?_; refine cG (fun hg=>l9 rfl tt rfl Tryz.runUnderlying117 rfl Tryz.sizeOf115 j5) ?_; refine cG (fun hg=>o5 rfl hg rfl Tryz.isAgg115 rfl rfl) ?_; refine cG (fun hg=>S3 rfl hg rfl Tryz.runUnderlying115 a2q rfl) ?_; refine cG b8b ?_; refine cG (fun hg=>N3 rfl hg hg rfl rfl Tryz.runUnderlying22 Tryz.sizeOf3 rfl a8F a8F) ?_; refine cG (fun hg=>P7 rfl hg rfl Tryz.isAgg3 rfl (by rw [hin,show 0+((d.body.length:Int) - 1).toNat=d.body.length - 1 by omega]; exact l6 (f:=icv) (b2o c4 hroot)) rfl) ?_; refine cG A6 ?_; refine cY p9 ?_; refine cY c7 ?_
    refine a8 (d5 ?_)
    exact ⟨_,l4 rfl tt c6,_,_,rfl,rfl,j8 Z4⟩
theorem a5E (d:De) (h:DeG d) (σ:List c5):b8 CC 267 [.agg d.cells] σ fun r σ'=>r = .ret (.val (.bool (true)))∧σ'=σ :=
 b8.anyw hCC (by repeat' (first|exact .val _|exact d4 _ _|exact c9 _ _|exact s0 _ _|exact w7 _ _|exact tt | refine d6 ?_ | refine d7 ?_ | refine ⟨?_,?_⟩)) (by repeat' (first|exact .val _|exact d4 _ _|exact c9 _ _|exact s0 _ _|exact w7 _ _|exact tt | refine d6 ?_ | refine d7 ?_ | refine ⟨?_,?_⟩)) (a9s d h) σ
structure a0X (x:Src):Prop where
 pkg:t8 x.pkg=true∧K3 x.pkg=false
 imp:∀ s∈x.imports,t8 s=true∧K3 s=false
 impl:x.imports.length≤8
 impn:x.imports.Nodup
 impp:x.pkg∉x.imports
 dec:∀ d∈x.decls,DeG d
 decl:x.decls.length≤64
 decn:(x.decls.map fun d=>(d.k,d.name)).Nodup
structure Sn where
 k:Int
 s:Str
deriving DecidableEq
abbrev Sn.cells (x:Sn):List CV:=[.val (.int .i64 x.k),sv x.s]
def Sn.cv (x:Sn):List CV:=x.cells
theorem B7 (l:List Sn) (nn:Bool):p5 (.list (l.map Sn.cv) nn none):=I2 (f:=Sn.cv) (fun _=>⟨.val _,.val _,tt⟩) l nn
theorem a72 (n:Nat) (l:List Sn) (nn:Bool):Old n (.list (l.map Sn.cv) nn none):=(B7 l nn).old
theorem b9y (x y:Sn):∀ w,(Op.equal 297 (.agg [.int .i64 x.k,.string (str x.s)].toArray) (.agg [.int .i64 y.k,.string (str y.s)].toArray)).run CC.P w = .ok (decide (x=y)) w:=fun w=>by
 show (Op.equal _ _ _).run Tryz.prog w=_
 simp [Op.equal,Op.maxDepth,go_sem,M5]
 obtain ⟨a,b⟩:=x
 obtain ⟨a',b'⟩:=y
 by_cases h1:a=a' <;> by_cases h2:b=b' <;> simp [h1,h2]
theorem a4p {α:Type} {l:List α} {i:Nat} {y:α} (h:l.Nodup) (hy:l[i]? = some y):y∉l.take i:=fun hm=>by
 obtain ⟨j,hj⟩:=List.mem_iff_getElem?.1 hm
 rw [List.getElem?_take] at hj
 split at hj
 ·rename_i hlt
  obtain ⟨h1,e1⟩:=List.getElem?_eq_some_iff.1 hy
  obtain ⟨h2,e2⟩:=List.getElem?_eq_some_iff.1 hj
  exact (List.pairwise_iff_getElem.1 h) j i h2 h1 hlt (e2.trans e1.symm)
 ·cases hj
def ixG {α:Type} [DecidableEq α]:List α→α→Nat→Int
 | [],_,_=>-1
 | y::l,x,i=>if x=y then i else ixG l x (i+1)
theorem b3M {α:Type} [DecidableEq α] {l:List α} {i:Nat} {y:α} (h:l[i]? = some y) (x:α):ixG (l.drop i) x i=if x=y then (i:Int) else ixG (l.drop (i+1)) x (i+1):=by
 obtain ⟨hlt,he⟩:=List.getElem?_eq_some_iff.1 h
 rw [List.drop_eq_getElem_cons hlt,he]; rfl
theorem b1V {α:Type} [DecidableEq α] {x:α}:∀ {l:List α} {i:Nat},0≤ixG l x i↔x∈l
 | [],i=>by simp [ixG]
 | y::l,i=>by
  rw [ixG]
  by_cases h:x=y
  ·subst h; simp
  ·rw [if_neg h,b1V (l:=l) (i:=i+1)]; simp [h]
theorem a2M (l:List Str) (nn:Bool) (i:Nat) (x:Str) (hl:l.length≤1000000000) (σ:List c5):b8 CC 149 [.list (((l.map scv).take i).drop 0) nn none,sv x] σ fun r σ'=>r = .ret (.val (.bool (decide (x∈l.take i))))∧σ'=σ:=by
 have:=N9 (l.take i) nn x (by rw [List.length_take]; omega) σ
 rw [List.drop_zero,← List.map_take]
 exact this
set_option maxRecDepth 10000 in
theorem b2x (l:List Str) (nn:Bool) (hl:l.length≤1000000) (hn:l.Nodup):b8 CC 268 [(.list (l.map scv) nn none)] [] fun r σ'=>r = .ret (.val (.bool (false)))∧σ'=[]:=by
 refine j4 (d8 Tryz.func268 rfl rfl ?_)
 refine a7 (a6 ?_)
 refine cY i7 ?_
 refine a8 (a7 (a7 (a6 ?_)))
 refine cY b7 ?_; refine cY Y4 ?_; refine cY z8 ?_
 refine a8 (d9 ?_)
 refine r6 hCC (α:=Nat) (fun i=>[(0,(.list (l.map scv) nn none)),(5,(.list (l.map scv) nn none)),(6,(.val (.int .i64 ((l.length:Int))))),(7,(.val (.int .i64 ((i:Int)))))]) (fun _=>[]) (fun i=>i≤l.length) (fun i=>l.length - i) 0 (Nat.zero_le _) ⟨⟨tt,rfl⟩,⟨tt,rfl⟩,⟨tt,rfl⟩,⟨tt,rfl⟩,tt⟩ (extra0:=[]) rfl y9 (fun a ha=>by repeat' (first|exact tt|exact .val _|exact .ptr (nb rfl)|exact .map (nb rfl)|exact m4 _ _ _ | refine l2 ?_ | refine ⟨?_,?_⟩)) ?_; intro i hi
 refine a7 (a6 ?_)
 refine cY p8 ?_
 refine a8 (a7 ?_)
 refine b9 tt rfl (fun h1=>?_) (fun h1=>?_)
 ·have hlt:(i:Int) < l.length:=by simpa using h1
  obtain ⟨y,hb⟩:∃ y,l[i]? = some y:=⟨l[i]'c4,by simp⟩
  refine c8 (a7 (d9 (a7 (a6 ?_))))
  refine cY b7 ?_; refine cY b7D ?_; refine cY R4 ?_; refine cY c7 ?_; refine cY c7 ?_
  refine a8 (a7 (a6 ?_))
  refine cY b7 ?_; refine cY b7 ?_; refine cY (a35 (h:=i) rfl tt rfl Tryz.runUnderlying26 Tryz.sizeOf9 b1f rfl ⟨tt,_,_,rfl,by omega,by omega⟩ a0U (by rw [List.length_map]; omega)) ?_; refine cY b7 ?_; refine cY (i8 rfl Tryz.call149 ⟨tt,tt,tt⟩ (a2M l _ i y c4 _) rfl) ?_; refine a8 ?_
  refine b9 tt rfl (fun h2=>?_) (fun h2=>?_)
  ·exfalso
   exact a4p hn hb (by simpa using h2)
  ·skip
   refine c8 (a6 ?_)
   refine cY n9 ?_; refine cY b7 ?_; refine a8 ?_
   exact ⟨(i+1),_,⟨by omega,by omega⟩,⟨⟨tt,rfl⟩,⟨tt,rfl⟩,⟨tt,rfl⟩,⟨tt,rfl⟩,tt⟩,rfl⟩
 ·skip
  refine m8 (a7 (a6 ?_))
  refine cY i7 ?_
  refine a8 (d5 ?_)
  exact ⟨_,l4 rfl tt c6,_,_,rfl,rfl,j8 rfl⟩
theorem a3E (l:List Str) (nn:Bool) (hl:l.length≤1000000) (hn:l.Nodup) (σ:List c5):b8 CC 268 [(.list (l.map scv) nn none)] σ fun r σ'=>r = .ret (.val (.bool (false)))∧σ'=σ :=
 b8.anyw hCC (by repeat' (first|exact .val _|exact d4 _ _|exact c9 _ _|exact s0 _ _|exact w7 _ _|exact B7 _ _|exact tt | refine d6 ?_ | refine d7 ?_ | refine ⟨?_,?_⟩)) (by repeat' (first|exact .val _|exact d4 _ _|exact c9 _ _|exact s0 _ _|exact w7 _ _|exact B7 _ _|exact tt | refine d6 ?_ | refine d7 ?_ | refine ⟨?_,?_⟩)) (b2x l nn hl hn) σ
set_option maxRecDepth 10000 in
theorem b43 (l:List Sn) (nn:Bool) (x:Sn) (hl:l.length≤1000000):b8 CC 302 [(.list (l.map Sn.cv) nn none),.agg x.cells] [] fun r σ'=>r = .ret (.val (.int .i64 (ixG l x 0)))∧σ'=[]:=by
 refine j4 (d8 Tryz.func302 rfl rfl ?_)
 refine a7 (a6 ?_)
 refine cD (w9 rfl tt c6 j3 ?_)
 refine cY i7 ?_
 refine a8 (a7 (a7 (a6 ?_)))
 refine cY b7 ?_; refine cY (S3 rfl tt rfl Tryz.runUnderlying294 a2q rfl) ?_; refine cY z8 ?_
 refine a8 (d9 ?_)
 refine r6 hCC (α:=Nat) (fun i=>[(0,(.list (l.map Sn.cv) nn none)),(3,.ptr 0 0),(7,(.val (.int .i64 ((l.length:Int))))),(8,(.val (.int .i64 ((i:Int)))))]) (fun _=>[.box x.cells]) (fun i=>i≤l.length∧ixG l x 0=ixG (l.drop i) x i) (fun i=>l.length - i) 0 ⟨Nat.zero_le _,rfl⟩ ⟨⟨tt,rfl⟩,⟨tt,rfl⟩,⟨tt,rfl⟩,⟨tt,rfl⟩,tt⟩ (extra0:=[]) rfl y9 (fun a ha=>by repeat' (first|exact tt|exact .val _|exact .ptr (nb rfl)|exact .map (nb rfl)|exact a72 _ _ _ | refine l2 ?_ | refine ⟨?_,?_⟩)) ?_; intro i ⟨hi,hr⟩
 refine a7 (a6 ?_)
 refine cY p8 ?_
 refine a8 (a7 ?_)
 refine b9 tt rfl (fun h1=>?_) (fun h1=>?_)
 ·have hlt:(i:Int) < l.length:=by simpa using h1
  obtain ⟨y,hb⟩:∃ y,l[i]? = some y:=⟨l[i]'c4,by simp⟩
  rw [b3M hb] at hr
  refine c8 (a7 (d9 (a7 (a6 ?_))))
  refine cY b7 ?_; refine cY c7 ?_
  refine a8 (a7 ?_)
  refine r5 6 [0,0,0,6,14,31] j6 j6 rfl ?_; refine hY b6b ?_; refine hY b7 ?_; refine hY b7 ?_; refine hY (o9 rfl tt tt rfl rfl Tryz.runUnderlying294 Tryz.sizeOf297 c4 (l6 hb) rfl) ?_; refine hY (J1 rfl tt rfl Tryz.isAgg297 Tryz.sizeOf297 (nb rfl)) ?_; refine hY (a9d rfl tt tt (xs:=[.int .i64 x.k,.string (str x.s)]) (ys:=[.int .i64 y.k,.string (str y.s)]) rfl rfl Tryz.eqGuardType297 (b9y x y)) ?_
  refine u0 (a8 ?_)
  refine b9 tt rfl (fun h2=>?_) (fun h2=>?_)
  ·have u2:x=y:=by simpa using h2
   rw [if_pos u2] at hr
   refine a7 (a6 ?_)
   refine cY b7 ?_; refine cY c7 ?_
   refine a8 (d5 ?_)
   exact ⟨_,l4 rfl tt c6,_,_,rfl,rfl,r3 hr.symm⟩
  ·have u2:¬ x=y:=by simpa using h2
   rw [if_neg u2] at hr
   refine c8 (a6 ?_)
   refine cY n9 ?_; refine cY b7 ?_; refine a8 ?_
   exact ⟨(i+1),_,⟨by omega,by omega,hr⟩,⟨⟨tt,rfl⟩,⟨tt,rfl⟩,⟨tt,rfl⟩,⟨tt,rfl⟩,tt⟩,rfl⟩
 ·have hge:l.length≤i:=by simp at h1; omega
  rw [List.drop_eq_nil_of_le hge] at hr
  refine m8 (a7 (a6 ?_))
  refine cY i7 ?_
  refine a8 (d5 ?_)
  exact ⟨_,l4 rfl tt c6,_,_,rfl,rfl,r3 (by rw [hr]; rfl)⟩
theorem b0H (l:List Sn) (nn:Bool) (x:Sn) (hl:l.length≤1000000) (σ:List c5):b8 CC 302 [(.list (l.map Sn.cv) nn none),.agg x.cells] σ fun r σ'=>r = .ret (.val (.int .i64 (ixG l x 0)))∧σ'=σ :=
 b8.anyw hCC (by repeat' (first|exact .val _|exact d4 _ _|exact c9 _ _|exact s0 _ _|exact w7 _ _|exact B7 _ _|exact tt | refine d6 ?_ | refine d7 ?_ | refine ⟨?_,?_⟩)) (by repeat' (first|exact .val _|exact d4 _ _|exact c9 _ _|exact s0 _ _|exact w7 _ _|exact B7 _ _|exact tt | refine d6 ?_ | refine d7 ?_ | refine ⟨?_,?_⟩)) (b43 l nn x hl) σ
set_option maxRecDepth 10000 in
theorem a8y (l:List Sn) (nn:Bool) (x:Sn) (hl:l.length≤1000000):b8 CC 289 [(.list (l.map Sn.cv) nn none),.agg x.cells] [] fun r σ'=>r = .ret (.val (.bool (decide (x∈l))))∧σ'=[]:=by
 refine j4 (d8 Tryz.func289 rfl rfl ?_)
 refine a7 (a6 ?_)
 refine cD (w9 rfl tt c6 j3 ?_)
 refine cY i7 ?_
 refine a8 (a7 (a6 ?_))
 refine cY b7 ?_; refine cY b6b ?_; refine cY (i8 rfl Tryz.call302 ⟨tt,tt,tt⟩ (b0H l nn x hl _) rfl) ?_; refine cY k7 ?_; refine cY c7 ?_
 refine a8 (d5 ?_)
 exact ⟨_,l4 rfl tt c6,_,_,rfl,rfl,j8 (decide_eq_decide.2 b1V)⟩
theorem a5A (l:List Sn) (nn:Bool) (x:Sn) (hl:l.length≤1000000) (σ:List c5):b8 CC 289 [(.list (l.map Sn.cv) nn none),.agg x.cells] σ fun r σ'=>r = .ret (.val (.bool (decide (x∈l))))∧σ'=σ :=
 b8.anyw hCC (by repeat' (first|exact .val _|exact d4 _ _|exact c9 _ _|exact s0 _ _|exact w7 _ _|exact B7 _ _|exact tt | refine d6 ?_ | refine d7 ?_ | refine ⟨?_,?_⟩)) (by repeat' (first|exact .val _|exact d4 _ _|exact c9 _ _|exact s0 _ _|exact w7 _ _|exact B7 _ _|exact tt | refine d6 ?_ | refine d7 ?_ | refine ⟨?_,?_⟩)) (a8y l nn x hl) σ
theorem a3f (l:List Sn) (nn:Bool) (i:Nat) (x:Sn) (hl:l.length≤1000000) (σ:List c5):b8 CC 289 [.list (((l.map Sn.cv).take i).drop 0) nn none,.agg x.cells] σ fun r σ'=>r = .ret (.val (.bool (decide (x∈l.take i))))∧σ'=σ:=by
 have:=a5A (l.take i) nn x (by rw [List.length_take]; omega) σ
 rw [List.drop_zero,← List.map_take]
 exact this
set_option maxRecDepth 10000 in
theorem b4Z (l:List Sn) (nn:Bool) (hl:l.length≤1000000) (hn:l.Nodup):b8 CC 269 [(.list (l.map Sn.cv) nn none)] [] fun r σ'=>r = .ret (.val (.bool (false)))∧σ'=[]:=by
 refine j4 (d8 Tryz.func269 rfl rfl ?_)
 refine a7 (a6 ?_)
 refine cY i7 ?_
 refine a8 (a7 (a7 (a6 ?_)))
 refine cY b7 ?_; refine cY (S3 rfl tt rfl Tryz.runUnderlying294 a2q rfl) ?_; refine cY z8 ?_
 refine a8 (d9 ?_)
 refine r6 hCC (α:=Nat) (fun i=>[(0,(.list (l.map Sn.cv) nn none)),(5,(.list (l.map Sn.cv) nn none)),(6,(.val (.int .i64 ((l.length:Int))))),(7,(.val (.int .i64 ((i:Int)))))]) (fun _=>[]) (fun i=>i≤l.length) (fun i=>l.length - i) 0 (Nat.zero_le _) ⟨⟨tt,rfl⟩,⟨tt,rfl⟩,⟨tt,rfl⟩,⟨tt,rfl⟩,tt⟩ (extra0:=[]) rfl y9 (fun a ha=>by repeat' (first|exact tt|exact .val _|exact .ptr (nb rfl)|exact .map (nb rfl)|exact a72 _ _ _ | refine l2 ?_ | refine ⟨?_,?_⟩)) ?_; intro i hi
 refine a7 (a6 ?_)
 refine cY p8 ?_
 refine a8 (a7 ?_)
 refine b9 tt rfl (fun h1=>?_) (fun h1=>?_)
 ·have hlt:(i:Int) < l.length:=by simpa using h1
  obtain ⟨y,hb⟩:∃ y,l[i]? = some y:=⟨l[i]'c4,by simp⟩
  refine c8 (a7 (d9 (a7 (a6 ?_))))
  refine cY b7 ?_; refine cY (o9 rfl tt tt rfl rfl Tryz.runUnderlying294 Tryz.sizeOf297 c4 (l6 hb) rfl) ?_; refine cY (J1 rfl tt rfl Tryz.isAgg297 Tryz.sizeOf297 (nb rfl)) ?_
  refine cD (m9 rfl Tryz.zeroValue297 rfl j3 ?_)
  refine cY c7 ?_
  refine cD (j1 rfl tt tt rfl c6 Tryz.sizeOf297 j3 rfl rfl (nb rfl) ?_)
  refine a8 (a7 ?_)
  refine r5 5 [0,0,3,0,15] j6 j6 rfl ?_; refine hY b7 ?_; refine hY b7 ?_; refine hY (a35 (h:=i) rfl tt rfl Tryz.runUnderlying294 Tryz.sizeOf297 b1f rfl ⟨tt,_,_,rfl,by omega,by omega⟩ a0U (by rw [List.length_map]; omega)) ?_; refine hY b6b ?_; refine hY (i8 rfl Tryz.call289 ⟨tt,tt,tt⟩ (a3f l _ i y c4 _) rfl) ?_
  refine u0 (a8 ?_)
  refine b9 tt rfl (fun h2=>?_) (fun h2=>?_)
  ·exfalso
   exact a4p hn hb (by simpa using h2)
  ·skip
   refine c8 (a6 ?_)
   refine cY n9 ?_; refine cY b7 ?_; refine a8 ?_
   exact ⟨(i+1),_,⟨by omega,by omega⟩,⟨⟨tt,rfl⟩,⟨tt,rfl⟩,⟨tt,rfl⟩,⟨tt,rfl⟩,tt⟩,rfl⟩
 ·skip
  refine m8 (a7 (a6 ?_))
  refine cY i7 ?_
  refine a8 (d5 ?_)
  exact ⟨_,l4 rfl tt c6,_,_,rfl,rfl,j8 rfl⟩
theorem b0D (l:List Sn) (nn:Bool) (hl:l.length≤1000000) (hn:l.Nodup) (σ:List c5):b8 CC 269 [(.list (l.map Sn.cv) nn none)] σ fun r σ'=>r = .ret (.val (.bool (false)))∧σ'=σ :=
 b8.anyw hCC (by repeat' (first|exact .val _|exact d4 _ _|exact c9 _ _|exact s0 _ _|exact w7 _ _|exact B7 _ _|exact tt | refine d6 ?_ | refine d7 ?_ | refine ⟨?_,?_⟩)) (by repeat' (first|exact .val _|exact d4 _ _|exact c9 _ _|exact s0 _ _|exact w7 _ _|exact B7 _ _|exact tt | refine d6 ?_ | refine d7 ?_ | refine ⟨?_,?_⟩)) (b4Z l nn hl hn) σ
set_option maxRecDepth 10000 in
theorem b2y (x:Src) (h:a0X x):b8 CC 232 [.agg x.cells] [] fun r σ'=>r = .ret (.val (.bool (true)))∧σ'=[]:=by
 refine j4 (d8 Tryz.func232 rfl rfl ?_)
 refine a7 (a6 ?_)
 refine cD (w9 rfl tt c6 j3 ?_)
 refine cY i7 ?_
 refine a8 (a7 (a7 (a6 ?_)))
 refine cY a8t ?_; refine cY p7 ?_; refine cY (i8 rfl Tryz.call266 ⟨tt,tt⟩ (W2 x.pkg (by have:=B1 h.pkg.1; omega) _) rfl) ?_; refine cY F1 ?_; refine a8 ?_
 refine b9 tt rfl (fun h1=>?_) (fun h1=>?_)
 ·exfalso
  simp [h.pkg] at h1
 ·have hil:=h.impl
  have hdl:=h.decl
  refine c8 (a7 (a7 (a6 ?_)))
  refine cY a4Z ?_; refine cY T2 ?_; refine cY Y4 ?_; refine cY z8 ?_
  refine a8 (d9 ?_)
  refine r6 hCC (α:=Nat) (fun i=>[(1,.ptr 0 0),(12,(.list (x.imports.map scv) (gnn x.imports.length) none)),(13,(.val (.int .i64 ((x.imports.length:Int))))),(14,(.val (.int .i64 ((i:Int)))))]) (fun _=>[.box x.cells]) (fun i=>i≤x.imports.length) (fun i=>x.imports.length - i) 0 (Nat.zero_le _) ⟨⟨tt,rfl⟩,⟨tt,rfl⟩,⟨tt,rfl⟩,⟨tt,rfl⟩,tt⟩ (extra0:=[]) rfl y9 (fun a ha=>by repeat' (first|exact tt|exact .val _|exact .ptr (nb rfl)|exact .map (nb rfl)|exact m4 _ _ _|exact G6 _ _ _ | refine l2 ?_ | refine ⟨?_,?_⟩)) ?_; intro i hi
  refine a7 (a6 ?_)
  refine cY p8 ?_
  refine a8 (a7 ?_)
  refine b9 tt rfl (fun h2=>?_) (fun h2=>?_)
  ·have hlt:(i:Int) < x.imports.length:=by simpa using h2
   obtain ⟨y,hb⟩:∃ y,x.imports[i]? = some y:=⟨x.imports[i]'c4,by simp⟩
   have hnm:=h.imp y (List.mem_of_getElem? hb)
   refine c8 (a7 (d9 (a7 (a6 ?_))))
   refine cY b7D ?_; refine cY R4 ?_; refine cY c7 ?_
   refine a8 (a7 (a6 ?_))
   refine cY b7 ?_; refine cY (i8 rfl Tryz.call266 ⟨tt,tt⟩ (W2 y (by have:=B1 hnm.1; omega) _) rfl) ?_; refine cY F1 ?_; refine a8 ?_
   refine b9 tt rfl (fun h3=>?_) (fun h3=>?_)
   ·exfalso
    simp [hnm] at h3
   ·skip
    refine c8 (a6 ?_)
    refine cY n9 ?_; refine cY b7 ?_; refine a8 ?_
    exact ⟨(i+1),_,⟨by omega,by omega⟩,⟨⟨tt,rfl⟩,⟨tt,rfl⟩,⟨tt,rfl⟩,⟨tt,rfl⟩,tt⟩,rfl⟩
  ·skip
   refine m8 (a7 (a7 (a6 ?_)))
   refine cY a4y ?_; refine cY a2F ?_; refine cY b3J ?_; refine cY z8 ?_
   refine a8 (d9 ?_)
   refine r6 hCC (α:=Nat) (fun i=>[(23,(.list (x.decls.map De.cv) (gnn x.decls.length) none)),(24,(.val (.int .i64 ((x.decls.length:Int))))),(25,(.val (.int .i64 ((i:Int)))))]) (fun _=>[.box x.cells]) (fun i=>i≤x.decls.length) (fun i=>x.decls.length - i) 0 (Nat.zero_le _) ⟨⟨tt,rfl⟩,⟨tt,rfl⟩,⟨tt,rfl⟩,tt⟩ (extra0:=[]) rfl y9 (fun a ha=>by repeat' (first|exact tt|exact .val _|exact .ptr (nb rfl)|exact .map (nb rfl)|exact m4 _ _ _|exact G6 _ _ _ | refine l2 ?_ | refine ⟨?_,?_⟩)) ?_; intro i hi
   refine a7 (a6 ?_)
   refine cY p8 ?_
   refine a8 (a7 ?_)
   refine b9 tt rfl (fun h4=>?_) (fun h4=>?_)
   ·have hlt:(i:Int) < x.decls.length:=by simpa using h4
    obtain ⟨d,hd⟩:∃ d,x.decls[i]? = some d:=⟨x.decls[i]'c4,by simp⟩
    have hg:=h.dec d (List.mem_of_getElem? hd)
    refine c8 (a7 (d9 (a7 (a6 ?_))))
    refine cY b6E ?_; refine cY a5Z ?_
    refine cD (m9 rfl Tryz.zeroValue117 rfl j3 ?_)
    refine cD (j1 rfl tt tt rfl c6 Tryz.sizeOf117 j3 rfl rfl (nb rfl) ?_)
    refine a8 (a7 (a6 ?_))
    refine cY (J3 rfl tt rfl Tryz.isAgg117 Tryz.sizeOf117 rfl (nb rfl)) ?_; refine cY (i8 rfl Tryz.call267 ⟨tt,tt⟩ (a5E d hg _) rfl) ?_; refine cY F1 ?_; refine a8 ?_
    refine b9 tt rfl (fun h5=>?_) (fun h5=>?_)
    ·exfalso
     simp at h5
    ·skip
     refine c8 (a6 ?_)
     refine cY n9 ?_; refine cY b7 ?_; refine a8 ?_
     exact ⟨(i+1),_,⟨by omega,by omega⟩,⟨⟨tt,rfl⟩,⟨tt,rfl⟩,⟨tt,rfl⟩,tt⟩,rfl⟩
   ·skip
    refine m8 (a7 (a6 ?_))
    refine cY i7 ?_
    refine a8 (d5 ?_)
    exact ⟨_,l4 rfl tt c6,_,_,rfl,rfl,j8 rfl⟩
theorem a83 (x:Src) (h:a0X x) (σ:List c5):b8 CC 232 [.agg x.cells] σ fun r σ'=>r = .ret (.val (.bool (true)))∧σ'=σ :=
 b8.anyw hCC (by repeat' (first|exact .val _|exact d4 _ _|exact c9 _ _|exact s0 _ _|exact w7 _ _|exact B7 _ _|exact tt | refine d6 ?_ | refine d7 ?_ | refine ⟨?_,?_⟩)) (by repeat' (first|exact .val _|exact d4 _ _|exact c9 _ _|exact s0 _ _|exact w7 _ _|exact B7 _ _|exact tt | refine d6 ?_ | refine d7 ?_ | refine ⟨?_,?_⟩)) (b2y x h) σ
mutual
def Tr.deps:Nat→Tr→List Nat
 | d,.n k _ _ _ ch=>a15 (if k=4 then d else d+1) ch++[d]
def a15:Nat→List Tr→List Nat
 | _,[]=>[]
 | d,t::l=>t.deps d++a15 d l
end
mutual
theorem Tr.deps_len:∀ (t:Tr) (d:Nat),(t.deps d).length=t.size
 | .n k u o nm ch,d=>by rw [Tr.deps,Tr.size,List.length_append,U4 ch]; rfl
theorem U4:∀ (l:List Tr) (d:Nat),(a15 d l).length=p6 l
 | [],_=>rfl
 | t::l,d=>by rw [a15,p6,List.length_append,Tr.deps_len t d,U4 l _]
end
theorem Tr.deps_last (t:Tr) (d:Nat):(t.deps d)[t.size - 1]? = some d:=by
 cases t with
 | n k u o nm ch =>
  rw [Tr.deps,Tr.size,Nat.add_sub_cancel,List.getElem?_append_right (by rw [U4]; exact Nat.le_refl _),U4]
  simp
structure b83 (E:List Ex) (D:List Nat) (d j:Nat) (x:Ex) (e:Nat):Prop where
 he:E[j]? = some x
 hd:D[j]? = some e
 lo:d≤e
 hi:e≤32
 ch:∀ a∈x.args,∃ r:Nat,a=r∧D[r]? = some (if x.k=4 then e else e+1)
theorem a6m {d:Nat}:∀ (l:List Tr) (s:Nat) (D0 D1:List Nat),D0.length=s→∀ a∈o3 l s,∃ r:Nat,a=r∧(D0++a15 d l++D1)[r]? = some d
 | [],_,_,_,_,a,h=>by cases h
 | t::l,s,D0,D1,hD,a,h=>by
  rw [o3] at h
  have hp:=t.size_pos
  rcases List.mem_cons.1 h with rfl | h
  ·refine ⟨s+t.size - 1,rfl,?_⟩
   rw [a15,List.append_assoc,List.append_assoc,List.getElem?_append_right c4,hD,show s+t.size - 1 - s=t.size - 1 by omega,List.getElem?_append_left (by rw [t.deps_len]; omega)]
   exact t.deps_last d
  ·have:=a6m (d:=d) l (s+t.size) (D0++t.deps d) D1 (by rw [List.length_append,t.deps_len,hD]) a h
   rw [a15,← List.append_assoc D0]
   exact this
mutual
theorem b4B {np:Nat}:∀ (t:Tr) {d:Nat} (s:Nat) (E0 E1:List Ex) (D0 D1:List Nat),E0.length=s→D0.length=s→t.wf np d→∀ j,s≤j→j < s+t.size→∃ x e,b83 (E0++t.flat s++E1) (D0++t.deps d++D1) d j x e
 | .n k u o nm ch,d,s,E0,E1,D0,D1,hE,hD,hw,j,h1,h2=>by
  rw [Tr.wf] at hw
  rw [Tr.size] at h2
  rw [Tr.flat,Tr.deps]
  by_cases hj:j < s+p6 ch
  ·obtain ⟨x,e,g⟩:=b1h ch s E0 (⟨k,u,o,nm,o3 ch s⟩::E1) D0 (d::D1) hE hD hw.2.2 j h1 hj
   refine ⟨x,e,⟨by simpa [List.append_assoc] using g.he,by simpa [List.append_assoc] using g.hd,?_,g.hi,fun a ha=>by simpa [List.append_assoc] using g.ch a ha⟩⟩
   have:=g.lo
   split at this <;> omega
  ·have hj:j=s+p6 ch:=by omega
   refine ⟨⟨k,u,o,nm,o3 ch s⟩,d,?_,?_,Nat.le_refl _,hw.1,fun a ha=>?_⟩
   ·rw [← List.append_assoc,List.append_assoc,List.getElem?_append_right (by rw [List.length_append,H0]; omega),List.length_append,H0,hE,hj,Nat.sub_self]
    rfl
   ·rw [← List.append_assoc,List.append_assoc,List.getElem?_append_right (by rw [List.length_append,U4]; omega),List.length_append,U4,hD,hj,Nat.sub_self]
    rfl
   ·have:=a6m (d:=if k=4 then d else d+1) ch s D0 (d::D1) hD a ha
    simpa [List.append_assoc] using this
theorem b1h {np:Nat}:∀ (l:List Tr) {d:Nat} (s:Nat) (E0 E1:List Ex) (D0 D1:List Nat),E0.length=s→D0.length=s→wfL np d l→∀ j,s≤j→j < s+p6 l→∃ x e,b83 (E0++C5 l s++E1) (D0++a15 d l++D1) d j x e
 | [],_,s,_,_,_,_,_,_,_,j,h1,h2=>by rw [p6] at h2; omega
 | t::l,d,s,E0,E1,D0,D1,hE,hD,hw,j,h1,h2=>by
  rw [wfL] at hw
  rw [p6] at h2
  rw [C5,a15]
  by_cases hj:j < s+t.size
  ·have:=b4B t s E0 (C5 l (s+t.size)++E1) D0 (a15 d l++D1) hE hD hw.1 j h1 hj
   simpa [List.append_assoc] using this
  ·have:=b1h l (s+t.size) (E0++t.flat s) E1 (D0++t.deps d) D1 (by rw [List.length_append,t.flat_len,hE]) (by rw [List.length_append,t.deps_len,hD]) hw.2 j c4 c4
   simpa [List.append_assoc] using this
end
theorem b6N {np d:Nat} {t:Tr} (hw:t.wf np d) {j:Nat} (h:j < t.size):∃ x e,b83 (t.flat 0) (t.deps d) d j x e:=by
 have:=b4B t 0 [] [] [] [] rfl rfl hw j (Nat.zero_le _) c4
 simpa using this
structure Bnd (arr:List Int) (D:List Nat):Prop where
 len:arr.length=D.length
 le:∀ (j e:Nat),D[j]? = some e→∃ v:Int,arr[j]? = some v∧0≤v∧v≤e
theorem Bnd.set {arr:List Int} {D:List Nat} (h:Bnd arr D) {r e:Nat} {v:Int} (hr:D[r]? = some e) (h0:0≤v) (h1:v≤e):Bnd (arr.set r v) D:=by
 refine ⟨by rw [List.length_set]; exact h.len,fun j e' hj=>?_⟩
 by_cases hjr:r=j
 ·subst hjr
  rw [hr] at hj
  injection hj with hj
  subst hj
  have hl:=(List.getElem?_eq_some_iff.1 hr).1
  exact ⟨v,by rw [List.getElem?_set_self (by rw [h.len]; exact hl)],h0,h1⟩
 ·obtain ⟨u,g1,g2⟩:=h.le j e' hj
  exact ⟨u,by rw [List.getElem?_set_ne hjr]; exact g1,g2⟩
theorem Bnd.zero (D:List Nat):Bnd (List.replicate D.length 0) D:=by
 refine ⟨List.length_replicate,fun j e hj=>⟨0,?_,Int.le_refl _,by omega⟩⟩
 have hl:=(List.getElem?_eq_some_iff.1 hj).1
 rw [List.getElem?_replicate,if_pos hl]
theorem Src.old (x:Src) (n:Nat):C8 n (.box x.cells):=l2 ⟨.val _,m4 _ _ _,G6 _ _ _,tt⟩
def a9I (d:De):Sn:=⟨d.k,d.name⟩
theorem b5C {l:List De} (h:(l.map fun d=>(d.k,d.name)).Nodup):(l.map a9I).Nodup:=by
 have e:l.map a9I=(l.map fun d=>(d.k,d.name)).map fun p=>(⟨p.1,p.2⟩:Sn):=by rw [List.map_map]; rfl
 rw [e]
 refine List.Pairwise.map _ (fun a b hab he=>?_) h
 injection he with h1 h2
 exact hab (Prod.ext h1 h2)
set_option maxRecDepth 10000 in
set_option maxHeartbeats 1000000 in
theorem b7A (x:Src) (h:a0X x):b8 CC 234 [.agg x.cells] [] fun r σ'=>r = .ret (.val (.bool (false)))∧σ'=[]:=by
 refine j4 (d8 Tryz.func234 rfl rfl ?_)
 refine a7 (a6 ?_)
 refine cD (w9 rfl tt c6 j3 ?_)
 refine cY i7 ?_
 refine a8 (a7 (a7 (a6 ?_)))
 refine cY a4Z ?_; refine cY T2 ?_; refine cY Y4 ?_; refine cY k7 ?_; refine cY b7 ?_; refine cG (fun hg=>l9 rfl tt rfl Tryz.runUnderlying69 rfl Tryz.sizeOf67 j5) ?_; refine cG (fun hg=>o5 rfl hg rfl Tryz.isAgg67 rfl rfl) ?_; refine cG (fun hg=>S3 rfl hg rfl Tryz.runUnderlying67 a2q rfl) ?_; refine cG A6 ?_; refine cY J0 ?_; refine a8 ?_
 refine b9 tt rfl (fun h1=>?_) (fun h1=>?_)
 ·exfalso
  have:=h.impl
  have:=h.decl
  simp at h1
  omega
 ·have hil:=h.impl
  have hdl:=h.decl
  refine c8 (a7 (a7 (a6 ?_)))
  refine cY a4y ?_; refine cY a2F ?_; refine cY b3J ?_; refine cY z8 ?_
  refine a8 (d9 ?_)
  refine r6 hCC (α:=Nat) (fun i=>[(20,(.list (x.decls.map De.cv) (gnn x.decls.length) none)),(21,(.val (.int .i64 ((x.decls.length:Int))))),(22,(.val (.int .i64 ((i:Int)))))]) (fun _=>[.box x.cells]) (fun i=>i≤x.decls.length) (fun i=>x.decls.length - i) 0 (Nat.zero_le _) ⟨⟨tt,rfl⟩,⟨tt,rfl⟩,⟨tt,rfl⟩,tt⟩ (extra0:=[]) rfl y9 (fun a ha=>by repeat' (first|exact tt|exact .val _|exact .ptr (nb rfl)|exact .map (nb rfl)|exact Src.old _ _|exact De.old _ _|exact Ex.old _ _|exact R8 _ _|exact m4 _ _ _|exact G6 _ _ _|exact t6 _ _ _|exact .vec (nb rfl) | refine l2 ?_ | refine ⟨?_,?_⟩)) ?_; intro i hi
  refine a7 (a6 ?_)
  refine cY p8 ?_
  refine a8 (a7 ?_)
  refine b9 tt rfl (fun h2=>?_) (fun h2=>?_)
  ·have hlt:(i:Int) < x.decls.length:=by simpa using h2
   obtain ⟨d,hd⟩:∃ d,x.decls[i]? = some d:=⟨x.decls[i]'c4,by simp⟩
   have hg:=h.dec d (List.mem_of_getElem? hd)
   have hpl:=hg.parl
   have hb256:=hg.blen
   obtain ⟨t,hbody,hwf⟩:=hg.tree
   have hbl:d.body.length=t.size:=by rw [hbody,t.flat_len]
   have hdp:(t.deps 1).length=d.body.length:=by rw [t.deps_len,hbl]
   have htp:=t.size_pos
   refine c8 (a7 (d9 (a7 (a6 ?_))))
   refine cY b6E ?_; refine cY a5Z ?_
   refine cD (m9 rfl Tryz.zeroValue117 rfl j3 ?_)
   refine cD (j1 rfl tt tt rfl c6 Tryz.sizeOf117 j3 rfl rfl (nb rfl) ?_)
   refine a8 (a7 (a7 (a6 ?_)))
   refine cY a3z ?_; refine cY T2 ?_; refine cY Y4 ?_; refine cY k7 ?_; refine cY b7 ?_; refine cG (fun hg=>l9 rfl tt rfl Tryz.runUnderlying117 rfl Tryz.sizeOf115 j5) ?_; refine cG (fun hg=>o5 rfl hg rfl Tryz.isAgg115 rfl rfl) ?_; refine cG (fun hg=>S3 rfl hg rfl Tryz.runUnderlying115 a2q rfl) ?_; refine cG A6 ?_; refine cY J0 ?_; refine a8 ?_
   refine b9 tt rfl (fun h3=>?_) (fun h3=>?_)
   ·exfalso
    simp at h3
    omega
   ·skip
    refine c8 (a7 (a6 ?_))
    refine cY a2w ?_; refine cY W9 ?_; refine cY a8U ?_
    refine cD (a9Z rfl tt tt rfl rfl (n:=d.body.length) (c:=d.body.length) rfl rfl Tryz.runUnderlying22 Tryz.sizeOf3 Tryz.typeInfo3 Tryz.zeroValue3 rfl (a1I rfl) rfl c4 c4 (by have hb:Tryz.t3.bytes=8:=rfl; rw [hb]; omega) ?_)
    refine cY c7 ?_; refine a8 ?_; refine I8 [.box x.cells,.box d.cells,.vec 1 ((List.replicate d.body.length 0).map icv)] (by simp [List.map_replicate]; exact ⟨rfl,.inr rfl⟩) ?_
    refine a7 (a6 ?_)
    refine cY a2w ?_; refine cY W9 ?_; refine cY a8U ?_; refine cY T4 ?_; refine cY c7 ?_
    refine a8 (d9 ?_)
    refine r6 hCC (α:=Nat × List Int) (fun y=>[(4,.ptr 1 0),(5,.vec 2 0 d.body.length),(6,(.val (.int .i64 ((y.1:Int) - 1)))),(20,(.list (x.decls.map De.cv) (gnn x.decls.length) none)),(21,(.val (.int .i64 ((x.decls.length:Int))))),(22,(.val (.int .i64 ((i:Int)))))]) (fun y=>[.box x.cells,.box d.cells,.vec 1 (y.2.map icv)]) (fun y=>y.1≤d.body.length∧Bnd y.2 (t.deps 1)) (fun y=>y.1) (d.body.length,List.replicate d.body.length 0) ⟨Nat.le_refl _,by rw [← hdp]; exact Bnd.zero _⟩ ⟨⟨tt,rfl⟩,⟨tt,rfl⟩,⟨tt,rfl⟩,⟨tt,rfl⟩,⟨tt,rfl⟩,⟨tt,rfl⟩,tt⟩ (extra0:=[]) rfl y9 (fun a ha=>by repeat' (first|exact tt|exact .val _|exact .ptr (nb rfl)|exact .map (nb rfl)|exact Src.old _ _|exact De.old _ _|exact Ex.old _ _|exact R8 _ _|exact m4 _ _ _|exact G6 _ _ _|exact t6 _ _ _|exact .vec (nb rfl) | refine l2 ?_ | refine ⟨?_,?_⟩)) ?_; intro ⟨m,arr⟩ ⟨hm,hbd⟩
    dsimp only at hm hbd ⊢
    refine a7 (a7 (a6 ?_))
    refine cY b7 ?_; refine cY k7 ?_; refine a8 ?_
    refine b9 tt rfl (fun h4=>?_) (fun h4=>?_)
    ·have hmp:(0:Int)≤(m:Int) - 1:=by simpa using h4
     obtain ⟨m,rfl⟩:∃ m',m=m'+1:=⟨m - 1,by omega⟩
     have hmi:((m+1:Nat):Int) - 1=(m:Int):=by omega
     obtain ⟨y,e,hdp2⟩:=b6N hwf (j:=m) c4
     obtain ⟨x',z',ch',hnd⟩:=b1M hwf (j:=m) c4
     have hyx:x'=y:=Option.some.inj (hnd.e.symm.trans hdp2.he)
     have hargs:y.args.length≤256:=by
      rw [← hyx,hnd.args,U7]
      have:=a21 ch'
      have:=hnd.size
      omega
     have he1:=hdp2.lo
     have he32:=hdp2.hi
     obtain ⟨v,hv,hv0,hv1⟩:=hbd.le _ _ hdp2.hd
     have hal:=hbd.len
     refine c8 (a7 (d9 ?_))
     refine R1 hCC (α:=List Int) (fun a=>[(4,.ptr 1 0),(5,.vec 2 0 d.body.length),(6,(.val (.int .i64 (((m+1:Nat):Int) - 1)))),(20,(.list (x.decls.map De.cv) (gnn x.decls.length) none)),(21,(.val (.int .i64 ((x.decls.length:Int))))),(22,(.val (.int .i64 ((i:Int)))))]) (fun a=>[.box x.cells,.box d.cells,.vec 1 (a.map icv)]) (fun a=>Bnd a (t.deps 1)) y9 (fun a ha=>by repeat' (first|exact tt|exact .val _|exact .ptr (nb rfl)|exact .map (nb rfl)|exact Src.old _ _|exact De.old _ _|exact Ex.old _ _|exact R8 _ _|exact m4 _ _ _|exact G6 _ _ _|exact t6 _ _ _|exact .vec (nb rfl) | refine l2 ?_ | refine ⟨?_,?_⟩)) ?_ ?_
     ·
      refine a7 (a6 ?_)
      refine cY b7 ?_; refine cY b7 ?_; refine cY a4W ?_; refine cY b8G ?_; refine cY k7 ?_; refine a8 ?_
      refine b9 tt rfl (fun h5=>?_) (fun h5=>?_)
      ·skip
       refine a6 ?_; refine cY b7 ?_; refine cY b7 ?_; refine cY a4W ?_
       refine cD (F9 ((arr.set m 1).map icv) rfl tt rfl rfl c6 Tryz.sizeOf3 (.inl rfl) rfl (by rw [hmi]; simpa using l6 (f:=icv) hv) rfl (nb rfl) (by rw [hmi]; simp only [Nat.zero_add,Int.toNat_natCast]; exact a2s _ _ _) rfl ?_)
       refine a8 ?_
       exact ⟨(arr.set m 1),_,(hbd.set hdp2.hd j5 c4),⟨⟨tt,rfl⟩,⟨tt,rfl⟩,⟨tt,rfl⟩,⟨tt,rfl⟩,⟨tt,rfl⟩,⟨tt,rfl⟩,tt⟩,rfl⟩
      ·skip
       refine c8 ?_
       exact ⟨arr,_,hbd,⟨⟨tt,rfl⟩,⟨tt,rfl⟩,⟨tt,rfl⟩,⟨tt,rfl⟩,⟨tt,rfl⟩,⟨tt,rfl⟩,tt⟩,rfl⟩
     ·intro arr hbd
      obtain ⟨v,hv,hv0,hv1⟩:=hbd.le _ _ hdp2.hd
      have hal:=hbd.len
      refine a7 (a7 (a6 ?_))
      refine cY b7 ?_; refine cY b7 ?_; refine cY a4W ?_; refine cY b8G ?_; refine cY k7 ?_; refine a8 ?_
      refine b9 tt rfl (fun h6=>?_) (fun h6=>?_)
      ·exfalso
       simp at h6
       omega
      ·skip
       refine c8 (a7 (a6 ?_))
       refine cY a2w ?_; refine cY W9 ?_; refine cY b7 ?_; refine cY b9p ?_; refine cY (a0c rfl tt rfl Tryz.runUnderlying208 rfl Tryz.sizeOf22 j5) ?_; refine cY (K7 rfl tt rfl Tryz.isAgg22 rfl) ?_; refine cY a7O ?_; refine cY z8 ?_
       refine a8 (d9 ?_)
       refine r6 hCC (α:=Nat × List Int) (fun z=>[(4,.ptr 1 0),(5,.vec 2 0 d.body.length),(6,(.val (.int .i64 (((m+1:Nat):Int) - 1)))),(20,(.list (x.decls.map De.cv) (gnn x.decls.length) none)),(21,(.val (.int .i64 ((x.decls.length:Int))))),(22,(.val (.int .i64 ((i:Int))))),(66,(.list (y.args.map icv) (gnn y.args.length) none)),(67,(.val (.int .i64 ((y.args.length:Int))))),(68,(.val (.int .i64 ((z.1:Int)))))]) (fun z=>[.box x.cells,.box d.cells,.vec 1 (z.2.map icv)]) (fun z=>z.1≤y.args.length∧Bnd z.2 (t.deps 1)) (fun z=>y.args.length - z.1) (0,arr) ⟨Nat.zero_le _,hbd⟩ ⟨⟨tt,rfl⟩,⟨tt,rfl⟩,⟨tt,rfl⟩,⟨tt,rfl⟩,⟨tt,rfl⟩,⟨tt,rfl⟩,⟨tt,rfl⟩,⟨tt,rfl⟩,⟨tt,rfl⟩,tt⟩ (extra0:=[]) rfl y9 (fun a ha=>by repeat' (first|exact tt|exact .val _|exact .ptr (nb rfl)|exact .map (nb rfl)|exact Src.old _ _|exact De.old _ _|exact Ex.old _ _|exact R8 _ _|exact m4 _ _ _|exact G6 _ _ _|exact t6 _ _ _|exact .vec (nb rfl) | refine l2 ?_ | refine ⟨?_,?_⟩)) ?_; intro ⟨p,arr⟩ ⟨hp,hbd⟩
       dsimp only at hp hbd ⊢
       refine a7 (a6 ?_)
       refine cY p8 ?_
       refine a8 (a7 ?_)
       refine b9 tt rfl (fun h7=>?_) (fun h7=>?_)
       ·have hpt:(p:Int) < y.args.length:=by simpa using h7
        obtain ⟨a,ha⟩:∃ a,y.args[p]? = some a:=⟨y.args[p]'c4,by simp⟩
        obtain ⟨r,rfl,hr⟩:=hdp2.ch a (List.mem_of_getElem? ha)
        obtain ⟨v,hv,hv0,hv1⟩:=hbd.le _ _ hdp2.hd
        have hal:=hbd.len
        have hrl:=(List.getElem?_eq_some_iff.1 hr).1
        obtain ⟨v2,hv2,_⟩:=hbd.le _ _ hr
        have hve:v≤((if y.k=4 then e else e+1:Nat):Int):=by split <;> omega
        have hb1:=hbd.set hr hv0 hve
        have hget:(arr.set r v)[r]? = some v:=by rw [List.getElem?_set_self c4]
        refine c8 (a7 (d9 (a7 (a6 ?_))))
        refine cY (o9 rfl tt tt rfl rfl Tryz.runUnderlying22 Tryz.sizeOf3 c4 (l6 ha) rfl) ?_; refine cY W4 ?_; refine cY c7 ?_
        refine a8 (a7 (a6 ?_))
        refine cY b7 ?_; refine cY b7 ?_; refine cY b7 ?_; refine cY b7 ?_; refine cY a4W ?_; refine cY b8G ?_; refine cY a4W ?_
        refine cD (F9 ((arr.set r v).map icv) rfl tt tt rfl c6 Tryz.sizeOf3 (.inl rfl) rfl (by simpa using l6 (f:=icv) hv2) rfl (nb rfl) (by simp only [Nat.zero_add,Int.toNat_natCast]; exact a2s _ _ _) rfl ?_)
        refine a8 (a7 (a6 ?_))
        refine cY a2w ?_; refine cY W9 ?_; refine cY b7 ?_; refine cY b9p ?_; refine cY (a0c rfl tt rfl Tryz.runUnderlying208 rfl Tryz.sizeOf3 j5) ?_; refine cY W4 ?_; refine cY k7 ?_; refine a8 ?_
        refine b9 tt rfl (fun h8=>?_) (fun h8=>?_)
        ·have u8:¬ y.k=4:=by simpa using h8
         rw [if_neg u8] at hr
         refine a6 ?_; refine cY b7 ?_; refine cY b7 ?_; refine cY a4W ?_; refine cY (P7 rfl tt rfl Tryz.isAgg3 rfl (by simpa using l6 (f:=icv) hget) rfl) ?_; refine cY n9 ?_; refine cY a4W ?_
         refine cD (F9 ((arr.set r (v+1)).map icv) rfl tt tt rfl c6 Tryz.sizeOf3 (.inl rfl) rfl (by simpa using l6 (f:=icv) hget) rfl (nb rfl) (by simp only [Nat.zero_add,Int.toNat_natCast]; refine (a2s _ _ _).trans ?_; rw [List.set_set]) rfl ?_)
         refine a8 (a6 ?_)
         refine cY n9 ?_; refine cY b7 ?_; refine a8 ?_
         exact ⟨(p+1,arr.set r (v+1)),_,⟨by dsimp only; omega,by dsimp only; omega,hbd.set hr c4 c4⟩,⟨⟨tt,rfl⟩,⟨tt,rfl⟩,⟨tt,rfl⟩,⟨tt,rfl⟩,⟨tt,rfl⟩,⟨tt,rfl⟩,⟨tt,rfl⟩,⟨tt,rfl⟩,⟨tt,rfl⟩,tt⟩,rfl⟩
        ·skip
         refine c8 (a6 ?_)
         refine cY n9 ?_; refine cY b7 ?_; refine a8 ?_
         exact ⟨(p+1,arr.set r v),_,⟨by dsimp only; omega,by dsimp only; omega,hb1⟩,⟨⟨tt,rfl⟩,⟨tt,rfl⟩,⟨tt,rfl⟩,⟨tt,rfl⟩,⟨tt,rfl⟩,⟨tt,rfl⟩,⟨tt,rfl⟩,⟨tt,rfl⟩,⟨tt,rfl⟩,tt⟩,rfl⟩
       ·skip
        refine m8 (a6 ?_)
        refine cY b7 ?_; refine cY T4 ?_; refine cY c7 ?_; refine a8 ?_
        exact ⟨(m,arr),_,⟨by dsimp only; omega,by dsimp only; omega,hbd⟩,⟨⟨tt,rfl⟩,⟨tt,rfl⟩,⟨tt,(congrArg (fun z:Int=>(CV.val (.int .i64 z))) a1k)⟩,⟨tt,rfl⟩,⟨tt,rfl⟩,⟨tt,rfl⟩,tt⟩,rfl⟩
    ·skip
     refine m8 (a6 ?_)
     refine cY n9 ?_; refine cY b7 ?_; refine a8 ?_
     exact ⟨(i+1),_,⟨by omega,by omega⟩,⟨⟨tt,rfl⟩,⟨tt,rfl⟩,⟨tt,rfl⟩,tt⟩,rfl⟩
  ·skip
   refine m8 (a7 (a6 ?_))
   refine cY i7 ?_
   refine a8 (d5 ?_)
   exact ⟨_,l4 rfl tt c6,_,_,rfl,rfl,j8 rfl⟩
theorem b2P (x:Src) (h:a0X x) (σ:List c5):b8 CC 234 [.agg x.cells] σ fun r σ'=>r = .ret (.val (.bool (false)))∧σ'=σ :=
 b8.anyw hCC (by repeat' (first|exact .val _|exact d4 _ _|exact c9 _ _|exact s0 _ _|exact w7 _ _|exact B7 _ _|exact tt | refine d6 ?_ | refine d7 ?_ | refine ⟨?_,?_⟩)) (by repeat' (first|exact .val _|exact d4 _ _|exact c9 _ _|exact s0 _ _|exact w7 _ _|exact B7 _ _|exact tt | refine d6 ?_ | refine d7 ?_ | refine ⟨?_,?_⟩)) (b7A x h) σ
set_option maxRecDepth 10000 in
theorem b6a (x:Src) (h:a0X x):b8 CC 233 [.agg x.cells] [] fun r σ'=>r = .ret (.val (.bool (false)))∧σ'=[]:=by
 refine j4 (d8 Tryz.func233 rfl rfl ?_)
 refine a7 (a6 ?_)
 refine cD (w9 rfl tt c6 j3 ?_)
 refine cY i7 ?_
 refine a8 (a7 (a6 ?_))
 refine cY i7 ?_
 refine a8 (a7 (a7 (a6 ?_)))
 refine cY a4y ?_; refine cY a2F ?_; refine cY b3J ?_; refine cY z8 ?_
 refine a8 (d9 ?_)
 refine A2 hCC 1 rfl (α:=Nat × List Sn) (fun y=>[(1,.ptr 0 0),(3,(.list (y.2.map Sn.cv) (gnn y.2.length) (P6 y.2.length 1))),(7,(.list (x.decls.map De.cv) (gnn x.decls.length) none)),(8,(.val (.int .i64 ((x.decls.length:Int))))),(9,(.val (.int .i64 ((y.1:Int)))))]) (fun y=>[.box x.cells,r9 y.2.length]) (fun y=>y.1≤x.decls.length∧y.2=(x.decls.take y.1).map a9I) (fun y=>x.decls.length - y.1) ⟨(0,[]),[0,9],⟨Nat.zero_le _,rfl⟩,⟨rfl,rfl⟩,⟨⟨tt,q_6⟩,⟨tt,q_6⟩,⟨tt,q_6⟩,⟨tt,q_6⟩,⟨tt,q_6⟩,tt⟩,⟨.inr ⟨_,rfl,.same rfl (Src.old _ _)⟩,.inl rfl,tt⟩⟩ ?_; intro ⟨i,l⟩ ⟨hi,hl⟩
 dsimp only at hi hl ⊢
 have hdl:=h.decl
 have hll:l.length=i:=by rw [hl,List.length_map,List.length_take]; omega
 refine a7 (a6 ?_)
 refine cY p8 ?_
 refine a8 (a7 ?_)
 refine b9 tt rfl (fun h1=>?_) (fun h1=>?_)
 ·have hlt:(i:Int) < x.decls.length:=by simpa using h1
  obtain ⟨d,hd⟩:∃ d,x.decls[i]? = some d:=⟨x.decls[i]'c4,by simp⟩
  have hg:=h.dec d (List.mem_of_getElem? hd)
  have hls:=a0n l (a9I d)
  refine c8 (a7 (d9 (a7 (a6 ?_))))
  refine cY b6E ?_; refine cY a5Z ?_
  refine cD (m9 rfl Tryz.zeroValue117 rfl j3 ?_)
  refine cD (j1 rfl tt tt rfl c6 Tryz.sizeOf117 j3 rfl rfl (nb rfl) ?_)
  refine a8 (a7 (a7 (a6 ?_)))
  refine cY a3z ?_; refine cY T2 ?_; refine cY (i8 rfl Tryz.call268 ⟨tt,tt⟩ (a3E d.params _ (by have:=hg.parl; omega) hg.nod _) rfl) ?_; refine a8 ?_
  refine b9 tt rfl (fun h2=>?_) (fun h2=>?_)
  ·cases h2
  ·skip
   refine c8 (a6 ?_)
   refine cY b7 ?_; refine cY a6w ?_; refine cY t7 ?_; refine cY a3y ?_; refine cY p7 ?_; refine cY (v6 #[(0,1),(1,1)] rfl ⟨tt,tt,tt⟩ Tryz.runUnderlying297 Tryz.zeroValue297 rfl ⟨_,rfl⟩ (fun w=>by kernel_rfl) rfl rfl) ?_; refine cY (y7 [Sn.cv (a9I d)] rfl ⟨tt,tt⟩ Tryz.runUnderlying294 Tryz.sizeOf297 Tryz.zeroValue297 rfl rfl rfl rfl rfl rfl rfl rfl rfl) ?_
   refine cD (L3 rfl tt tt rfl m5 q_4 Tryz.runUnderlying294 Tryz.sizeOf297 Tryz.typeInfo297 Tryz.zeroValue297 rfl (.inr rfl) a1Y (by have hb:Tryz.t297.bytes=24:=rfl; rw [hb]; first|omega|(simp; done)|(simp; omega)) L1 ((l++[a9I d]).map Sn.cv) (l++[a9I d]).length m5 m5 ?_)
   refine cY c7 ?_
   refine a8 (a6 ?_)
   refine cY n9 ?_; refine cY b7 ?_; refine a8 ?_
   exact ⟨(i+1,l++[a9I d]),[0,3],⟨by dsimp only; omega,by dsimp only; omega,by rw [hl,List.take_add_one,hd,List.map_append]; rfl⟩,⟨rfl,rfl⟩,⟨⟨tt,q_6⟩,⟨tt,q_6⟩,⟨tt,q_6⟩,⟨tt,q_6⟩,⟨tt,q_6⟩,tt⟩,⟨.inr ⟨_,rfl,.same rfl (Src.old _ _)⟩,.inr ⟨_,rfl,.same rfl s7⟩,tt⟩⟩
 ·have hin:i=x.decls.length:=by simp at h1; omega
  rw [hin,List.take_length] at hl
  have hil:=h.impl
  refine m8 (a7 (a6 ?_))
  refine cY a4Z ?_; refine cY T2 ?_; refine cY a8t ?_; refine cY p7 ?_; refine cY (i8 rfl Tryz.call149 ⟨tt,tt,tt⟩ (N9 x.imports _ x.pkg c4 _) rfl) ?_; refine cY b7 ?_; refine cG (fun hg=>l9 rfl tt rfl Tryz.runUnderlying69 rfl Tryz.sizeOf26 j5) ?_; refine cG (fun hg=>o5 rfl hg rfl Tryz.isAgg26 rfl rfl) ?_; refine cG (fun hg=>i8 rfl Tryz.call268 ⟨hg,tt⟩ (a3E x.imports _ c4 h.impn _) rfl) ?_; refine cY J0 ?_; refine cY b7 ?_; refine cG o6 ?_; refine cG (fun hg=>i8 rfl Tryz.call269 ⟨hg,tt⟩ (b0D l _ c4 (by rw [hl]; exact b5C h.decn) _) rfl) ?_; refine cY J0 ?_; refine cY c7 ?_
  refine a8 (d5 ?_)
  exact ⟨_,l4 rfl tt c6,_,_,rfl,rfl,j8 (by simp [h.impp])⟩
theorem b0I (x:Src) (h:a0X x) (σ:List c5):b8 CC 233 [.agg x.cells] σ fun r σ'=>r = .ret (.val (.bool (false)))∧σ'=σ :=
 b8.anyw hCC (by repeat' (first|exact .val _|exact d4 _ _|exact c9 _ _|exact s0 _ _|exact w7 _ _|exact B7 _ _|exact tt | refine d6 ?_ | refine d7 ?_ | refine ⟨?_,?_⟩)) (by repeat' (first|exact .val _|exact d4 _ _|exact c9 _ _|exact s0 _ _|exact w7 _ _|exact B7 _ _|exact tt | refine d6 ?_ | refine d7 ?_ | refine ⟨?_,?_⟩)) (b6a x h) σ
set_option maxRecDepth 10000 in
theorem b4K (x:Src) (h:a0X x):b8 CC 193 [.agg x.cells] [] fun r σ'=>r = .ret (.val (.int .i64 (0)))∧σ'=[]:=by
 refine j4 (d8 Tryz.func193 rfl rfl ?_)
 refine a7 (a6 ?_)
 refine cD (w9 rfl tt c6 j3 ?_)
 refine cY i7 ?_
 refine a8 (a7 (d9 (a7 (a6 ?_))))
 refine cY a6a ?_; refine cY (i8 rfl Tryz.call232 ⟨tt,tt⟩ (a83 x h _) rfl) ?_; refine cY F1 ?_; refine cY c7 ?_; refine a8 ?_
 refine b9 tt rfl (fun h1=>?_) (fun h1=>?_)
 ·cases h1
 ·skip
  refine a7 (a6 ?_)
  refine cY a6a ?_; refine cY (i8 rfl Tryz.call233 ⟨tt,tt⟩ (b0I x h _) rfl) ?_; refine cY c7 ?_; refine a8 ?_
  refine b9 tt rfl (fun h2=>?_) (fun h2=>?_)
  ·cases h2
  ·skip
   refine a7 (a6 ?_)
   refine cY a6a ?_; refine cY (i8 rfl Tryz.call234 ⟨tt,tt⟩ (b2P x h _) rfl) ?_; refine cY c7 ?_; refine a8 ?_
   refine b9 tt rfl (fun h3=>?_) (fun h3=>?_)
   ·cases h3
   ·skip
    refine c8 (a7 (a6 ?_))
    refine cY i7 ?_
    refine a8 (d5 ?_)
    exact ⟨_,l4 rfl tt c6,_,_,rfl,rfl,r3 rfl⟩
theorem a47 (x:Src) (h:a0X x) (σ:List c5):b8 CC 193 [.agg x.cells] σ fun r σ'=>r = .ret (.val (.int .i64 (0)))∧σ'=σ :=
 b8.anyw hCC (by repeat' (first|exact .val _|exact d4 _ _|exact c9 _ _|exact s0 _ _|exact w7 _ _|exact B7 _ _|exact tt | refine d6 ?_ | refine d7 ?_ | refine ⟨?_,?_⟩)) (by repeat' (first|exact .val _|exact d4 _ _|exact c9 _ _|exact s0 _ _|exact w7 _ _|exact B7 _ _|exact tt | refine d6 ?_ | refine d7 ?_ | refine ⟨?_,?_⟩)) (b4K x h) σ
theorem a8n (s:Str) (a:Nat) (ks:List Int):sub s a (r7 s a ks)=(s.drop a).takeWhile (inK ks):=by
 unfold sub r7
 rw [List.drop_take,Nat.add_sub_cancel_left]
 have h:=List.takeWhile_prefix (inK ks) (l:=s.drop a)
 exact (List.prefix_iff_eq_take.1 h).symm
theorem b3n {s:Str} {a:Nat} {b:UInt8} (hb:s[a]? = some b) (hk:p3 b.toNat=1) (hl:¬ 24 < r7 s a [1,2,3] - a):t8 (sub s a (r7 s a [1,2,3]))=true:=by
 have hlen:(sub s a (r7 s a [1,2,3])).length=r7 s a [1,2,3] - a:=by
  rw [a8n]; unfold r7; omega
 rw [a8n] at hlen ⊢
 obtain ⟨hlt,rfl⟩:=List.getElem?_eq_some_iff.1 hb
 have hall:((s.drop a).takeWhile (inK [1,2,3])).all (inK [1,2,3])=true:=List.all_eq_true.2 fun c hc=>V9 hc
 rw [List.drop_eq_getElem_cons hlt,List.takeWhile_cons,if_pos (by simp [inK,hk])] at hlen hall ⊢
 unfold t8
 simp only [Bool.and_eq_true,decide_eq_true_eq]
 exact ⟨⟨by omega,hk⟩,hall⟩
theorem b6j {s:Str} {a:Nat} {b:UInt8} (hb:s[a]? = some b):((G9 s a b).1.k=1→t8 (G9 s a b).1.t=true)∧(G9 s a b).1.n≤9007199254740992:=by
 have z:((⟨0,[],0,0⟩:Tok).k=1→t8 (⟨0,[],0,0⟩:Tok).t=true)∧(⟨0,[],0,0⟩:Tok).n≤9007199254740992:=⟨fun h=>absurd h j5,by decide⟩
 unfold G9
 split
 ·rename_i hk
  split
  ·exact z
  ·rename_i hl
   exact ⟨fun _=>b3n hb hk hl,show (0:Int)≤9007199254740992 by decide⟩
 ·split
  ·split
   ·exact z
   ·rename_i hl
    exact ⟨fun h=>absurd h (show ¬ (2:Int)=1 by decide),show a32 _≤9007199254740992 by omega⟩
  ·split
   ·split
    ·exact z
    ·exact ⟨fun h=>absurd h (show ¬ (3:Int)=1 by decide),show (0:Int)≤9007199254740992 by decide⟩
   ·split
    ·split
     ·exact ⟨fun h=>absurd h (show ¬ (4:Int)=1 by decide),show (0:Int)≤9007199254740992 by decide⟩
     ·exact ⟨fun h=>absurd h (show ¬ (4:Int)=1 by decide),show (0:Int)≤9007199254740992 by decide⟩
    ·exact z
theorem a7W (s:Str):∀ (f i:Nat) (T:List Tok),a0t f s i=some T→∀ t∈T,(t.k=1→t8 t.t=true)∧t.n≤9007199254740992
 | 0,i,T,h=>by cases h
 | f+1,i,T,h=>by
  rw [a0t] at h
  cases hb:s[r7 s i [5]]? with
  | none =>
   rw [hb] at h
   injection h with h
   subst h; intro t ht
   simp at ht
   subst ht
   exact ⟨fun h=>absurd h (show ¬ (5:Int)=1 by decide),show (0:Int)≤9007199254740992 by decide⟩
  | some b =>
   rw [hb] at h
   simp only at h
   split at h
   ·exact a7W s f _ T h
   ·split at h
    ·cases h
    ·cases hq:a0t f s (G9 s (r7 s i [5]) b).2.1.toNat with
     | none=>rw [hq] at h; cases h
     | some T' =>
      rw [hq] at h
      simp only [Option.map_some,Option.some.injEq] at h
      subst h; intro t ht
      rcases List.mem_cons.1 ht with rfl | ht
      ·exact b6j hb
      ·exact a7W s f _ T' hq t ht
theorem b7o {s:Str} {T:List Tok} (h:a3m s=some T):TG T:=fun i=>by
 have hc:=(a88 h).1.nn i
 unfold a3m at h
 split at h
 ·cases h
 ·rcases b0N (T:=T) i with h1 | h1
  ·have:=a7W s _ _ T h _ h1
   exact ⟨this.1,hc.1,this.2⟩
  ·rw [h1]
   exact ⟨fun h=>absurd h j5,by decide,by decide⟩
theorem a5W {b:List Ex} {x:Ex} {w:Nat × List Ex} (h:X3 b x=some w) (hb:b.length≤256):w.2.length≤256:=by
 unfold X3 at h
 split at h
 ·cases h
 ·injection h with h
  subst h
  simp only [List.length_append,List.length_singleton]
  omega
theorem L8 {b:List Ex} {x:Ex} {m:Nat} {y:PX} (h:K8 b x m=some y) (hb:b.length≤256):y.2.2.length≤256:=a5W (w:=(y.1,y.2.2)) (a0o h).1 hb
theorem b2I {T:List Tok} {F:PF} (hF:∀ d n b x,b.length≤256→F.ex d n b=some x→x.2.2.length≤256) {u:Str} {d n:Nat} {b:List Ex} {y:PX} (hb:b.length≤256) (h:a0Q T F u d n b=some y):y.2.2.length≤256:=by
 unfold a0Q at h
 obtain ⟨n1,_,h⟩:=j2 h
 split at h
 ·obtain ⟨s,h1,h⟩:=j2 h
  obtain ⟨n2,_,h⟩:=j2 h
  obtain ⟨x,h3,h⟩:=j2 h
  obtain ⟨m,_,h⟩:=j2 h
  exact L8 h (hF _ _ _ _ hb h3)
 ·split at h
  ·obtain ⟨s,h1,h⟩:=j2 h
   obtain ⟨m,_,h⟩:=j2 h
   exact L8 h hb
  ·split at h
   ·obtain ⟨s,h1,h⟩:=j2 h
    obtain ⟨m,_,h⟩:=j2 h
    exact L8 h hb
   ·split at h
    ·obtain ⟨s,h1,h⟩:=j2 h
     split at h
     ·obtain ⟨m,_,h⟩:=j2 h
      exact L8 h hb
     ·cases h
    ·obtain ⟨s,h1,h⟩:=j2 h
     split at h
     ·cases h
     ·obtain ⟨m,_,h⟩:=j2 h
      exact L8 h hb
theorem b1Y {T:List Tok} {ps:List Str}:∀ f:Nat,
 (∀ d n b x,b.length≤256→(A7 T ps f).ex d n b=some x→x.2.2.length≤256) ∧
 (∀ lv d n b x,b.length≤256→(A7 T ps f).bin lv d n b=some x→x.2.2.length≤256) ∧
 (∀ d n b x,b.length≤256→(A7 T ps f).fac d n b=some x→x.2.2.length≤256) ∧
 (∀ lv d i n b x,b.length≤256→(A7 T ps f).lp lv d i n b=some x→x.2.2.length≤256) ∧
 (∀ d n b acc y,b.length≤256→(A7 T ps f).ag d n b acc=some y→y.2.2.length≤256)
 | 0=>by
  refine ⟨fun d n b x _ h=>?_,fun lv d n b x _ h=>?_,fun d n b x _ h=>?_,fun lv d i n b x _ h=>?_,fun d n b acc y _ h=>?_⟩ <;> cases h
 | f+1=>by
  obtain ⟨hE,hB,hF,hL,hA⟩:=b1Y (T:=T) (ps:=ps) f
  refine ⟨fun d n b x hb h=>?_,fun lv d n b x hb h=>?_,fun d n b y hb h=>?_,fun lv d i n b x hb h=>?_,fun d n b acc y hb h=>?_⟩
  ·change (E2 T ps (A7 T ps f)).ex d n b=some x at h
   simp only [E2] at h
   split at h
   ·cases h
   ·split at h
    ·obtain ⟨x1,h1,h⟩:=j2 h
     obtain ⟨n2,_,h⟩:=j2 h
     obtain ⟨x2,h2,h⟩:=j2 h
     obtain ⟨n3,_,h⟩:=j2 h
     obtain ⟨x3,h3,h⟩:=j2 h
     exact L8 h (hE _ _ _ _ (hE _ _ _ _ (hE _ _ _ _ hb h1) h2) h3)
    ·exact hB _ _ _ _ _ hb h
  ·change (E2 T ps (A7 T ps f)).bin lv d n b=some x at h
   simp only [E2] at h
   split at h
   ·exact hF _ _ _ _ hb h
   ·obtain ⟨x1,h1,h⟩:=j2 h
    exact hL _ _ _ _ _ _ (hB _ _ _ _ _ hb h1) h
  ·change (E2 T ps (A7 T ps f)).fac d n b=some y at h
   simp only [E2] at h
   split at h
   ·exact L8 h hb
   ·split at h
    ·obtain ⟨s,h1,h⟩:=j2 h
     exact L8 h hb
    ·split at h
     ·obtain ⟨x1,h1,h⟩:=j2 h
      obtain ⟨m,_,h⟩:=j2 h
      injection h with h
      subst h
      exact hE _ _ _ x1 hb h1
     ·split at h
      ·cases h
      ·split at h
       ·exact b2I hE hb h
       ·split at h
        ·cases h
        ·split at h
         ·obtain ⟨a,h1,h⟩:=j2 h
          unfold a07 at h1
          obtain ⟨n1,_,h1⟩:=j2 h1
          refine L8 h ?_
          split at h1
          ·injection h1 with h1
           subst h1
           exact hb
          ·exact hA _ _ _ _ _ hb h1
         ·split at h
          ·cases h
          ·exact L8 h hb
  ·change (E2 T ps (A7 T ps f)).lp lv d i n b=some x at h
   simp only [E2] at h
   split at h
   ·injection h with h
    subst h
    exact hb
   ·obtain ⟨y,h1,h⟩:=j2 h
    obtain ⟨w,h2,h⟩:=j2 h
    have hw:=a5W h2 (hB _ _ _ _ _ hb h1)
    split at h
    ·injection h with h
     subst h
     exact hw
    ·exact hL _ _ _ _ _ _ hw h
  ·change (E2 T ps (A7 T ps f)).ag d n b acc=some y at h
   simp only [E2] at h
   obtain ⟨x1,h1,h⟩:=j2 h
   have hx:=hE _ _ _ _ hb h1
   split at h
   ·exact hA _ _ _ _ _ hx h
   ·obtain ⟨m,_,h⟩:=j2 h
    injection h with h
    subst h
    exact hx
theorem a2N {T:List Tok} (hT:TG T) {n:Nat} {x:Tok × Nat} (h:S4 T n=some x):t8 x.1.t=true∧K3 x.1.t=false:=by
 obtain ⟨y,h1,h2⟩:=j2 h
 obtain ⟨e1,e2⟩:=a17 h1
 split at h2
 ·cases h2
 ·rename_i hr
  injection h2 with h2
  subst h2
  refine ⟨?_,by simpa using hr⟩
  rw [e1]
  exact (hT n).1 e2
structure a3I (l:List Str):Prop where
 ok:∀ s∈l,t8 s=true∧K3 s=false
 len:l.length≤8
 nod:l.Nodup
theorem a2i {α:Type} {l:List α} {x:α} (h:l.Nodup) (hx:x∉l):(l++[x]).Nodup:=by
 rw [List.nodup_append]
 exact ⟨h,by simp,fun a ha b hb=>by simp at hb; subst hb; exact fun e=>hx (e ▸ ha)⟩
theorem a3I.snoc {l:List Str} {x:Str} (h:a3I l) (hx:t8 x=true∧K3 x=false) (h8:¬ l.length=8) (hn:¬ x∈l):a3I (l++[x]):=⟨fun s hs=>by
 rcases List.mem_append.1 hs with hs | hs
 ·exact h.ok s hs
 ·simp at hs; subst hs; exact hx,by have:=h.len; rw [List.length_append,List.length_singleton]; omega,a2i h.nod hn⟩
theorem a9A {T:List Tok} (hT:TG T):∀ (f n:Nat) (l:List Str) (y:List Str × Nat),a3I l→a3M f T n l=some y→a3I y.1
 | 0,n,l,y,_,h=>by cases h
 | f+1,n,l,y,hl,h=>by
  rw [a3M] at h
  obtain ⟨x,h1,h⟩:=j2 h
  have hx:=a2N hT h1
  split at h
  ·cases h
  ·rename_i h8
   split at h
   ·cases h
   ·rename_i hn
    have hs:=hl.snoc hx h8 hn
    split at h
    ·exact a9A hT f _ _ y hs h
    ·obtain ⟨m,_,h⟩:=j2 h
     injection h with h
     subst h
     exact hs
theorem a1O:a3I []:=⟨fun s h=>(by cases h),Nat.zero_le _,List.nodup_nil⟩
theorem b59 {T:List Tok} (hT:TG T) {kd:Int} {n:Nat} {y:List Str × Nat} (h:a3L T kd n=some y):a3I y.1∧(kd≠1→y.1=[]):=by
 unfold a3L at h
 split at h
 ·rename_i hk
  unfold K6 at h
  obtain ⟨m,_,h⟩:=j2 h
  refine ⟨?_,fun h=>absurd hk h⟩
  split at h
  ·injection h with h
   subst h
   exact a1O
  ·exact a9A hT _ _ _ y a1O h
 ·injection h with h
  subst h
  exact ⟨a1O,fun _=>rfl⟩
theorem b3F (s:Str):B6 s=0∨B6 s=1∨B6 s=2∨B6 s=3:=by
 unfold B6 dkL
 rw [O4,O4,O4]
 split
 ·exact .inr (.inr (.inr rfl))
 ·split
  ·exact .inr (.inr (.inl rfl))
  ·split
   ·exact .inr (.inl rfl)
   ·exact .inl rfl
theorem b5o {T:List Tok} (hT:TG T) {bs:List De} {n:Nat} {y:De × Nat} (h:a0h T bs n=some y):DeG y.1∧(bs.any fun d=>(d.k == y.1.k) && decide (d.name=y.1.name))=false:=by
 unfold a0h at h
 split at h
 ·cases h
 ·rename_i h0
  split at h
  ·cases h
  ·obtain ⟨x,h1,h⟩:=j2 h
   split at h
   ·cases h
   ·rename_i hany
    obtain ⟨q,h2,h⟩:=j2 h
    obtain ⟨m,_,h⟩:=j2 h
    obtain ⟨e,h3,h⟩:=j2 h
    obtain ⟨m2,_,h⟩:=j2 h
    injection h with h
    subst h
    obtain ⟨p1,p2⟩:=b59 hT h2
    obtain ⟨t,t1,_,t3⟩:=(b10 hT (8*T.length+6)).1 _ _ _ _ h3
    have hlen:=(b1Y (8*T.length+6)).1 _ _ _ _ (Nat.zero_le _) h3
    refine ⟨⟨?_,fun hk=>?_,fun hk=>?_,p2,p1.ok,p1.len,p1.nod,⟨t,by rw [t1]; rfl,t3⟩,hlen⟩,by simpa using hany⟩
    ·have:=b3F (tk T n).t
     rcases this with g | g | g | g
     ·exact absurd (.inr g) h0
     ·exact .inl g
     ·exact .inr (.inl g)
     ·exact .inr (.inr g)
    ·unfold a3q at h1
     rw [if_neg hk] at h1
     exact a2N hT h1
    ·unfold a3q at h1
     rw [if_pos hk] at h1
     exact a2T h1
structure b57 (l:List De):Prop where
 ok:∀ d∈l,DeG d
 nod:(l.map fun d=>(d.k,d.name)).Nodup
theorem a6B {T:List Tok} (hT:TG T):∀ (f n:Nat) (l:List De) (y:List De × Nat),b57 l→Y9 f T n l=some y→b57 y.1
 | 0,n,l,y,_,h=>by cases h
 | f+1,n,l,y,hl,h=>by
  rw [Y9] at h
  split at h
  ·injection h with h
   subst h
   exact hl
  ·obtain ⟨x,h1,h⟩:=j2 h
   obtain ⟨g1,g2⟩:=b5o hT h1
   refine a6B hT f _ _ y ⟨fun d hd=>?_,?_⟩ h
   ·rcases List.mem_append.1 hd with hd | hd
    ·exact hl.ok d hd
    ·simp at hd; subst hd; exact g1
   ·rw [List.map_append]
    refine a2i hl.nod fun hm=>?_
    obtain ⟨d,hd,he⟩:=List.mem_map.1 hm
    injection he with e1 e2
    have:=List.any_eq_false.1 g2 d hd
    simp [e1,e2] at this
structure b93 (pkg:Str) (l:List Str):Prop where
 g:a3I l
 p:pkg∉l
theorem a9O {T:List Tok} (hT:TG T) {pkg:Str}:∀ (f n:Nat) (l:List Str) (y:List Str × Nat),b93 pkg l→a44 f T pkg n l=some y→b93 pkg y.1
 | 0,n,l,y,_,h=>by cases h
 | f+1,n,l,y,hl,h=>by
  rw [a44] at h
  split at h
  ·split at h
   ·cases h
   ·rename_i h8
    obtain ⟨x,h1,h⟩:=j2 h
    split at h
    ·cases h
    ·rename_i hno
     obtain ⟨m,_,h⟩:=j2 h
     refine a9O hT f _ _ y ⟨hl.g.snoc (a2N hT h1) h8 fun hm=>hno (.inr hm),fun hm=>?_⟩ h
     rcases List.mem_append.1 hm with hm | hm
     ·exact hl.p hm
     ·simp at hm; exact hno (.inl hm.symm)
  ·injection h with h
   subst h
   exact hl
theorem b47 {T:List Tok} (hT:TG T) {x:Src} (h:W1 T=some x):a0X x:=by
 have hlen:=a6R h
 unfold W1 at h
 obtain ⟨n1,_,h⟩:=j2 h
 obtain ⟨w,h1,h⟩:=j2 h
 obtain ⟨n2,_,h⟩:=j2 h
 obtain ⟨y,h2,h⟩:=j2 h
 obtain ⟨z,h3,h⟩:=j2 h
 injection h with h
 subst h
 have hi:=a9O hT _ _ _ _ ⟨a1O,fun h=>(by cases h)⟩ h2
 have hd:=a6B hT _ _ _ _ (⟨fun d h=>(by cases h),List.nodup_nil⟩:b57 []) h3
 exact ⟨a2N hT h1,hi.g.ok,hi.g.len,hi.g.nod,hi.p,hd.ok,hlen,hd.nod⟩
theorem b3G {s:Str} {x:Src} (h:S7 s=some x):a0X x:=by
 unfold S7 at h
 obtain ⟨T,h1,h2⟩:=j2 h
 exact b47 (b7o h1) h2
abbrev tU8:Nat:=5
def a1y (T:TypeId) (n:Nat):Prop:=liesAt CC.P CC.P.depth T (n / CC.P.cellsOf T) 0 240 1=true
def b7T (q:Nat):Bool→CV
 | true=>.ptr q 0
 | false=>.val (.pointer none)
def x0 (T:TypeId) (q s:Nat) (a:Bool) (l:Str) (rest:List CV):c5:=.boxT (some T) (b7T q a::Y5 l s::rest)
def bSt (T:TypeId) (a:Bool) (l:Str) (rest:List CV):List c5:=[x0 T 0 1 a l rest,r2 tU8 l.length]
def a3k (T:TypeId) (l:Str) (rest:List CV):List c5:=[x0 T 0 2 true l rest,.dead,r2 tU8 l.length]
set_option maxRecDepth 10000 in
theorem b5d {T:TypeId} {rest:List CV} (hT:a1y T (rest.length+2)) (l:Str):b8 CC 236 [.ptr 0 0] (bSt T false l rest) fun r τ=>r = .ret (.tup [])∧τ=bSt T true l rest:=by
 refine (d8 Tryz.func236 rfl rfl ?_)
 refine a7 (a6 ?_)
 refine cY b7 ?_; refine cY o7 ?_; refine cY a6d ?_; refine cY a9M ?_; refine cY (b2B rfl tt rfl Tryz.runUnderlying238) ?_; refine a8 ?_
 refine b9 tt rfl (fun h1=>?_) (fun h1=>?_)
 ·skip
  refine a6 ?_; refine cY b7 ?_; refine cY b7 ?_; refine cY (b0Q rfl tt rfl rfl (Nat.succ_pos _) 240 j6 j6 j6) ?_; refine cY (b76 (e:=Extern.AbiNoEscape.same) rfl Tryz.func271 rfl rfl rfl rfl tt rfl (fun v w=>rfl)) ?_; refine cY (a7E rfl tt rfl rfl 240 j6 j6 j6 hT) ?_; refine cY o7 ?_; refine cY a6d ?_
  refine cD (j1 rfl tt tt rfl c6 Tryz.sizeOf238 (.inl rfl) rfl rfl (nb rfl) ?_)
  refine a8 ?_
  exact ⟨_,o4 (rs:=[]) (cs:=[]) rfl tt (Nat.ne_of_beq_eq_false rfl),⟨rfl,rfl⟩⟩
 ·cases h1
set_option maxRecDepth 10000 in
theorem b5b {T:TypeId} {rest:List CV} (l:Str):b8 CC 236 [.ptr 0 0] (bSt T true l rest) fun r τ=>r = .ret (.tup [])∧τ=bSt T true l rest:=by
 refine (d8 Tryz.func236 rfl rfl ?_)
 refine a7 (a6 ?_)
 refine cY b7 ?_; refine cY o7 ?_; refine cY a6d ?_; refine cY a9M ?_; refine cY (a8w rfl tt rfl Tryz.runUnderlying238) ?_; refine a8 ?_
 refine b9 tt rfl (fun h1=>?_) (fun h1=>?_)
 ·cases h1
 ·skip
  refine a7 (a6 ?_)
  refine cY b7 ?_; refine cY o7 ?_; refine cY a6d ?_; refine cY a9M ?_; refine cY b7 ?_; refine cY (a6O rfl tt tt rfl rfl 240 j6 j6) ?_; refine a8 ?_
  refine b9 tt rfl (fun h2=>?_) (fun h2=>?_)
  ·cases h2
  ·skip
   refine c8 ?_
   exact ⟨_,o4 (rs:=[]) (cs:=[]) rfl tt (Nat.ne_of_beq_eq_false rfl),⟨rfl,rfl⟩⟩
theorem a7Q {T:TypeId} {rest:List CV} (hT:a1y T (rest.length+2)) (a:Bool) (l:Str):b8 CC 236 [.ptr 0 0] (bSt T a l rest) fun r τ=>∃ _:Unit,r = .ret (.tup [])∧τ=bSt T true l rest∧True:=by
 cases a
 ·exact (b5d hT l).mono fun r τ h=>⟨(),h.1,h.2,tt⟩
 ·exact (b5b l).mono fun r τ h=>⟨(),h.1,h.2,tt⟩
set_option maxRecDepth 10000 in
theorem a5y {T:TypeId} {rest:List CV} (hT:a1y T (rest.length+2)) (a:Bool) (l:Str) (c:UInt8) (hl:l.length < 140737488355328):b8 CC 291 [.ptr 0 0,.val (.int .u8 c.toNat)] (bSt T a l rest) fun r τ=>∃ _:Unit,r = .ret (.val .nilIface)∧τ=a3k T (l++[c]) rest∧True:=by
 refine (d8 Tryz.func291 rfl rfl ?_)
 refine a7 (a6 ?_)
 refine cY i7 ?_
 refine a8 (a7 (a6 ?_))
 refine cY b7 ?_
 refine cD (k8 rfl Tryz.call236 ⟨tt,tt⟩ (a7Q hT a l) rfl ?_)
 intro _ _
 refine a8 (a7 (a6 ?_))
 refine cY b7 ?_; refine cY b7 ?_; refine cY o7 ?_; refine cY R7 ?_; refine cY a0f ?_; refine cY b7 ?_; refine cY (y7 [bcv c] rfl ⟨tt,tt⟩ Tryz.runUnderlying139 Tryz.sizeOf5 Tryz.zeroValue5 rfl rfl rfl rfl rfl rfl rfl rfl rfl) ?_
 refine cD (a27 (l:=l) (new:=[c]) (p:=1) rfl tt tt rfl (fun M w v hr h=>(a2B (rows:=[bcv c]) rfl (by intro r hr; simp at hr; subst hr; rfl) M w v hr h).any) Tryz.runUnderlying139 Tryz.sizeOf5 Tryz.typeInfo5 Tryz.zeroValue5 rfl (.inl Tryz.runUnderlying139) rfl rfl a58 ?_)
 refine cY o7 ?_; refine cY R7 ?_
 refine cD (j1 rfl tt tt rfl c6 Tryz.sizeOf139 (.inl rfl) rfl rfl (nb rfl) ?_)
 refine a8 (a7 (a6 ?_))
 refine cY i7 ?_
 refine a8 (d5 ?_)
 exact ⟨_,l4 rfl tt c6,⟨(),rfl,rfl,tt⟩⟩
set_option maxRecDepth 10000 in
theorem a3Y {T:TypeId} {rest:List CV} (hT:a1y T (rest.length+2)) (a:Bool) (l:Str) (s:Str) (hl:l.length+s.length≤140737488355328):b8 CC 195 [.ptr 0 0,sv s] (bSt T a l rest) fun r τ=>∃ _:Unit,r = .ret (.tup [.val (.int .i64 s.length),.val .nilIface])∧τ=a3k T (l++s) rest∧True:=by
 refine (d8 Tryz.func195 rfl rfl ?_)
 refine a7 (a6 ?_)
 refine cY i7 ?_; refine cY i7 ?_
 refine a8 (a7 (a6 ?_))
 refine cY b7 ?_
 refine cD (k8 rfl Tryz.call236 ⟨tt,tt⟩ (a7Q hT a l) rfl ?_)
 intro _ _
 refine a8 (a7 (a6 ?_))
 refine cY b7 ?_; refine cY b7 ?_; refine cY o7 ?_; refine cY R7 ?_; refine cY a0f ?_; refine cY b7 ?_
 refine cD (a27 (l:=l) (new:=s) (p:=1) rfl tt tt rfl (b0q rfl) Tryz.runUnderlying139 Tryz.sizeOf5 Tryz.typeInfo5 Tryz.zeroValue5 rfl (.inr Tryz.runUnderlying9) rfl rfl a58 ?_)
 refine cY o7 ?_; refine cY R7 ?_
 refine cD (j1 rfl tt tt rfl c6 Tryz.sizeOf139 (.inl rfl) rfl rfl (nb rfl) ?_)
 refine a8 (a7 (a6 ?_))
 refine cY b7 ?_; refine cY E4 ?_; refine cY c7 ?_; refine cY i7 ?_
 refine a8 (d5 ?_)
 exact ⟨_,o4 (rs:=[.tmp 4,.tmp 5]) (cs:=[_,_]) rfl ⟨⟨tt,c6⟩,⟨tt,c6⟩,tt⟩ (Nat.ne_of_beq_eq_false rfl),⟨(),rfl,rfl,tt⟩⟩
set_option maxRecDepth 10000 in
theorem b02 {T:TypeId} {rest:List CV} (a:Bool) (c:UInt8) (l:Str):b8 CC 197 [.ptr 0 0] (bSt T a (c::l) rest) fun r τ=>r = .ret (sv (c::l))∧τ=[x0 T 0 1 a (c::l) rest,.dead]:=by
 refine (d8 Tryz.func197 rfl rfl ?_)
 refine a7 (a6 ?_)
 refine cY i7 ?_
 refine a8 (a7 ?_)
 refine r5 10 [0,1,3,7,15,0,32,96,224,480,1023,2047] j6 j6 rfl ?_; refine hY b7 ?_; refine hY o7 ?_; refine hY R7 ?_; refine hY a0f ?_; refine hY (a8E rfl tt rfl m5) ?_; refine hY b7 ?_; refine hY o7 ?_; refine hY R7 ?_; refine hY a0f ?_; refine hY b05 ?_; refine u0 ?_
 refine cD ((a4k (q:=1) (k:=0) (i:=1) (l:=c::l)) rfl tt tt rfl rfl rfl rfl rfl m5 j6 j6 ?_)
 refine cY c7 ?_
 refine a8 (d5 ?_)
 exact ⟨_,l4 rfl tt c6,⟨rfl,rfl⟩⟩
set_option maxRecDepth 10000 in
theorem b0t {T:TypeId} {rest:List CV} (a:Bool):b8 CC 197 [.ptr 0 0] (bSt T a [] rest) fun r τ=>r = .ret (sv [])∧τ=[x0 T 0 1 a [] rest,.dead]:=by
 refine (d8 Tryz.func197 rfl rfl ?_)
 refine a7 (a6 ?_)
 refine cY i7 ?_
 refine a8 (a7 ?_)
 refine r5 10 [0,1,3,7,15,0,32,96,224,480,1023,2047] j6 j6 rfl ?_; refine hY b7 ?_; refine hY o7 ?_; refine hY R7 ?_; refine hY a0f ?_; refine hY (a7c rfl tt rfl) ?_; refine hY b7 ?_; refine hY o7 ?_; refine hY R7 ?_; refine hY a0f ?_; refine hY b05 ?_; refine u0 ?_
 refine cD (a3X rfl tt tt rfl rfl ?_)
 refine cY c7 ?_
 refine a8 (d5 ?_)
 exact ⟨_,l4 rfl tt c6,⟨rfl,rfl⟩⟩
def BAt (σ:List c5) (q s:Nat) (T:TypeId) (a:Bool) (l:Str) (rest:List CV):Prop:=σ[q]? = some (x0 T q s a l rest)∧σ[s]? = some (r2 tU8 l.length)∧q≠s
theorem U5 (l:Str):∀ r∈l.map bcv,∀ c∈r,p5 c:=fun r hr c hc=>by
 obtain ⟨b,_,rfl⟩:=List.mem_map.1 hr
 simp [bcv] at hc
 subst hc
 exact .val _
theorem a9K {R:Nat→Nat→Prop} {l:Str} {s s':Nat} (h:R s s'):H3 R (Y5 l s) (Y5 l s'):=by
 refine .list rfl (fun i r r' h1 h2=>by rw [h1] at h2; injection h2 with h2; rw [h2]) (fun i j r r' c c' h1 h2 h3 h4=>?_) ?_
 ·rw [h1] at h2; injection h2 with h2; subst h2; rw [h3] at h4; injection h4 with h4; subst h4
  exact .pure (U5 l r (List.mem_of_getElem? h1) c (List.mem_of_getElem? h3))
 ·cases hb:l.length with
  | zero=>exact .inl ⟨rfl,rfl⟩
  | succ m=>exact .inr ⟨s,s',rfl,rfl,h⟩
theorem a2Q {R:Nat→Nat→Prop} {T:TypeId} {q q' s s':Nat} {a:Bool} {l:Str} {rest:List CV} (hq:R q q') (h:R s s') (hr:∀ c∈rest,p5 c):B2 R (x0 T q s a l rest) (x0 T q' s' a l rest):=by
 refine .box (.cons ?_ (.cons (a9K h) (E9 hr)))
 cases a
 ·exact .pure (.val _)
 ·exact .ptr hq
theorem a1J {R:Nat→Nat→Prop} (t:TypeId) (m:Nat):B2 R (r2 t m) (r2 t m):=by
 cases m with
 | zero=>exact .dead
 | succ m=>exact .tip _
theorem b0M {α:Type} {f:FuncId} {args:List CV} {c:α→CV} {l':α→Str} {rest':α→List CV} {P:α→Prop} {T:TypeId} {a:Bool} {l:Str} {rest:List CV} (hargs:∀ a∈args,p5 a) (hc:∀ x,P x→p5 (c x)) (hr:∀ c∈rest,p5 c) (hr':∀ x,P x→∀ c∈rest' x,p5 c)
 (h:b8 CC f (.ptr 0 0::args) (bSt T a l rest) fun r τ=>∃ x,r = .ret (c x)∧τ=a3k T (l' x) (rest' x)∧P x) {σ:List c5} {q s:Nat} (hσ:BAt σ q s T a l rest) :
 b8 CC f (.ptr q 0::args) σ fun r τ=>∃ x,r = .ret (c x)∧τ=(σ.set q (x0 T q σ.length true (l' x) (rest' x))).set s .dead++[r2 tU8 (l' x).length]∧P x:=by
 obtain ⟨h1,h2,h3⟩:=hσ
 have hq:=(List.getElem?_eq_some_iff.1 h1).1
 have hs:=(List.getElem?_eq_some_iff.1 h2).1
 refine B4 [q,s] hCC rfl (fun i j k g1 g2=>?_) (fun i k ob g1 g2=>?_) (.cons (.ptr rfl) (E9 hargs)) h fun r τ hk=>?_
 ·rcases i with _ | _ | i <;> rcases j with _ | _ | j <;> simp at g1 g2 <;> first|rfl|(exfalso; exact h3 (g1.trans g2.symm))|(exfalso; exact h3 (g2.trans g1.symm))
 ·rcases i with _ | _ | i
  ·simp [bSt] at g1 g2
   subst g1 g2
   exact ⟨_,h1,a2Q rfl rfl hr⟩
  ·simp [bSt] at g1 g2
   subst g1 g2
   exact ⟨_,h2,a1J _ _⟩
  ·simp at g1
 ·obtain ⟨x,rfl,rfl,hp⟩:=hk
  refine ⟨by simp [bSt,a3k],.ret (c x),(σ.set q (x0 T q σ.length true (l' x) (rest' x))).set s .dead++[r2 tU8 (l' x).length],(.ret (.pure (hc x hp))),by simp [bSt,a3k],fun k hk hks=>?_,fun i k y ha hx=>?_,x,rfl,rfl,hp⟩
  ·have n1:q≠k:=fun e=>hks (by simp [e])
   have n2:s≠k:=fun e=>hks (by simp [e])
   rw [List.getElem?_append_left (by simpa using hk)]
   simp [n1,n2]
  ·rcases ha with ha | ⟨ha,rfl⟩
   ·rcases i with _ | _ | i
    ·simp [a3k] at ha hx
     subst ha hx
     refine ⟨x0 T q σ.length true (l' x) (rest' x),?_,a2Q (.inl rfl) (.inr ⟨by simp,by simp⟩) (hr' x hp)⟩
     rw [List.getElem?_append_left (by simpa using hq),List.getElem?_set_ne h3.symm]
     simp [hq]
    ·simp [a3k] at ha hx
     subst ha hx
     refine ⟨.dead,?_,.dead⟩
     rw [List.getElem?_append_left (by simpa using hs)]
     simp [hs]
    ·simp at ha
   ·rcases i with _ | _ | _ | i
    ·simp at ha
    ·simp at ha
    ·simp [a3k] at hx
     subst hx
     refine ⟨r2 tU8 (l' x).length,?_,a1J _ _⟩
     rw [List.getElem?_append_right m5]
     simp
    ·simp [a3k] at hx
theorem T7 {T:TypeId} {rest:List CV} (hT:a1y T (rest.length+2)) (a:Bool) (l:Str) (hr:∀ c∈rest,p5 c) (c:UInt8) (hl:l.length < 140737488355328) {σ:List c5} {q s:Nat} (hσ:BAt σ q s T a l rest) :
 b8 CC 291 [.ptr q 0,.val (.int .u8 c.toNat)] σ fun r τ=>∃ _:Unit,r = .ret (.val .nilIface)∧τ=(σ.set q (x0 T q σ.length true (l++[c]) rest)).set s .dead++[r2 tU8 (l++[c]).length]∧True :=
 b0M (c:=fun _=>.val .nilIface) (l':=fun _=>l++[c]) (rest':=fun _=>rest) (fun a h=>by simp at h; subst h; exact .val _) (fun _ _=>.val _) hr (fun _ _=>hr) (a5y hT a l c hl) hσ
theorem o8 {T:TypeId} {rest:List CV} (hT:a1y T (rest.length+2)) (a:Bool) (l:Str) (hr:∀ c∈rest,p5 c) (s:Str) (hl:l.length+s.length≤140737488355328) {σ:List c5} {q k:Nat} (hσ:BAt σ q k T a l rest) :
 b8 CC 195 [.ptr q 0,sv s] σ fun r τ=>∃ _:Unit,r = .ret (.tup [.val (.int .i64 s.length),.val .nilIface])∧τ=(σ.set q (x0 T q σ.length true (l++s) rest)).set k .dead++[r2 tU8 (l++s).length]∧True :=
 b0M (c:=fun _=>.tup [.val (.int .i64 s.length),.val .nilIface]) (l':=fun _=>l++s) (rest':=fun _=>rest) (fun a h=>by simp at h; subst h; exact .val _) (fun _ _=>d7 ⟨.val _,.val _,tt⟩) hr (fun _ _=>hr) (a3Y hT a l s hl) hσ
theorem b0W {T:TypeId} {rest:List CV} (a:Bool) (l:Str):b8 CC 197 [.ptr 0 0] (bSt T a l rest) fun r τ=>∃ _:Unit,r = .ret (sv l)∧τ=[x0 T 0 1 a l rest,.dead]∧True:=by
 cases l with
 | nil=>exact (b0t a).mono fun r τ h=>⟨(),h.1,h.2,tt⟩
 | cons c l=>exact (b02 a c l).mono fun r τ h=>⟨(),h.1,h.2,tt⟩
theorem a0v {T:TypeId} {rest:List CV} (hr:∀ c∈rest,p5 c) (a:Bool) (l:Str) {σ:List c5} {q k:Nat} (hσ:BAt σ q k T a l rest):b8 CC 197 [.ptr q 0] σ fun r τ=>∃ _:Unit,r = .ret (sv l)∧τ=σ.set k .dead∧True:=by
 obtain ⟨h1,h2,h3⟩:=hσ
 have hq:=(List.getElem?_eq_some_iff.1 h1).1
 have hs:=(List.getElem?_eq_some_iff.1 h2).1
 refine B4 [q,k] hCC rfl (fun i j k g1 g2=>?_) (fun i k ob g1 g2=>?_) (.cons (.ptr rfl) .nil) (b0W (T:=T) (rest:=rest) a l) fun r τ hk=>?_
 ·rcases i with _ | _ | i <;> rcases j with _ | _ | j <;> simp at g1 g2 <;> first|rfl|(exfalso; exact h3 (g1.trans g2.symm))|(exfalso; exact h3 (g2.trans g1.symm))
 ·rcases i with _ | _ | i
  ·simp [bSt] at g1 g2
   subst g1 g2
   exact ⟨_,h1,a2Q rfl rfl hr⟩
  ·simp [bSt] at g1 g2
   subst g1 g2
   exact ⟨_,h2,a1J _ _⟩
  ·simp at g1
 ·obtain ⟨x,rfl,rfl,hp⟩:=hk
  refine ⟨by simp [bSt],.ret (sv l),σ.set k .dead,.ret (.pure (.val _)),by simp [bSt],fun j hj hjs=>?_,fun i j y ha hx=>?_,x,rfl,rfl,hp⟩
  ·have n2:k≠j:=fun e=>hjs (by simp [e])
   simp [n2]
  ·rcases ha with ha | ⟨ha,rfl⟩
   ·rcases i with _ | _ | i
    ·simp at ha hx
     subst ha hx
     exact ⟨_,by rw [List.getElem?_set_ne h3.symm]; exact h1,a2Q (.inl rfl) (.inl rfl) hr⟩
    ·simp at ha hx
     subst ha hx
     exact ⟨.dead,by simp [hs],.dead⟩
    ·simp at ha
   ·rcases i with _ | _ | i <;> simp at ha hx
theorem a57 {τ:List c5} {T:TypeId} {k:Nat} {l:Str} {rest:List CV} {c:CV} (h0:τ[0]? = some (x0 T 0 k true l rest)) (hk:τ[k]? = some (r2 tU8 l.length)) (h2:2≤k) (hr:∀ c∈rest,p5 c) (hc:Old 2 c):L2 2 τ (.ret c) (.ret c) (a3k T l rest):=by
 have k1:a2D 2 [0,1,k]=true:=rfl
 have k2:Q7 [0,1,k]=true:=by
  have e0:(k == 0)=false:=by simp; omega
  have e1:(k == 1)=false:=by simp; omega
  have e2:(0 == k)=false:=by simp; omega
  have e3:(1 == k)=false:=by simp; omega
  simp [Q7]
  omega
 refine ⟨[0,1,k],k1,k2,.ret (.old hc),.inr ⟨_,h0,.box ⟨.old (.ptr j5),.list (fun r hr c hc=>(U5 l r hr c hc).old) ?_,?_⟩⟩,.inl rfl,.inr ⟨_,hk,.same rfl (a6h _ _ _)⟩,tt⟩
 ·intro j hj
  cases hb:l.length with
  | zero=>rw [hb] at hj; cases hj
  | succ m=>rw [hb] at hj; injection hj with hj; subst hj; exact ⟨k,rfl,rfl⟩
 ·have:∀ l:List CV,(∀ c∈l,p5 c)→a7u 2 l:=fun l=>by
   induction l with
   | nil=>intro _; trivial
   | cons x l ih=>intro h; exact ⟨(h x m5).old,ih fun c hc=>h c (by simp [hc])⟩
  exact a2Y (this rest hr)
theorem b8P {C:Ctx} {M:l3} {w:World} {σ:List c5} {T:TypeId} {q s:Nat} {a:Bool} {l:Str} {rest:List CV} (hr:Rel C M σ w) (hσ:BAt σ q s T a l rest):∃ M',Ext M w M' w∧Rel C M' ((σ.set q (x0 T q σ.length a l rest)).set s .dead++[r2 tU8 l.length]) w:=by
 obtain ⟨h1,h2,h3⟩:=hσ
 have hq:=(List.getElem?_eq_some_iff.1 h1).1
 have hs:=(List.getElem?_eq_some_iff.1 h2).1
 cases l with
 | nil =>
  rw [show σ.set q (x0 T q σ.length a [] rest)=σ from a1g h1,show σ.set s c5.dead=σ from a1g h2]
  obtain ⟨hr1,hx1⟩:=hr.addDead ⟨0,0,0⟩
  exact ⟨_,hx1,hr1⟩
 | cons x l =>
  obtain ⟨ps,hps⟩:∃ p,M.pl[s]? = some p:=⟨_,List.getElem?_eq_getElem (by rw [hr.len]; exact hs)⟩
  obtain ⟨pq,hpq⟩:∃ p,M.pl[q]? = some p:=⟨_,List.getElem?_eq_getElem (by rw [hr.len]; exact hq)⟩
  obtain ⟨⟨hcap,_⟩,_⟩:=hr.obj s ps _ hps h2
  obtain ⟨hx1,hr1⟩:=hr.tipNew (m:=(x::l).length) hps h2 (Nat.le_refl _) hcap
  have hpq':(M.add ps).pl[q]? = some pq:=hx1.get hpq
  have hps':(M.add ps).pl[s]? = some ps:=hx1.get hps
  have hpn:(M.add ps).pl[σ.length]? = some ps:=by simp [l3.add,← hr.len]
  have hbq:(σ.set s c5.dead++[c5.tipT (some tU8) (x::l).length])[q]? = some (x0 T q s a (x::l) rest):=by
   rw [List.getElem?_append_left (by simpa using hq),List.getElem?_set_ne h3.symm,h1]
  obtain ⟨⟨arr,ty,e1,e2,e3,e4⟩,hf,hcl⟩:=hr1.obj q pq _ hpq' hbq
  have hcell:∀ (i:Nat) (c:CV),(b7T q a::Y5 (x::l) σ.length::rest)[i]? = some c→RV (M.add ps) w c (arr.getD i undef):=fun i c hi=>by
   rcases i with _ | _ | i
   ·exact e4 0 c hi
   ·injection hi with hi
    subst hi
    have hl:=e4 1 _ rfl
    obtain ⟨a',cap',b',off',s'',vals',hv',q1,q2,q3,q4,q5,q6,q7,q8,q9,q10⟩:=hl.list_inv
    rw [hv']
    refine RV.list' (L:=((x::l).map bcv).length) rfl vals' q1 q2 (by rw [q3]) (fun h=>by cases h) q5 q6 q7 q8 q9 (fun k' hk'=>?_)
    obtain ⟨s3,g1,g2,g3,g4⟩:=q10 s rfl
    injection hk' with hk'
    subst hk'
    refine ⟨s3,?_,g2,g3,g4⟩
    rw [hps'] at g1
    rw [hpn,g1]
   ·exact e4 (i+2) c hi
  have hro:G0 (M.add ps) w pq (x0 T q σ.length a (x::l) rest):=⟨arr,ty,e1,e2,fun c hc=>by
   rcases List.mem_cons.1 hc with rfl | hc
   ·cases a <;> rfl
   ·rcases List.mem_cons.1 hc with rfl | hc
    ·rfl
    ·exact e3 c (List.mem_cons_of_mem _ (List.mem_cons_of_mem _ hc)),hcell⟩
  have hfin:=hr1.putObj (ob:=x0 T q σ.length a (x::l) rest) hpq' hbq rfl hf hcl (.cells arr ((some T).getD ty) (0,0)) (by rw [World.putObj_self w e1]; exact hro)
  rw [World.putObj_self w e1] at hfin
  refine ⟨_,hx1,?_⟩
  have hst:(σ.set s c5.dead++[c5.tipT (some tU8) (x::l).length]).set q (x0 T q σ.length a (x::l) rest)=(σ.set q (x0 T q σ.length a (x::l) rest)).set s .dead++[r2 tU8 (x::l).length]:=by
   rw [List.set_append_left _ _ (by simpa using hq),List.set_comm _ _ h3.symm]
   rfl
  rw [← hst]
  exact hfin
theorem b6U {C:Ctx} {n:Nat} {c:Code} {Q:s8→Env→List c5→Prop} {E:Env} {σ:List c5} (T:TypeId) (q s:Nat) (a:Bool) (l:Str) (rest:List CV) (hσ:BAt σ q s T a l rest) (h:CWp C n c Q E ((σ.set q (x0 T q σ.length a l rest)).set s .dead++[r2 tU8 l.length])):CWp C n c Q E σ:=fun M w ac hr hf=>by
 obtain ⟨M',h1,h2⟩:=b8P hr hσ
 exact wp_mono (h _ w ac h2 (hf.mono h1)) fun _ _ _=>E6.later h1
end Go.Proofs.YtoblbdedgjfeaaaGreatDoor
namespace Go.Proofs
open Go.Shelf
def Tryz.laysM171_ren:Go.Shelf.Ren:=⟨fun | 171=>104 | 243=>146 | 246=>198 | 283=>238 | 284=>239 | 285=>240 | 286=>241 | 129=>164 | 317=>273 | 318=>274 | 319=>275 | 320=>276 | 337=>294 | 338=>295 | n=>n,fun | 3=>3 | 9=>9 | 2=>2 | 4=>4 | 171=>275 | 0=>0 | 53=>77 | 37=>139 | 5=>5 | 173=>277 | 212=>305 | 51=>203 | 20=>20 | 213=>306 | 46=>125 | 232=>323 | 233=>324 | n=>n,fun | 17=>1 | 18=>4 | 19=>5 | n=>n⟩
theorem Tryz.laysM171:Go.Proofs.LaysM.n171 Tryz.prog Tryz.laysM171_ren:={
 mixed:=by kernel_rfl
 f129:=Tryz.func164.trans (congrArg some j6)
 f171:=Tryz.func104.trans (congrArg some j6)
 f243:=Tryz.func146.trans (congrArg some j6)
 f246:=Tryz.func198.trans (congrArg some j6)
 f283:=Tryz.func238.trans (congrArg some j6)
 f284:=Tryz.func239.trans (congrArg some j6)
 f285:=Tryz.func240.trans (congrArg some j6)
 f286:=Tryz.func241.trans (congrArg some j6)
 f317:=Tryz.func273.trans (congrArg some j6)
 f318:=Tryz.func274.trans (congrArg some j6)
 f319:=Tryz.func275.trans (congrArg some j6)
 f320:=Tryz.func276.trans (congrArg some j6)
 f337:=Tryz.func294.trans (congrArg some j6)
 f338:=Tryz.func295.trans (congrArg some j6)
 t0:=Tryz.underlying0
 a0:=Tryz.isAgg0
 z0:=Tryz.sizeOf0
 v0:=Tryz.zeroValue0
 t2:=Tryz.underlying2
 a2:=Tryz.isAgg2
 z2:=Tryz.sizeOf2
 v2:=Tryz.zeroValue2
 t3:=Tryz.underlying3
 a3:=Tryz.isAgg3
 z3:=Tryz.sizeOf3
 v3:=Tryz.zeroValue3
 t4:=Tryz.underlying4
 a4:=Tryz.isAgg4
 z4:=Tryz.sizeOf4
 v4:=Tryz.zeroValue4
 t5:=Tryz.underlying5
 a5:=Tryz.isAgg5
 z5:=Tryz.sizeOf5
 v5:=Tryz.zeroValue5
 t9:=Tryz.underlying9
 a9:=Tryz.isAgg9
 z9:=Tryz.sizeOf9
 v9:=Tryz.zeroValue9
 t20:=Tryz.underlying20
 a20:=Tryz.isAgg20
 z20:=Tryz.sizeOf20
 v20:=Tryz.zeroValue20
 t37:=Tryz.underlying139
 a37:=Tryz.isAgg139
 z37:=Tryz.sizeOf139
 v37:=Tryz.zeroValue139
 t46:=Tryz.underlying125
 a46:=Tryz.isAgg125
 z46:=Tryz.sizeOf125
 v46:=Tryz.zeroValue125
 t51:=Tryz.underlying203
 a51:=Tryz.isAgg203
 z51:=Tryz.sizeOf203
 v51:=Tryz.zeroValue203
 t53:=Tryz.underlying77
 a53:=Tryz.isAgg77
 z53:=Tryz.sizeOf77
 v53:=Tryz.zeroValue77
 t171:=Tryz.underlying275
 a171:=Tryz.isAgg275
 z171:=Tryz.sizeOf275
 v171:=Tryz.zeroValue275
 t173:=Tryz.underlying277
 a173:=Tryz.isAgg277
 z173:=Tryz.sizeOf277
 v173:=Tryz.zeroValue277
 t212:=Tryz.underlying305
 a212:=Tryz.isAgg305
 z212:=Tryz.sizeOf305
 v212:=Tryz.zeroValue305
 t213:=Tryz.underlying306
 a213:=Tryz.isAgg306
 z213:=Tryz.sizeOf306
 t232:=Tryz.underlying323
 a232:=Tryz.isAgg323
 z232:=Tryz.sizeOf323
 v232:=Tryz.zeroValue323
 t233:=Tryz.underlying324
 a233:=Tryz.isAgg324
 z233:=Tryz.sizeOf324
 v233:=Tryz.zeroValue324
 g17:=by kernel_rfl
 g18:=by kernel_rfl
 g19:=by kernel_rfl
 i0:=by kernel_rfl
 i2:=by kernel_rfl
 i3:=by kernel_rfl
 i4:=by kernel_rfl
 i5:=by kernel_rfl
 i9:=by kernel_rfl
 i20:=by kernel_rfl
 i37:=by kernel_rfl
 i46:=by kernel_rfl
 i51:=by kernel_rfl
 i53:=by kernel_rfl
 i171:=by kernel_rfl
 i173:=by kernel_rfl
 i212:=by kernel_rfl
 i232:=by kernel_rfl
 i233:=by kernel_rfl
 m17:=by kernel_rfl
 m18:=by kernel_rfl
 m19:=by kernel_rfl}
end Go.Proofs
namespace Go.Proofs.YtoblbdedgjfeaaaGreatDoor
open Go Go.Cl
theorem b0n (n:Int) (h0 : -9223372036854775808≤n) (h1:n≤9223372036854775807) (σ:List c5):b8 CC 104 [.val (.int .i64 n)] σ fun r σ'=>r = .ret (sv (Lib.itoa n))∧σ'=σ :=
 a49 (fun M σ w vs hr hn hx=>by
  have hv:vs = #[.int .i64 n]:=by
   refine Array.ext_getElem? fun i=>?_
   rcases i with _ | i
   ·have h:=n8 (hx 0 _ rfl)
    have hs:0 < vs.size:=by rw [hn]; exact Nat.succ_pos _
    simp only [Array.getD_eq_getD_getElem?,Array.getElem?_eq_getElem hs,Option.getD_some] at h
    rw [Array.getElem?_eq_getElem hs,h]
    rfl
   ·have hs:vs.size≤i+1:=by rw [hn]; show 1≤i+1; omega
    rw [Array.getElem?_eq_none hs]
    rfl
  subst hv
  have ht:Lib.pow10Tab=[1,10,100,1000,10000,100000,1000000,10000000,100000000,1000000000,10000000000,100000000000,1000000000000,10000000000000,100000000000000,1000000000000000,10000000000000000,100000000000000000,1000000000000000000,10000000000000000000]:=by decide
  refine Any.strconv_Itoa Tryz.laysM171 n h0 h1 w ?_
  rw [ht]
  exact GV.tab (C:=CC) (hr.glob 1 b0T rfl) j6) σ
theorem a8Z {u n:Nat} (hn:0 < n) (h:u < 10^n):(Lib.decDigits u).length≤n:=by
 induction n generalizing u with
 | zero=>omega
 | succ n ih =>
  rw [Lib.decDigits]
  split
  ·simp
  ·rcases Nat.eq_zero_or_pos n with rfl | hn
   ·omega
   ·have:=ih (u:=u / 10) hn (by rw [Nat.pow_succ] at h; omega)
    simp; omega
theorem a2E {n:Int} (h0 : -9223372036854775808≤n) (h1:n≤9223372036854775807):(Lib.itoa n).length≤20:=by
 unfold Lib.itoa
 split
 ·have:=a8Z (u:=n.natAbs) (n:=19) c4 c4
  simp; omega
 ·have:=a8Z (u:=n.toNat) (n:=19) c4 c4
  omega
def a3g (k o:Int):Int:=if k=5 then 0 else if k=4 then D6 o else 4
set_option maxRecDepth 10000 in
theorem b4H (x:Ex):b8 CC 290 [.agg x.cells] [] fun r σ'=>r = .ret (.val (.int .i64 (a3g x.k x.op)))∧σ'=[]:=by
 refine j4 (d8 Tryz.func290 rfl rfl ?_)
 refine a7 (a6 ?_)
 refine cD (w9 rfl tt c6 j3 ?_)
 refine cY i7 ?_
 refine a8 (a7 (a7 (a6 ?_)))
 refine cY X5 ?_; refine cY t7 ?_
 refine a8 (d9 (a7 (a6 ?_)))
 refine cY k7 ?_; refine cY c7 ?_; refine a8 ?_
 refine b9 tt rfl (fun h1=>?_) (fun h1=>?_)
 ·have u1:x.k=5:=by simpa using h1
  refine a7 (a6 ?_)
  refine cY i7 ?_
  refine a8 (d5 ?_)
  exact ⟨_,l4 rfl tt c6,_,_,rfl,rfl,r3 (by rw [a3g,if_pos u1])⟩
 ·have u1:¬ x.k=5:=by simpa using h1
  refine a7 (a6 ?_)
  refine cY k7 ?_; refine cY c7 ?_; refine a8 ?_
  refine b9 tt rfl (fun h2=>?_) (fun h2=>?_)
  ·have u2:x.k=4:=by simpa using h2
   refine a7 (a6 ?_)
   refine cY X5 ?_; refine cY t7 ?_; refine cY (i8 rfl Tryz.call301 ⟨tt,tt⟩ (a2S x.op _) rfl) ?_; refine cY c7 ?_
   refine a8 (d5 ?_)
   exact ⟨_,l4 rfl tt c6,_,_,rfl,rfl,r3 (by rw [a3g,if_neg u1,if_pos u2])⟩
  ·have u2:¬ x.k=4:=by simpa using h2
   refine c8 (a7 (a6 ?_))
   refine cY i7 ?_
   refine a8 (d5 ?_)
   exact ⟨_,l4 rfl tt c6,_,_,rfl,rfl,r3 (by rw [a3g,if_neg u1,if_neg u2])⟩
theorem a2a (x:Ex) (σ:List c5):b8 CC 290 [.agg x.cells] σ fun r σ'=>r = .ret (.val (.int .i64 (a3g x.k x.op)))∧σ'=σ :=
 b8.anyw hCC (by repeat' (first|exact .val _|exact d4 _ _|exact c9 _ _|exact s0 _ _|exact tt | refine d6 ?_ | refine d7 ?_ | refine ⟨?_,?_⟩)) (by repeat' (first|exact .val _|exact d4 _ _|exact c9 _ _|exact s0 _ _|exact tt | refine d6 ?_ | refine d7 ?_ | refine ⟨?_,?_⟩)) (b4H x) σ
def sgn (o:Int):Str:=(glk S0 o).getD []
def a4F (k:Int):Str:=if k=7 then [115,105,122,101] else if k=8 then [104,97,115] else if k=9 then [101,110,118] else []
def B9 (sep:Str):List Str→Str
 | []=>[]
 | [x]=>x
 | x::y::l=>x++sep++B9 sep (y::l)
def ndT (ps:List Str) (k u o:Int) (nm:Str) (cs:List Str):Str :=
 if k=1 then Lib.itoa u else if k=2 then ps.getD u.toNat [] else if k=4 then cs.getD 0 []++([32]++sgn o++[32])++cs.getD 1 [] else if k=5 then [105,102,32]++cs.getD 0 []++[32,116,104,101,110,32]++cs.getD 1 []++[32,101,108,115,101,32]++cs.getD 2 []
 else if k=3 then nm++[40]++B9 [44,32] cs++[41] else if k=6 then [114,101,97,100,40,34]++nm++[34,44,32]++cs.getD 0 []++[41] else if k=10 then [102,108,105,112,40]++Lib.itoa u++[41] else a4F k++([40,34]++nm++[34,41])
def a3V (k o:Int):List Int:=if k=4 then [if D6 o=1 then D6 o+1 else D6 o,D6 o+1] else []
mutual
def Tr.txt (ps:List Str):Tr→Int→Str
 | .n k u o nm ch,pl=>if a3g k o < pl then [40]++ndT ps k u o nm (D5 ps ch (a3V k o))++[41] else ndT ps k u o nm (D5 ps ch (a3V k o))
def D5 (ps:List Str):List Tr→List Int→List Str
 | [],_=>[]
 | t::l,pls=>t.txt ps (pls.headD 0)::D5 ps l pls.tail
end
theorem a5q (ps:List Str):∀ (l:List Tr) (pls:List Int),(D5 ps l pls).length=l.length
 | [],_=>rfl
 | t::l,pls=>by rw [D5,List.length_cons,a5q ps l,List.length_cons]
theorem R9 (ps:List Str):∀ (l:List Tr) (pls:List Int) (m:Nat) (c:Tr),l[m]? = some c→(D5 ps l pls)[m]? = some (c.txt ps (pls.getD m 0))
 | [],_,_,_,h=>by simp at h
 | t::l,pls,0,c,h=>by
  injection h with h
  subst h
  rw [D5]
  cases pls <;> rfl
 | t::l,pls,m+1,c,h=>by
  rw [D5,List.getElem?_cons_succ,R9 ps l pls.tail m c h]
  cases pls <;> rfl
def a7l (E:List Ex) (t:Tr) (s:Nat):Prop:=∃ E0 E1,E=E0++t.flat s++E1∧E0.length=s
theorem a7l.node {E:List Ex} {k u o:Int} {nm:Str} {ch:List Tr} {s:Nat} (h:a7l E (.n k u o nm ch) s):E[s+p6 ch]? = some ⟨k,u,o,nm,o3 ch s⟩:=by
 obtain ⟨E0,E1,rfl,rfl⟩:=h
 rw [Tr.flat,List.append_assoc,List.getElem?_append_right c4,List.append_assoc,List.getElem?_append_right (by rw [H0]; omega),H0]
 rw [show E0.length+p6 ch - E0.length - p6 ch=0 by omega]
 rfl
theorem a3v:∀ (l:List Tr) (m s:Nat) (c:Tr),l[m]? = some c→∃ X,C5 l s=C5 (l.take m) s++c.flat (s+p6 (l.take m))++X
 | [],_,_,_,h=>by simp at h
 | t::l,0,s,c,h=>by
  injection h with h
  subst h
  exact ⟨_,rfl⟩
 | t::l,m+1,s,c,h=>by
  obtain ⟨X,hX⟩:=a3v l m (s+t.size) c h
  refine ⟨X,?_⟩
  rw [C5,hX,List.take_succ_cons,C5,p6,Nat.add_assoc]
  simp only [List.append_assoc]
theorem a7l.child {E:List Ex} {k u o:Int} {nm:Str} {ch:List Tr} {s m:Nat} {c:Tr} (h:a7l E (.n k u o nm ch) s) (hc:ch[m]? = some c):a7l E c (s+p6 (ch.take m)):=by
 obtain ⟨E0,E1,rfl,rfl⟩:=h
 obtain ⟨X,hX⟩:=a3v ch m E0.length c hc
 refine ⟨E0++C5 (ch.take m) E0.length,X++[⟨k,u,o,nm,o3 ch E0.length⟩]++E1,?_,?_⟩
 ·rw [Tr.flat,hX]; simp only [List.append_assoc]
 ·rw [List.length_append,H0]
theorem a0u {l:List Tr} {m:Nat} {c:Tr} (h:l[m]? = some c):c.size≤p6 l:=by
 induction l generalizing m with
 | nil=>simp at h
 | cons t l ih =>
  rw [p6]
  rcases m with _ | m
  ·injection h with h; subst h; omega
  ·have:=ih h; omega
abbrev TW:Nat:=301
theorem W8:a1y TW 5:=by unfold a1y; kernel_rfl
def WR (E:List Ex) (ps:List Str) (en pn:Bool) (d:Int):List CV:=[.list (E.map Ex.cv) en none,.list (ps.map scv) pn none,.val (.int .i64 d)]
theorem x7 (E:List Ex) (ps:List Str) (en pn:Bool) (d:Int):∀ c∈WR E ps en pn d,p5 c:=fun c hc=>by
 simp only [WR,List.mem_cons,List.not_mem_nil,or_false] at hc
 rcases hc with rfl | rfl | rfl
 ·exact s0 _ _
 ·exact c9 _ _
 ·exact .val _
def WEG (E:List Ex) (ps:List Str) (en pn:Bool) (t:Tr) (s:Nat) (ok:Int→Prop):Prop:=∀ (pl dp:Int) (a:Bool) (b:Str) (d:Int),ok pl→0≤dp→dp+2*t.size+1≤1000000000→b.length+(t.txt ps pl).length≤100000000000000→∀ (σ:List c5) (q k:Nat),BAt σ q k TW a b (WR E ps en pn d) →
 b8 CC 270 [.ptr q 0,.val (.int .i64 ((s+t.size - 1:Nat):Int)),.val (.int .i64 pl),.val (.int .i64 dp)] σ fun r τ=>∃ d':Int,r = .ret (.tup [])∧τ=(σ.set q (x0 TW q σ.length true (b++t.txt ps pl) (WR E ps en pn d'))).set k .dead++[r2 tU8 (b++t.txt ps pl).length]∧True
theorem a5e {E:List Ex} {ps:List Str} {en pn:Bool} {i:Nat} {pl dp:Int} {T:Str} {a:Bool} {b:Str} {d:Int} (h:b8 CC 270 [.ptr 0 0,.val (.int .i64 (i:Int)),.val (.int .i64 pl),.val (.int .i64 dp)] (bSt TW a b (WR E ps en pn d)) fun r τ=>∃ d':Int,L2 2 τ r (.ret (.tup [])) (a3k TW (b++T) (WR E ps en pn d'))∧True)
 (σ:List c5) (q k:Nat) (hσ:BAt σ q k TW a b (WR E ps en pn d)):b8 CC 270 [.ptr q 0,.val (.int .i64 (i:Int)),.val (.int .i64 pl),.val (.int .i64 dp)] σ fun r τ=>∃ d':Int,r = .ret (.tup [])∧τ=(σ.set q (x0 TW q σ.length true (b++T) (WR E ps en pn d'))).set k .dead++[r2 tU8 (b++T).length]∧True :=
 b0M (c:=fun _:Int=>.tup []) (l':=fun _=>b++T) (rest':=fun d'=>WR E ps en pn d') (P:=fun _=>True) (fun a h=>by simp at h; rcases h with rfl | rfl | rfl <;> exact .val _) (fun _ _=>d7 trivial) (x7 _ _ _ _ _) (fun _ _=>x7 _ _ _ _ _)
  (J5 hCC (h.mono fun r τ hh=>by
   obtain ⟨d',h1,h2⟩:=hh
   exact ⟨_,_,h1,d',rfl,rfl,tt⟩)) hσ
def W3:List Str:=[[105,102,32],[32,116,104,101,110,32],[32,101,108,115,101,32]]
def ifP:List Str→Nat→Str
 | _,0=>[]
 | cs,m+1=>ifP cs m++W3.getD m []++cs.getD m []
def A1 (sep:Str) (cs:List Str) (m:Nat):Str:=B9 sep (cs.take m)
theorem a2e {sep:Str} {cs:List Str} {m:Nat} {c:Str} (h:cs[m]? = some c):A1 sep cs (m+1)=A1 sep cs m++(if m=0 then [] else sep)++c:=by
 unfold A1
 have:∀ (cs:List Str) (m:Nat) (c:Str),cs[m]? = some c→B9 sep (cs.take (m+1))=B9 sep (cs.take m)++(if m=0 then [] else sep)++c:=by
  intro cs
  induction cs with
  | nil=>intro m c h; simp at h
  | cons x l ih =>
   intro m c h
   rcases m with _ | m
   ·simp at h; subst h; simp [B9]
   ·rw [List.take_succ_cons,List.take_succ_cons]
    have:=ih m c a16
    rcases l with _ | ⟨y,l⟩
    ·simp at h
    ·rcases m with _ | m
     ·simp only [List.take_succ_cons,List.take_zero,B9] at this ⊢
      simp at this ⊢
      simpa using h
     ·simp only [List.take_succ_cons,B9] at this ⊢
      rw [this]
      simp
 exact this cs m c h
theorem a7S {β:Type} {k:Int} {y:β}:∀ {l:List (Int × β)},glk l k=some y→(k,y)∈l
 | [],h=>by cases h
 | (b,c)::l,h=>by
  rw [glk] at h
  split at h
  ·rename_i e
   injection h with h
   subst h e
   simp
  ·exact List.mem_cons_of_mem _ (a7S h)
theorem b81 {m:Nat} (h:m < 3):∃ w,W3[m]? = some w:=by
 match m,h with
 | 0,_=>exact ⟨_,rfl⟩
 | 1,_=>exact ⟨_,rfl⟩
 | 2,_=>exact ⟨_,rfl⟩
theorem a9q:∀ l:List Tr,l.length≤p6 l
 | []=>Nat.le_refl _
 | t::l=>by rw [p6,List.length_cons]; have:=a9q l; have:=t.size_pos; omega
def kp (ph:Bool):Nat:=match ph with | false=>3 | true=>4
def op1 (ph:Bool) (m:Nat):c5:=match ph with | false=>r2 tU8 m | true=>.dead
def op2 (ph:Bool) (m:Nat):c5:=match ph with | false=>.dead | true=>r2 tU8 m
theorem a2l {L:Nat} {sel:List Nat} {T:TypeId} {s s':Nat} {a:Bool} {l l':Str} {rest:List CV} (hL:0 < L) (hs:sel[s']? = some s) (hr:∀ c∈rest,p5 c) (he:l=l'):a5p L sel (x0 T 0 s a l rest) (x0 T 0 s' a l' rest):=by
 subst he
 refine .box ⟨?_,.list (fun r hr c hc=>(U5 l r hr c hc).old) (fun j hj=>?_),?_⟩
 ·cases a
  ·exact .old (.val _)
  ·exact .old (.ptr hL)
 ·cases hb:l.length with
  | zero=>rw [hb] at hj; cases hj
  | succ m=>rw [hb] at hj; injection hj with hj; subst hj; exact ⟨s,rfl,hs⟩
 ·have:∀ l:List CV,(∀ c∈l,p5 c)→a7u L l:=fun l=>by
   induction l with
   | nil=>intro _; trivial
   | cons x l ih=>intro h; exact ⟨(h x m5).old,ih fun c hc=>h c (by simp [hc])⟩
  exact a2Y (this rest hr)
theorem I0 {L:Nat} {sel:List Nat} {l l':Str} (he:l=l'):a5p L sel (r2 tU8 l.length) (r2 tU8 l'.length):=he ▸ .same rfl (a6h _ _ _)
theorem Z6:Old 2 (.tup []):=(d7 (cs:=[]) tt).old
def W0:List (Int × Str):=[(7,[115,105,122,101]),(8,[104,97,115]),(9,[101,110,118])]
theorem b4M (k:Int):(glk W0 k).getD []=a4F k:=by
 unfold a4F
 split
 ·subst_vars; rfl
 ·split
  ·subst_vars; rfl
  ·split
   ·subst_vars; rfl
   ·rename_i h1 h2 h3
    have e:∀ x∈W0,x.1≠k:=fun x hx=>by
     simp only [W0,List.mem_cons,List.not_mem_nil,or_false] at hx
     rcases hx with rfl | rfl | rfl <;> simp only <;> omega
    cases hg:glk W0 k with
    | none=>rfl
    | some y =>
     exact absurd rfl (e _ (a7S hg))
theorem b12 (o:Int):(sgn o).length≤100:=by
 unfold sgn
 cases hg:glk S0 o with
 | none=>exact Nat.zero_le _
 | some y =>
  have:∀ x∈S0,x.2.length≤100:=by decide
  exact this _ (a7S hg)
theorem a8D (o:Int):1≤D6 o∧D6 o≤3:=by unfold D6; split; omega; split <;> omega
theorem D3 (a b:Str):(a++b).length=a.length+b.length:=List.length_append
theorem a2C {l:List Tr} {n m:Nat} (h:l.length=n) (hm:m < n):∃ c,l[m]? = some c:=⟨l[m]'c4,by simp⟩
theorem b7L (cs:List Str):∀ m,m≤3→(ifP cs m).length≤(ifP cs 3).length:=by
 intro m hm
 have h1:∀ n,(ifP cs n).length≤(ifP cs (n+1)).length:=fun n=>by rw [ifP]; simp only [List.length_append]; omega
 have e0:=h1 0
 have e1:=h1 1
 have e2:=h1 2
 rcases m with _ | _ | _ | _ | m <;> simp only [Nat.zero_add,Nat.reduceAdd] at*<;> omega
theorem b2r (sep:Str) (cs:List Str) (m:Nat):(A1 sep cs m).length≤(B9 sep cs).length:=by
 unfold A1
 induction cs generalizing m with
 | nil=>simp
 | cons x l ih =>
  rcases m with _ | m
  ·simp [B9]
  ·rw [List.take_succ_cons]
   rcases l with _ | ⟨y,l⟩
   ·simp
   ·rcases m with _ | m
    ·simp [B9]
    ·have:=ih (m+1)
     rw [List.take_succ_cons] at this ⊢
     simp only [B9,List.length_append] at this ⊢
     omega
theorem a6i (k:Int):(a4F k).length≤4:=by
 unfold a4F
 split; decide
 split; decide
 split <;> decide
set_option maxRecDepth 10000 in
set_option maxHeartbeats 1600000 in
theorem a6F {E:List Ex} {ps:List Str} {en pn:Bool} {k u o:Int} {nm:Str} {ch:List Tr} {s:Nat} (hAt:a7l E (.n k u o nm ch) s) (hn:Q1 ps.length k u o nm ch.length) (hE:E.length≤1000000) (hI:∀ m c,ch[m]? = some c→WEG E ps en pn c (s+p6 (ch.take m)) (fun _=>True)) (T:Str) (hT:T=ndT ps k u o nm (D5 ps ch (a3V k o))) (pl dp:Int) (hpl:¬ a3g k o < pl) (hd0:0≤dp) (hd:dp+2*((p6 ch+1:Nat):Int)≤1000000000) (a:Bool) (b:Str) (d:Int) (hb:b.length+T.length≤100000000000000):b8 CC 270 [.ptr 0 0,(.val (.int .i64 (((s+p6 ch:Nat):Int)))),(.val (.int .i64 (pl))),(.val (.int .i64 (dp)))] (bSt TW a b (WR E ps en pn d)) fun r τ=>∃ d':Int,L2 2 τ r (.ret (.tup [])) (a3k TW (b++T) (WR E ps en pn d'))∧True:=by
 refine (d8 Tryz.func270 rfl rfl ?_)
 refine a7 (a6 ?_)
 refine cY b7 ?_; refine cY o7 ?_; refine cY (l9 rfl tt rfl Tryz.runUnderlying301 rfl Tryz.sizeOf115 j5) ?_; refine cY W9 ?_; refine cY b7 ?_; refine cY (o9 rfl tt tt rfl rfl Tryz.runUnderlying115 Tryz.sizeOf208 c4 (l6 hAt.node) rfl) ?_; refine cY b5A ?_
 refine cD (m9 rfl Tryz.zeroValue208 rfl j3 ?_)
 refine cD (j1 rfl tt tt rfl c6 Tryz.sizeOf208 j3 rfl rfl (nb rfl) ?_)
 refine a8 (a7 (a7 (a6 ?_)))
 refine cY a14 ?_; refine cY (i8 rfl Tryz.call290 ⟨tt,tt⟩ (a2a ⟨k,u,o,nm,o3 ch s⟩ _) rfl) ?_; refine cY b7 ?_; refine cY p8 ?_; refine a8 ?_
 refine b9 tt rfl (fun h1=>?_) (fun h1=>?_)
 ·exact absurd (by simpa using h1) hpl
 ·have hnk:=hn.kind
  refine c8 (a7 (a6 ?_))
  refine cY b7 ?_; refine cY b7 ?_; refine cY o7 ?_; refine cY a9v ?_; refine cY t7 ?_; refine cY b7 ?_; refine cY (b9M rfl tt tt rfl rfl) ?_; refine cY o7 ?_; refine cY a9v ?_
  refine cD (j1 rfl tt tt rfl c6 Tryz.sizeOf3 (.inl rfl) rfl rfl (nb rfl) ?_)
  refine a8 (a7 (a6 ?_))
  refine cY X5 ?_; refine cY t7 ?_
  refine a8 (d9 (a7 (a6 ?_)))
  refine cY k7 ?_; refine cY c7 ?_; refine a8 ?_
  refine b9 tt rfl (fun h2=>?_) (fun h2=>?_)
  ·refine I8 [x0 TW 0 1 a b (WR E ps en pn (max d dp)),r2 tU8 b.length,.box (Ex.cells ⟨k,u,o,nm,o3 ch s⟩)] rfl ?_
   have u2:k=1:=by simpa using h2
   have hr2:=hn.k1 u2
   have eT:T=Lib.itoa u:=by rw [hT,ndT,if_pos u2]
   rw [eT] at hb
   refine r5 6 [0,1,3,0,8,24,63] j6 j6 rfl ?_; refine hY b7 ?_; refine hY o7 ?_; refine hY a0R ?_; refine hY X5 ?_; refine hY t7 ?_; refine hY (i8 rfl Tryz.call104 ⟨tt,tt⟩ (b0n u c4 c4 _) rfl) ?_; refine u0 ?_
   refine cD (k8 rfl Tryz.call195 ⟨tt,tt,tt⟩ (o8 W8 _ (b) (x7 _ _ _ _ _) (Lib.itoa u) a1m ⟨rfl,rfl,Nat.ne_of_beq_eq_false rfl⟩) rfl ?_)
   intro _ _; refine a8 ?_
   exact ⟨_,o4 (rs:=[]) (cs:=[]) rfl tt (Nat.ne_of_beq_eq_false rfl),⟨(max d dp),b8l,tt⟩⟩
  ·have u2:¬ k=1:=by simpa using h2
   refine a7 (a6 ?_)
   refine cY k7 ?_; refine cY c7 ?_; refine a8 ?_
   refine b9 tt rfl (fun h3=>?_) (fun h3=>?_)
   ·refine I8 [x0 TW 0 1 a b (WR E ps en pn (max d dp)),r2 tU8 b.length,.box (Ex.cells ⟨k,u,o,nm,o3 ch s⟩)] rfl ?_
    have u3:k=2:=by simpa using h3
    have hr3:=hn.k2 u3
    have hnum:0≤(Ex.mk k u o nm (o3 ch s)).num:=hr3.1
    have eT:T=ps.getD u.toNat []:=by rw [hT,ndT,if_neg c4,if_pos u3]
    rw [eT] at hb
    have g0:ps[u.toNat]? = some (ps.getD u.toNat []):=by
     have hlt:u.toNat < ps.length:=by omega
     simp [List.getD,hlt]
    refine r5 11 [0,1,3,0,8,24,56,0,128,504,1016,2047] j6 j6 rfl ?_; refine hY b7 ?_; refine hY o7 ?_; refine hY a0R ?_; refine hY b7 ?_; refine hY o7 ?_; refine hY (l9 rfl tt rfl Tryz.runUnderlying301 rfl Tryz.sizeOf26 j5) ?_; refine hY T2 ?_; refine hY X5 ?_; refine hY t7 ?_; refine hY (o9 rfl tt tt rfl rfl Tryz.runUnderlying26 Tryz.sizeOf9 c4 (l6 g0) rfl) ?_; refine hY R4 ?_; refine u0 ?_
    refine cD (k8 rfl Tryz.call195 ⟨tt,tt,tt⟩ (o8 W8 _ (b) (x7 _ _ _ _ _) (ps.getD u.toNat []) a1m ⟨rfl,rfl,Nat.ne_of_beq_eq_false rfl⟩) rfl ?_)
    intro _ _; refine a8 ?_
    exact ⟨_,o4 (rs:=[]) (cs:=[]) rfl tt (Nat.ne_of_beq_eq_false rfl),⟨(max d dp),b8l,tt⟩⟩
   ·have u3:¬ k=2:=by simpa using h3
    refine a7 (a6 ?_)
    refine cY k7 ?_; refine cY c7 ?_; refine a8 ?_
    refine b9 tt rfl (fun h4=>?_) (fun h4=>?_)
    ·refine I8 [x0 TW 0 1 a b (WR E ps en pn (max d dp)),r2 tU8 b.length,.box (Ex.cells ⟨k,u,o,nm,o3 ch s⟩)] rfl ?_
     have u4:k=4:=by simpa using h4
     have hch:ch.length=2:=by have:=hn.cnt; rw [if_pos u4] at this; exact this
     obtain ⟨c0,g0⟩:=a2C (m:=0) hch j5
     obtain ⟨c1,g1⟩:=a2C (m:=1) hch j5
     have hz0:=a0u g0
     have hz1:=a0u g1
     have hlv:=a8D o
     have hsl:=b12 o
     have elv:a3g k o=D6 o:=by rw [a3g,if_neg c4,if_pos u4]
     refine a7 (a6 ?_)
     refine cY a14 ?_; refine cY (i8 rfl Tryz.call290 ⟨tt,tt⟩ ((elv ▸ a2a ⟨k,u,o,nm,o3 ch s⟩ _)) rfl) ?_; refine cY c7 ?_
     refine a8 (a7 (a6 ?_))
     refine cY b7 ?_; refine cY c7 ?_
     refine a8 (a7 (a7 (a6 ?_)))
     refine cY b7 ?_; refine cY k7 ?_; refine a8 ?_
     refine b9 tt rfl (fun h5=>?_) (fun h5=>?_)
     ·have u5:D6 o=1:=by simpa using h5
      have eT:T=c0.txt ps (D6 o+1)++([32]++sgn o++[32])++c1.txt ps (D6 o+1):=by rw [hT,ndT,if_neg c4,if_neg c4,if_pos u4]; simp only [List.getD_eq_getElem?_getD,R9 ps ch _ 0 c0 g0,R9 ps ch _ 1 c1 g1,Option.getD_some]; simp [a3V,u4,u5]
      rw [eT] at hb
      refine a6 ?_; refine cY b7 ?_; refine cY n9 ?_; refine cY c7 ?_
      refine a8 (a7 (a6 ?_))
      refine cY b7 ?_; refine cY a0V ?_; refine cY a1o ?_; refine cY b8A ?_; refine cY W4 ?_; refine cY b7 ?_; refine cY b7 ?_
      refine cD (k8 rfl Tryz.call270 ⟨tt,tt,tt,tt,tt⟩ (hI 0 c0 g0 (D6 o+1) (dp) _ (b) _ trivial c4 c4 a1m _ _ _ ⟨rfl,rfl,Nat.ne_of_beq_eq_false rfl⟩) rfl ?_)
      rintro d1 _
      dsimp only
      refine p4 [x0 TW 0 3 true (b++c0.txt ps (D6 o+1)) (WR E ps en pn d1),.dead,.box (Ex.cells ⟨k,u,o,nm,o3 ch s⟩),r2 tU8 (b++c0.txt ps (D6 o+1)).length] rfl ?_
      refine a8 (a7 ?_)
      refine F3 [0,1,2,4,5,3,6,7,8,9] 5 [0,1,3,0,0,16,56,120,248,511] [[0,1,2,3,4],[0,1,2],[0,1,2],[0,1,2],[]] (hd1l:=[0,1,2,4,5]) (tll:=[(3,[0,1,2,3,4]),(6,[0,1,2]),(7,[0,1,2]),(8,[0,1,2]),(9,[])]) j6 j6 rfl rfl rfl ?_; refine chf rfl J4 ?_; refine chf rfl a0i ?_; refine chf rfl b8r ?_; refine chf rfl (m7 rfl X5) ?_; refine chf rfl a9c ?_; refine H4 ?_
      refine F0 rfl rfl (k8 rfl Tryz.call292 trivial (a5f _) rfl ?_)
      intro _ _; refine a1G [x0 TW 0 3 true (b++c0.txt ps (D6 o+1)) (WR E ps en pn d1),.dead,.box (Ex.cells ⟨k,u,o,nm,o3 ch s⟩),r2 tU8 (b++c0.txt ps (D6 o+1)).length,.map (gm kv sv S0)] rfl ?_
      refine ⟨⟨H8,W7,a85,(by exact m7 rfl X5),a5V,tt⟩,?_⟩
      refine H9 rfl b89 ⟨⟨H8,W7,a85,tt⟩,?_⟩
      refine H9 rfl (m7 rfl (I4 rfl rfl tt rfl rfl (by show 1+(sgn o).length≤_; omega))) ⟨⟨H8,W7,a85,tt⟩,?_⟩
      refine H9 rfl b9n ⟨⟨H8,W7,a85,tt⟩,?_⟩
      refine F0 rfl rfl (k8 rfl Tryz.call195 ⟨tt,tt,tt⟩ (o8 W8 _ (b++c0.txt ps (D6 o+1)) (x7 _ _ _ _ _) ([32]++sgn o++[32]) a1m ⟨rfl,rfl,Nat.ne_of_beq_eq_false rfl⟩) rfl ?_)
      intro _ _; refine a1G [x0 TW 0 5 true (b++c0.txt ps (D6 o+1)++([32]++sgn o++[32])) (WR E ps en pn d1),.dead,.box (Ex.cells ⟨k,u,o,nm,o3 ch s⟩),.dead,.map (gm kv sv S0),r2 tU8 (b++c0.txt ps (D6 o+1)++([32]++sgn o++[32])).length] rfl ?_
      refine ⟨tt,?_⟩
      refine I5 (a6 ?_)
      refine cY b7 ?_; refine cY a0V ?_; refine cY a1o ?_; refine cY b9B ?_; refine cY W4 ?_; refine cY b7 ?_; refine cY n9 ?_; refine cY b7 ?_
      refine cD (k8 rfl Tryz.call270 ⟨tt,tt,tt,tt,tt⟩ (hI 1 c1 g1 (D6 o+1) (dp) _ (b++c0.txt ps (D6 o+1)++([32]++sgn o++[32])) _ trivial c4 c4 a1m _ _ _ ⟨rfl,rfl,Nat.ne_of_beq_eq_false rfl⟩) rfl ?_)
      rintro d2 _
      dsimp only
      refine a8 ?_
      exact ⟨_,o4 (rs:=[]) (cs:=[]) rfl tt (Nat.ne_of_beq_eq_false rfl),⟨d2,b9E,tt⟩⟩
     ·have u5:¬ D6 o=1:=by simpa using h5
      have eT:T=c0.txt ps (D6 o)++([32]++sgn o++[32])++c1.txt ps (D6 o+1):=by rw [hT,ndT,if_neg c4,if_neg c4,if_pos u4]; simp only [List.getD_eq_getElem?_getD,R9 ps ch _ 0 c0 g0,R9 ps ch _ 1 c1 g1,Option.getD_some]; simp [a3V,u4,u5]
      rw [eT] at hb
      refine c8 (a7 (a6 ?_))
      refine cY b7 ?_; refine cY a0V ?_; refine cY a1o ?_; refine cY b8A ?_; refine cY W4 ?_; refine cY b7 ?_; refine cY b7 ?_
      refine cD (k8 rfl Tryz.call270 ⟨tt,tt,tt,tt,tt⟩ (hI 0 c0 g0 (D6 o) (dp) _ (b) _ trivial c4 c4 a1m _ _ _ ⟨rfl,rfl,Nat.ne_of_beq_eq_false rfl⟩) rfl ?_)
      rintro d1 _
      dsimp only
      refine p4 [x0 TW 0 3 true (b++c0.txt ps (D6 o)) (WR E ps en pn d1),.dead,.box (Ex.cells ⟨k,u,o,nm,o3 ch s⟩),r2 tU8 (b++c0.txt ps (D6 o)).length] rfl ?_
      refine a8 (a7 ?_)
      refine F3 [0,1,2,4,5,3,6,7,8,9] 5 [0,1,3,0,0,16,56,120,248,511] [[0,1,2,3,4],[0,1,2],[0,1,2],[0,1,2],[]] (hd1l:=[0,1,2,4,5]) (tll:=[(3,[0,1,2,3,4]),(6,[0,1,2]),(7,[0,1,2]),(8,[0,1,2]),(9,[])]) j6 j6 rfl rfl rfl ?_; refine chf rfl J4 ?_; refine chf rfl a0i ?_; refine chf rfl b8r ?_; refine chf rfl (m7 rfl X5) ?_; refine chf rfl a9c ?_; refine H4 ?_
      refine F0 rfl rfl (k8 rfl Tryz.call292 trivial (a5f _) rfl ?_)
      intro _ _; refine a1G [x0 TW 0 3 true (b++c0.txt ps (D6 o)) (WR E ps en pn d1),.dead,.box (Ex.cells ⟨k,u,o,nm,o3 ch s⟩),r2 tU8 (b++c0.txt ps (D6 o)).length,.map (gm kv sv S0)] rfl ?_
      refine ⟨⟨H8,W7,a85,(by exact m7 rfl X5),a5V,tt⟩,?_⟩
      refine H9 rfl b89 ⟨⟨H8,W7,a85,tt⟩,?_⟩
      refine H9 rfl (m7 rfl (I4 rfl rfl tt rfl rfl (by show 1+(sgn o).length≤_; omega))) ⟨⟨H8,W7,a85,tt⟩,?_⟩
      refine H9 rfl b9n ⟨⟨H8,W7,a85,tt⟩,?_⟩
      refine F0 rfl rfl (k8 rfl Tryz.call195 ⟨tt,tt,tt⟩ (o8 W8 _ (b++c0.txt ps (D6 o)) (x7 _ _ _ _ _) ([32]++sgn o++[32]) a1m ⟨rfl,rfl,Nat.ne_of_beq_eq_false rfl⟩) rfl ?_)
      intro _ _; refine a1G [x0 TW 0 5 true (b++c0.txt ps (D6 o)++([32]++sgn o++[32])) (WR E ps en pn d1),.dead,.box (Ex.cells ⟨k,u,o,nm,o3 ch s⟩),.dead,.map (gm kv sv S0),r2 tU8 (b++c0.txt ps (D6 o)++([32]++sgn o++[32])).length] rfl ?_
      refine ⟨tt,?_⟩
      refine I5 (a6 ?_)
      refine cY b7 ?_; refine cY a0V ?_; refine cY a1o ?_; refine cY b9B ?_; refine cY W4 ?_; refine cY b7 ?_; refine cY n9 ?_; refine cY b7 ?_
      refine cD (k8 rfl Tryz.call270 ⟨tt,tt,tt,tt,tt⟩ (hI 1 c1 g1 (D6 o+1) (dp) _ (b++c0.txt ps (D6 o)++([32]++sgn o++[32])) _ trivial c4 c4 a1m _ _ _ ⟨rfl,rfl,Nat.ne_of_beq_eq_false rfl⟩) rfl ?_)
      rintro d2 _
      dsimp only
      refine a8 ?_
      exact ⟨_,o4 (rs:=[]) (cs:=[]) rfl tt (Nat.ne_of_beq_eq_false rfl),⟨d2,b9E,tt⟩⟩
    ·have u4:¬ k=4:=by simpa using h4
     have ep:a3V k o=[]:=by rw [a3V,if_neg u4]
     refine a7 (a6 ?_)
     refine cY k7 ?_; refine cY c7 ?_; refine a8 ?_
     refine b9 tt rfl (fun h6=>?_) (fun h6=>?_)
     ·have u6:k=5:=by simpa using h6
      have hch:ch.length=3:=by have:=hn.cnt; rw [if_neg u4,if_pos u6] at this; exact this
      have eT:T=ifP (D5 ps ch []) 3:=by
       rw [hT,ndT,if_neg c4,if_neg c4,if_neg c4,if_pos u6,ep]; simp [ifP,W3]
      have hpre:=b7L (D5 ps ch [])
      rw [eT] at hb
      refine I8 [x0 TW 0 1 a b (WR E ps en pn (max d dp)),r2 tU8 b.length,.box (Ex.cells ⟨k,u,o,nm,o3 ch s⟩)] rfl ?_; refine b6U TW 0 1 a b (WR E ps en pn (max d dp)) ⟨rfl,rfl,Nat.ne_of_beq_eq_false rfl⟩ ?_; refine I8 [x0 TW 0 3 a b (WR E ps en pn (max d dp)),.dead,.box (Ex.cells ⟨k,u,o,nm,o3 ch s⟩),r2 tU8 b.length] rfl ?_
      refine a7 (a6 ?_)
      refine cY (y7 (W3.map scv) rfl ⟨rfl,rfl,rfl,tt⟩ Tryz.runUnderlying26 Tryz.sizeOf9 Tryz.zeroValue9 rfl rfl rfl rfl rfl rfl rfl rfl rfl) ?_; refine cY Y4 ?_; refine cY z8 ?_
      refine a8 (d9 ?_)
      refine A2 hCC 4 rfl (α:=Nat × Bool × Bool × Int) (fun x=>[(0,.ptr 0 0),(3,(.val (.int .i64 (dp)))),(8,.ptr 2 0),(127,.list (W3.map scv) true none),(128,(.val (.int .i64 (3)))),(129,(.val (.int .i64 ((x.1:Int)))))]) (fun x=>[x0 TW 0 (kp x.2.1) x.2.2.1 (b++ifP (D5 ps ch []) x.1) (WR E ps en pn x.2.2.2),.dead,.box (Ex.cells ⟨k,u,o,nm,o3 ch s⟩),op1 x.2.1 (b++ifP (D5 ps ch []) x.1).length,op2 x.2.1 (b++ifP (D5 ps ch []) x.1).length]) (fun x=>x.1≤3∧(0 < x.1→x.2.2.1=true)) (fun x=>3 - x.1) ⟨(0,false,a,max d dp),[0,1,2,3,7],⟨Nat.zero_le _,fun h=>absurd h (Nat.lt_irrefl _)⟩,⟨rfl,rfl⟩,⟨⟨tt,P9⟩,⟨tt,P9⟩,⟨tt,P9⟩,⟨tt,P9⟩,⟨tt,P9⟩,⟨tt,P9⟩,tt⟩,⟨.inr ⟨_,rfl,a2l j5 rfl (x7 _ _ _ _ _) (by simp [ifP])⟩,.inl rfl,.inr ⟨_,rfl,.same rfl a9o⟩,.inr ⟨_,rfl,I0 (by simp [ifP])⟩,.inl rfl,tt⟩⟩ ?_; intro ⟨m,ph,a',d'⟩ ⟨hm,hma⟩
      dsimp only at hm hma ⊢
      refine a7 (a6 ?_)
      refine cY p8 ?_
      refine a8 (a7 ?_)
      refine b9 tt rfl (fun h7=>?_) (fun h7=>?_)
      ·have hlt:m < 3:=by simp at h7; omega
       obtain ⟨w,gw⟩:=b81 hlt
       obtain ⟨c,gm⟩:=a2C (m:=m) hch hlt
       have hzm:=a0u gm
       have es:ifP (D5 ps ch []) (m+1)=ifP (D5 ps ch []) m++w++c.txt ps 0:=by
        rw [ifP]; simp only [List.getD_eq_getElem?_getD,gw,R9 ps ch _ m c gm,Option.getD_some]; simp
       have hbm:=hpre (m+1) c4
       rw [es] at hbm
       refine c8 (a7 (d9 (a7 (a6 ?_))))
       refine cY b7 ?_; refine cY (o9 rfl tt tt rfl rfl Tryz.runUnderlying26 Tryz.sizeOf9 c4 (l6 gw) rfl) ?_; refine cY R4 ?_; refine cY c7 ?_; refine cY c7 ?_
       refine a8 (a7 (a6 ?_))
       refine cY b7 ?_; refine cY o7 ?_; refine cY a0R ?_; refine cY b7 ?_
       refine cD (k8 rfl Tryz.call195 ⟨tt,tt,tt⟩ (o8 W8 _ (b++ifP (D5 ps ch []) m) (x7 _ _ _ _ _) (w) (by simp only [D3] at hb hbm ⊢; omega) ⟨rfl,by cases ph <;> rfl,by cases ph <;> exact Nat.ne_of_beq_eq_false rfl⟩) rfl ?_)
       intro _ _; refine p4 [x0 TW 0 5 true (b++ifP (D5 ps ch []) m++w) (WR E ps en pn d'),.dead,.box (Ex.cells ⟨k,u,o,nm,o3 ch s⟩),.dead,.dead,r2 tU8 (b++ifP (D5 ps ch []) m++w).length] a0p ?_
       refine a8 (a6 ?_)
       refine cY b7 ?_; refine cY a0V ?_; refine cY a1o ?_; refine cY b7 ?_; refine cY b9u ?_; refine cY W4 ?_; refine cY b7 ?_; refine cY n9 ?_
       refine cD (k8 rfl Tryz.call270 ⟨tt,tt,rfl,tt,tt⟩ (hI m c gm 0 (dp+1) _ (b++ifP (D5 ps ch []) m++w) _ trivial c4 c4 (by simp only [D3] at hb hbm ⊢; omega) _ _ _ ⟨rfl,rfl,Nat.ne_of_beq_eq_false rfl⟩) rfl ?_)
       rintro d3 _
       dsimp only
       refine p4 [x0 TW 0 6 true (b++ifP (D5 ps ch []) m++w++c.txt ps 0) (WR E ps en pn d3),.dead,.box (Ex.cells ⟨k,u,o,nm,o3 ch s⟩),.dead,.dead,.dead,r2 tU8 (b++ifP (D5 ps ch []) m++w++c.txt ps 0).length] rfl ?_
       refine a8 (a6 ?_)
       refine cY n9 ?_; refine cY b7 ?_; refine a8 ?_
       exact ⟨(m+1,true,true,d3),[0,1,2,3,6],(show 3 - (m+1) < 3 - m∧m+1≤3∧(0 < m+1→true=true) from ⟨by omega,by omega,fun _=>rfl⟩),⟨rfl,rfl⟩,⟨⟨tt,P9⟩,⟨tt,P9⟩,⟨tt,P9⟩,⟨tt,P9⟩,⟨tt,P9⟩,⟨tt,P9⟩,tt⟩,⟨.inr ⟨_,rfl,a2l j5 rfl (x7 _ _ _ _ _) b1n⟩,.inl rfl,.inr ⟨_,rfl,.same rfl a9o⟩,.inl rfl,.inr ⟨_,rfl,I0 b1n⟩,tt⟩⟩
      ·have h3m:m=3:=by simp at h7; omega
       subst h3m
       obtain rfl:=hma j5
       refine m8 ?_
       exact ⟨_,o4 (rs:=[]) (cs:=[]) rfl tt (Nat.ne_of_beq_eq_false rfl),⟨d',(by rw [eT]; exact a57 (k:=kp ph) rfl a0p (by cases ph <;> decide) (x7 _ _ _ _ _) Z6),tt⟩⟩
     ·have u6:¬ k=5:=by simpa using h6
      refine a7 (a6 ?_)
      refine cY k7 ?_; refine cY c7 ?_; refine a8 ?_
      refine b9 tt rfl (fun h8=>?_) (fun h8=>?_)
      ·refine I8 [x0 TW 0 1 a b (WR E ps en pn (max d dp)),r2 tU8 b.length,.box (Ex.cells ⟨k,u,o,nm,o3 ch s⟩)] rfl ?_
       have u8:k=3:=by simpa using h8
       have eT:T=nm++[40]++B9 [44,32] (D5 ps ch [])++[41]:=by
        rw [hT,ndT,if_neg c4,if_neg c4,if_neg c4,if_neg c4,if_pos u8,ep]
       have hpre:=b2r [44,32] (D5 ps ch [])
       rw [eT] at hb
       have hbn:=hb
       simp only [D3,List.length_cons,List.length_nil] at hbn
       refine a7 ?_; refine r5 6 [0,1,3,0,8,24,63] j6 j6 rfl ?_; refine hY b7 ?_; refine hY o7 ?_; refine hY a0R ?_; refine hY b1w ?_; refine hY p7 ?_; refine hY (I4 rfl tt rfl rfl rfl (by show nm.length+1≤_; omega)) ?_; refine u0 ?_
       refine cD (k8 rfl Tryz.call195 ⟨tt,tt,tt⟩ (o8 W8 _ (b) (x7 _ _ _ _ _) (nm++[40]) a1m ⟨rfl,rfl,Nat.ne_of_beq_eq_false rfl⟩) rfl ?_)
       intro _ _; refine p4 [x0 TW 0 3 true (b++(nm++[40])) (WR E ps en pn (max d dp)),.dead,.box (Ex.cells ⟨k,u,o,nm,o3 ch s⟩),r2 tU8 (b++(nm++[40])).length] rfl ?_
       refine a8 (a7 (a7 (a6 ?_)))
       refine cY a0V ?_; refine cY a1o ?_; refine cY a7O ?_; refine cY z8 ?_
       refine a8 (d9 ?_)
       refine A2 hCC 4 rfl (α:=Nat × Bool × Int) (fun x=>[(0,.ptr 0 0),(3,(.val (.int .i64 (dp)))),(159,.list ((o3 ch s).map icv) (gnn (o3 ch s).length) none),(160,(.val (.int .i64 (((o3 ch s).length:Int))))),(161,(.val (.int .i64 ((x.1:Int)))))]) (fun x=>[x0 TW 0 (kp x.2.1) true (b++(nm++[40])++A1 [44,32] (D5 ps ch []) x.1) (WR E ps en pn x.2.2),.dead,.box (Ex.cells ⟨k,u,o,nm,o3 ch s⟩),op1 x.2.1 (b++(nm++[40])++A1 [44,32] (D5 ps ch []) x.1).length,op2 x.2.1 (b++(nm++[40])++A1 [44,32] (D5 ps ch []) x.1).length]) (fun x=>x.1≤ch.length) (fun x=>ch.length - x.1) ⟨(0,false,max d dp),[0,1,2,3,7],(Nat.zero_le _),⟨rfl,rfl⟩,⟨⟨tt,P9⟩,⟨tt,P9⟩,⟨tt,P9⟩,⟨tt,P9⟩,⟨tt,P9⟩,tt⟩,⟨.inr ⟨_,rfl,a2l j5 rfl (x7 _ _ _ _ _) (by simp [A1,B9])⟩,.inl rfl,.inr ⟨_,rfl,.same rfl a9o⟩,.inr ⟨_,rfl,I0 (by simp [A1,B9])⟩,.inl rfl,tt⟩⟩ ?_; intro ⟨m,ph,d'⟩ hm
       dsimp only at hm ⊢
       have hrl:=U7 ch s
       have hcl:=a9q ch
       refine a7 (a6 ?_)
       refine cY p8 ?_
       refine a8 (a7 ?_)
       refine b9 tt rfl (fun h9=>?_) (fun h9=>?_)
       ·have hlt:m < ch.length:=by simp at h9; omega
        obtain ⟨c,gm⟩:=a2C (m:=m) rfl hlt
        have hzm:=a0u gm
        have es:=a2e (sep:=[44,32]) (R9 ps ch [] m c gm)
        have hbm:=hpre (m+1)
        rw [es] at hbm
        simp only [D3,List.getD_nil] at hbm es
        refine c8 (a7 (d9 (a7 (a6 ?_))))
        refine cY b7 ?_; refine cY b9u ?_; refine cY W4 ?_; refine cY c7 ?_; refine cY c7 ?_
        refine a8 (a7 (a7 (a6 ?_)))
        refine cY b7 ?_; refine cY k7 ?_; refine a8 ?_
        refine b9 tt rfl (fun h10=>?_) (fun h10=>?_)
        ·have u10:¬ m=0:=by simp at h10; omega
         rw [if_neg u10] at hbm es
         refine a6 ?_; refine cY b7 ?_; refine cY o7 ?_; refine cY a0R ?_
         refine cD (k8 rfl Tryz.call195 ⟨tt,rfl,tt⟩ (o8 W8 _ (b++(nm++[40])++A1 [44,32] (D5 ps ch []) m) (x7 _ _ _ _ _) ([44,32]) b5Z ⟨rfl,by cases ph <;> rfl,by cases ph <;> exact Nat.ne_of_beq_eq_false rfl⟩) rfl ?_)
         intro _ _; refine p4 [x0 TW 0 5 true (b++(nm++[40])++A1 [44,32] (D5 ps ch []) m++[44,32]) (WR E ps en pn d'),.dead,.box (Ex.cells ⟨k,u,o,nm,o3 ch s⟩),.dead,.dead,r2 tU8 (b++(nm++[40])++A1 [44,32] (D5 ps ch []) m++[44,32]).length] a0p ?_
         refine a8 (a6 ?_)
         refine cY b7 ?_; refine cY b7 ?_; refine cY b7 ?_; refine cY n9 ?_
         refine cD (k8 rfl Tryz.call270 ⟨tt,tt,rfl,tt,tt⟩ (hI m c gm 0 (dp+1) _ (b++(nm++[40])++A1 [44,32] (D5 ps ch []) m++[44,32]) _ trivial c4 c4 b5Z _ _ _ ⟨rfl,rfl,Nat.ne_of_beq_eq_false rfl⟩) rfl ?_)
         rintro d3 _
         dsimp only
         refine p4 [x0 TW 0 6 true (b++(nm++[40])++A1 [44,32] (D5 ps ch []) m++[44,32]++c.txt ps 0) (WR E ps en pn d3),.dead,.box (Ex.cells ⟨k,u,o,nm,o3 ch s⟩),.dead,.dead,.dead,r2 tU8 (b++(nm++[40])++A1 [44,32] (D5 ps ch []) m++[44,32]++c.txt ps 0).length] rfl ?_
         refine a8 (a6 ?_)
         refine cY n9 ?_; refine cY b7 ?_; refine a8 ?_
         exact ⟨(m+1,true,d3),[0,1,2,3,6],a1k,⟨rfl,rfl⟩,⟨⟨tt,P9⟩,⟨tt,P9⟩,⟨tt,P9⟩,⟨tt,P9⟩,⟨tt,P9⟩,tt⟩,⟨.inr ⟨_,rfl,a2l j5 rfl (x7 _ _ _ _ _) b1n⟩,.inl rfl,.inr ⟨_,rfl,.same rfl a9o⟩,.inl rfl,.inr ⟨_,rfl,I0 b1n⟩,tt⟩⟩
        ·have u10:m=0:=by simp at h10; omega
         rw [if_pos u10] at hbm es
         refine c8 (a6 ?_)
         refine cY b7 ?_; refine cY b7 ?_; refine cY b7 ?_; refine cY n9 ?_
         refine cD (k8 rfl Tryz.call270 ⟨tt,tt,rfl,tt,tt⟩ (hI m c gm 0 (dp+1) _ (b++(nm++[40])++A1 [44,32] (D5 ps ch []) m) _ trivial c4 c4 b5Z _ _ _ ⟨rfl,by cases ph <;> rfl,by cases ph <;> exact Nat.ne_of_beq_eq_false rfl⟩) rfl ?_)
         rintro d3 _
         dsimp only
         refine p4 [x0 TW 0 5 true (b++(nm++[40])++A1 [44,32] (D5 ps ch []) m++c.txt ps 0) (WR E ps en pn d3),.dead,.box (Ex.cells ⟨k,u,o,nm,o3 ch s⟩),.dead,.dead,r2 tU8 (b++(nm++[40])++A1 [44,32] (D5 ps ch []) m++c.txt ps 0).length] a0p ?_
         refine a8 (a6 ?_)
         refine cY n9 ?_; refine cY b7 ?_; refine a8 ?_
         exact ⟨(m+1,true,d3),[0,1,2,3,5],a1k,⟨rfl,rfl⟩,⟨⟨tt,P9⟩,⟨tt,P9⟩,⟨tt,P9⟩,⟨tt,P9⟩,⟨tt,P9⟩,tt⟩,⟨.inr ⟨_,rfl,a2l j5 rfl (x7 _ _ _ _ _) (by rw [es]; simp only [List.append_assoc,List.nil_append])⟩,.inl rfl,.inr ⟨_,rfl,.same rfl a9o⟩,.inl rfl,.inr ⟨_,rfl,I0 (by rw [es]; simp only [List.append_assoc,List.nil_append])⟩,tt⟩⟩
       ·have hme:m=ch.length:=by simp at h9; omega
        subst hme
        have ej:A1 [44,32] (D5 ps ch []) ch.length=B9 [44,32] (D5 ps ch []):=by rw [A1,List.take_of_length_le (by rw [a5q]; exact Nat.le_refl _)]
        rw [ej]
        refine m8 (a6 ?_)
        refine cY b7 ?_; refine cY o7 ?_; refine cY a0R ?_
        refine cD (k8 rfl Tryz.call291 ⟨tt,rfl,tt⟩ (T7 W8 _ (b++(nm++[40])++B9 [44,32] (D5 ps ch [])) (x7 _ _ _ _ _) 41 (by simp only [D3,List.length_cons,List.length_nil] at hbn ⊢; omega) ⟨rfl,by cases ph <;> rfl,by cases ph <;> exact Nat.ne_of_beq_eq_false rfl⟩) rfl ?_)
        intro _ _; refine p4 [x0 TW 0 5 true (b++(nm++[40])++B9 [44,32] (D5 ps ch [])++[41]) (WR E ps en pn d'),.dead,.box (Ex.cells ⟨k,u,o,nm,o3 ch s⟩),.dead,.dead,r2 tU8 (b++(nm++[40])++B9 [44,32] (D5 ps ch [])++[41]).length] a0p ?_; refine a8 ?_
        exact ⟨_,o4 (rs:=[]) (cs:=[]) rfl tt (Nat.ne_of_beq_eq_false rfl),⟨d',b9v,tt⟩⟩
      ·have u8:¬ k=3:=by simpa using h8
       refine a7 (a6 ?_)
       refine cY k7 ?_; refine cY c7 ?_; refine a8 ?_
       refine b9 tt rfl (fun h11=>?_) (fun h11=>?_)
       ·refine I8 [x0 TW 0 1 a b (WR E ps en pn (max d dp)),r2 tU8 b.length,.box (Ex.cells ⟨k,u,o,nm,o3 ch s⟩)] rfl ?_
        have u11:k=6:=by simpa using h11
        have hch:ch.length=1:=by have:=hn.cnt; rw [if_neg u4,if_neg u6,if_pos u11] at this; exact this
        obtain ⟨c0,g0⟩:=a2C (m:=0) hch j5
        have hz0:=a0u g0
        have eT:T=([114,101,97,100,40,34]++nm++[34,44,32])++c0.txt ps 0++[41]:=by
         rw [hT,ndT,if_neg c4,if_neg c4,if_neg c4,if_neg c4,if_neg c4,if_pos u11,ep]; simp only [List.getD_eq_getElem?_getD,R9 ps ch _ 0 c0 g0,Option.getD_some]; simp
        rw [eT] at hb
        have hbn:=hb
        simp only [D3,List.length_cons,List.length_nil] at hbn
        refine a7 ?_; refine r5 7 [0,1,3,0,8,24,56,127] j6 j6 rfl ?_; refine hY b7 ?_; refine hY o7 ?_; refine hY a0R ?_; refine hY b1w ?_; refine hY p7 ?_; refine hY (I4 rfl rfl tt rfl rfl (by show 6+nm.length≤_; omega)) ?_; refine hY (I4 rfl tt rfl rfl rfl (by show ([114,101,97,100,40,34]++nm:Str).length+3≤_; rw [D3]; simp; omega)) ?_; refine u0 ?_
        refine cD (k8 rfl Tryz.call195 ⟨tt,tt,tt⟩ (o8 W8 _ (b) (x7 _ _ _ _ _) ([114,101,97,100,40,34]++nm++[34,44,32]) a1m ⟨rfl,rfl,Nat.ne_of_beq_eq_false rfl⟩) rfl ?_)
        intro _ _; refine p4 [x0 TW 0 3 true (b++([114,101,97,100,40,34]++nm++[34,44,32])) (WR E ps en pn (max d dp)),.dead,.box (Ex.cells ⟨k,u,o,nm,o3 ch s⟩),r2 tU8 (b++([114,101,97,100,40,34]++nm++[34,44,32])).length] rfl ?_
        refine a8 (a7 (a6 ?_))
        refine cY b7 ?_; refine cY a0V ?_; refine cY a1o ?_; refine cY b8A ?_; refine cY W4 ?_; refine cY b7 ?_; refine cY n9 ?_
        refine cD (k8 rfl Tryz.call270 ⟨tt,tt,rfl,tt,tt⟩ (hI 0 c0 g0 (0) (dp+1) _ (b++([114,101,97,100,40,34]++nm++[34,44,32])) _ trivial c4 c4 a1m _ _ _ ⟨rfl,rfl,Nat.ne_of_beq_eq_false rfl⟩) rfl ?_)
        rintro d3 _
        dsimp only
        refine p4 [x0 TW 0 4 true (b++([114,101,97,100,40,34]++nm++[34,44,32])++c0.txt ps 0) (WR E ps en pn d3),.dead,.box (Ex.cells ⟨k,u,o,nm,o3 ch s⟩),.dead,r2 tU8 (b++([114,101,97,100,40,34]++nm++[34,44,32])++c0.txt ps 0).length] rfl ?_
        refine a8 (a6 ?_)
        refine cY b7 ?_; refine cY o7 ?_; refine cY a0R ?_
        refine cD (k8 rfl Tryz.call291 ⟨tt,rfl,tt⟩ (T7 W8 _ (b++([114,101,97,100,40,34]++nm++[34,44,32])++c0.txt ps 0) (x7 _ _ _ _ _) 41 a1m ⟨rfl,rfl,Nat.ne_of_beq_eq_false rfl⟩) rfl ?_)
        intro _ _; refine a8 ?_
        exact ⟨_,o4 (rs:=[]) (cs:=[]) rfl tt (Nat.ne_of_beq_eq_false rfl),⟨d3,b9v,tt⟩⟩
       ·have u11:¬ k=6:=by simpa using h11
        refine a7 (a6 ?_)
        refine cY k7 ?_; refine cY c7 ?_; refine a8 ?_
        refine b9 tt rfl (fun h12=>?_) (fun h12=>?_)
        ·refine I8 [x0 TW 0 1 a b (WR E ps en pn (max d dp)),r2 tU8 b.length,.box (Ex.cells ⟨k,u,o,nm,o3 ch s⟩)] rfl ?_
         have u12:k=10:=by simpa using h12
         have hr12:=hn.k10 u12
         have eT:T=[102,108,105,112,40]++Lib.itoa u++[41]:=by
          rw [hT,ndT,if_neg c4,if_neg c4,if_neg c4,if_neg c4,if_neg c4,if_neg c4,if_pos u12]
         rw [eT] at hb
         have hil:=a2E (n:=u) c4 c4
         refine r5 8 [0,1,3,0,8,24,56,120,255] j6 j6 rfl ?_; refine hY b7 ?_; refine hY o7 ?_; refine hY a0R ?_; refine hY X5 ?_; refine hY t7 ?_; refine hY (i8 rfl Tryz.call104 ⟨tt,tt⟩ (b0n u c4 c4 _) rfl) ?_; refine hY (I4 rfl rfl tt rfl rfl (by show 5+(Lib.itoa u).length≤_; omega)) ?_; refine hY (I4 rfl tt rfl rfl rfl (by show ([102,108,105,112,40]++Lib.itoa u:Str).length+1≤_; rw [D3]; simp; omega)) ?_; refine u0 ?_
         refine cD (k8 rfl Tryz.call195 ⟨tt,tt,tt⟩ (o8 W8 _ (b) (x7 _ _ _ _ _) ([102,108,105,112,40]++Lib.itoa u++[41]) a1m ⟨rfl,rfl,Nat.ne_of_beq_eq_false rfl⟩) rfl ?_)
         intro _ _; refine a8 ?_
         exact ⟨_,o4 (rs:=[]) (cs:=[]) rfl tt (Nat.ne_of_beq_eq_false rfl),⟨(max d dp),b8l,tt⟩⟩
        ·refine I8 [x0 TW 0 1 a b (WR E ps en pn (max d dp)),r2 tU8 b.length,.box (Ex.cells ⟨k,u,o,nm,o3 ch s⟩)] rfl ?_
         have u12:¬ k=10:=by simpa using h12
         have eT:T=a4F k++[40,34]++nm++[34,41]:=by
          rw [hT,ndT,if_neg c4,if_neg c4,if_neg c4,if_neg c4,if_neg c4,if_neg c4,if_neg c4]; simp only [List.append_assoc]
         rw [eT] at hb
         have hbn:=hb
         simp only [D3,List.length_cons,List.length_nil] at hbn
         have hwl:=a6i k
         refine a7 (a6 ?_)
         refine cD (N8 rfl ?_)
         refine cD (l8 (vc:=sv) (l:=W0.take 0) (a:=7) (b:=[115,105,122,101]) P5 (.inr rfl) tt rfl rfl rfl rfl rfl Tryz.runUnderlying193 rfl ?_)
         refine cD (l8 (vc:=sv) (l:=W0.take 1) (a:=8) (b:=[104,97,115]) P5 (.inr rfl) tt rfl rfl rfl rfl rfl Tryz.runUnderlying193 rfl ?_)
         refine cD (l8 (vc:=sv) (l:=W0.take 2) (a:=9) (b:=[101,110,118]) P5 (.inr rfl) tt rfl rfl rfl rfl rfl Tryz.runUnderlying193 rfl ?_)
         refine cY b7 ?_; refine cY X5 ?_; refine cY t7 ?_; refine cY (H5 (vc:=sv) (l:=W0) (a:=k) P5 rfl tt tt rfl rfl Tryz.runUnderlying193 Tryz.zeroValue9 rfl rfl ((a1C ([]:Str) rfl _).trans (congrArg sv (b4M k)))) ?_; refine cY c7 ?_; refine a8 ?_; refine r5 9 [0,1,3,0,8,0,32,120,248,511] j6 j6 rfl ?_; refine hY b7 ?_; refine hY o7 ?_; refine hY a0R ?_; refine hY b7 ?_; refine hY b9x ?_; refine hY b1w ?_; refine hY p7 ?_; refine hY (I4 rfl tt tt rfl rfl (by first|omega|(simp only [D3,List.length_cons,List.length_nil]; omega))) ?_; refine hY b9x ?_; refine u0 ?_
         refine cD (k8 rfl Tryz.call195 ⟨tt,tt,tt⟩ (o8 W8 _ (b) (x7 _ _ _ _ _) (a4F k++[40,34]++nm++[34,41]) a1m ⟨rfl,rfl,Nat.ne_of_beq_eq_false rfl⟩) rfl ?_)
         intro _ _; refine a8 ?_
         exact ⟨_,o4 (rs:=[]) (cs:=[]) rfl tt (Nat.ne_of_beq_eq_false rfl),⟨(max d dp),(by rw [eT]; exact a57 (k:=4) rfl rfl j5 (x7 _ _ _ _ _) Z6),tt⟩⟩
set_option maxRecDepth 10000 in
theorem b3D {E:List Ex} {ps:List Str} {en pn:Bool} {k u o:Int} {nm:Str} {ch:List Tr} {s:Nat} (hAt:a7l E (.n k u o nm ch) s) (T:Str) (pl dp:Int) (hpl:a3g k o < pl) (hd0:0≤dp) (hd:dp+2*((p6 ch+1:Nat):Int)+1≤1000000000) (a:Bool) (b:Str) (d:Int) (hb:b.length+([40]++T++[41]:Str).length≤100000000000000)
 (hW:∀ (dp:Int) (a:Bool) (b:Str) (d:Int),0≤dp→dp+2*((p6 ch+1:Nat):Int)≤1000000000→b.length+T.length≤100000000000000→∀ (σ:List c5) (q k:Nat),BAt σ q k TW a b (WR E ps en pn d) →
  b8 CC 270 [.ptr q 0,.val (.int .i64 ((s+p6 ch:Nat):Int)),.val (.int .i64 0),.val (.int .i64 dp)] σ fun r τ=>∃ d':Int,r = .ret (.tup [])∧τ=(σ.set q (x0 TW q σ.length true (b++T) (WR E ps en pn d'))).set k .dead++[r2 tU8 (b++T).length]∧True) :
 b8 CC 270 [.ptr 0 0,(.val (.int .i64 (((s+p6 ch:Nat):Int)))),(.val (.int .i64 (pl))),(.val (.int .i64 (dp)))] (bSt TW a b (WR E ps en pn d)) fun r τ=>∃ d':Int,L2 2 τ r (.ret (.tup [])) (a3k TW (b++([40]++T++[41])) (WR E ps en pn d'))∧True:=by
 refine (d8 Tryz.func270 rfl rfl ?_)
 refine a7 (a6 ?_)
 refine cY b7 ?_; refine cY o7 ?_; refine cY (l9 rfl tt rfl Tryz.runUnderlying301 rfl Tryz.sizeOf115 j5) ?_; refine cY W9 ?_; refine cY b7 ?_; refine cY (o9 rfl tt tt rfl rfl Tryz.runUnderlying115 Tryz.sizeOf208 c4 (l6 hAt.node) rfl) ?_; refine cY b5A ?_
 refine cD (m9 rfl Tryz.zeroValue208 rfl j3 ?_)
 refine cD (j1 rfl tt tt rfl c6 Tryz.sizeOf208 j3 rfl rfl (nb rfl) ?_)
 refine a8 (a7 (a7 (a6 ?_)))
 refine cY a14 ?_; refine cY (i8 rfl Tryz.call290 ⟨tt,tt⟩ (a2a ⟨k,u,o,nm,o3 ch s⟩ _) rfl) ?_; refine cY b7 ?_; refine cY p8 ?_; refine a8 ?_
 refine b9 tt rfl (fun h1=>?_) (fun h1=>?_)
 ·refine I8 [x0 TW 0 1 a b (WR E ps en pn d),r2 tU8 b.length,.box (Ex.cells ⟨k,u,o,nm,o3 ch s⟩)] rfl ?_
  refine a7 (a6 ?_)
  refine cY b7 ?_; refine cY o7 ?_; refine cY a0R ?_
  refine cD (k8 rfl Tryz.call291 ⟨tt,rfl,tt⟩ (T7 W8 _ (b) (x7 _ _ _ _ _) 40 a1m ⟨rfl,rfl,Nat.ne_of_beq_eq_false rfl⟩) rfl ?_)
  intro _ _; refine p4 [x0 TW 0 3 true (b++[40]) (WR E ps en pn d),.dead,.box (Ex.cells ⟨k,u,o,nm,o3 ch s⟩),r2 tU8 (b++[40]).length] rfl ?_
  refine a8 (a7 (a6 ?_))
  refine cY b7 ?_; refine cY b7 ?_; refine cY b7 ?_; refine cY n9 ?_
  refine cD (k8 rfl Tryz.call270 ⟨tt,tt,rfl,tt,tt⟩ (hW (dp+1) true (b++[40]) d c4 c4 a1m _ 0 3 ⟨rfl,rfl,Nat.ne_of_beq_eq_false rfl⟩) rfl ?_)
  rintro d1 _
  dsimp only
  refine p4 [x0 TW 0 4 true (b++[40]++T) (WR E ps en pn d1),.dead,.box (Ex.cells ⟨k,u,o,nm,o3 ch s⟩),.dead,r2 tU8 (b++[40]++T).length] rfl ?_
  refine a8 (a7 (a6 ?_))
  refine cY b7 ?_; refine cY o7 ?_; refine cY a0R ?_
  refine cD (k8 rfl Tryz.call291 ⟨tt,rfl,tt⟩ (T7 W8 _ (b++[40]++T) (x7 _ _ _ _ _) 41 a1m ⟨rfl,rfl,Nat.ne_of_beq_eq_false rfl⟩) rfl ?_)
  intro _ _
  refine a8 (d5 ?_)
  exact ⟨_,o4 (rs:=[]) (cs:=[]) rfl tt (Nat.ne_of_beq_eq_false rfl),⟨d1,(by simp only [← List.append_assoc]; exact a57 (k:=5) rfl rfl j5 (x7 _ _ _ _ _) Z6),tt⟩⟩
 ·exact absurd hpl (by simpa using h1)
theorem b1U {np d:Nat}:∀ {l:List Tr} {m:Nat} {c:Tr},wfL np d l→l[m]? = some c→c.wf np d
 | [],_,_,_,h=>by simp at h
 | t::l,0,c,h,hc=>by rw [wfL] at h; injection hc with hc; subst hc; exact h.1
 | t::l,m+1,c,h,hc=>by rw [wfL] at h; exact b1U h.2 (by simpa using hc)
theorem b4s (k o:Int):0≤a3g k o:=by
 unfold a3g
 split; decide
 split
 ·have:=a8D o; omega
 ·decide
theorem a9V {E:List Ex} {ps:List Str} {en pn:Bool} (hE:E.length≤1000000):∀ (n:Nat) (t:Tr) (s:Nat),t.size≤n→a7l E t s→(∃ d,t.wf ps.length d)→WEG E ps en pn t s (fun _=>True)
 | 0,t,_,h,_,_=>by have:=t.size_pos; omega
 | n+1,.n k u o nm ch,s,hsz,hAt,⟨dd,hw⟩=>by
  rw [Tr.wf] at hw
  obtain ⟨_,hn,hwl⟩:=hw
  have hI:∀ m c,ch[m]? = some c→WEG E ps en pn c (s+p6 (ch.take m)) (fun _=>True):=fun m c hc=>by
   have:=a0u hc
   rw [Tr.size] at hsz
   exact a9V hE n c _ c4 (hAt.child hc) ⟨_,b1U hwl hc⟩
  intro pl dp a b d _ hd0 hd hb σ q k' hσ
  rw [Tr.size] at hd ⊢
  rw [show s+(p6 ch+1) - 1=s+p6 ch by omega]
  rw [Tr.txt] at hb ⊢
  by_cases hpl:a3g k o < pl
  ·rw [if_pos hpl] at hb ⊢
   refine a5e (b3D hAt (ndT ps k u o nm (D5 ps ch (a3V k o))) pl dp hpl hd0 c4 a b d hb fun dp' a' b' d' h0 h1 h2 σ' q' k'' hσ'=>?_) σ q k' hσ
   have hp0:=b4s k o
   exact a5e (a6F hAt hn hE hI _ rfl 0 dp' c4 h0 h1 a' b' d' h2) σ' q' k'' hσ'
  ·rw [if_neg hpl] at hb ⊢
   exact a5e (a6F hAt hn hE hI _ rfl pl dp hpl hd0 c4 a b d hb) σ q k' hσ
def a3W (cs:List Str):Nat:=(cs.map List.length).sum
theorem b38 (cs:List Str):(cs.getD 0 []).length+(cs.getD 1 []).length+(cs.getD 2 []).length≤a3W cs:=by
 rcases cs with _ | ⟨a,_ | ⟨b,_ | ⟨c,l⟩⟩⟩ <;> simp [a3W,List.getD] <;> omega
theorem a1K (sep:Str):∀ cs:List Str,(B9 sep cs).length≤a3W cs+sep.length*cs.length
 | []=>by simp [B9]
 | [x]=>by simp [B9,a3W]
 | x::y::l=>by
  have:=a1K sep (y::l)
  simp only [B9,List.length_append,a3W,List.map_cons,List.sum_cons,List.length_cons,Nat.mul_add] at this ⊢
  omega
theorem b6o {ps:List Str} (hp:∀ s∈ps,s.length≤80) {k u o:Int} {nm:Str} {c:Nat} (hn:Q1 ps.length k u o nm c) (cs:List Str):(ndT ps k u o nm cs).length≤a3W cs+2*cs.length+290:=by
 have hg:=b38 cs
 have hj:=a1K [44,32] cs
 have hs:=b12 o
 have hw:=a6i k
 have hnm:=hn.len
 have e2:([44,32]:Str).length=2:=rfl
 rw [e2] at hj
 unfold ndT
 split
 ·rename_i h1
  have:=hn.k1 h1
  have:=a2E (n:=u) c4 c4
  omega
 split
 ·have:(ps.getD u.toNat []).length≤80:=by
   rw [List.getD_eq_getElem?_getD]
   cases hh:ps[u.toNat]? with
   | none=>exact Nat.zero_le _
   | some x=>exact hp x (List.mem_of_getElem? hh)
  omega
 split
 ·simp only [List.length_append,List.length_cons,List.length_nil]; omega
 split
 ·simp only [List.length_append,List.length_cons,List.length_nil]; omega
 split
 ·simp only [List.length_append,List.length_cons,List.length_nil]; omega
 split
 ·simp only [List.length_append,List.length_cons,List.length_nil]; omega
 split
 ·rename_i h10
  have:=hn.k10 h10
  have:=a2E (n:=u) c4 c4
  simp only [List.length_append,List.length_cons,List.length_nil]; omega
 ·simp only [List.length_append,List.length_cons,List.length_nil]; omega
mutual
theorem Tr.txt_len {ps:List Str} (hp:∀ s∈ps,s.length≤80):∀ (t:Tr) (d:Nat) (pl:Int),t.wf ps.length d→(t.txt ps pl).length+2≤300*t.size
 | .n k u o nm ch,d,pl,h=>by
  rw [Tr.wf] at h
  have h1:=b6o hp h.2.1 (D5 ps ch (a3V k o))
  have h2:=a6l hp ch _ (a3V k o) h.2.2
  rw [a5q] at h1
  rw [Tr.txt,Tr.size]
  have:([40]++ndT ps k u o nm (D5 ps ch (a3V k o))++[41]:Str).length=(ndT ps k u o nm (D5 ps ch (a3V k o))).length+2:=by simp
  split
  ·rw [this]; omega
  ·omega
theorem a6l {ps:List Str} (hp:∀ s∈ps,s.length≤80):∀ (l:List Tr) (d:Nat) (pls:List Int),wfL ps.length d l→a3W (D5 ps l pls)+2*l.length≤300*p6 l
 | [],_,_,_=>by simp [D5,a3W]
 | t::l,d,pls,h=>by
  rw [wfL] at h
  have h1:=Tr.txt_len hp t d (pls.headD 0) h.1
  have h2:=a6l hp l d pls.tail h.2
  rw [D5,p6]
  simp only [a3W,List.map_cons,List.sum_cons,List.length_cons] at h2 ⊢
  omega
end
set_option maxRecDepth 10000 in
theorem b2F {E:List Ex} {ps:List Str} (en pn:Bool) (hE:E.length≤1000000) (t:Tr) (ht:E=t.flat 0) (hw:∃ d,t.wf ps.length d) (hp:∀ s∈ps,s.length≤80):b8 CC 235 [(.list (E.map Ex.cv) en none),(.list (ps.map scv) pn none)] [] fun r τ=>∃ d:Int,a1i 0 τ r (.ret (.tup [sv (t.txt ps 0),.val (.int .i64 d)]))∧True:=by
 have hsz:E.length=t.size:=by rw [ht,Tr.flat_len]
 have hpos:=t.size_pos
 have hAt:a7l E t 0:=⟨[],[],by rw [ht]; simp,rfl⟩
 obtain ⟨dd,hwd⟩:=hw
 have htl:=t.txt_len hp dd 0 hwd
 have hx:=a9V (en:=en) (pn:=pn) hE t.size t 0 (Nat.le_refl _) hAt ⟨dd,hwd⟩ 0 1 false [] 0 trivial c4 c4 (by simp only [List.length_nil]; omega) ([x0 TW 0 1 false [] (WR E ps en pn 0)]++[.dead]) 0 1 ⟨rfl,rfl,Nat.ne_of_beq_eq_false rfl⟩
 replace hx:=R3 hx
 rw [show ((0+t.size - 1:Nat):Int)=(E.length:Int) - 1 by omega] at hx
 simp only [List.nil_append] at hx
 refine (d8 Tryz.func235 rfl rfl ?_)
 refine a7 (a6 ?_)
 refine cY i7 ?_; refine cY i7 ?_
 refine a8 (a7 (a6 ?_))
 refine cY b7 ?_; refine cY b7 ?_; refine cY (v6 #[(0,2),(2,1),(3,1),(4,1)] rfl ⟨tt,tt,tt⟩ Tryz.runUnderlying301 Tryz.zeroValue301 rfl ⟨_,rfl⟩ (fun w=>by kernel_rfl) rfl rfl) ?_
 refine cD (b8t rfl tt c6 j3 ?_)
 refine cY c7 ?_
 refine a8 (a7 (a6 ?_))
 refine cY b7 ?_; refine cY b7 ?_; refine cY a8U ?_; refine cY T4 ?_
 refine cD (k8 rfl Tryz.call270 ⟨tt,tt,rfl,rfl,tt⟩ (hx) rfl ?_)
 rintro d1 _
 dsimp only
 refine a8 (a7 ?_)
 refine F3 [0,1,2,4,5,6,7,3,8,9] 7 [0,1,3,7,0,16,48,112,15,511] [[3,4,5,6],[3,4,5,6],[]] (hd1l:=[0,1,2,4,5,6,7]) (tll:=[(3,[3,4,5,6]),(8,[3,4,5,6]),(9,[])]) j6 j6 rfl rfl rfl ?_; refine chf rfl J4 ?_; refine chf rfl a0i ?_; refine chf rfl b8r ?_; refine chf rfl J4 ?_; refine chf rfl a0i ?_; refine chf rfl (m7 rfl a9v) ?_; refine chf rfl a9c ?_; refine H4 ?_
 refine F0 rfl rfl (k8 rfl Tryz.call197 ⟨tt,tt⟩ (a0v (rest:=WR E ps en pn d1) (T:=TW) (x7 _ _ _ _ _) true _ (q:=0) (k:=2) ⟨rfl,rfl,Nat.ne_of_beq_eq_false rfl⟩) rfl ?_)
 intro _ _
 refine ⟨⟨H8,W7,(by exact m7 rfl a9v),a5V,tt⟩,?_⟩
 refine H9 rfl a2p ⟨⟨H8,W7,(by exact m7 rfl a9v),a5V,tt⟩,?_⟩
 refine H9 rfl a2p ⟨tt,?_⟩
 refine I5 (d5 ?_)
 exact ⟨_,o4 (rs:=[.tmp 4,.tmp 5]) (cs:=[_,_]) rfl ⟨⟨tt,c6⟩,⟨tt,c6⟩,tt⟩ (Nat.ne_of_beq_eq_false rfl),⟨d1,.ret (.old (d7 (cs:=[sv (t.txt ps 0),.val (.int .i64 d1)]) ⟨.val _,.val _,tt⟩).old),tt⟩⟩
theorem b5l {E:List Ex} {ps:List Str} (en pn:Bool) (hE:E.length≤1000000) (t:Tr) (ht:E=t.flat 0) (hw:∃ d,t.wf ps.length d) (hp:∀ s∈ps,s.length≤80) (σ:List c5):b8 CC 235 [(.list (E.map Ex.cv) en none),(.list (ps.map scv) pn none)] σ fun r τ=>∃ d:Int,r = .ret (.tup [sv (t.txt ps 0),.val (.int .i64 d)])∧τ=σ∧True :=
 J6 (res:=fun d:Int=>.ret (.tup [sv (t.txt ps 0),.val (.int .i64 d)])) (P:=fun _=>True) hCC (fun c hc=>by simp at hc; rcases hc with rfl | rfl; exact s0 _ _; exact c9 _ _) (b2F en pn hE t ht hw hp) (fun d _=>d7 ⟨.val _,.val _,tt⟩) σ
abbrev tSB:Nat:=240
theorem a1l:a1y tSB 2:=by unfold a1y; kernel_rfl
def b8z (T:TypeId) (rest:List CV):List c5:=[.boxT (some T) (.ptr 0 0::.list [] true (some 2)::rest),.dead,.tipT (some tU8) 0]
set_option maxRecDepth 10000 in
theorem b5k {T:TypeId} {rest:List CV} {c:CV} {obs:List c5}:b8 CC 236 [.ptr 0 0] (.boxT (some T) (.ptr 0 0::c::rest)::obs) fun r τ=>∃ _:Unit,r = .ret (.tup [])∧τ = .boxT (some T) (.ptr 0 0::c::rest)::obs∧True:=by
 refine (d8 Tryz.func236 rfl rfl ?_)
 refine a7 (a6 ?_)
 refine cY b7 ?_; refine cY o7 ?_; refine cY a6d ?_; refine cY a9M ?_; refine cY (a8w rfl tt rfl Tryz.runUnderlying238) ?_; refine a8 ?_
 refine b9 tt rfl (fun h1=>?_) (fun h1=>?_)
 ·cases h1
 ·skip
  refine a7 (a6 ?_)
  refine cY b7 ?_; refine cY o7 ?_; refine cY a6d ?_; refine cY a9M ?_; refine cY b7 ?_; refine cY (a6O rfl tt tt rfl rfl 240 j6 j6) ?_; refine a8 ?_
  refine b9 tt rfl (fun h2=>?_) (fun h2=>?_)
  ·cases h2
  ·skip
   refine c8 ?_
   exact ⟨_,o4 (rs:=[]) (cs:=[]) rfl tt (Nat.ne_of_beq_eq_false rfl),⟨(),rfl,rfl,tt⟩⟩
set_option maxRecDepth 10000 in
set_option maxHeartbeats 1600000 in
theorem b6Q {T:TypeId} {rest:List CV} (n:Nat) (h1:1≤n) (h2:n≤1000000000):b8 CC 272 [.ptr 0 0,.val (.int .i64 (n:Int))] [.boxT (some T) (.ptr 0 0::.list [] false none::rest),.dead] fun r τ=>∃ _:Unit,r = .ret (.tup [])∧τ=b8z T rest∧True:=by
 refine (d8 Tryz.func272 rfl rfl ?_)
 refine a7 ?_; refine F3 [0,1,2,3,4,5,6,7,9,10,11,12,13,8,14,15] 13 [0,1,3,7,15,31,0,127,255,0,512,1536,3584,7680,16383,32767] [[8,9,10,11,12],[],[]] (hd1l:=[0,1,2,3,4,5,6,7,9,10,11,12,13]) (tll:=[(8,[8,9,10,11,12]),(14,[]),(15,[])]) j6 j6 rfl rfl rfl ?_; refine chf rfl J4 ?_; refine chf rfl a0i ?_; refine chf rfl (m7 rfl R7) ?_; refine chf rfl (m7 rfl a0f) ?_; refine chf rfl (m7 rfl (b5z rfl tt rfl Tryz.runUnderlying139)) ?_; refine chf rfl (m7 rfl (b15 rfl rfl tt rfl rfl c4 c4)) ?_; refine chf rfl J4 ?_; refine chf rfl (m7 rfl a2z) ?_; refine chf rfl J4 ?_; refine chf rfl a0i ?_; refine chf rfl (m7 rfl R7) ?_; refine chf rfl (m7 rfl a0f) ?_; refine chf rfl (m7 rfl b05) ?_; refine H4 ?_
 refine F0 rfl rfl (a60 (t:=139) (e:=5) rfl Tryz.func293 rfl rfl rfl rfl j6 tt (congrArg (fun z:Int=>CV.val (.int .i64 z)) (show (2*0+(n:Int))=n by omega)) c4 ?_)
 refine ⟨⟨H8,W7,(by exact m7 rfl R7),(by exact m7 rfl a0f),(by exact m7 rfl b05),tt⟩,?_⟩
 refine H9 rfl (m7 rfl (a89 rfl tt tt rfl rfl h1 Tryz.runUnderlying139 Tryz.sizeOf5)) ⟨tt,?_⟩
 refine H9 rfl a2p ⟨tt,?_⟩
 refine I5 (a7 (a6 ?_))
 refine cY b7 ?_; refine cY b7 ?_; refine cY o7 ?_; refine cY R7 ?_; refine cY a0f ?_
 refine cD (b7u rfl tt tt rfl rfl Tryz.runUnderlying139 Tryz.sizeOf5 ?_)
 refine a8 (a6 ?_)
 refine cY b7 ?_; refine cY b7 ?_; refine cY o7 ?_; refine cY R7 ?_
 refine cD (j1 rfl tt tt rfl c6 Tryz.sizeOf139 (.inl rfl) rfl rfl (nb rfl) ?_)
 refine a8 ?_
 exact ⟨_,o4 (rs:=[]) (cs:=[]) rfl tt (Nat.ne_of_beq_eq_false rfl),⟨(),rfl,rfl,tt⟩⟩
set_option maxRecDepth 10000 in
theorem b7K {T:TypeId} {rest:List CV} (hT:a1y T (rest.length+2)) (n:Nat) (hn1:1≤n) (hn2:n≤1000000000):b8 CC 237 [.ptr 0 0,.val (.int .i64 (n:Int))] (bSt T false [] rest) fun r τ=>∃ _:Unit,r = .ret (.tup [])∧τ=b8z T rest∧True:=by
 refine (d8 Tryz.func237 rfl rfl ?_)
 refine a7 (a6 ?_)
 refine cY b7 ?_
 refine cD (k8 rfl Tryz.call236 ⟨tt,tt⟩ (a7Q hT false []) rfl ?_)
 intro _ _
 refine a8 (a7 (a7 (a6 ?_)))
 refine cY b7 ?_; refine cY k7 ?_; refine a8 ?_
 refine b9 tt rfl (fun h1=>?_) (fun h1=>?_)
 ·exact absurd (of_decide_eq_true h1) c4
 ·skip
  refine c8 (a7 ?_)
  refine r5 13 [0,1,3,7,15,0,32,96,224,480,1023,0,4095] j6 j6 rfl ?_; refine hY b7 ?_; refine hY o7 ?_; refine hY R7 ?_; refine hY a0f ?_; refine hY (b5z rfl tt rfl Tryz.runUnderlying139) ?_; refine hY b7 ?_; refine hY o7 ?_; refine hY R7 ?_; refine hY a0f ?_; refine hY b05 ?_; refine hY (a3K rfl tt tt rfl rfl m5 m5) ?_; refine hY b7 ?_; refine hY p8 ?_
  refine u0 (a8 ?_)
  refine b9 tt rfl (fun h2=>?_) (fun h2=>?_)
  ·skip
   refine a6 ?_; refine cY b7 ?_; refine cY b7 ?_
   refine cD (k8 rfl Tryz.call272 ⟨tt,tt,tt⟩ (b6Q n hn1 hn2) rfl ?_)
   intro _ _; refine a8 ?_
   exact ⟨_,o4 (rs:=[]) (cs:=[]) rfl tt (Nat.ne_of_beq_eq_false rfl),⟨(),rfl,rfl,tt⟩⟩
  ·exact absurd (of_decide_eq_false h2) (by show ¬ ¬ (0 - 0:Int) < n; omega)
set_option maxRecDepth 10000 in
theorem a3T {T:TypeId} {rest:List CV} (s:Str) (hs:s≠[]) (hl:s.length≤140737488355328):b8 CC 195 [.ptr 0 0,sv s] (b8z T rest) fun r τ=>∃ _:Unit,r = .ret (.tup [.val (.int .i64 s.length),.val .nilIface])∧τ=[x0 T 0 3 true s rest,.dead,.dead,r2 tU8 s.length]∧True:=by
 refine (d8 Tryz.func195 rfl rfl ?_)
 refine a7 (a6 ?_)
 refine cY i7 ?_; refine cY i7 ?_
 refine a8 (a7 (a6 ?_))
 refine cY b7 ?_
 refine cD (k8 rfl Tryz.call236 ⟨tt,tt⟩ (b5k) rfl ?_)
 intro _ _
 refine a8 (a7 (a6 ?_))
 refine cY b7 ?_; refine cY b7 ?_; refine cY o7 ?_; refine cY R7 ?_; refine cY a0f ?_; refine cY b7 ?_
 refine cD (b7k (new:=s) (p:=2) rfl tt tt rfl (b0q rfl) Tryz.runUnderlying139 Tryz.sizeOf5 Tryz.typeInfo5 Tryz.zeroValue5 rfl (.inr Tryz.runUnderlying9) rfl rfl hs a58 ?_)
 refine cY o7 ?_; refine cY R7 ?_
 refine cD (j1 rfl tt tt rfl c6 Tryz.sizeOf139 (.inl rfl) rfl rfl (nb rfl) ?_)
 refine a8 (a7 (a6 ?_))
 refine cY b7 ?_; refine cY E4 ?_; refine cY c7 ?_; refine cY i7 ?_
 refine a8 (d5 ?_)
 exact ⟨_,o4 (rs:=[.tmp 4,.tmp 5]) (cs:=[_,_]) rfl ⟨⟨tt,c6⟩,⟨tt,c6⟩,tt⟩ (Nat.ne_of_beq_eq_false rfl),⟨(),rfl,rfl,tt⟩⟩
theorem b6v {a b:Int} (hb:0 < b) (h1:0≤a) (h2:a≤9223372036854775807):a6U .quo .i64 a b=some (.int .i64 (a.tdiv b)):=by
 have hne:b≠0:=by omega
 have h0:0≤a.tdiv b:=Int.tdiv_nonneg h1 c4
 have h3:a.tdiv b≤a:=by rw [Int.tdiv_eq_ediv_of_nonneg h1]; exact Int.ediv_le_self b h1
 simp only [a6U,if_neg hne]
 rw [a8x c4 c4]
theorem b4E {sep:Str} {n:Int} (hs2:sep.length=2) (h1:0 < n) (h2:n≤1000):¬ (9223372036854775807:Int).tdiv n≤(sep.length:Int):=by
 rw [hs2,Int.tdiv_eq_ediv_of_nonneg j5]
 have:=Int.le_ediv_of_mul_le h1 (show 1000000*n≤9223372036854775807 by omega)
 omega
theorem List.take_one_eq {α:Type} {l:List α} {x:α} (h:l[0]? = some x):l.take (0+1)=[x]:=by
 cases l with
 | nil=>simp at h
 | cons a l=>simp at h; subst h; rfl
theorem a5r {sep:Str} {l:List Str} (hs:sep.length=2) (hl:∀ s∈l,1≤s.length∧s.length≤1000):∀ m,(A1 sep l m).length≤m*1002
 | 0=>by simp [A1,B9]
 | m+1=>by
  have ih:=a5r (sep:=sep) (l:=l) hs hl m
  cases hg:l[m]? with
  | none =>
   have:l.length≤m:=by simpa using hg
   have e:A1 sep l (m+1)=A1 sep l m:=by unfold A1; rw [List.take_of_length_le (show l.length≤m+1 by omega),List.take_of_length_le (show l.length≤m by omega)]
   rw [e]; exact Nat.le_trans ih (Nat.mul_le_mul_right _ (Nat.le_succ m))
  | some y =>
   have:=(hl y (List.mem_of_getElem? hg)).2
   rw [a2e hg,List.length_append,List.length_append]
   split
   ·simp; omega
   ·omega
set_option maxRecDepth 10000 in
theorem a7e (l:List Str) (nn:Bool) (sep:Str) (hs2:sep.length=2) (hl:l.length≤1000) (hl2:∀ s∈l,1≤s.length∧s.length≤1000):b8 CC 196 [(.list (l.map scv) nn none),(sv (sep))] [] fun r σ'=>r = .ret (sv (B9 sep l))∧σ'=[]:=by
 refine j4 (d8 Tryz.func196 rfl rfl ?_)
 refine a7 (a6 ?_)
 refine cY i7 ?_
 refine a8 (a7 (a7 (a6 ?_)))
 refine cY b7 ?_; refine cY Y4 ?_
 refine a8 (d9 (a7 (a6 ?_)))
 refine cY k7 ?_; refine cY c7 ?_; refine a8 ?_
 refine b9 tt rfl (fun h1=>?_) (fun h1=>?_)
 ·have h0:l=[]:=by simpa using h1
  refine a7 (a6 ?_)
  refine cY i7 ?_
  refine a8 (d5 ?_)
  exact ⟨_,l4 rfl tt c6,_,_,rfl,rfl,M4 (by rw [h0]; rfl)⟩
 ·have h1':¬ l.length=0:=by simp at h1; simpa using h1
  refine a7 (a6 ?_)
  refine cY k7 ?_; refine cY c7 ?_; refine a8 ?_
  refine b9 tt rfl (fun h2=>?_) (fun h2=>?_)
  ·have h1l:l.length=1:=by simp at h2; omega
   obtain ⟨e0,he0⟩:∃ e0,l=[e0]:=by
    rcases l with _ | ⟨a,_ | ⟨b,l⟩⟩
    ·simp at h1l
    ·exact ⟨a,rfl⟩
    ·simp at h1l
   have g0:l[0]? = some e0:=by rw [he0]; rfl
   refine a7 (a6 ?_)
   refine cY b7 ?_; refine cY (o9 rfl tt rfl rfl rfl Tryz.runUnderlying26 Tryz.sizeOf9 c4 (l6 g0) rfl) ?_; refine cY R4 ?_; refine cY c7 ?_
   refine a8 (d5 ?_)
   exact ⟨_,l4 rfl tt c6,_,_,rfl,rfl,M4 (by rw [he0]; rfl)⟩
  ·have h2l:2≤l.length:=by
    have:¬ (l.length:Int)=1:=by simpa using h2
    omega
   refine c8 (a7 (a6 ?_))
   refine cY i7 ?_; refine a8 ?_; refine R1 hCC (α:=Nat) (fun n=>[(0,(.list (l.map scv) nn none)),(1,(sv (sep))),(5,(.val (.int .i64 ((n:Int)))))]) (fun _=>[]) (fun n=>1≤n∧n≤2000) y9 (fun a ha=>by repeat' (first|exact tt|exact .val _|exact .ptr (nb rfl)|exact .map (nb rfl)|exact m4 _ _ _ | refine l2 ?_ | refine ⟨?_,?_⟩)) ?_ ?_
   ·
    refine a7 (a6 ?_)
    refine cY b7 ?_; refine cY E4 ?_; refine cY k7 ?_; refine a8 ?_
    refine b9 tt rfl (fun h3=>?_) (fun h3=>?_)
    ·skip
     refine a7 (a7 (a6 ?_))
     refine cY b7 ?_; refine cY E4 ?_; refine cY b7 ?_; refine cY Y4 ?_; refine cY T4 ?_; refine cY (a1u rfl rfl tt rfl rfl (b6v c4 c4 c4)) ?_; refine cY p8 ?_; refine a8 ?_
     refine b9 tt rfl (fun h4=>?_) (fun h4=>?_)
     ·exact absurd (of_decide_eq_true h4) (b4E hs2 c4 c4)
     ·have hmm:(sep.length:Int)*((l.length:Int) - 1)=2*((l.length:Int) - 1):=by rw [hs2]; rfl
      refine c8 (a6 ?_)
      refine cY b7 ?_; refine cY b7 ?_; refine cY E4 ?_; refine cY b7 ?_; refine cY Y4 ?_; refine cY T4 ?_; refine cY (b15 rfl tt tt rfl rfl (by rw [hmm]; omega) (by rw [hmm]; omega)) ?_; refine cY a2z ?_; refine cY c7 ?_; refine a8 ?_
      exact ⟨(2*(l.length - 1)),_,⟨by omega,by omega⟩,⟨⟨tt,rfl⟩,⟨tt,rfl⟩,⟨tt,(congrArg (fun z:Int=>CV.val (.int .i64 z)) (show (0+(sep.length:Int)*((l.length:Int) - 1))=((2*(l.length - 1):Nat):Int) by rw [hmm]; omega))⟩,tt⟩,rfl⟩
    ·exact absurd (of_decide_eq_false h3) (by show ¬ ¬ (0:Int) < sep.length; rw [hs2]; decide)
   ·intro n ⟨hn1,hn2⟩
    refine a7 (a7 (a6 ?_))
    refine cY b7 ?_; refine cY Y4 ?_; refine cY z8 ?_
    refine a8 (d9 ?_)
    refine r6 hCC (α:=Nat × Nat) (fun x=>[(0,(.list (l.map scv) nn none)),(1,(sv (sep))),(5,(.val (.int .i64 ((x.2:Int))))),(39,(.list (l.map scv) nn none)),(40,(.val (.int .i64 ((l.length:Int))))),(41,(.val (.int .i64 ((x.1:Int)))))]) (fun _=>[]) (fun x=>x.1≤l.length∧1≤x.2∧x.2≤2000+1000*x.1) (fun x=>l.length - x.1) (0,n) ⟨Nat.zero_le _,hn1,by omega⟩ ⟨⟨tt,rfl⟩,⟨tt,rfl⟩,⟨tt,rfl⟩,⟨tt,rfl⟩,⟨tt,rfl⟩,⟨tt,rfl⟩,tt⟩ (extra0:=[]) rfl y9 (fun a ha=>by repeat' (first|exact tt|exact .val _|exact .ptr (nb rfl)|exact .map (nb rfl)|exact m4 _ _ _ | refine l2 ?_ | refine ⟨?_,?_⟩)) ?_; intro ⟨i,n'⟩ ⟨hi,hn1',hn2'⟩
    dsimp only at hi hn1' hn2' ⊢
    refine a7 (a6 ?_)
    refine cY p8 ?_
    refine a8 (a7 ?_)
    refine b9 tt rfl (fun h5=>?_) (fun h5=>?_)
    ·have hlt:i < l.length:=by simp at h5; omega
     obtain ⟨y,hy⟩:∃ y,l[i]? = some y:=⟨l[i]'hlt,by simp⟩
     have hyl:=hl2 y (List.mem_of_getElem? hy)
     refine c8 (a7 (d9 (a7 (a6 ?_))))
     refine cY b8c ?_; refine cY R4 ?_; refine cY c7 ?_
     refine a8 (a7 (a7 (a6 ?_)))
     refine cY b7 ?_; refine cY E4 ?_; refine cY b7 ?_; refine cY (a3K rfl rfl tt rfl rfl c4 c4) ?_; refine cY p8 ?_; refine a8 ?_
     refine b9 tt rfl (fun h6=>?_) (fun h6=>?_)
     ·exact absurd (of_decide_eq_true h6) c4
     ·skip
      refine c8 (a6 ?_)
      refine cY b7 ?_; refine cY b7 ?_; refine cY E4 ?_; refine cY a2z ?_; refine cY c7 ?_
      refine a8 (a6 ?_)
      refine cY n9 ?_; refine cY b7 ?_; refine a8 ?_
      exact ⟨(i+1,n'+y.length),_,⟨by dsimp only; omega,by dsimp only; omega,by dsimp only; omega,by dsimp only; omega⟩,⟨⟨tt,rfl⟩,⟨tt,rfl⟩,⟨tt,rfl⟩,⟨tt,rfl⟩,⟨tt,rfl⟩,⟨tt,rfl⟩,tt⟩,rfl⟩
    ·have hie:i=l.length:=by simp at h5; omega
     obtain ⟨e0,g0⟩:∃ e0,l[0]? = some e0:=⟨l[0]'c4,by simp⟩
     have he0:=hl2 e0 (List.mem_of_getElem? g0)
     refine m8 (a7 (a6 ?_))
     refine cD (a8O rfl Tryz.zeroValue240 rfl j3 ?_)
     refine a8 (a7 (a6 ?_))
     refine cY b7 ?_
     refine cD (k8 rfl Tryz.call237 ⟨tt,tt,tt⟩ ((R3 (b7K a1l n' hn1' c4))) rfl ?_)
     intro _ _
     refine a8 (a7 (a6 ?_))
     refine cY b7 ?_; refine cY (o9 rfl tt rfl rfl rfl Tryz.runUnderlying26 Tryz.sizeOf9 c4 (l6 g0) rfl) ?_; refine cY R4 ?_
     refine cD (k8 rfl Tryz.call195 ⟨tt,tt,tt⟩ (a3T e0 (by intro h; rw [h] at he0; simp at he0) c4) rfl ?_)
     intro _ _
     refine a8 (a7 (a7 (a6 ?_)))
     refine cY b7 ?_; refine cY (a35 (l:=1) rfl tt rfl Tryz.runUnderlying26 Tryz.sizeOf9 b1f ⟨rfl,_,_,rfl,by omega,by omega⟩ rfl a0U m5) ?_; refine cY Y4 ?_; refine cY z8 ?_
     refine a8 (d9 ?_)
     refine A2 hCC 4 rfl (α:=Nat × Bool) (fun x=>[(1,(sv (sep))),(8,.ptr 0 0),(63,(.list ((l.drop 1).map scv) nn none)),(64,(.val (.int .i64 (((l.length - 1:Nat):Int))))),(65,(.val (.int .i64 ((x.1:Int)))))]) (fun x=>[x0 tSB 0 (kp x.2) true (A1 sep l (x.1+1)) [],.dead,.dead,op1 x.2 (A1 sep l (x.1+1)).length,op2 x.2 (A1 sep l (x.1+1)).length]) (fun x=>x.1+1≤l.length) (fun x=>l.length - x.1) ⟨(0,false),[0,1,2,3,7],(show 0+1≤l.length by omega),⟨rfl,rfl⟩,⟨⟨tt,Z1⟩,⟨tt,Z1⟩,⟨tt,(by first|exact .ptr rfl|exact .map rfl|exact .vec rfl|exact .same (show CV.list (((l.map scv).take (l.map scv).length).drop 1) nn none=_ from by rw [List.take_of_length_le (Nat.le_refl _),List.map_drop]) (by first|exact .val _|exact .ptr (nb rfl)|exact .map (nb rfl)|exact m4 _ _ _))⟩,⟨tt,(by first|exact .ptr rfl|exact .map rfl|exact .vec rfl|exact .same (show CV.val (.int .i64 ((((l.map scv).take (l.map scv).length).drop 1).length:Int))=_ from by simp) (by first|exact .val _|exact .ptr (nb rfl)|exact .map (nb rfl)|exact m4 _ _ _))⟩,⟨tt,Z1⟩,tt⟩,⟨.inr ⟨_,rfl,a2l j5 rfl (fun c hc=>by cases hc) (by rw [A1,List.take_one_eq g0]; rfl)⟩,.inl rfl,.inl rfl,.inr ⟨_,rfl,I0 (by rw [A1,List.take_one_eq g0]; rfl)⟩,.inl rfl,tt⟩⟩ ?_; intro ⟨m,ph⟩ hm
     dsimp only at hm ⊢
     refine a7 (a6 ?_)
     refine cY p8 ?_
     refine a8 (a7 ?_)
     refine b9 tt rfl (fun h7=>?_) (fun h7=>?_)
     ·have hlt:m+1 < l.length:=by simp at h7; omega
      obtain ⟨y,hy⟩:∃ y,l[m+1]? = some y:=⟨l[m+1]'hlt,by simp⟩
      have hyl:=hl2 y (List.mem_of_getElem? hy)
      have hy':(l.drop 1)[m]? = some y:=by rw [List.getElem?_drop,Nat.add_comm]; exact hy
      have es:=a2e (sep:=sep) hy
      rw [if_neg c4] at es
      have hjl:=a5r (sep:=sep) (l:=l) hs2 hl2 (m+1)
      have hjl2:(m+1)*1002≤1000*1002:=Nat.mul_le_mul_right _ c4
      refine c8 (a7 (d9 (a7 (a6 ?_))))
      refine cY (o9 rfl tt tt rfl rfl Tryz.runUnderlying26 Tryz.sizeOf9 c4 (l6 hy') rfl) ?_; refine cY R4 ?_; refine cY c7 ?_
      refine a8 (a7 (a6 ?_))
      refine cY b7 ?_
      refine cD (k8 rfl Tryz.call195 ⟨tt,tt,tt⟩ (o8 a1l _ (A1 sep l (m+1)) (fun c hc=>by cases hc) sep c4 (σ:=_) (q:=0) (k:=kp ph) ⟨rfl,by cases ph <;> rfl,by cases ph <;> exact Nat.ne_of_beq_eq_false rfl⟩) rfl ?_)
      intro _ _; refine p4 [x0 tSB 0 5 true (A1 sep l (m+1)++sep) [],.dead,.dead,.dead,.dead,r2 tU8 (A1 sep l (m+1)++sep).length] a0p ?_
      refine a8 (a6 ?_)
      refine cY b7 ?_
      refine cD (k8 rfl Tryz.call195 ⟨tt,tt,tt⟩ (o8 a1l _ (A1 sep l (m+1)++sep) (fun c hc=>by cases hc) y (by rw [D3]; omega) (q:=0) (k:=5) ⟨rfl,rfl,Nat.ne_of_beq_eq_false rfl⟩) rfl ?_)
      intro _ _; refine p4 [x0 tSB 0 6 true (A1 sep l (m+1)++sep++y) [],.dead,.dead,.dead,.dead,.dead,r2 tU8 (A1 sep l (m+1)++sep++y).length] rfl ?_
      refine a8 (a6 ?_)
      refine cY n9 ?_; refine cY b7 ?_; refine a8 ?_
      exact ⟨(m+1,true),[0,1,2,3,6],(show l.length - (m+1) < l.length - m∧m+1+1≤l.length from ⟨by omega,by omega⟩),⟨rfl,rfl⟩,⟨⟨tt,Z1⟩,⟨tt,Z1⟩,⟨tt,Z1⟩,⟨tt,Z1⟩,⟨tt,Z1⟩,tt⟩,⟨.inr ⟨_,rfl,a2l j5 rfl (fun c hc=>by cases hc) es.symm⟩,.inl rfl,.inl rfl,.inl rfl,.inr ⟨_,rfl,I0 es.symm⟩,tt⟩⟩
     ·have hme:m+1=l.length:=by simp at h7; omega
      refine m8 (a7 (a6 ?_))
      refine cD (k8 rfl Tryz.call197 ⟨tt,tt⟩ (a0v (rest:=[]) (T:=tSB) (fun c hc=>by cases hc) true (A1 sep l (m+1)) (q:=0) (k:=kp ph) ⟨rfl,by cases ph <;> rfl,by cases ph <;> exact Nat.ne_of_beq_eq_false rfl⟩) rfl ?_)
      intro _ _; refine cY c7 ?_
      refine a8 (d5 ?_)
      exact ⟨_,l4 rfl tt c6,_,_,rfl,rfl,M4 (by rw [hme,A1,List.take_of_length_le (Nat.le_refl _)])⟩
theorem a41 (l:List Str) (nn:Bool) (sep:Str) (hs2:sep.length=2) (hl:l.length≤1000) (hl2:∀ s∈l,1≤s.length∧s.length≤1000) (σ:List c5):b8 CC 196 [(.list (l.map scv) nn none),(sv (sep))] σ fun r σ'=>r = .ret (sv (B9 sep l))∧σ'=σ :=
 b8.anyw hCC (by repeat' (first|exact .val _|exact d4 _ _|exact c9 _ _|exact tt | refine d6 ?_ | refine d7 ?_ | refine ⟨?_,?_⟩)) (by repeat' (first|exact .val _|exact d4 _ _|exact c9 _ _|exact tt | refine d6 ?_ | refine d7 ?_ | refine ⟨?_,?_⟩)) (a7e l nn sep hs2 hl hl2) σ
end Go.Proofs.YtoblbdedgjfeaaaGreatDoor
namespace Go.Proofs.YtoblbdedgjfeaaaGreatDoor
open Go Go.Cl
open Classical in
noncomputable def L0 (d:De):Str:=if h:∃ t:Tr,d.body=t.flat 0∧t.wf d.params.length 1 then h.choose.txt d.params 0 else []
theorem a4S {d:De} (h:DeG d):∃ t:Tr,d.body=t.flat 0∧t.wf d.params.length 1∧L0 d=t.txt d.params 0:=by
 refine ⟨h.tree.choose,h.tree.choose_spec.1,h.tree.choose_spec.2,?_⟩
 unfold L0
 rw [dif_pos h.tree]
theorem a8X {d:De} (h:DeG d):∀ s∈d.params,s.length≤80:=fun s hs=>by have:=B1 (h.par s hs).1; omega
theorem a6H {d:De} (h:DeG d):(L0 d).length≤76800:=by
 obtain ⟨t,h1,h2,h3⟩:=a4S h
 have:=t.txt_len (a8X h) 1 0 h2
 have hb:=h.blen
 rw [h1,Tr.flat_len] at hb
 rw [h3]
 omega
def b8B (d:De):Src:=⟨[112],[],[⟨1,[102],d.params,d.body⟩]⟩
theorem b61 {d:De} (h:DeG d):a0X (b8B d) where
 pkg:=by show t8 [112]=true∧K3 [112]=false; decide
 imp:=fun s hs=>by cases hs
 impl:=Nat.zero_le _
 impn:=List.nodup_nil
 impp:=fun h=>by cases h
 dec:=fun e he=>by
  simp only [b8B,List.mem_cons,List.not_mem_nil,or_false] at he
  subst he
  exact { kind:=.inl rfl,name:=fun _=>by (show t8 [102]=true∧K3 [102]=false); decide,path:=fun hk=>absurd (show (1:Int)=3 from hk) j5,pars:=fun hk=>absurd rfl hk,par:=h.par,parl:=h.parl,nod:=h.nod,tree:=h.tree,blen:=h.blen}
 decl:=by show 1≤64; decide
 decn:=by show (List.map _ [_]).Nodup; simp
set_option maxRecDepth 10000 in
theorem b7i (d:De) (h:DeG d):b8 CC 194 [(.list (d.body.map Ex.cv) (gnn d.body.length) none),(.list (d.params.map scv) (gnn d.params.length) none)] [] fun r σ'=>r = .ret (.tup [sv (L0 d),(.val (.int .i64 (0)))])∧σ'=[]:=by
 refine j4 (d8 Tryz.func194 rfl rfl ?_)
 refine a7 (a6 ?_)
 refine cY i7 ?_; refine cY i7 ?_
 refine a8 (a7 (a7 (a6 ?_)))
 refine cY b7 ?_; refine cY b7 ?_; refine cY (v6 #[(0,1),(1,1),(2,1),(3,1)] rfl ⟨rfl,rfl,tt,tt,tt⟩ Tryz.runUnderlying117 Tryz.zeroValue117 rfl ⟨_,rfl⟩ (fun w=>by kernel_rfl) rfl rfl) ?_; refine cY (y7 ([(⟨1,[102],d.params,d.body⟩:De)].map De.cv) rfl ⟨tt,tt⟩ Tryz.runUnderlying67 Tryz.sizeOf117 Tryz.zeroValue117 rfl rfl rfl rfl rfl rfl rfl rfl rfl) ?_; refine cY (v6 #[(0,1),(1,1),(2,1)] rfl ⟨rfl,tt,tt⟩ Tryz.runUnderlying69 Tryz.zeroValue69 rfl ⟨_,rfl⟩ (fun w=>by kernel_rfl) rfl rfl) ?_; refine cY (i8 rfl Tryz.call193 ⟨tt,tt⟩ (a47 (b8B d) (b61 h) _) rfl) ?_; refine cY c7 ?_
 refine a8 (a7 (a6 ?_))
 refine cY b7 ?_; refine cY k7 ?_; refine a8 ?_
 refine b9 tt rfl (fun h1=>?_) (fun h1=>?_)
 ·cases h1
 ·obtain ⟨t,ht1,ht2,ht3⟩:=a4S h
  refine c8 (a7 (a6 ?_))
  refine cY b7 ?_; refine cY b7 ?_
  refine cD (k8 rfl Tryz.call235 ⟨tt,tt,tt⟩ (b5l (gnn d.body.length) (gnn d.params.length) (by have:=h.blen; omega) t ht1 ⟨1,ht2⟩ (a8X h) _) rfl ?_)
  rintro dd _
  dsimp only
  rw [← ht3]
  refine cY b7 ?_; refine cY A0 ?_; refine cY A0 ?_; refine cY c7 ?_; refine cY c7 ?_
  refine a8 (a7 (a6 ?_))
  refine cY b7 ?_; refine cY c7 ?_; refine cY i7 ?_
  refine a8 (d5 ?_)
  exact ⟨_,o4 (rs:=[.tmp 4,.tmp 5]) (cs:=[_,_]) rfl ⟨⟨tt,c6⟩,⟨tt,c6⟩,tt⟩ (Nat.ne_of_beq_eq_false rfl),_,_,rfl,rfl,(.old (d7 (cs:=[sv (L0 d),.val (.int .i64 0)]) ⟨.val _,.val _,tt⟩).old)⟩
theorem b29 (d:De) (h:DeG d) (σ:List c5):b8 CC 194 [(.list (d.body.map Ex.cv) (gnn d.body.length) none),(.list (d.params.map scv) (gnn d.params.length) none)] σ fun r σ'=>r = .ret (.tup [sv (L0 d),(.val (.int .i64 (0)))])∧σ'=σ :=
 b8.anyw hCC (by repeat' (first|exact .val _|exact d4 _ _|exact c9 _ _|exact s0 _ _|exact w7 _ _|exact tt | refine d6 ?_ | refine d7 ?_ | refine ⟨?_,?_⟩)) (by repeat' (first|exact .val _|exact d4 _ _|exact c9 _ _|exact s0 _ _|exact w7 _ _|exact tt | refine d6 ?_ | refine d7 ?_ | refine ⟨?_,?_⟩)) (b7i d h) σ
def J7 (l:List Str):Str:=(l.map fun s=>[105,109,112,111,114,116,32]++s++[59,10]).flatten
theorem a6j {l:List Str} {m:Nat} {s:Str} (h:l[m]? = some s):J7 (l.take (m+1))=J7 (l.take m)++([105,109,112,111,114,116,32]++s++[59,10]):=by
 unfold J7
 rw [List.take_add_one,h]
 simp
def a6p (d:De):Str:=if d.k=1 then [102,117,110,99,32]++d.name++[40]++B9 [44,32] d.params++[41,32,61,32] else if d.k=2 then [116,101,115,116,32]++d.name++[32,61,32] else [103,101,110,32,34]++d.name++[34,32,61,32]
noncomputable def W6 (x:Src) (d:De):Str:=([112,97,99,107,97,103,101,32]++x.pkg++[59,10])++J7 x.imports++a6p d++(L0 d++[59,10])
theorem a4P {l:List Str} (h:∀ s∈l,s.length≤80):∀ m,(J7 (l.take m)).length≤100*m
 | 0=>by simp [J7]
 | m+1=>by
  have ih:=a4P h m
  cases hg:l[m]? with
  | none =>
   have:l.length≤m:=by simpa using hg
   rw [List.take_of_length_le (show l.length≤m+1 by omega)]
   rw [List.take_of_length_le this] at ih
   omega
  | some y =>
   have:=h y (List.mem_of_getElem? hg)
   rw [a6j hg]
   simp only [List.length_append,List.length_cons,List.length_nil]
   omega
theorem b13 {l:List Str} {k:Nat} (h:∀ s∈l,s.length≤k):a3W l≤k*l.length:=by
 induction l with
 | nil=>simp [a3W]
 | cons x l ih =>
  have h1:=h x m5
  have h2:=ih fun s hs=>h s (by simp [hs])
  simp only [a3W,List.map_cons,List.sum_cons,List.length_cons,Nat.mul_add] at h2 ⊢
  omega
theorem De.name_len {d:De} (h:DeG d):d.name.length≤80:=by
 by_cases h3:d.k=3
 ·exact a0b (h.path h3)
 ·have:=B1 (h.name h3).1; omega
def kpn (a:Nat) (ph:Bool):Nat:=match ph with | false=>a | true=>a+1
theorem b1k {L:Nat} {sel:List Nat} {T:TypeId} {q s s':Nat} {a:Bool} {l l':Str} {rest:List CV} (hL:q < L) (hs:sel[s']? = some s) (hr:∀ c∈rest,p5 c) (he:l=l'):a5p L sel (x0 T q s a l rest) (x0 T q s' a l' rest):=by
 subst he
 refine .box ⟨?_,.list (fun r hr c hc=>(U5 l r hr c hc).old) (fun j hj=>?_),?_⟩
 ·cases a
  ·exact .old (.val _)
  ·exact .old (.ptr hL)
 ·cases hb:l.length with
  | zero=>rw [hb] at hj; cases hj
  | succ m=>rw [hb] at hj; injection hj with hj; subst hj; exact ⟨s,rfl,hs⟩
 ·have:∀ l:List CV,(∀ c∈l,p5 c)→a7u L l:=fun l=>by
   induction l with
   | nil=>intro _; trivial
   | cons x l ih=>intro h; exact ⟨(h x m5).old,ih fun c hc=>h c (by simp [hc])⟩
  exact a2Y (this rest hr)
theorem b2X {s:Str} (h:t8 s=true):1≤s.length:=by
 cases s with
 | nil=>simp [t8] at h
 | cons a l=>simp
set_option maxRecDepth 10000 in
set_option maxHeartbeats 1000000 in
theorem b60 (x:Src) (h:a0X x) (i:Nat) (d:De) (hx:x.decls[i]? = some d) (hd:DeG d) (hi:i < x.decls.length):b8 CC 145 [.agg x.cells,(.val (.int .i64 ((i:Int))))] [] fun r σ'=>r = .ret (.tup [sv (W6 x d),(.val (.int .i64 (0)))])∧σ'=[]:=by
 refine j4 (d8 Tryz.func145 rfl rfl ?_)
 refine a7 (a6 ?_)
 refine cD (w9 rfl tt c6 j3 ?_)
 refine cY i7 ?_; refine cY i7 ?_
 refine a8 (a7 (a7 (a6 ?_)))
 refine cY a6a ?_; refine cY (i8 rfl Tryz.call193 ⟨tt,tt⟩ (a47 x h _) rfl) ?_; refine cY c7 ?_
 refine a8 (a7 (a6 ?_))
 refine cY b7 ?_; refine cY k7 ?_; refine a8 ?_
 refine b9 tt rfl (fun h1=>?_) (fun h1=>?_)
 ·cases h1
 ·skip
  refine c8 (a7 (a7 (a6 ?_)))
  refine cY b7 ?_; refine cY k7 ?_; refine cY b7 ?_; refine cG o6 ?_; refine cG (fun hg=>l9 rfl tt rfl Tryz.runUnderlying69 rfl Tryz.sizeOf67 j5) ?_; refine cG (fun hg=>o5 rfl hg rfl Tryz.isAgg67 rfl rfl) ?_; refine cG (fun hg=>S3 rfl hg rfl Tryz.runUnderlying67 a2q rfl) ?_; refine cG a4C ?_; refine cY J0 ?_; refine a8 ?_
  refine b9 tt rfl (fun h2=>?_) (fun h2=>?_)
  ·exact absurd h2 Z4
  ·have hdl:=De.name_len hd
   have hbl:=a6H hd
   have hpk:=B1 h.pkg.1
   have himl:=h.impl
   have him8:∀ s∈x.imports,s.length≤80:=fun s hs=>by have:=B1 (h.imp s hs).1; omega
   have hjl:=a1K [44,32] d.params
   have hsl:=b13 (a8X hd)
   have hprl:=hd.parl
   have e2:([44,32]:Str).length=2:=rfl
   rw [e2] at hjl
   refine c8 (a7 (a6 ?_))
   refine cY a4y ?_; refine cY a2F ?_; refine cY b7 ?_; refine cY (o9 rfl tt tt rfl rfl Tryz.runUnderlying67 Tryz.sizeOf117 c4 (l6 hx) rfl) ?_; refine cY a5Z ?_
   refine cD (m9 rfl Tryz.zeroValue117 rfl j3 ?_)
   refine cD (j1 rfl tt tt rfl c6 Tryz.sizeOf117 j3 rfl rfl (nb rfl) ?_)
   refine a8 (a7 (a6 ?_))
   refine cY a2w ?_; refine cY W9 ?_; refine cY a3z ?_; refine cY T2 ?_; refine cY (i8 rfl Tryz.call194 ⟨tt,tt,tt⟩ (b29 d hd _) rfl) ?_; refine cY b7 ?_; refine cY A0 ?_; refine cY A0 ?_; refine cY c7 ?_; refine cY c7 ?_
   refine a8 (a7 (a7 (a6 ?_)))
   refine cY b7 ?_; refine cY k7 ?_; refine a8 ?_
   refine b9 tt rfl (fun h3=>?_) (fun h3=>?_)
   ·cases h3
   ·skip
    refine c8 (a7 (a6 ?_))
    refine cD (a8O rfl Tryz.zeroValue240 rfl j3 ?_)
    refine a8 (a7 (a6 ?_))
    refine cY a8t ?_; refine cY p7 ?_; refine cY b6f ?_; refine cY a69 ?_
    refine cD (k8 rfl Tryz.call195 ⟨tt,tt,tt⟩ ((R3 (o8 a1l false [] (fun c hc=>by cases hc) ([112,97,99,107,97,103,101,32]++x.pkg++[59,10]) a2o (q:=2) (k:=3) ⟨rfl,rfl,Nat.ne_of_beq_eq_false rfl⟩))) rfl ?_)
    intro _ _; refine p4 [.box x.cells,.box d.cells,x0 tSB 2 4 true (([112,97,99,107,97,103,101,32]++x.pkg++[59,10])) [],.dead,r2 tU8 (([112,97,99,107,97,103,101,32]++x.pkg++[59,10])).length] rfl ?_
    refine a8 (a7 (a7 (a6 ?_)))
    refine cY a4Z ?_; refine cY T2 ?_; refine cY Y4 ?_; refine cY z8 ?_
    refine a8 (d9 ?_)
    refine A2 hCC 5 rfl (α:=Nat × Bool) (fun x'=>[(7,.ptr 1 0),(8,(sv (L0 d))),(10,.ptr 2 0),(49,(.list (x.imports.map scv) (gnn x.imports.length) none)),(50,(.val (.int .i64 ((x.imports.length:Int))))),(51,(.val (.int .i64 ((x'.1:Int)))))]) (fun x'=>[.box x.cells,.box d.cells,x0 tSB 2 (kpn 4 x'.2) true (([112,97,99,107,97,103,101,32]++x.pkg++[59,10])++J7 (x.imports.take x'.1)) [],.dead,op1 x'.2 (([112,97,99,107,97,103,101,32]++x.pkg++[59,10])++J7 (x.imports.take x'.1)).length,op2 x'.2 (([112,97,99,107,97,103,101,32]++x.pkg++[59,10])++J7 (x.imports.take x'.1)).length]) (fun x'=>x'.1≤x.imports.length) (fun x'=>x.imports.length - x'.1) ⟨(0,false),[0,1,2,3,4,9],(Nat.zero_le _),⟨rfl,rfl⟩,⟨⟨tt,Z1⟩,⟨tt,Z1⟩,⟨tt,Z1⟩,⟨tt,Z1⟩,⟨tt,Z1⟩,⟨tt,Z1⟩,tt⟩,⟨.inr ⟨_,rfl,.same rfl (Src.old x _)⟩,.inr ⟨_,rfl,.same rfl (De.old d _)⟩,.inr ⟨_,rfl,b1k j5 rfl (fun c hc=>by cases hc) (List.append_nil _).symm⟩,.inl rfl,.inr ⟨_,rfl,I0 (List.append_nil _).symm⟩,.inl rfl,tt⟩⟩ ?_; intro ⟨m,ph⟩ hm
    dsimp only at hm ⊢
    have hil:=a4P him8 m
    refine a7 (a6 ?_)
    refine cY p8 ?_
    refine a8 (a7 ?_)
    refine b9 tt rfl (fun h4=>?_) (fun h4=>?_)
    ·have hlt:m < x.imports.length:=by simp at h4; omega
     obtain ⟨y,hy⟩:∃ y,x.imports[m]? = some y:=⟨x.imports[m]'hlt,by simp⟩
     have hyl:=him8 y (List.mem_of_getElem? hy)
     have es:=a6j hy
     have ej:([112,97,99,107,97,103,101,32]++x.pkg++[59,10])++J7 (x.imports.take m)++([105,109,112,111,114,116,32]++y++[59,10])=([112,97,99,107,97,103,101,32]++x.pkg++[59,10])++J7 (x.imports.take (m+1)):=by rw [es]; simp only [List.append_assoc]
     refine c8 (a7 (d9 (a7 (a6 ?_))))
     refine cY b8c ?_; refine cY R4 ?_; refine cY c7 ?_
     refine a8 (a6 ?_)
     refine cY b7 ?_; refine cY b6f ?_; refine cY a69 ?_
     refine cD (k8 rfl Tryz.call195 ⟨tt,tt,tt⟩ (o8 a1l _ (([112,97,99,107,97,103,101,32]++x.pkg++[59,10])++J7 (x.imports.take m)) (fun c hc=>by cases hc) ([105,109,112,111,114,116,32]++y++[59,10]) a2o (q:=2) (k:=kpn 4 ph) ⟨rfl,by cases ph <;> rfl,by cases ph <;> exact Nat.ne_of_beq_eq_false rfl⟩) rfl ?_)
     intro _ _; refine p4 [.box x.cells,.box d.cells,x0 tSB 2 6 true (([112,97,99,107,97,103,101,32]++x.pkg++[59,10])++J7 (x.imports.take m)++([105,109,112,111,114,116,32]++y++[59,10])) [],.dead,.dead,.dead,r2 tU8 (([112,97,99,107,97,103,101,32]++x.pkg++[59,10])++J7 (x.imports.take m)++([105,109,112,111,114,116,32]++y++[59,10])).length] a0p ?_
     refine a8 (a6 ?_)
     refine cY n9 ?_; refine cY b7 ?_; refine a8 ?_
     exact ⟨(m+1,true),[0,1,2,3,4,6],(show x.imports.length - (m+1) < x.imports.length - m∧m+1≤x.imports.length from ⟨by omega,by omega⟩),⟨rfl,rfl⟩,⟨⟨tt,Z1⟩,⟨tt,Z1⟩,⟨tt,Z1⟩,⟨tt,Z1⟩,⟨tt,Z1⟩,⟨tt,Z1⟩,tt⟩,⟨.inr ⟨_,rfl,.same rfl (Src.old x _)⟩,.inr ⟨_,rfl,.same rfl (De.old d _)⟩,.inr ⟨_,rfl,b1k j5 rfl (fun c hc=>by cases hc) ej⟩,.inl rfl,.inl rfl,.inr ⟨_,rfl,I0 ej⟩,tt⟩⟩
    ·have hme:m=x.imports.length:=by simp at h4; omega
     rw [hme] at hil
     have etk:x.imports.take m=x.imports:=by rw [hme]; exact List.take_of_length_le (Nat.le_refl _)
     rw [etk]
     rw [← hme,etk] at hil
     refine m8 (a7 (a7 (a6 ?_)))
     refine cY a6w ?_; refine cY t7 ?_
     refine a8 (d9 (a7 (a6 ?_)))
     refine cY k7 ?_; refine cY c7 ?_; refine a8 ?_
     refine b9 tt rfl (fun h5=>?_) (fun h5=>?_)
     ·have u5:d.k=1:=by simpa using h5
      refine r5 9 [0,1,3,7,0,16,48,127,255,511] j6 j6 rfl ?_; refine hY a3y ?_; refine hY p7 ?_; refine hY b6f ?_; refine hY a69 ?_; refine hY a3z ?_; refine hY T2 ?_; refine hY (i8 rfl Tryz.call196 ⟨tt,rfl,tt⟩ (a41 d.params _ [44,32] rfl c4 (fun s hs=>⟨b2X (hd.par s hs).1,by have:=a8X hd s hs; omega⟩) _) rfl) ?_; refine hY (I4 rfl tt tt rfl rfl a2o) ?_; refine hY a69 ?_; refine u0 ?_
      refine cD (k8 rfl Tryz.call195 ⟨tt,tt,tt⟩ (o8 a1l _ (([112,97,99,107,97,103,101,32]++x.pkg++[59,10])++J7 x.imports) (fun c hc=>by cases hc) ([102,117,110,99,32]++d.name++[40]++B9 [44,32] d.params++[41,32,61,32]) a2o (q:=2) (k:=kpn 4 ph) ⟨rfl,by cases ph <;> rfl,by cases ph <;> exact Nat.ne_of_beq_eq_false rfl⟩) rfl ?_)
      intro _ _; refine p4 [.box x.cells,.box d.cells,x0 tSB 2 6 true (([112,97,99,107,97,103,101,32]++x.pkg++[59,10])++J7 x.imports++([102,117,110,99,32]++d.name++[40]++B9 [44,32] d.params++[41,32,61,32])) [],.dead,.dead,.dead,r2 tU8 (([112,97,99,107,97,103,101,32]++x.pkg++[59,10])++J7 x.imports++([102,117,110,99,32]++d.name++[40]++B9 [44,32] d.params++[41,32,61,32])).length] a0p ?_
      refine a8 (a7 (a6 ?_))
      refine cY b7 ?_; refine cY a69 ?_
      refine cD (k8 rfl Tryz.call195 ⟨tt,tt,tt⟩ (o8 a1l _ (([112,97,99,107,97,103,101,32]++x.pkg++[59,10])++J7 x.imports++([102,117,110,99,32]++d.name++[40]++B9 [44,32] d.params++[41,32,61,32])) (fun c hc=>by cases hc) (L0 d++[59,10]) a2o (q:=2) (k:=6) ⟨rfl,rfl,Nat.ne_of_beq_eq_false rfl⟩) rfl ?_)
      intro _ _; refine p4 [.box x.cells,.box d.cells,x0 tSB 2 7 true (([112,97,99,107,97,103,101,32]++x.pkg++[59,10])++J7 x.imports++([102,117,110,99,32]++d.name++[40]++B9 [44,32] d.params++[41,32,61,32])++(L0 d++[59,10])) [],.dead,.dead,.dead,.dead,r2 tU8 (([112,97,99,107,97,103,101,32]++x.pkg++[59,10])++J7 x.imports++([102,117,110,99,32]++d.name++[40]++B9 [44,32] d.params++[41,32,61,32])++(L0 d++[59,10])).length] rfl ?_
      refine a8 (a7 (a6 ?_))
      refine cD (k8 rfl Tryz.call197 ⟨tt,tt⟩ (a0v (rest:=[]) (T:=tSB) (fun c hc=>by cases hc) true (([112,97,99,107,97,103,101,32]++x.pkg++[59,10])++J7 x.imports++([102,117,110,99,32]++d.name++[40]++B9 [44,32] d.params++[41,32,61,32])++(L0 d++[59,10])) (q:=2) (k:=7) ⟨rfl,rfl,Nat.ne_of_beq_eq_false rfl⟩) rfl ?_)
      intro _ _; refine cY c7 ?_; refine cY i7 ?_
      refine a8 (d5 ?_)
      exact ⟨_,o4 (rs:=[.tmp 4,.tmp 5]) (cs:=[_,_]) rfl ⟨⟨tt,c6⟩,⟨tt,c6⟩,tt⟩ (Nat.ne_of_beq_eq_false rfl),_,_,rfl,rfl,(by rw [W6]; rw [a6p,if_pos u5]; exact .old (d7 (cs:=[sv _,.val (.int .i64 0)]) ⟨.val _,.val _,tt⟩).old)⟩
     ·have u5:¬ d.k=1:=by simpa using h5
      refine a7 (a6 ?_)
      refine cY k7 ?_; refine cY c7 ?_; refine a8 ?_
      refine b9 tt rfl (fun h6=>?_) (fun h6=>?_)
      ·have u6:d.k=2:=by simpa using h6
       refine a6 ?_; refine cY a3y ?_; refine cY p7 ?_; refine cY b6f ?_; refine cY a69 ?_
       refine cD (k8 rfl Tryz.call195 ⟨tt,tt,tt⟩ (o8 a1l _ (([112,97,99,107,97,103,101,32]++x.pkg++[59,10])++J7 x.imports) (fun c hc=>by cases hc) ([116,101,115,116,32]++d.name++[32,61,32]) a2o (q:=2) (k:=kpn 4 ph) ⟨rfl,by cases ph <;> rfl,by cases ph <;> exact Nat.ne_of_beq_eq_false rfl⟩) rfl ?_)
       intro _ _; refine p4 [.box x.cells,.box d.cells,x0 tSB 2 6 true (([112,97,99,107,97,103,101,32]++x.pkg++[59,10])++J7 x.imports++([116,101,115,116,32]++d.name++[32,61,32])) [],.dead,.dead,.dead,r2 tU8 (([112,97,99,107,97,103,101,32]++x.pkg++[59,10])++J7 x.imports++([116,101,115,116,32]++d.name++[32,61,32])).length] a0p ?_
       refine a8 (a7 (a6 ?_))
       refine cY b7 ?_; refine cY a69 ?_
       refine cD (k8 rfl Tryz.call195 ⟨tt,tt,tt⟩ (o8 a1l _ (([112,97,99,107,97,103,101,32]++x.pkg++[59,10])++J7 x.imports++([116,101,115,116,32]++d.name++[32,61,32])) (fun c hc=>by cases hc) (L0 d++[59,10]) a2o (q:=2) (k:=6) ⟨rfl,rfl,Nat.ne_of_beq_eq_false rfl⟩) rfl ?_)
       intro _ _; refine p4 [.box x.cells,.box d.cells,x0 tSB 2 7 true (([112,97,99,107,97,103,101,32]++x.pkg++[59,10])++J7 x.imports++([116,101,115,116,32]++d.name++[32,61,32])++(L0 d++[59,10])) [],.dead,.dead,.dead,.dead,r2 tU8 (([112,97,99,107,97,103,101,32]++x.pkg++[59,10])++J7 x.imports++([116,101,115,116,32]++d.name++[32,61,32])++(L0 d++[59,10])).length] rfl ?_
       refine a8 (a7 (a6 ?_))
       refine cD (k8 rfl Tryz.call197 ⟨tt,tt⟩ (a0v (rest:=[]) (T:=tSB) (fun c hc=>by cases hc) true (([112,97,99,107,97,103,101,32]++x.pkg++[59,10])++J7 x.imports++([116,101,115,116,32]++d.name++[32,61,32])++(L0 d++[59,10])) (q:=2) (k:=7) ⟨rfl,rfl,Nat.ne_of_beq_eq_false rfl⟩) rfl ?_)
       intro _ _; refine cY c7 ?_; refine cY i7 ?_
       refine a8 (d5 ?_)
       exact ⟨_,o4 (rs:=[.tmp 4,.tmp 5]) (cs:=[_,_]) rfl ⟨⟨tt,c6⟩,⟨tt,c6⟩,tt⟩ (Nat.ne_of_beq_eq_false rfl),_,_,rfl,rfl,(by rw [W6]; rw [a6p,if_neg u5,if_pos u6]; exact .old (d7 (cs:=[sv _,.val (.int .i64 0)]) ⟨.val _,.val _,tt⟩).old)⟩
      ·have u6:¬ d.k=2:=by simpa using h6
       refine a6 ?_; refine cY a3y ?_; refine cY p7 ?_; refine cY b6f ?_; refine cY a69 ?_
       refine cD (k8 rfl Tryz.call195 ⟨tt,tt,tt⟩ (o8 a1l _ (([112,97,99,107,97,103,101,32]++x.pkg++[59,10])++J7 x.imports) (fun c hc=>by cases hc) ([103,101,110,32,34]++d.name++[34,32,61,32]) a2o (q:=2) (k:=kpn 4 ph) ⟨rfl,by cases ph <;> rfl,by cases ph <;> exact Nat.ne_of_beq_eq_false rfl⟩) rfl ?_)
       intro _ _; refine p4 [.box x.cells,.box d.cells,x0 tSB 2 6 true (([112,97,99,107,97,103,101,32]++x.pkg++[59,10])++J7 x.imports++([103,101,110,32,34]++d.name++[34,32,61,32])) [],.dead,.dead,.dead,r2 tU8 (([112,97,99,107,97,103,101,32]++x.pkg++[59,10])++J7 x.imports++([103,101,110,32,34]++d.name++[34,32,61,32])).length] a0p ?_
       refine a8 (a7 (a6 ?_))
       refine cY b7 ?_; refine cY a69 ?_
       refine cD (k8 rfl Tryz.call195 ⟨tt,tt,tt⟩ (o8 a1l _ (([112,97,99,107,97,103,101,32]++x.pkg++[59,10])++J7 x.imports++([103,101,110,32,34]++d.name++[34,32,61,32])) (fun c hc=>by cases hc) (L0 d++[59,10]) a2o (q:=2) (k:=6) ⟨rfl,rfl,Nat.ne_of_beq_eq_false rfl⟩) rfl ?_)
       intro _ _; refine p4 [.box x.cells,.box d.cells,x0 tSB 2 7 true (([112,97,99,107,97,103,101,32]++x.pkg++[59,10])++J7 x.imports++([103,101,110,32,34]++d.name++[34,32,61,32])++(L0 d++[59,10])) [],.dead,.dead,.dead,.dead,r2 tU8 (([112,97,99,107,97,103,101,32]++x.pkg++[59,10])++J7 x.imports++([103,101,110,32,34]++d.name++[34,32,61,32])++(L0 d++[59,10])).length] rfl ?_
       refine a8 (a7 (a6 ?_))
       refine cD (k8 rfl Tryz.call197 ⟨tt,tt⟩ (a0v (rest:=[]) (T:=tSB) (fun c hc=>by cases hc) true (([112,97,99,107,97,103,101,32]++x.pkg++[59,10])++J7 x.imports++([103,101,110,32,34]++d.name++[34,32,61,32])++(L0 d++[59,10])) (q:=2) (k:=7) ⟨rfl,rfl,Nat.ne_of_beq_eq_false rfl⟩) rfl ?_)
       intro _ _; refine cY c7 ?_; refine cY i7 ?_
       refine a8 (d5 ?_)
       exact ⟨_,o4 (rs:=[.tmp 4,.tmp 5]) (cs:=[_,_]) rfl ⟨⟨tt,c6⟩,⟨tt,c6⟩,tt⟩ (Nat.ne_of_beq_eq_false rfl),_,_,rfl,rfl,(by rw [W6]; rw [a6p,if_neg u5,if_neg u6]; exact .old (d7 (cs:=[sv _,.val (.int .i64 0)]) ⟨.val _,.val _,tt⟩).old)⟩
theorem b3c (x:Src) (h:a0X x) (i:Nat) (d:De) (hx:x.decls[i]? = some d) (hd:DeG d) (hi:i < x.decls.length) (σ:List c5):b8 CC 145 [.agg x.cells,(.val (.int .i64 ((i:Int))))] σ fun r σ'=>r = .ret (.tup [sv (W6 x d),(.val (.int .i64 (0)))])∧σ'=σ :=
 b8.anyw hCC (by repeat' (first|exact .val _|exact d4 _ _|exact c9 _ _|exact s0 _ _|exact w7 _ _|exact tt | refine d6 ?_ | refine d7 ?_ | refine ⟨?_,?_⟩)) (by repeat' (first|exact .val _|exact d4 _ _|exact c9 _ _|exact s0 _ _|exact w7 _ _|exact tt | refine d6 ?_ | refine d7 ?_ | refine ⟨?_,?_⟩)) (b60 x h i d hx hd hi) σ
end Go.Proofs.YtoblbdedgjfeaaaGreatDoor
namespace Go.Proofs.YtoblbdedgjfeaaaGreatDoor
open Go Go.Cl
def a0d (n:Nat):Str:=if h:n < 128 then [UInt8.ofNat n] else UInt8.ofNat (n%128+128)::a0d (n / 128)
termination_by n
decreasing_by omega
theorem a1Q (n:Nat):a0d n=if n < 128 then [UInt8.ofNat n] else UInt8.ofNat (n%128+128)::a0d (n / 128):=by
 rw [a0d]
 split <;> rfl
theorem a4Q {n k:Nat} (h:n < 128^(k+1)):(a0d n).length≤k+1:=by
 induction k generalizing n with
 | zero=>rw [a1Q,if_pos a16]; exact Nat.le_refl _
 | succ k ih =>
  rw [a1Q]
  split
  ·simp
  ·have:=ih (n:=n / 128) (by rw [Nat.pow_succ] at h; exact Nat.div_lt_of_lt_mul (by rw [Nat.mul_comm]; exact h))
   simp; omega
def S9 (l s:Str):Str:=l++a0d s.length++s
set_option maxRecDepth 100000 in
theorem b82:∀ x:Fin 256,(x.val ||| 128)=x.val%128+128:=by decide
theorem b9W {n:Nat}:(n%256) ||| 128=n%128+128:=by
 have h:∀ x:Fin 256,(x.val ||| 128)=x.val%128+128:=b82
 have:=h ⟨n%256,Nat.mod_lt _ j5⟩
 simp only at this
 omega
theorem b7Y {n:Nat} (h:n < 256):((UInt8.ofNat n).toNat:Int)=(n:Int):=by
 rw [UInt8.toNat_ofNat',Nat.mod_eq_of_lt a16]
theorem b9c (n:Nat):IntKind.u8.wrap (n:Int)=((n%256:Nat):Int):=by
 simp [IntKind.wrap,IntKind.signed,IntKind.bits]
theorem a8Y {C:Ctx} {σ:List c5} {E:Env} {y:Operand} {b:UInt8} {nn:Bool} {tok:Option Nat} (ey:E.val C y = .list [bcv b] nn tok):∀ M w v,Rel C M σ w→RV M w (E.val C y) v→b0U C w M ([b].map bcv) 1 v:=fun M w v hr h=>(a2B ey (by intro r hr; simp at hr; subst hr; rfl) M w v hr h).any
theorem b6u {L:Nat} {sel:List Nat} {l:Str} {k p:Nat} (hs:sel[p]? = some k):z7 L sel (Y5 l k) (Y5 l p):=by
 refine .list (fun r hr c hc=>(U5 l r hr c hc).old) (fun j hj=>?_)
 cases hb:l.length with
 | zero=>rw [hb] at hj; cases hj
 | succ m=>rw [hb] at hj; injection hj with hj; subst hj; exact ⟨k,rfl,hs⟩
theorem b6M (m:Nat):CV.list [[CV.val (.int .u8 ((m%256 ||| 128:Nat):Int))]] true none = .list [bcv (UInt8.ofNat (m%128+128))] true none:=by
 rw [b9W,bcv,b7Y c4]
theorem b4g {m:Nat} (h:m < 128):CV.list [[CV.val (.int .u8 (m:Int))]] true none = .list [bcv (UInt8.ofNat m)] true none:=by
 rw [bcv,b7Y c4]
def a5I (k:Nat) (g:c5):List c5:=List.replicate k .dead++[g]
theorem a9E (k:Nat) (g:c5):(a5I k g).length=k+1:=by simp [a5I]
theorem a4O (k:Nat) (g:c5):(a5I k g)[k]? = some g:=by
 rw [a5I,List.getElem?_append_right m5]; simp
theorem a8G (k:Nat) (g g':c5):(a5I k g).set k .dead++[g']=a5I (k+1) g':=by
 unfold a5I
 congr 1
 rw [List.replicate_succ']
 induction k with
 | zero=>rfl
 | succ k ih=>rw [List.replicate_succ,List.cons_append,List.set_cons_succ,ih]; rfl
theorem b5p {k:Nat} {g:c5} {l:Str}:L2 1 ((a5I k g).set k .dead++[r2 tU8 l.length]) (.ret (Y5 l (a5I k g).length)) (.ret (Y5 l 1)) [.dead,r2 tU8 l.length]:=by
 rw [a8G,a9E]
 refine ⟨[0,k+1],rfl,by simp [Q7],.ret (b6u rfl),.inl rfl,.inr ⟨_,a4O _ _,I0 rfl⟩,tt⟩
set_option maxRecDepth 10000 in
theorem a75 (l:Str) (nn:Bool) (n:Nat) (hl:l.length≤100000000000000) (hn:n < 18446744073709551616):b8 CC 199 [(.list (l.map bcv) nn none),.val (.int .u64 (n:Int))] [.dead] fun r τ=>L2 1 τ r (.ret (Y5 (l++a0d n) 1)) [.dead,r2 tU8 (l++a0d n).length]:=by
 refine (d8 Tryz.func199 rfl rfl ?_)
 refine a7 (a6 ?_)
 refine cY i7 ?_
 refine a8 (a7 (a6 ?_))
 refine cY b7 ?_
 refine cD (a27 (l:=[]) (new:=l) (p:=0) rfl rfl tt rfl (fun M w v hr h=>(a2B rfl (by intro r hr; obtain ⟨b,_,rfl⟩:=List.mem_map.1 hr; rfl) M w v hr h).any) Tryz.runUnderlying139 Tryz.sizeOf5 Tryz.typeInfo5 Tryz.zeroValue5 rfl (.inl Tryz.runUnderlying139) rfl rfl a58 ?_)
 refine cY c7 ?_
 refine a8 (a7 (d9 ?_))
 refine L6 (α:=Str × Nat × Nat) (fun x=>[(1,(.val (.int .u64 (x.2.1:Int)))),(5,(Y5 x.1 x.2.2))]) (fun x=>a5I x.2.2 (r2 tU8 x.1.length)) (fun x=>l++a0d n=x.1++a0d x.2.1∧x.2.1≤n) (fun x=>x.2.1) (l,n,1) ⟨rfl,Nat.le_refl _⟩ ⟨⟨tt,rfl⟩,⟨tt,rfl⟩,tt⟩ rfl ?_; intro ⟨b,m,k⟩ _ ⟨hb,hmn⟩
 dsimp only at hb hmn ⊢
 have hlen:b.length≤l.length+10:=by
  have h1:=congrArg List.length hb
  have h2:=a4Q (n:=n) (k:=9) c4
  simp only [List.length_append] at h1
  omega
 refine a7 (a7 (a6 ?_))
 refine cY b7 ?_; refine cY k7 ?_; refine a8 ?_
 refine b9 tt rfl (fun h1=>?_) (fun h1=>?_)
 ·have h128:¬ m < 128:=by have:=of_decide_eq_true h1; omega
  rw [a1Q m,if_neg h128] at hb
  refine c8 (d9 (a7 (a6 ?_)))
  refine cY b7 ?_; refine cY b7 ?_; refine cY (a7T rfl tt rfl Tryz.runUnderlying77 Tryz.runUnderlying5 (b9c m)) ?_; refine cY (b97 (a:=(m%256)) (b:=128) rfl tt rfl rfl rfl (Nat.mod_lt _ j5) j5) ?_; refine cY (y7 [[.val (.int .u8 ((m%256 ||| 128:Nat):Int))]] rfl ⟨tt,tt⟩ Tryz.runUnderlying139 Tryz.sizeOf5 Tryz.zeroValue5 rfl rfl rfl rfl rfl rfl rfl rfl rfl) ?_
  refine cD (a27 (l:=b) (new:=[UInt8.ofNat (m%128+128)]) (p:=k) rfl tt tt rfl (a8Y (b6M m)) Tryz.runUnderlying139 Tryz.sizeOf5 Tryz.typeInfo5 Tryz.zeroValue5 rfl (.inl Tryz.runUnderlying139) rfl (a4O _ _) a58 ?_)
  refine cY c7 ?_
  refine a8 (a6 ?_)
  refine cY b7 ?_; refine cY (b79 (m:=7) rfl tt rfl rfl rfl j5 (show (m:Int) / 2^7=((m / 128:Nat):Int) by omega)) ?_; refine cY c7 ?_; refine a8 ?_
  exact ⟨(b++[UInt8.ofNat (m%128+128)],m / 128,k+1),(show m / 128 < m by omega),(show l++a0d n=(b++[UInt8.ofNat (m%128+128)])++a0d (m / 128)∧m / 128≤n from ⟨by rw [hb]; simp,by omega⟩),⟨⟨tt,rfl⟩,⟨tt,(congrArg (Y5 _) (a9E k _))⟩,tt⟩,(a8G _ _ _)⟩
 ·have h128:m < 128:=by have:=of_decide_eq_false h1; omega
  rw [a1Q m,if_pos h128] at hb
  refine m8 (a7 (a6 ?_))
  refine cY b7 ?_; refine cY b7 ?_; refine cY (a7T rfl tt rfl Tryz.runUnderlying77 Tryz.runUnderlying5 ((b9c m).trans (by rw [Nat.mod_eq_of_lt c4]))) ?_; refine cY (y7 [[.val (.int .u8 (m:Int))]] rfl ⟨tt,tt⟩ Tryz.runUnderlying139 Tryz.sizeOf5 Tryz.zeroValue5 rfl rfl rfl rfl rfl rfl rfl rfl rfl) ?_
  refine cD (a27 (l:=b) (new:=[UInt8.ofNat m]) (p:=k) rfl tt tt rfl (a8Y (b4g h128)) Tryz.runUnderlying139 Tryz.sizeOf5 Tryz.typeInfo5 Tryz.zeroValue5 rfl (.inl Tryz.runUnderlying139) rfl (a4O _ _) a58 ?_)
  refine cY c7 ?_
  refine a8 (d5 ?_)
  exact ⟨_,l4 rfl tt c6,(by rw [hb]; exact b5p)⟩
theorem b9e {n:Nat} (h:n < 18446744073709551616):IntKind.u64.wrap (n:Int)=(n:Int):=by
 simp [IntKind.wrap,IntKind.signed,IntKind.bits]
 omega
theorem b0p (l:Str) (nn:Bool) (n:Nat) (hl:l.length≤100000000000000) (hn:n < 18446744073709551616) (σ:List c5):b8 CC 199 [(.list (l.map bcv) nn none),.val (.int .u64 (n:Int))] σ fun r τ=>∃ _:Unit,r = .ret (Y5 (l++a0d n) (σ.length+1))∧τ=σ++[.dead,r2 tU8 (l++a0d n).length]∧True :=
 a0D (α:=Unit) hCC (fun a ha=>by simp at ha; rcases ha with rfl | rfl; exact a0H _ _; exact .val _) (res:=fun _=>.ret (Y5 (l++a0d n) 1)) (res':=fun _ m=>.ret (Y5 (l++a0d n) (m+1))) (S:=fun _=>[.dead,r2 tU8 (l++a0d n).length]) (S':=fun _ _=>[.dead,r2 tU8 (l++a0d n).length]) (P:=fun _=>True)
  (R3 (J5 hCC ((a75 l nn n hl hn).mono fun r τ h=>⟨_,_,h,(),rfl,rfl,tt⟩))) (fun _ _=>rfl) (fun _ m i x h=>by
   rcases i with _ | _ | i
   ·injection h with h; subst h; exact ⟨_,rfl,.dead⟩
   ·injection h with h; subst h; exact ⟨_,rfl,a1J _ _⟩
   ·cases h) (fun _ m=>.ret (a9K rfl)) σ
theorem b3C {n:Nat} {τ:List c5} {l l':Str} {k:Nat} (h:l=l'):Cls n τ (Y5 l k) (.list (l'.map bcv) (gnn l'.length) none):=by
 subst h
 refine .list rfl (fun i r r' h h'=>by rw [h] at h'; injection h' with h'; rw [h']) (fun i j r r' c c' h h' g g'=>?_)
 rw [h] at h'; injection h' with h'; subst h'
 rw [g] at g'; injection g' with g'; subst g'
 exact .old (U5 l r (List.mem_of_getElem? h) c (List.mem_of_getElem? g)).old
set_option maxRecDepth 10000 in
theorem b0K (l:Str) (nn:Bool) (s:Str) (hl:l.length≤100000000000) (hs:s.length≤100000000000):b8 CC 148 [(.list (l.map bcv) nn none),(sv (s))] [] fun r σ'=>r = .ret (.list ((S9 l s).map bcv) (gnn (S9 l s).length) none)∧σ'=[]:=by
 refine j4 (d8 Tryz.func148 rfl rfl ?_)
 refine a7 (a6 ?_)
 refine cY i7 ?_
 refine a8 (a7 (a6 ?_))
 refine cY b7 ?_; refine cY b7 ?_; refine cY E4 ?_; refine cY (a7T rfl tt rfl Tryz.runUnderlying3 Tryz.runUnderlying77 (b9e c4)) ?_
 refine cD (k8 rfl Tryz.call199 ⟨tt,tt,tt⟩ (b0p l nn s.length c4 c4 _) rfl ?_)
 have hpu:=a4Q (n:=s.length) (k:=9) c4
 intro _ _; refine cY b7 ?_
 refine cD (a27 (l:=(l++a0d s.length)) (new:=s) (p:=1) rfl tt tt rfl (b0q rfl) Tryz.runUnderlying139 Tryz.sizeOf5 Tryz.typeInfo5 Tryz.zeroValue5 rfl (.inr Tryz.runUnderlying9) rfl rfl (by simp only [List.length_append]; omega) ?_)
 refine cY c7 ?_
 refine a8 (d5 ?_)
 exact ⟨_,l4 rfl tt c6,_,_,rfl,rfl,(by exact b3C (l:=l++a0d s.length++s) (k:=2) rfl)⟩
theorem T9 (l:Str) (nn:Bool) (s:Str) (hl:l.length≤100000000000) (hs:s.length≤100000000000) (σ:List c5):b8 CC 148 [(.list (l.map bcv) nn none),(sv (s))] σ fun r σ'=>r = .ret (.list ((S9 l s).map bcv) (gnn (S9 l s).length) none)∧σ'=σ :=
 b8.anyw hCC (by repeat' (first|exact .val _|exact d4 _ _|exact c9 _ _|exact a0H _ _|exact tt | refine d6 ?_ | refine d7 ?_ | refine ⟨?_,?_⟩)) (by repeat' (first|exact .val _|exact d4 _ _|exact c9 _ _|exact a0H _ _|exact tt | refine d6 ?_ | refine d7 ?_ | refine ⟨?_,?_⟩)) (b0K l nn s hl hs) σ
theorem a7D {fl:List Fi} {nn va:Bool} {br:List Str} {ms:SM} {me:EM} {σ:List c5} {w q1 q2 t:Nat} (hσ:WAt σ w q1 q2 t fl nn va br ms me) (k:Int) (p o:Str):b8 CC 76 [.ptr w 0,(.val (.int .i64 (k))),(sv (p)),(sv (o))] σ fun r τ=>r = .ret (.agg (Y0 va me k p o).cells)∧τ=σ :=
 a59 (fun a h=>by simp at h; rcases h with rfl | rfl | rfl <;> exact .val _) (En.pure _) (b4J fl nn va br ms me k p o) hσ
theorem b7b {fl:List Fi} {nn va:Bool} {br:List Str} {ms:SM} {me:EM} {σ:List c5} {w q1 q2 t:Nat} (hσ:WAt σ w q1 q2 t fl nn va br ms me) (s:Str) (hfl:fl.length≤1000000):b8 CC 101 [.ptr w 0,(sv (s))] σ fun r τ=>r = .ret (.tup [sv ((S2 fl s).getD []),.val (.bool (S2 fl s).isSome)])∧τ=σ :=
 a59 (fun a h=>by simp at h; subst h; exact .val _) (d7 (cs:=[sv _,.val _]) ⟨.val _,.val _,tt⟩) (b5T fl nn va br ms me s hfl) hσ
def r8 (ms:SM) (fl:List Fi) (pkg:Str):List Fi:=fl.filter fun f=>(glk ms f.p).isSome && decide (((glk ms f.p).getD Src.z).pkg=pkg)
theorem a9T {ms:SM} {fl:List Fi} {i:Nat} {y:Fi} (h:fl[i]? = some y) (pkg:Str):r8 ms (fl.drop i) pkg=(if ((glk ms y.p).isSome && decide (((glk ms y.p).getD Src.z).pkg=pkg))=true then [y] else [])++r8 ms (fl.drop (i+1)) pkg:=by
 obtain ⟨hlt,rfl⟩:=List.getElem?_eq_some_iff.1 h
 rw [List.drop_eq_getElem_cons hlt]
 unfold r8
 rw [List.filter_cons]
 split <;> rfl
set_option maxRecDepth 10000 in
theorem b3w (fl:List Fi) (nn va:Bool) (br:List Str) (ms:SM) (me:EM) (pkg:Str) (hfl:fl.length≤1000000):b8 CC 147 [.ptr 0 0,(sv (pkg))] (wst fl nn va br ms me) fun r τ=>L2 4 τ r (.ret (.list ((r8 ms fl pkg).map Fi.cv) (gnn (r8 ms fl pkg).length) none)) (wst fl nn va br ms me):=by
 refine (d8 Tryz.func147 rfl rfl ?_)
 refine a7 (a6 ?_)
 refine cY i7 ?_
 refine a8 (a7 (a6 ?_))
 refine cY i7 ?_
 refine a8 (a7 (a7 (a6 ?_)))
 refine cY b7 ?_; refine cY o7 ?_; refine cY (l9 rfl tt rfl Tryz.runUnderlying105 rfl Tryz.sizeOf32 j5) ?_; refine cY a9U ?_; refine cY a8Q ?_; refine cY b0y ?_; refine cY z8 ?_
 refine a8 (d9 ?_)
 refine A2 hCC 4 rfl (α:=Nat × List Fi) (fun x=>[(0,.ptr 0 0),(1,(sv (pkg))),(5,(.list (x.2.map Fi.cv) (gnn x.2.length) (P6 x.2.length 4))),(14,(.list (fl.map Fi.cv) nn none)),(15,(.val (.int .i64 ((fl.length:Int))))),(16,(.val (.int .i64 ((x.1:Int)))))]) (fun x=>[wbx fl nn va br 1 2 3,smO ms,emO me,r9 br.length,r9 x.2.length]) (fun x=>x.1≤fl.length∧x.2.length≤x.1∧r8 ms fl pkg=x.2++r8 ms (fl.drop x.1) pkg) (fun x=>fl.length - x.1) ⟨(0,[]),[0,1,2,3,9],⟨Nat.zero_le _,Nat.le_refl _,rfl⟩,⟨rfl,rfl⟩,⟨⟨tt,a0Z⟩,⟨tt,a0Z⟩,⟨tt,a0Z⟩,⟨tt,a0Z⟩,⟨tt,a0Z⟩,⟨tt,a0Z⟩,tt⟩,⟨.inr ⟨_,rfl,.same rfl a6z⟩,.inr ⟨_,rfl,.same rfl X8⟩,.inr ⟨_,rfl,.same rfl X2⟩,.inr ⟨_,rfl,.same rfl s7⟩,.inl rfl,tt⟩⟩ ?_; intro ⟨i,out⟩ ⟨hi,hol,hr⟩
 dsimp only at hi hol hr ⊢
 refine a7 (a6 ?_)
 refine cY p8 ?_
 refine a8 (a7 ?_)
 refine b9 tt rfl (fun h1=>?_) (fun h1=>?_)
 ·have hlt:(i:Int) < fl.length:=by simpa using h1
  obtain ⟨y,hb⟩:∃ y,fl[i]? = some y:=⟨fl[i]'c4,by simp⟩
  rw [a9T hb] at hr
  refine c8 (a7 (d9 (a7 (a6 ?_))))
  refine cY b5Q ?_; refine cY a6I ?_
  refine cD (m9 rfl Tryz.zeroValue57 rfl j3 ?_)
  refine cD (j1 rfl tt tt rfl c6 Tryz.sizeOf57 j3 rfl rfl (nb rfl) ?_)
  refine a8 (a7 ?_)
  refine F3 [0,1,2,3,4,5,6,7,8,9,10,11,12] 10 [0,1,3,7,0,16,63,127,255,255,0,1535,4095] [[0,1,2,3,4,5,6,7,8,9],[9],[]] (hd1l:=[0,1,2,3,4,5,6,7,8,9]) (tll:=[(10,[0,1,2,3,4,5,6,7,8,9]),(11,[9]),(12,[])]) j6 j6 rfl rfl rfl ?_; refine chf rfl J4 ?_; refine chf rfl a0i ?_; refine chf rfl (m7 rfl a8I) ?_; refine chf rfl (m7 rfl a9u) ?_; refine chf rfl (m7 rfl X7) ?_; refine chf rfl (m7 rfl p7) ?_; refine chf rfl (m7 rfl b87) ?_; refine chf rfl J4 ?_; refine chf rfl a6s ?_; refine chf rfl a6s ?_; refine H4 ?_
  refine F0 rfl rfl (m9 rfl Tryz.zeroValue69 rfl j3 ?_)
  refine ⟨⟨H8,W7,(by exact m7 rfl a8I),(by exact m7 rfl a9u),(by exact m7 rfl X7),(by exact m7 rfl p7),(by exact m7 rfl b87),H8,a2r,a2r,tt⟩,?_⟩
  refine F0 rfl rfl (j1 rfl tt tt rfl c6 Tryz.sizeOf69 j3 rfl rfl (nb rfl) ?_)
  refine ⟨⟨a2r,tt⟩,?_⟩
  refine H9 rfl a2p ⟨tt,?_⟩
  refine I5 (a7 (a6 ?_))
  refine cY b7 ?_; refine cY b7 ?_; refine cG (fun hg=>l9 rfl tt rfl Tryz.runUnderlying69 rfl Tryz.sizeOf9 j5) ?_; refine cG N5 ?_; refine cG o6 ?_; refine cG a3s ?_; refine cY p9 ?_; refine a8 ?_
  refine b9 tt rfl (fun h2=>?_) (fun h2=>?_)
  ·rw [if_pos (by simpa using h2)] at hr
   refine a6 ?_; refine cY b7 ?_; refine cY (J3 rfl tt rfl Tryz.isAgg57 Tryz.sizeOf57 rfl (nb rfl)) ?_; refine cY (y7 [Fi.cv y] rfl ⟨tt,tt⟩ Tryz.runUnderlying30 Tryz.sizeOf57 Tryz.zeroValue57 rfl rfl rfl rfl rfl rfl rfl rfl rfl) ?_
   refine cD (L3 rfl tt tt rfl m5 q_4 Tryz.runUnderlying30 Tryz.sizeOf57 Tryz.typeInfo57 Tryz.zeroValue57 rfl (.inr rfl) a1Y (by have hb:Tryz.t57.bytes=32:=rfl; rw [hb]; first|omega|(simp; done)|(simp; omega)) L1 ((out++[y]).map Fi.cv) (out++[y]).length m5 m5 ?_)
   refine cY c7 ?_
   refine a8 (a6 ?_)
   refine cY n9 ?_; refine cY b7 ?_; refine a8 ?_
   exact ⟨(i+1,out++[y]),[0,1,2,3,7],⟨by dsimp only; omega,by dsimp only; omega,by dsimp only; simp; omega,by dsimp only; rw [hr,List.append_assoc]⟩,⟨rfl,rfl⟩,⟨⟨tt,a0Z⟩,⟨tt,a0Z⟩,⟨tt,a0Z⟩,⟨tt,a0Z⟩,⟨tt,a0Z⟩,⟨tt,a0Z⟩,tt⟩,⟨.inr ⟨_,rfl,.same rfl a6z⟩,.inr ⟨_,rfl,.same rfl X8⟩,.inr ⟨_,rfl,.same rfl X2⟩,.inr ⟨_,rfl,.same rfl s7⟩,.inr ⟨_,rfl,.same rfl s7⟩,tt⟩⟩
  ·rw [if_neg (by simpa using h2),List.nil_append] at hr
   refine c8 (a6 ?_)
   refine cY n9 ?_; refine cY b7 ?_; refine a8 ?_
   exact ⟨(i+1,out),[0,1,2,3,4],⟨by dsimp only; omega,by dsimp only; omega,by dsimp only; omega,hr⟩,⟨rfl,rfl⟩,⟨⟨tt,a0Z⟩,⟨tt,a0Z⟩,⟨tt,a0Z⟩,⟨tt,a0Z⟩,⟨tt,a0Z⟩,⟨tt,a0Z⟩,tt⟩,⟨.inr ⟨_,rfl,.same rfl a6z⟩,.inr ⟨_,rfl,.same rfl X8⟩,.inr ⟨_,rfl,.same rfl X2⟩,.inr ⟨_,rfl,.same rfl s7⟩,.inr ⟨_,rfl,.same rfl s7⟩,tt⟩⟩
 ·have hge:fl.length≤i:=by simp at h1; omega
  rw [List.drop_eq_nil_of_le hge] at hr
  replace hr:r8 ms fl pkg=out:=by rw [hr]; exact List.append_nil _
  refine m8 (a7 (a6 ?_))
  refine cY b7 ?_; refine cY c7 ?_
  refine a8 (d5 ?_)
  exact ⟨_,l4 rfl tt c6,(by rw [hr]; exact Z5 rfl (M3 (f:=Fi.cv) (fun a=>⟨.val _,.val _,tt⟩) _))⟩
theorem a8e {fl:List Fi} {nn va:Bool} {br:List Str} {ms:SM} {me:EM} {σ:List c5} {w q1 q2 t:Nat} (hσ:WAt σ w q1 q2 t fl nn va br ms me) (pkg:Str) (hfl:fl.length≤1000000):b8 CC 147 [.ptr w 0,(sv (pkg))] σ fun r τ=>r = .ret (.list ((r8 ms fl pkg).map Fi.cv) (gnn (r8 ms fl pkg).length) none)∧τ=σ :=
 a59 (fun a h=>by simp at h; subst h; exact .val _) (x8 _ _) (b3w fl nn va br ms me pkg hfl) hσ
noncomputable def b1S (ms:SM) (x:En):Str:=((glk ms x.pl).bind fun s=>(s.decls[x.ix.toNat]?).map fun d=>W6 s d).getD []
noncomputable def Z0 (ms:SM) (x:En):Str:=if x.ct=0 then [45] else if x.ct=1 then [61]++b1S ms x else [63]
def a5K (ms:SM) (x:En):Prop:=x.ct=1→∃ (s:Src) (d:De) (i:Nat),glk ms x.pl=some s∧a0X s∧x.ix=(i:Int)∧s.decls[i]? = some d
theorem b2W {x:Src} {d:De} (h:a0X x) (hd:DeG d):(W6 x d).length≤100000:=by
 have hdl:=De.name_len hd
 have hbl:=a6H hd
 have hpk:=B1 h.pkg.1
 have himl:=h.impl
 have him8:∀ s∈x.imports,s.length≤80:=fun s hs=>by have:=B1 (h.imp s hs).1; omega
 have hil:=a4P him8 x.imports.length
 rw [List.take_of_length_le (Nat.le_refl _)] at hil
 have hjl:=a1K [44,32] d.params
 have hsl:=b13 (a8X hd)
 have hprl:=hd.parl
 have e2:([44,32]:Str).length=2:=rfl
 rw [e2] at hjl
 have hh:(a6p d).length≤1200:=by
  unfold a6p
  split
  ·simp only [List.length_append,List.length_cons,List.length_nil]; omega
  ·split
   ·simp only [List.length_append,List.length_cons,List.length_nil]; omega
   ·simp only [List.length_append,List.length_cons,List.length_nil]; omega
 unfold W6
 simp only [List.length_append,List.length_cons,List.length_nil]
 omega
set_option maxRecDepth 10000 in
theorem a7U (fl:List Fi) (nn va:Bool) (br:List Str) (ms:SM) (me:EM) (x:En) (hx:a5K ms x):b8 CC 97 [.ptr 0 0,.agg x.cells] (wst fl nn va br ms me) fun r τ=>L2 4 τ r (.ret (sv (Z0 ms x))) (wst fl nn va br ms me):=by
 refine (d8 Tryz.func97 rfl rfl ?_)
 refine a7 (a6 ?_)
 refine cD (w9 rfl tt c6 j3 ?_)
 refine cY i7 ?_
 refine a8 (a7 (a7 (a6 ?_)))
 refine cY a9b ?_; refine cY t7 ?_
 refine a8 (d9 (a7 (a6 ?_)))
 refine cY k7 ?_; refine cY c7 ?_; refine a8 ?_
 refine b9 tt rfl (fun h1=>?_) (fun h1=>?_)
 ·have u1:x.ct=0:=by simpa using h1
  refine a7 (a6 ?_)
  refine cY i7 ?_
  refine a8 (d5 ?_)
  exact ⟨_,l4 rfl tt c6,(by rw [Z0,if_pos u1]; exact Z5 rfl (.old (.val _)))⟩
 ·have u1:¬ x.ct=0:=by simpa using h1
  refine a7 (a6 ?_)
  refine cY k7 ?_; refine cY c7 ?_; refine a8 ?_
  refine b9 tt rfl (fun h2=>?_) (fun h2=>?_)
  ·have u2:x.ct=1:=by simpa using h2
   obtain ⟨src,d,i,hg,hsg,hix,hdi⟩:=hx u2
   have hdg:=hsg.dec d (List.mem_of_getElem? hdi)
   have hlen:=b2W hsg hdg
   have ed:b1S ms x=W6 src d:=by rw [b1S,hg,Option.bind_some,hix,Int.toNat_natCast,hdi]; rfl
   refine a7 ?_; refine r5 15 [0,1,3,7,0,16,63,0,128,511,1023,2047,2047,4095,16383] j6 j6 rfl ?_; refine hY b7 ?_; refine hY o7 ?_; refine hY a8I ?_; refine hY a9u ?_; refine hY b32 ?_; refine hY p7 ?_; refine hY (H5 (vc:=vcS) (l:=ms) (a:=x.pl) a8z rfl tt tt rfl rfl Tryz.runUnderlying102 Tryz.zeroValue69 rfl rfl (show ((glk ms x.pl).map vcS).getD _=vcS src by rw [hg]; rfl)) ?_; refine hY a9b ?_; refine hY t7 ?_; refine hY (i8 rfl Tryz.call145 ⟨tt,tt,tt⟩ ((by have h:=b3c src hsg i d hdi hdg (List.getElem?_eq_some_iff.1 hdi).1 ((wst fl nn va br ms me)++[.box x.cells]); rw [← hix] at h; exact h)) rfl) ?_; refine hY b7 ?_; refine hY A0 ?_; refine hY A0 ?_; refine hY c7 ?_; refine hY c7 ?_
   refine u0 (a8 (a7 (a6 ?_)))
   refine cY b7 ?_; refine cY (I4 rfl rfl tt rfl rfl (by show 1+(W6 src d).length≤_; omega)) ?_; refine cY c7 ?_
   refine a8 (d5 ?_)
   exact ⟨_,l4 rfl tt c6,(by rw [Z0,if_neg u1,if_pos u2,ed]; exact Z5 rfl (.old (.val _)))⟩
  ·have u2:¬ x.ct=1:=by simpa using h2
   refine c8 (a7 (a6 ?_))
   refine cY i7 ?_
   refine a8 (d5 ?_)
   exact ⟨_,l4 rfl tt c6,(by rw [Z0,if_neg u1,if_neg u2]; exact Z5 rfl (.old (.val _)))⟩
theorem a8u {fl:List Fi} {nn va:Bool} {br:List Str} {ms:SM} {me:EM} {σ:List c5} {w q1 q2 t:Nat} (hσ:WAt σ w q1 q2 t fl nn va br ms me) (x:En) (hx:a5K ms x):b8 CC 97 [.ptr w 0,.agg x.cells] σ fun r τ=>r = .ret (sv (Z0 ms x))∧τ=σ :=
 a59 (fun a h=>by simp at h; subst h; exact En.pure _) (.val _) (a7U fl nn va br ms me x hx) hσ
def a7f (l:Str) (fs:List Fi):Str:=fs.foldl (fun l f=>S9 (S9 l f.p) f.b) l
theorem b2j {fs:List Fi} {i:Nat} {y:Fi} (h:fs[i]? = some y) (l:Str):a7f l (fs.drop i)=a7f (S9 (S9 l y.p) y.b) (fs.drop (i+1)):=by
 obtain ⟨hlt,rfl⟩:=List.getElem?_eq_some_iff.1 h
 rw [List.drop_eq_getElem_cons hlt]
 rfl
theorem a0a {l s:Str} (hs:s.length≤100000000000):(S9 l s).length≤l.length+s.length+10:=by
 have:=a4Q (n:=s.length) (k:=9) c4
 unfold S9
 simp only [List.length_append]
 omega
theorem b4L {fs:List Fi} (h:∀ f∈fs,f.p.length≤100∧f.b.length≤100000) (l:Str):(a7f l fs).length≤l.length+fs.length*101000:=by
 induction fs generalizing l with
 | nil=>simp [a7f]
 | cons y fs ih =>
  have h1:=h y m5
  have h2:=ih (fun f hf=>h f (by simp [hf])) (S9 (S9 l y.p) y.b)
  have h3:=a0a (l:=S9 l y.p) (s:=y.b) c4
  have h4:=a0a (l:=l) (s:=y.p) c4
  rw [List.length_cons,Nat.add_mul]
  simp only [a7f,List.foldl_cons] at h2 ⊢
  omega
def S6 (ms:SM) (fl:List Fi) (pkg:Str):Str:=[61]++a7f [] (r8 ms fl pkg)
theorem a0w {ms:SM} {fl:List Fi} {pkg:Str} {f:Fi} (h:f∈r8 ms fl pkg):f∈fl:=(List.mem_filter.1 h).1
theorem a3l (ms:SM) (fl:List Fi) (pkg:Str):(r8 ms fl pkg).length≤fl.length:=List.length_filter_le _ _
theorem b0b {ms:SM} {fl:List Fi} {pkg:Str} (hfl:fl.length≤1000) (hfb:∀ f∈fl,f.p.length≤100∧f.b.length≤100000):(S6 ms fl pkg).length≤102000000:=by
 have h1:=b4L (fun f hf=>hfb f (a0w hf)) (fs:=r8 ms fl pkg) []
 have h2:=a3l ms fl pkg
 have h3:(r8 ms fl pkg).length*101000≤1000*101000:=Nat.mul_le_mul_right _ c4
 unfold S6
 simp only [List.length_append,List.length_cons,List.length_nil] at h1 ⊢
 omega
theorem b6C (fl:List Fi) (nn va:Bool) (br:List Str) (ms:SM) (me:EM):WAt (wst fl nn va br ms me) 0 1 2 3 fl nn va br ms me:=⟨rfl,rfl,rfl,rfl,a7k ⟨by decide,by decide,by decide,by decide,by decide,by decide⟩⟩
set_option maxRecDepth 10000 in
theorem b2Z (fl:List Fi) (nn va:Bool) (br:List Str) (ms:SM) (me:EM) (pkg:Str) (hfl:fl.length≤1000) (hfb:∀ f∈fl,f.p.length≤100∧f.b.length≤100000):b8 CC 106 [.ptr 0 0,(sv (pkg))] (wst fl nn va br ms me) fun r τ=>L2 4 τ r (.ret (sv (S6 ms fl pkg))) (wst fl nn va br ms me):=by
 have hffl:=a3l ms fl pkg
 refine (d8 Tryz.func106 rfl rfl ?_)
 refine a7 (a6 ?_)
 refine cY i7 ?_
 refine a8 (a7 (a6 ?_))
 refine cY i7 ?_
 refine a8 (a7 (a7 (a6 ?_)))
 refine cY b7 ?_; refine cY b7 ?_; refine cY (i8 rfl Tryz.call147 ⟨tt,tt,tt⟩ (a8e (b6C fl nn va br ms me) pkg c4) rfl) ?_; refine cY b0y ?_; refine cY z8 ?_
 refine a8 (d9 ?_)
 refine r6 hCC (α:=Nat × Str) (fun x=>[(5,(.list (x.2.map bcv) (gnn x.2.length) none)),(10,(.list ((r8 ms fl pkg).map Fi.cv) (gnn (r8 ms fl pkg).length) none)),(11,(.val (.int .i64 (((r8 ms fl pkg).length:Int))))),(12,(.val (.int .i64 ((x.1:Int)))))]) (fun _=>(wst fl nn va br ms me)) (fun x=>x.1≤(r8 ms fl pkg).length∧x.2.length≤x.1*101000∧a7f [] (r8 ms fl pkg)=a7f x.2 ((r8 ms fl pkg).drop x.1)) (fun x=>(r8 ms fl pkg).length - x.1) (0,[]) ⟨Nat.zero_le _,Nat.zero_le _,rfl⟩ ⟨⟨tt,rfl⟩,⟨tt,rfl⟩,⟨tt,rfl⟩,⟨tt,rfl⟩,tt⟩ (extra0:=[]) rfl y9 (fun a ha=>by repeat' (first|exact tt|exact .val _|exact .ptr (nb rfl)|exact .map (nb rfl)|exact G4 _ _ _|exact a7K (nb rfl) (nb rfl) (nb rfl)|exact a7w _ _|exact a64 _ _|exact a2R _ _|exact P8 _ _ _ | refine l2 ?_ | refine ⟨?_,?_⟩)) ?_; intro ⟨i,l⟩ ⟨hi,hl,hr⟩
 dsimp only at hi hl hr ⊢
 refine a7 (a6 ?_)
 refine cY p8 ?_
 refine a8 (a7 ?_)
 refine b9 tt rfl (fun h1=>?_) (fun h1=>?_)
 ·have hlt:(i:Int) < (r8 ms fl pkg).length:=by simpa using h1
  obtain ⟨y,hb⟩:∃ y,(r8 ms fl pkg)[i]? = some y:=⟨(r8 ms fl pkg)[i]'c4,by simp⟩
  rw [b2j hb] at hr
  obtain ⟨hyp,hyb⟩:=hfb y (a0w (List.mem_of_getElem? hb))
  have hp1:=a0a (l:=l) (s:=y.p) c4
  have hp2:=a0a (l:=S9 l y.p) (s:=y.b) c4
  have hi2:i*101000≤1000*101000:=Nat.mul_le_mul_right _ c4
  refine c8 (a7 (d9 (a7 (a6 ?_))))
  refine cY b5Q ?_; refine cY a6I ?_
  refine cD (m9 rfl Tryz.zeroValue57 rfl j3 ?_)
  refine cD (j1 rfl tt tt rfl c6 Tryz.sizeOf57 j3 rfl rfl (nb rfl) ?_)
  refine a8 ?_; refine r5 8 [0,0,2,7,0,16,63,127] j6 j6 rfl ?_; refine hY b7 ?_; refine hY X7 ?_; refine hY p7 ?_; refine hY (i8 rfl Tryz.call148 ⟨tt,tt,tt⟩ (T9 l _ y.p c4 c4 _) rfl) ?_; refine hY X7 ?_; refine hY p7 ?_; refine hY (i8 rfl Tryz.call148 ⟨tt,tt,tt⟩ (T9 (S9 l y.p) _ y.b c4 c4 _) rfl) ?_; refine hY c7 ?_
  refine u0 (a8 (a6 ?_))
  refine cY n9 ?_; refine cY b7 ?_; refine a8 ?_
  exact ⟨(i+1,S9 (S9 l y.p) y.b),_,⟨by dsimp only; omega,by dsimp only; omega,by dsimp only; omega,hr⟩,⟨⟨tt,rfl⟩,⟨tt,rfl⟩,⟨tt,rfl⟩,⟨tt,rfl⟩,tt⟩,rfl⟩
 ·have hge:(r8 ms fl pkg).length≤i:=by simp at h1; omega
  rw [List.drop_eq_nil_of_le hge] at hr
  replace hr:a7f [] (r8 ms fl pkg)=l:=hr
  have hi2:i*101000≤1000*101000:=Nat.mul_le_mul_right _ c4
  refine m8 (a7 (a6 ?_))
  refine cY b7 ?_; refine cY (b7Q rfl tt rfl Tryz.runUnderlying139 Tryz.runUnderlying9 Tryz.runUnderlying5) ?_; refine cY (I4 rfl rfl tt rfl rfl (by show 1+l.length≤_; omega)) ?_; refine cY c7 ?_
  refine a8 (d5 ?_)
  exact ⟨_,l4 rfl tt c6,(by rw [S6,hr]; exact Z5 rfl (.old (.val _)))⟩
theorem a9y {fl:List Fi} {nn va:Bool} {br:List Str} {ms:SM} {me:EM} {σ:List c5} {w q1 q2 t:Nat} (hσ:WAt σ w q1 q2 t fl nn va br ms me) (pkg:Str) (hfl:fl.length≤1000) (hfb:∀ f∈fl,f.p.length≤100∧f.b.length≤100000):b8 CC 106 [.ptr w 0,(sv (pkg))] σ fun r τ=>r = .ret (sv (S6 ms fl pkg))∧τ=σ :=
 a59 (fun a h=>by simp at h; subst h; exact .val _) (.val _) (b2Z fl nn va br ms me pkg hfl hfb) hσ
end Go.Proofs.YtoblbdedgjfeaaaGreatDoor
namespace Go.Proofs
open Go.Shelf
def Tryz.lays190_ren:Go.Shelf.Ren:=⟨fun | 190=>150 | 125=>121 | 258=>201 | 128=>163 | 129=>164 | 302=>242 | 303=>243 | 304=>244 | 305=>245 | 306=>246 | 307=>247 | 308=>248 | 309=>249 | 310=>250 | 333=>277 | 329=>206 | 330=>207 | 334=>278 | 335=>279 | 336=>280 | 344=>296 | n=>n,fun | 31=>26 | 9=>9 | 3=>3 | 46=>125 | 0=>0 | 51=>203 | 53=>77 | 4=>4 | 183=>197 | 182=>196 | 131=>136 | 5=>5 | 218=>250 | 222=>254 | 228=>287 | 229=>288 | n=>n,fun | n=>n⟩
theorem Tryz.lays190:Go.Proofs.Lays.n190 Tryz.prog Tryz.lays190_ren:={
 mixed:=by kernel_rfl
 f125:=Tryz.func121.trans (congrArg some j6)
 f128:=Tryz.func163.trans (congrArg some j6)
 f129:=Tryz.func164.trans (congrArg some j6)
 f190:=Tryz.func150.trans (congrArg some j6)
 f258:=Tryz.func201.trans (congrArg some j6)
 f302:=Tryz.func242.trans (congrArg some j6)
 f303:=Tryz.func243.trans (congrArg some j6)
 f304:=Tryz.func244.trans (congrArg some j6)
 f305:=Tryz.func245.trans (congrArg some j6)
 f306:=Tryz.func246.trans (congrArg some j6)
 f307:=Tryz.func247.trans (congrArg some j6)
 f308:=Tryz.func248.trans (congrArg some j6)
 f309:=Tryz.func249.trans (congrArg some j6)
 f310:=Tryz.func250.trans (congrArg some j6)
 f329:=Tryz.func206.trans (congrArg some j6)
 f330:=Tryz.func207.trans (congrArg some j6)
 f333:=Tryz.func277.trans (congrArg some j6)
 f334:=Tryz.func278.trans (congrArg some j6)
 f335:=Tryz.func279.trans (congrArg some j6)
 f336:=Tryz.func280.trans (congrArg some j6)
 f344:=Tryz.func296.trans (congrArg some j6)
 t0:=Tryz.underlying0
 a0:=Tryz.isAgg0
 z0:=Tryz.sizeOf0
 v0:=Tryz.zeroValue0
 t3:=Tryz.underlying3
 a3:=Tryz.isAgg3
 z3:=Tryz.sizeOf3
 v3:=Tryz.zeroValue3
 t4:=Tryz.underlying4
 a4:=Tryz.isAgg4
 z4:=Tryz.sizeOf4
 v4:=Tryz.zeroValue4
 t5:=Tryz.underlying5
 a5:=Tryz.isAgg5
 z5:=Tryz.sizeOf5
 v5:=Tryz.zeroValue5
 t9:=Tryz.underlying9
 a9:=Tryz.isAgg9
 z9:=Tryz.sizeOf9
 v9:=Tryz.zeroValue9
 t31:=Tryz.underlying26
 a31:=Tryz.isAgg26
 z31:=Tryz.sizeOf26
 v31:=Tryz.zeroValue26
 t46:=Tryz.underlying125
 a46:=Tryz.isAgg125
 z46:=Tryz.sizeOf125
 v46:=Tryz.zeroValue125
 t51:=Tryz.underlying203
 a51:=Tryz.isAgg203
 z51:=Tryz.sizeOf203
 v51:=Tryz.zeroValue203
 t53:=Tryz.underlying77
 a53:=Tryz.isAgg77
 z53:=Tryz.sizeOf77
 v53:=Tryz.zeroValue77
 t131:=Tryz.underlying136
 a131:=Tryz.isAgg136
 z131:=Tryz.sizeOf136
 v131:=Tryz.zeroValue136
 t182:=Tryz.underlying196
 a182:=Tryz.isAgg196
 z182:=Tryz.sizeOf196
 v182:=Tryz.zeroValue196
 t183:=Tryz.underlying197
 a183:=Tryz.isAgg197
 z183:=Tryz.sizeOf197
 v183:=Tryz.zeroValue197
 t218:=Tryz.underlying250
 a218:=Tryz.isAgg250
 z218:=Tryz.sizeOf250
 v218:=Tryz.zeroValue250
 t222:=Tryz.underlying254
 a222:=Tryz.isAgg254
 z222:=Tryz.sizeOf254
 v222:=Tryz.zeroValue254
 t228:=Tryz.underlying287
 a228:=Tryz.isAgg287
 z228:=Tryz.sizeOf287
 v228:=Tryz.zeroValue287
 t229:=Tryz.underlying288
 a229:=Tryz.isAgg288
 z229:=Tryz.sizeOf288
 v229:=Tryz.zeroValue288}
end Go.Proofs
namespace Go.Proofs.YtoblbdedgjfeaaaGreatDoor
open Go Go.Cl
theorem b50 {σ:List c5} {k:Nat} {ss:List Str} (hne:ss≠[]) (hlen:ss.length≤1000000) (hk:σ[k]? = some (.vec 1 (ss.map scv))):b8 CC 150 [.vec k 0 ss.length] σ fun r τ=>∃ _:Unit,r = .ret (.tup [])∧τ=σ.set k (.vec 1 ((Y7 ss).map scv))∧True :=
 (b4x (f:=150) (fun blk off cap ss w h1 h2 h3=>a9F Tryz.lays190 blk off cap ss w h1 h2 h3) hne c4 hk).mono fun r τ h=>⟨(),h.1,h.2,tt⟩
def V7 (ms:SM) (f:Fi):List Str:=((glk ms f.p).getD Src.z).imports
inductive Reach (ms:SM) (fl:List Fi) (pkg:Str):Str→Prop where
 | base:Reach ms fl pkg pkg
 | step {n:Str} {f:Fi} {s:Str}:Reach ms fl pkg n→f∈r8 ms fl n→s∈V7 ms f→Reach ms fl pkg s
def allI (ms:SM) (fl:List Fi):List Str:=fl.flatMap (V7 ms)
theorem b5v {ms:SM} {fl:List Fi} {pkg n:Str} (h:Reach ms fl pkg n):n∈pkg::allI ms fl:=by
 cases h with
 | base=>simp
 | step _ hf hs=>exact List.mem_cons_of_mem _ (List.mem_flatMap.2 ⟨_,a0w hf,hs⟩)
structure NmI (ms:SM) (fl:List Fi) (pkg:Str) (N:List Str):Prop where
 nd:N.Nodup
 rch:∀ n∈N,Reach ms fl pkg n
 pk:pkg∈N
theorem NmI.len {ms:SM} {fl:List Fi} {pkg:Str} {N:List Str} (h:NmI ms fl pkg N):N.length≤1+(allI ms fl).length:=by
 have:=List.Nodup.length_le_of_subset h.nd (fun n hn=>b5v (h.rch n hn))
 simpa [Nat.add_comm] using this
theorem NmI.snoc {ms:SM} {fl:List Fi} {pkg n s:Str} {N:List Str} {f:Fi} (h:NmI ms fl pkg N) (hn:n∈N) (hf:f∈r8 ms fl n) (hs:s∈V7 ms f) (hsN:s∉N):NmI ms fl pkg (N++[s]) where
 nd:=a2i h.nd hsN
 rch:=fun m hm=>by
  rcases List.mem_append.1 hm with hm | hm
  ·exact h.rch m hm
  ·simp at hm; subst hm; exact .step (h.rch n hn) hf hs
 pk:=List.mem_append_left _ h.pk
theorem a7I {ms:SM} {fl:List Fi} {pkg:Str} {N:List Str} (h:NmI ms fl pkg N) (hc:∀ n∈N,∀ f∈r8 ms fl n,∀ s∈V7 ms f,s∈N) (n:Str):n∈N↔Reach ms fl pkg n :=
 ⟨h.rch n,fun hr=>by
  induction hr with
  | base=>exact h.pk
  | step _ hf hs ih=>exact hc _ ih _ hf _ hs⟩
theorem a9i {A B:List Str} (hA:A.Nodup) (hB:B.Nodup) (h:∀ n,n∈A↔n∈B):Y7 A=Y7 B:=by
 have hp:A.Perm B:=(List.perm_ext_iff_of_nodup hA hB).2 h
 have tr:∀ (a b c:Str),decide (a≤b)=true→decide (b≤c)=true→decide (a≤c)=true:=fun a b c h1 h2=>by
  simp only [decide_eq_true_eq] at h1 h2 ⊢; exact List.le_trans h1 h2
 have to:∀ (a b:Str),(decide (a≤b) || decide (b≤a))=true:=fun a b=>by
  simp only [Bool.or_eq_true,decide_eq_true_eq]; exact List.le_total a b
 refine List.Perm.eq_of_pairwise (le:=fun a b=>decide (a≤b)=true) (fun a b _ _ h1 h2=>?_) (List.pairwise_mergeSort tr to A) (List.pairwise_mergeSort tr to B) ((List.mergeSort_perm A _).trans (hp.trans (List.mergeSort_perm B _).symm))
 simp only [decide_eq_true_eq] at h1 h2
 exact List.le_antisymm h1 h2
open Classical in
noncomputable def b0s (ms:SM) (fl:List Fi) (pkg:Str):List Str:=if h:∃ N:List Str,N.Nodup∧∀ n,n∈N↔Reach ms fl pkg n then Y7 h.choose else []
theorem b3A {ms:SM} {fl:List Fi} {pkg:Str} {N:List Str} (hN:N.Nodup) (h:∀ n,n∈N↔Reach ms fl pkg n):b0s ms fl pkg=Y7 N:=by
 have hex:∃ N:List Str,N.Nodup∧∀ n,n∈N↔Reach ms fl pkg n:=⟨N,hN,h⟩
 unfold b0s
 rw [dif_pos hex]
 exact a9i hex.choose_spec.1 hN fun n=>(hex.choose_spec.2 n).trans (h n).symm
def b23 (ms:SM) (fl:List Fi) (l:Str) (N:List Str):Str:=N.foldl (fun l s=>S9 (S9 l s) (S6 ms fl s)) l
theorem b2t {ms:SM} {fl:List Fi} {N:List Str} {i:Nat} {y:Str} (h:N[i]? = some y) (l:Str):b23 ms fl l (N.drop i)=b23 ms fl (S9 (S9 l y) (S6 ms fl y)) (N.drop (i+1)):=by
 obtain ⟨hlt,rfl⟩:=List.getElem?_eq_some_iff.1 h
 rw [List.drop_eq_getElem_cons hlt]
 rfl
noncomputable def a9l (ms:SM) (fl:List Fi) (pkg:Str):Str:=[61]++b23 ms fl [] (b0s ms fl pkg)
def tst (W G:List c5) (v:c5) (H:List c5):List c5:=W++G++v::H
theorem a0M {W G:List c5} {v:c5} {H:List c5} (hW:W.length=4):(tst W G v H)[4+G.length]? = some v:=by
 rw [tst,List.getElem?_append_right (by simp [hW])]; simp [hW]
theorem b1B {W G:List c5} {v v':c5} {H:List c5} (hW:W.length=4):(tst W G v H).set (4+G.length) v'=tst W G v' H:=by
 rw [tst,List.set_append_right _ _ (by simp [hW])]; simp [hW,tst]
theorem b6R {W G:List c5} {v v':c5} {H:List c5} (hW:W.length=4):(tst W G v H).set (4+G.length) .dead++[v']=tst W (G++.dead::H) v' []:=by
 rw [b1B hW]; simp [tst]
theorem b6A {W G:List c5} {v:c5} {H:List c5} (hW:W.length=4):(tst W G v H).length=4+(G++c5.dead::H).length:=by
 simp [tst,hW]
theorem b6B {W G:List c5} {v:c5} {H:List c5} (a b:c5):(tst W G v H++[a]).set (tst W G v H).length b=tst W G v (H++[b]):=by
 rw [List.set_append_right _ _ (Nat.le_refl _)]; simp [tst]
theorem a5F {σ:List c5} {k:Nat} {N:List Str} (s:Str) (hk:σ[k]? = some (.vec 1 (N.map scv))) (hl:N.length≤1000000):b8 CC 149 [.vec k 0 N.length,sv s] σ fun r σ'=>r = .ret (.val (.bool (decide (s∈N))))∧σ'=σ:=by
 have h:=a2V N true s c4
 refine a5Q (len:=N.length) (rows:=N.map scv) hCC (fun a ha=>by simp at ha; subst ha; exact .val _) (fun r hr c hc=>?_) m5 hk ?_
 ·obtain ⟨x,_,rfl⟩:=List.mem_map.1 hr
  simp [scv] at hc
  subst hc
  exact .val _
 ·rw [show ((N.map scv).drop 0).take N.length=N.map scv from by rw [List.drop_zero,List.take_of_length_le m5]]
  exact h
theorem b1E (fl:List Fi) (nn va:Bool) (br:List Str) (ms:SM) (me:EM) {G:List c5} {v:c5} {H:List c5}:WAt (tst (wst fl nn va br ms me) G v H) 0 1 2 3 fl nn va br ms me:=⟨rfl,rfl,rfl,rfl,a7k ⟨by decide,by decide,by decide,by decide,by decide,by decide⟩⟩
theorem b3P {ms:SM} {fl:List Fi} {f:Fi} (h:f∈fl):(V7 ms f).length≤(allI ms fl).length:=by
 unfold allI
 induction fl with
 | nil=>cases h
 | cons x l ih =>
  rw [List.flatMap_cons,List.length_append]
  rcases List.mem_cons.1 h with rfl | h
  ·omega
  ·have:=ih h; omega
set_option maxRecDepth 10000 in
set_option maxHeartbeats 1600000 in
theorem b4d (fl:List Fi) (nn va:Bool) (br:List Str) (ms:SM) (me:EM) (pkg:Str) (hfl:fl.length≤64) (hfb:∀ f∈fl,f.p.length≤100∧f.b.length≤100000) (allI_len:(allI ms fl).length≤512) (reach_len:∀ {n:Str},Reach ms fl pkg n→n.length≤100000):b8 CC 108 [.ptr 0 0,(sv (pkg))] (wst fl nn va br ms me) fun r τ=>L2 4 τ r (.ret (sv (a9l ms fl pkg))) (wst fl nn va br ms me):=by
 refine (d8 Tryz.func108 rfl rfl ?_)
 refine a7 (a6 ?_)
 refine cY i7 ?_
 refine a8 (a7 (a6 ?_))
 refine cY b7 ?_
 refine cD (b63 rfl tt rfl rfl Tryz.runUnderlying26 Tryz.sizeOf9 Tryz.zeroValue9 rfl ?_)
 refine cY c7 ?_
 refine a8 (a7 (a7 (a6 ?_)))
 refine cY i7 ?_
 refine a8 (d9 ?_)
 refine L6 (α:=Nat × List Str × List c5 × List c5) (fun x=>[(0,.ptr 0 0),(5,.vec (4+x.2.2.1.length) 0 x.2.1.length),(6,(.val (.int .i64 ((x.1:Int)))))]) (fun x=>tst (wst fl nn va br ms me) x.2.2.1 (.vec 1 (x.2.1.map scv)) x.2.2.2) (fun x=>NmI ms fl pkg x.2.1∧x.1≤x.2.1.length∧∀ n∈x.2.1.take x.1,∀ f∈r8 ms fl n,∀ s∈V7 ms f,s∈x.2.1) (fun x=>1+(allI ms fl).length - x.1) (0,[pkg],[],[]) ⟨⟨by simp,fun n hn=>by simp at hn; subst hn; exact .base,by simp⟩,Nat.zero_le _,fun n hn=>by simp at hn⟩ ⟨⟨tt,rfl⟩,⟨tt,rfl⟩,⟨tt,rfl⟩,tt⟩ rfl ?_; intro ⟨i,N,G,H⟩ _ ⟨hN,hi,hc⟩
 dsimp only at hN hi hc ⊢
 have hNl:=hN.len
 have hal:=allI_len
 refine a7 (a7 (a6 ?_))
 refine cY b7 ?_; refine cY b7 ?_; refine cY (a3p rfl tt rfl Tryz.runUnderlying26 rfl rfl) ?_; refine cY p8 ?_; refine a8 ?_
 refine b9 tt rfl (fun h1=>?_) (fun h1=>?_)
 ·have hlt:i < N.length:=by simp at h1; omega
  obtain ⟨n,gn⟩:∃ n,N[i]? = some n:=⟨N[i]'hlt,by simp⟩
  have hffl:=a3l ms fl n
  refine c8 (a7 (d9 (a7 (a6 ?_))))
  refine cY b7 ?_; refine cY b7 ?_; refine cY b7 ?_; refine cY (N3 rfl tt tt rfl rfl Tryz.runUnderlying26 Tryz.sizeOf9 (a0M rfl) c4 c4) ?_; refine cY (P7 rfl tt rfl Tryz.isAgg9 (a0M rfl) (l6 (by rw [Nat.zero_add]; exact gn)) rfl) ?_; refine cY (i8 rfl Tryz.call147 ⟨tt,tt,tt⟩ (a8e (b1E fl nn va br ms me) n c4) rfl) ?_; refine cY b0y ?_; refine cY z8 ?_
  refine a8 (d9 ?_)
  refine L6 (α:=Nat × List Str × List c5 × List c5) (fun x=>[(0,.ptr 0 0),(5,.vec (4+x.2.2.1.length) 0 x.2.1.length),(6,(.val (.int .i64 ((i:Int))))),(27,(.list ((r8 ms fl n).map Fi.cv) (gnn (r8 ms fl n).length) none)),(28,(.val (.int .i64 (((r8 ms fl n).length:Int))))),(29,(.val (.int .i64 ((x.1:Int)))))]) (fun x=>tst (wst fl nn va br ms me) x.2.2.1 (.vec 1 (x.2.1.map scv)) x.2.2.2) (fun x=>NmI ms fl pkg x.2.1∧(∃ t,x.2.1=N++t)∧x.1≤(r8 ms fl n).length∧∀ f∈(r8 ms fl n).take x.1,∀ s∈V7 ms f,s∈x.2.1) (fun x=>(r8 ms fl n).length - x.1) (0,N,G,H) ⟨hN,⟨[],by simp⟩,Nat.zero_le _,fun f hf=>by simp at hf⟩ ⟨⟨tt,rfl⟩,⟨tt,rfl⟩,⟨tt,rfl⟩,⟨tt,rfl⟩,⟨tt,rfl⟩,⟨tt,rfl⟩,tt⟩ rfl ?_; intro ⟨q,N1,G1,H1⟩ _ ⟨hN1,hpre,hq,hc1⟩
  dsimp only at hN1 hpre hq hc1 ⊢
  have hNl1:=hN1.len
  refine a7 (a6 ?_)
  refine cY p8 ?_
  refine a8 (a7 ?_)
  refine b9 tt rfl (fun h2=>?_) (fun h2=>?_)
  ·have hlq:q < (r8 ms fl n).length:=by simp at h2; omega
   obtain ⟨y,hy⟩:∃ y,(r8 ms fl n)[q]? = some y:=⟨(r8 ms fl n)[q]'hlq,by simp⟩
   have hym:=List.mem_of_getElem? hy
   refine c8 (a7 (d9 (a7 (a6 ?_))))
   refine cY (o9 rfl tt tt rfl rfl Tryz.runUnderlying30 Tryz.sizeOf57 c4 (l6 hy) rfl) ?_; refine cY a6I ?_
   refine cD (m9 rfl Tryz.zeroValue57 rfl j3 ?_)
   refine cD (j1 rfl tt tt rfl c6 Tryz.sizeOf57 j3 List.getElem?_concat_length rfl (nb rfl) ?_)
   refine a8 (a7 ?_)
   refine r5 10 [0,1,3,7,0,16,63,127,255,0] j6 j6 rfl ?_; refine hY b7 ?_; refine hY o7 ?_; refine hY a8I ?_; refine hY a9u ?_; refine hY X7 ?_; refine hY (o5 rfl tt rfl Tryz.isAgg9 (by rw [List.getElem?_set_self m5]) rfl) ?_; refine hY (H5 (vc:=vcS) (l:=ms) (a:=y.p) a8z rfl tt tt rfl rfl Tryz.runUnderlying102 Tryz.zeroValue69 rfl rfl (a1C Src.z rfl _)) ?_; refine hY (a1E rfl tt rfl Tryz.runUnderlying69 rfl Tryz.isAgg26 rfl) ?_; refine hY Y4 ?_; refine hY z8 ?_
   refine u0 (a8 (d9 ?_))
   refine L6 (α:=Nat × List Str × List c5 × List c5) (fun x=>[(0,.ptr 0 0),(5,.vec (4+x.2.2.1.length) 0 x.2.1.length),(6,(.val (.int .i64 ((i:Int))))),(27,(.list ((r8 ms fl n).map Fi.cv) (gnn (r8 ms fl n).length) none)),(28,(.val (.int .i64 (((r8 ms fl n).length:Int))))),(29,(.val (.int .i64 ((q:Int))))),(40,(.list ((V7 ms y).map scv) (gnn (V7 ms y).length) none)),(41,(.val (.int .i64 (((V7 ms y).length:Int))))),(42,(.val (.int .i64 ((x.1:Int)))))]) (fun x=>tst (wst fl nn va br ms me) x.2.2.1 (.vec 1 (x.2.1.map scv)) x.2.2.2) (fun x=>NmI ms fl pkg x.2.1∧(∃ t,x.2.1=N1++t)∧x.1≤(V7 ms y).length∧∀ s∈(V7 ms y).take x.1,s∈x.2.1) (fun x=>(V7 ms y).length - x.1) (0,N1,G1,H1++[.box y.cells]) ⟨hN1,⟨[],by simp⟩,Nat.zero_le _,fun f hf=>by simp at hf⟩ ⟨⟨tt,rfl⟩,⟨tt,rfl⟩,⟨tt,rfl⟩,⟨tt,rfl⟩,⟨tt,rfl⟩,⟨tt,rfl⟩,⟨tt,rfl⟩,⟨tt,rfl⟩,⟨tt,rfl⟩,tt⟩ (b6B _ _) ?_; intro ⟨r,N2,G2,H2⟩ _ ⟨hN2,hpre2,hr,hc2⟩
   dsimp only at hN2 hpre2 hr hc2 ⊢
   have hNl2:=hN2.len
   have hil:(V7 ms y).length≤(allI ms fl).length:=b3P (a0w hym)
   refine a7 (a6 ?_)
   refine cY p8 ?_
   refine a8 (a7 ?_)
   refine b9 tt rfl (fun h3=>?_) (fun h3=>?_)
   ·have hlr:r < (V7 ms y).length:=by simp at h3; omega
    obtain ⟨s,hs⟩:∃ s,(V7 ms y)[r]? = some s:=⟨(V7 ms y)[r]'hlr,by simp⟩
    have hsm:=List.mem_of_getElem? hs
    have htk:(V7 ms y).take (r+1)=(V7 ms y).take r++[s]:=by rw [List.take_add_one,hs]; rfl
    refine c8 (a7 (d9 (a7 (a6 ?_))))
    refine cY (o9 rfl tt tt rfl rfl Tryz.runUnderlying26 Tryz.sizeOf9 c4 (l6 hs) rfl) ?_; refine cY R4 ?_; refine cY c7 ?_
    refine a8 (a7 (a6 ?_))
    refine cY b7 ?_; refine cY b7 ?_; refine cY (i8 rfl Tryz.call149 ⟨tt,tt,tt⟩ (a5F s (a0M rfl) c4) rfl) ?_; refine cY F1 ?_; refine a8 ?_
    refine b9 tt rfl (fun h4=>?_) (fun h4=>?_)
    ·have h4':s∉N2:=by simpa using h4
     obtain ⟨t1,ht1⟩:=hpre
     obtain ⟨t2,ht2⟩:=hpre2
     have hnN2:n∈N2:=by rw [ht2,ht1]; simp [List.mem_of_getElem? gn]
     have hsn:=hN2.snoc hnN2 hym hsm h4'
     have hsnl:=hsn.len
     rw [List.length_append,List.length_singleton] at hsnl
     refine a6 ?_; refine cY b7 ?_; refine cY b7 ?_; refine cY (y7 [scv s] rfl ⟨tt,tt⟩ Tryz.runUnderlying26 Tryz.sizeOf9 Tryz.zeroValue9 rfl rfl rfl rfl rfl rfl rfl rfl rfl) ?_
     refine cD (a3D ((N2++[s]).map scv) (N2++[s]).length rfl tt tt rfl q_4 Tryz.runUnderlying26 Tryz.sizeOf9 Tryz.typeInfo9 Tryz.zeroValue9 rfl (a0M rfl) L1 m5 b3q L1 m5 m5 ?_)
     refine cY c7 ?_
     refine a8 (a6 ?_)
     refine cY n9 ?_; refine cY b7 ?_; refine a8 ?_
     exact ⟨(r+1,N2++[s],G2++.dead::H2,[]),a1k,⟨hsn,⟨t2++[s],by rw [ht2,List.append_assoc]⟩,by dsimp only; omega,fun z hz=>by
  dsimp only at hz ⊢
  rw [htk] at hz
  rcases List.mem_append.1 hz with hz | hz
  ·exact List.mem_append_left _ (hc2 z hz)
  ·simp at hz; subst hz; simp⟩,⟨⟨tt,rfl⟩,⟨tt,(congrArg (fun k=>CV.vec k 0 (N2++[s]).length) (b6A rfl))⟩,⟨tt,rfl⟩,⟨tt,rfl⟩,⟨tt,rfl⟩,⟨tt,rfl⟩,⟨tt,rfl⟩,⟨tt,rfl⟩,⟨tt,rfl⟩,tt⟩,(b6R rfl)⟩
    ·have h4':s∈N2:=by simpa using h4
     refine c8 (a6 ?_)
     refine cY n9 ?_; refine cY b7 ?_; refine a8 ?_
     exact ⟨(r+1,N2,G2,H2),a1k,⟨hN2,hpre2,by dsimp only; omega,fun z hz=>by
  dsimp only at hz ⊢
  rw [htk] at hz
  rcases List.mem_append.1 hz with hz | hz
  ·exact hc2 z hz
  ·simp at hz; subst hz; exact h4'⟩,⟨⟨tt,rfl⟩,⟨tt,rfl⟩,⟨tt,rfl⟩,⟨tt,rfl⟩,⟨tt,rfl⟩,⟨tt,rfl⟩,⟨tt,rfl⟩,⟨tt,rfl⟩,⟨tt,rfl⟩,tt⟩,rfl⟩
   ·have hre:r=(V7 ms y).length:=by simp at h3; omega
    obtain ⟨t1,ht1⟩:=hpre
    obtain ⟨t2,ht2⟩:=hpre2
    have htk:(r8 ms fl n).take (q+1)=(r8 ms fl n).take q++[y]:=by rw [List.take_add_one,hy]; rfl
    refine m8 (a6 ?_)
    refine cY n9 ?_; refine cY b7 ?_; refine a8 ?_
    exact ⟨(q+1,N2,G2,H2),a1k,⟨hN2,⟨t1++t2,by rw [ht2,ht1,List.append_assoc]⟩,by dsimp only; omega,fun z hz s hs=>by
  dsimp only at hz ⊢
  rw [htk] at hz
  rcases List.mem_append.1 hz with hz | hz
  ·rw [ht2]; exact List.mem_append_left _ (hc1 z hz s hs)
  ·simp at hz; subst hz; exact hc2 s (by rw [hre,List.take_of_length_le (Nat.le_refl _)]; exact hs)⟩,⟨⟨tt,rfl⟩,⟨tt,rfl⟩,⟨tt,rfl⟩,⟨tt,rfl⟩,⟨tt,rfl⟩,⟨tt,rfl⟩,tt⟩,rfl⟩
  ·have hqe:q=(r8 ms fl n).length:=by simp at h2; omega
   obtain ⟨t1,ht1⟩:=hpre
   have htk:N1.take (i+1)=N.take i++[n]:=by
    rw [ht1,List.take_append_of_le_length c4,List.take_add_one,gn]; rfl
   refine m8 (a6 ?_)
   refine cY b7 ?_; refine cY n9 ?_; refine cY c7 ?_; refine a8 ?_
   exact ⟨(i+1,N1,G1,H1),a1k,⟨hN1,by dsimp only; rw [ht1,List.length_append]; omega,fun z hz f hf s hs=>by
  dsimp only at hz ⊢
  rw [htk] at hz
  rcases List.mem_append.1 hz with hz | hz
  ·rw [ht1]; exact List.mem_append_left _ (hc z hz f hf s hs)
  ·simp at hz; subst hz; exact hc1 f (by rw [hqe,List.take_of_length_le (Nat.le_refl _)]; exact hf) s hs⟩,⟨⟨tt,rfl⟩,⟨tt,rfl⟩,⟨tt,rfl⟩,tt⟩,rfl⟩
 ·have hie:i=N.length:=by simp at h1; omega
  have hcl:=a7I hN (fun n hn=>hc n (by rw [hie,List.take_of_length_le (Nat.le_refl _)]; exact hn))
  have hT:=b3A hN.nd hcl
  have hpl:(Y7 N).length=N.length:=List.length_mergeSort _
  have hne:N≠[]:=fun h=>by have:=hN.pk; rw [h] at this; cases this
  refine m8 (a7 (a6 ?_))
  refine cY b7 ?_
  refine cD (k8 rfl Tryz.call150 ⟨tt,tt⟩ (b50 hne c4 (a0M rfl)) rfl ?_)
  intro _ _; refine p4 (tst (wst fl nn va br ms me) G (.vec 1 ((Y7 N).map scv)) H) (b1B rfl) ?_
  refine a8 (a7 (a6 ?_))
  refine cY i7 ?_
  refine a8 (a7 (a7 (a6 ?_)))
  refine cY b7 ?_; refine cY (a3p rfl tt rfl Tryz.runUnderlying26 rfl rfl) ?_; refine cY z8 ?_
  refine a8 (d9 ?_)
  refine L6 (α:=Nat × Str) (fun x=>[(0,.ptr 0 0),(11,(.list (x.2.map bcv) (gnn x.2.length) none)),(58,.vec (4+G.length) 0 N.length),(59,(.val (.int .i64 ((N.length:Int))))),(60,(.val (.int .i64 ((x.1:Int)))))]) (fun _=>tst (wst fl nn va br ms me) G (.vec 1 ((Y7 N).map scv)) H) (fun x=>x.1≤N.length∧x.2.length≤x.1*103000000∧b23 ms fl [] (Y7 N)=b23 ms fl x.2 ((Y7 N).drop x.1)) (fun x=>N.length - x.1) (0,[]) ⟨Nat.zero_le _,Nat.zero_le _,rfl⟩ ⟨⟨tt,rfl⟩,⟨tt,rfl⟩,⟨tt,rfl⟩,⟨tt,rfl⟩,⟨tt,rfl⟩,tt⟩ rfl ?_; intro ⟨j,l⟩ _ ⟨hj,hl,hr⟩
  dsimp only at hj hl hr ⊢
  refine a7 (a6 ?_)
  refine cY p8 ?_
  refine a8 (a7 ?_)
  refine b9 tt rfl (fun h5=>?_) (fun h5=>?_)
  ·have hlj:j < N.length:=by simp at h5; omega
   obtain ⟨s,hs⟩:∃ s,(Y7 N)[j]? = some s:=⟨(Y7 N)[j]'c4,by simp⟩
   rw [b2t hs] at hr
   have hsl:=reach_len (hN.rch s ((List.mergeSort_perm N _).mem_iff.1 (List.mem_of_getElem? hs)))
   have hfc:=b0b (ms:=ms) (pkg:=s) c4 hfb
   have hp1:=a0a (l:=l) (s:=s) c4
   have hp2:=a0a (l:=S9 l s) (s:=S6 ms fl s) c4
   have hj2:j*103000000≤600*103000000:=Nat.mul_le_mul_right _ c4
   refine c8 (a7 (d9 (a7 (a6 ?_))))
   refine cY (N3 rfl tt tt rfl rfl Tryz.runUnderlying26 Tryz.sizeOf9 (a0M rfl) c4 c4) ?_; refine cY (P7 rfl tt rfl Tryz.isAgg9 (a0M rfl) (l6 (by rw [Nat.zero_add]; exact hs)) rfl) ?_; refine cY c7 ?_
   refine a8 (a6 ?_)
   refine cY b7 ?_; refine cY b7 ?_; refine cY (i8 rfl Tryz.call148 ⟨tt,tt,tt⟩ (T9 l _ s c4 c4 _) rfl) ?_; refine cY b7 ?_; refine cY b7 ?_; refine cY (i8 rfl Tryz.call106 ⟨tt,tt,tt⟩ (a9y (b1E fl nn va br ms me) s c4 hfb) rfl) ?_; refine cY (i8 rfl Tryz.call148 ⟨tt,tt,tt⟩ (T9 (S9 l s) _ (S6 ms fl s) c4 c4 _) rfl) ?_; refine cY c7 ?_
   refine a8 (a6 ?_)
   refine cY n9 ?_; refine cY b7 ?_; refine a8 ?_
   exact ⟨(j+1,S9 (S9 l s) (S6 ms fl s)),a1k,⟨by dsimp only; omega,by dsimp only; omega,hr⟩,⟨⟨tt,rfl⟩,⟨tt,rfl⟩,⟨tt,rfl⟩,⟨tt,rfl⟩,⟨tt,rfl⟩,tt⟩,rfl⟩
  ·have hje:j=N.length:=by simp at h5; omega
   rw [hje,← hpl,List.drop_length] at hr
   replace hr:b23 ms fl [] (Y7 N)=l:=hr
   have hj2:j*103000000≤600*103000000:=Nat.mul_le_mul_right _ c4
   refine m8 (a7 (a6 ?_))
   refine cY b7 ?_; refine cY (b7Q rfl tt rfl Tryz.runUnderlying139 Tryz.runUnderlying9 Tryz.runUnderlying5) ?_; refine cY (I4 rfl rfl tt rfl rfl (by show 1+l.length≤_; omega)) ?_; refine cY c7 ?_
   refine a8 (d5 ?_)
   exact ⟨_,l4 rfl tt c6,(by rw [a9l,hT,hr]; exact Z5 rfl (.old (.val _)))⟩
theorem b6L {fl:List Fi} {nn va:Bool} {br:List Str} {ms:SM} {me:EM} {σ:List c5} {w q1 q2 t:Nat} (hσ:WAt σ w q1 q2 t fl nn va br ms me) (pkg:Str) (hfl:fl.length≤64) (hfb:∀ f∈fl,f.p.length≤100∧f.b.length≤100000) (allI_len:(allI ms fl).length≤512) (reach_len:∀ {n:Str},Reach ms fl pkg n→n.length≤100000):b8 CC 108 [.ptr w 0,(sv (pkg))] σ fun r τ=>r = .ret (sv (a9l ms fl pkg))∧τ=σ :=
 a59 (fun a h=>by simp at h; subst h; exact .val _) (.val _) (b4d fl nn va br ms me pkg hfl hfb allI_len reach_len) hσ
theorem a0O {fl:List Fi} {nn va:Bool} {br:List Str} {ms:SM} {me:EM} {σ:List c5} {w q1 q2 t:Nat} (hσ:WAt σ w q1 q2 t fl nn va br ms me) (l:List c5):WAt (σ++l) w q1 q2 t fl nn va br ms me:=⟨T6 hσ.hw l,T6 hσ.hs l,T6 hσ.he l,T6 hσ.ht l,hσ.nd⟩
structure WOk (fl:List Fi) (ms:SM) (me:EM):Prop where
 len:fl.length≤64
 fb:∀ f∈fl,f.p.length≤100∧f.b.length≤100000
 src:∀ p s,glk ms p=some s→a0X s
 ent:∀ k e,glk me k=some e→a5K ms e
theorem WOk.find {fl:List Fi} {ms:SM} {me:EM} (h:WOk fl ms me) (k:Int) (p o:Str):a5K ms (Y0 true me k p o):=by
 unfold Y0
 rw [if_pos rfl]
 split
 ·rename_i x hx
  exact h.ent _ _ hx
 ·intro h1; cases h1
theorem WOk.imp {fl:List Fi} {ms:SM} {me:EM} (h:WOk fl ms me) (f:Fi):(V7 ms f).length≤8∧∀ s∈V7 ms f,s.length≤24:=by
 unfold V7
 cases hg:glk ms f.p with
 | none=>exact ⟨Nat.zero_le _,fun s hs=>by cases hs⟩
 | some x =>
  have:=h.src _ _ hg
  exact ⟨this.impl,fun s hs=>B1 (this.imp s hs).1⟩
theorem WOk.allI {fl:List Fi} {ms:SM} {me:EM} (h:WOk fl ms me):(allI ms fl).length≤512:=by
 have:∀ l:List Fi,(Go.Proofs.YtoblbdedgjfeaaaGreatDoor.allI ms l).length≤8*l.length:=fun l=>by
  induction l with
  | nil=>exact Nat.zero_le _
  | cons x l ih =>
   have:=(h.imp x).1
   unfold Go.Proofs.YtoblbdedgjfeaaaGreatDoor.allI at ih ⊢
   rw [List.flatMap_cons,List.length_append,List.length_cons]
   omega
 have h1:=this fl
 have h2:=h.len
 omega
theorem WOk.reach {fl:List Fi} {ms:SM} {me:EM} (h:WOk fl ms me) {pkg:Str} (hp:pkg.length≤100) {n:Str} (hr:Reach ms fl pkg n):n.length≤100000:=by
 cases hr with
 | base=>omega
 | @step _ f _ _ _ hs=>have:=(h.imp f).2 _ hs; omega
noncomputable def P0 (fl:List Fi) (ms:SM) (me:EM) (ev:List Va) (k:Ky):Str :=
 if k.k=1 then Z0 ms (Y0 true me 1 k.a k.b) else if k.k=2 then Z0 ms (Y0 true me 2 k.a k.b) else if k.k=3 then Z0 ms (Y0 true me 3 [] k.a)
 else if k.k=4 then (if (S2 fl k.a).isSome then [61]++(S2 fl k.a).getD [] else [45]) else if k.k=5 then (if (a1r ev k.a).isSome then [61]++Lib.itoa ((a1r ev k.a).getD 0) else [45])
 else if k.k=6 then S6 ms fl k.a else a9l ms fl k.a
theorem b2E {fl:List Fi} {s b:Str} (h:S2 fl s=some b):∃ f∈fl,f.b=b:=by
 unfold S2 at h
 rw [Option.map_eq_some_iff] at h
 obtain ⟨f,hf,rfl⟩:=h
 exact ⟨f,List.mem_of_find?_eq_some hf,rfl⟩
theorem b5y {ev:List Va} {s:Str} {v:Int} (hev:∀ v∈ev,-9223372036854775808≤v.v∧v.v≤9223372036854775807) (h:a1r ev s=some v) : -9223372036854775808≤v∧v≤9223372036854775807:=by
 unfold a1r at h
 rw [Option.map_eq_some_iff] at h
 obtain ⟨x,hx,rfl⟩:=h
 exact hev x (List.mem_of_find?_eq_some hx)
set_option maxRecDepth 10000 in
theorem b9m {fl:List Fi} {nn:Bool} {br:List Str} {ms:SM} {me:EM} {σ:List c5} {w q1 q2 t:Nat} (hσ:WAt σ w q1 q2 t fl nn true br ms me) (hok:WOk fl ms me) (k:Ky):b8 CC 96 [.ptr w 0,.agg k.cells] σ fun r τ=>r = .ret (sv (Z0 ms (Y0 true me 1 k.a k.b)))∧τ=σ:=by
 refine j4 (d8 Tryz.func96 rfl rfl ?_)
 refine a7 (a6 ?_)
 refine cD (w9 rfl tt c6 j3 ?_)
 refine cY i7 ?_
 refine a8 (a7 (a6 ?_))
 refine cY b7 ?_; refine cY b7 ?_; refine cY A8 ?_; refine cY (o5 rfl tt rfl Tryz.isAgg9 List.getElem?_concat_length rfl) ?_; refine cY A8 ?_; refine cY (o5 rfl tt rfl Tryz.isAgg9 List.getElem?_concat_length rfl) ?_; refine cY (i8 rfl Tryz.call76 ⟨tt,rfl,tt,tt,tt⟩ (a7D (a0O hσ _) 1 k.a k.b) rfl) ?_; refine cY b84 ?_; refine cY c7 ?_
 refine a8 (d5 ?_)
 exact ⟨_,l4 rfl tt c6,_,_,rfl,rfl,M4 rfl⟩
set_option maxRecDepth 10000 in
theorem b94 {fl:List Fi} {nn:Bool} {br:List Str} {ms:SM} {me:EM} {σ:List c5} {w q1 q2 t:Nat} (hσ:WAt σ w q1 q2 t fl nn true br ms me) (hok:WOk fl ms me) (k:Ky):b8 CC 98 [.ptr w 0,.agg k.cells] σ fun r τ=>r = .ret (sv (Z0 ms (Y0 true me 2 k.a k.b)))∧τ=σ:=by
 refine j4 (d8 Tryz.func98 rfl rfl ?_)
 refine a7 (a6 ?_)
 refine cD (w9 rfl tt c6 j3 ?_)
 refine cY i7 ?_
 refine a8 (a7 (a6 ?_))
 refine cY b7 ?_; refine cY b7 ?_; refine cY A8 ?_; refine cY (o5 rfl tt rfl Tryz.isAgg9 List.getElem?_concat_length rfl) ?_; refine cY A8 ?_; refine cY (o5 rfl tt rfl Tryz.isAgg9 List.getElem?_concat_length rfl) ?_; refine cY (i8 rfl Tryz.call76 ⟨tt,rfl,tt,tt,tt⟩ (a7D (a0O hσ _) 2 k.a k.b) rfl) ?_; refine cY b84 ?_; refine cY c7 ?_
 refine a8 (d5 ?_)
 exact ⟨_,l4 rfl tt c6,_,_,rfl,rfl,M4 rfl⟩
set_option maxRecDepth 10000 in
theorem b9O {fl:List Fi} {nn:Bool} {br:List Str} {ms:SM} {me:EM} {σ:List c5} {w q1 q2 t:Nat} (hσ:WAt σ w q1 q2 t fl nn true br ms me) (hok:WOk fl ms me) (k:Ky):b8 CC 99 [.ptr w 0,.agg k.cells] σ fun r τ=>r = .ret (sv (Z0 ms (Y0 true me 3 [] k.a)))∧τ=σ:=by
 refine j4 (d8 Tryz.func99 rfl rfl ?_)
 refine a7 (a6 ?_)
 refine cD (w9 rfl tt c6 j3 ?_)
 refine cY i7 ?_
 refine a8 (a7 (a6 ?_))
 refine cY b7 ?_; refine cY b7 ?_; refine cY A8 ?_; refine cY (o5 rfl tt rfl Tryz.isAgg9 List.getElem?_concat_length rfl) ?_; refine cY (i8 rfl Tryz.call76 ⟨tt,rfl,rfl,tt,tt⟩ (a7D (a0O hσ _) 3 [] k.a) rfl) ?_; refine cY b84 ?_; refine cY c7 ?_
 refine a8 (d5 ?_)
 exact ⟨_,l4 rfl tt c6,_,_,rfl,rfl,M4 rfl⟩
set_option maxRecDepth 10000 in
theorem b9A {fl:List Fi} {nn:Bool} {br:List Str} {ms:SM} {me:EM} {σ:List c5} {w q1 q2 t:Nat} (hσ:WAt σ w q1 q2 t fl nn true br ms me) (hok:WOk fl ms me) (k:Ky):b8 CC 100 [.ptr w 0,.agg k.cells] σ fun r τ=>r = .ret (sv (if (S2 fl k.a).isSome then [61]++(S2 fl k.a).getD [] else [45]))∧τ=σ:=by
 refine j4 (d8 Tryz.func100 rfl rfl ?_)
 refine a7 (a6 ?_)
 refine cD (w9 rfl tt c6 j3 ?_)
 refine cY i7 ?_
 refine a8 (a7 (a6 ?_))
 refine cY b7 ?_; refine cY A8 ?_; refine cY (o5 rfl tt rfl Tryz.isAgg9 List.getElem?_concat_length rfl) ?_; refine cY (i8 rfl Tryz.call101 ⟨tt,tt,tt⟩ (b7b (a0O hσ _) k.a (by have:=hok.len; omega)) rfl) ?_; refine cY b7 ?_; refine cY A0 ?_; refine cY A0 ?_; refine cY c7 ?_; refine cY c7 ?_
 refine a8 (a7 (a7 (a6 ?_)))
 refine cY b7 ?_; refine cY F1 ?_; refine a8 ?_
 refine b9 tt rfl (fun h1=>?_) (fun h1=>?_)
 ·have u1:(S2 fl k.a).isSome=false:=by simpa using h1
  refine a7 (a6 ?_)
  refine cY i7 ?_
  refine a8 (d5 ?_)
  exact ⟨_,l4 rfl tt c6,_,_,rfl,rfl,M4 (by rw [u1]; rfl)⟩
 ·have u1:(S2 fl k.a).isSome=true:=by simpa using h1
  obtain ⟨b,hb⟩:=Option.isSome_iff_exists.1 u1
  obtain ⟨f,hf,hfb⟩:=b2E hb
  have hlen:=(hok.fb f hf).2
  rw [hb]
  refine c8 (a7 (a6 ?_))
  refine cY b7 ?_; refine cY (I4 rfl rfl tt rfl rfl (by show 1+b.length≤_; rw [← hfb]; omega)) ?_; refine cY c7 ?_
  refine a8 (d5 ?_)
  exact ⟨_,l4 rfl tt c6,_,_,rfl,rfl,M4 (show str ([61]++(some b).getD [])=_ from rfl)⟩
set_option maxRecDepth 10000 in
theorem b9k {fl:List Fi} {nn:Bool} {br:List Str} {ms:SM} {me:EM} {σ:List c5} {w q1 q2 t:Nat} (hσ:WAt σ w q1 q2 t fl nn true br ms me) (hok:WOk fl ms me) (k:Ky):b8 CC 105 [.ptr w 0,.agg k.cells] σ fun r τ=>r = .ret (sv (S6 ms fl k.a))∧τ=σ:=by
 refine j4 (d8 Tryz.func105 rfl rfl ?_)
 refine a7 (a6 ?_)
 refine cD (w9 rfl tt c6 j3 ?_)
 refine cY i7 ?_
 refine a8 (a7 (a6 ?_))
 refine cY b7 ?_; refine cY A8 ?_; refine cY (o5 rfl tt rfl Tryz.isAgg9 List.getElem?_concat_length rfl) ?_; refine cY (i8 rfl Tryz.call106 ⟨tt,tt,tt⟩ (a9y (a0O hσ _) k.a (by have:=hok.len; omega) hok.fb) rfl) ?_; refine cY c7 ?_
 refine a8 (d5 ?_)
 exact ⟨_,l4 rfl tt c6,_,_,rfl,rfl,M4 rfl⟩
set_option maxRecDepth 10000 in
theorem b9w {fl:List Fi} {nn:Bool} {br:List Str} {ms:SM} {me:EM} {σ:List c5} {w q1 q2 t:Nat} (hσ:WAt σ w q1 q2 t fl nn true br ms me) (hok:WOk fl ms me) (k:Ky)(hka:k.a.length≤100):b8 CC 107 [.ptr w 0,.agg k.cells] σ fun r τ=>r = .ret (sv (a9l ms fl k.a))∧τ=σ:=by
 refine j4 (d8 Tryz.func107 rfl rfl ?_)
 refine a7 (a6 ?_)
 refine cD (w9 rfl tt c6 j3 ?_)
 refine cY i7 ?_
 refine a8 (a7 (a6 ?_))
 refine cY b7 ?_; refine cY A8 ?_; refine cY (o5 rfl tt rfl Tryz.isAgg9 List.getElem?_concat_length rfl) ?_; refine cY (i8 rfl Tryz.call108 ⟨tt,tt,tt⟩ (b6L (a0O hσ _) k.a hok.len hok.fb hok.allI (hok.reach hka)) rfl) ?_; refine cY c7 ?_
 refine a8 (d5 ?_)
 exact ⟨_,l4 rfl tt c6,_,_,rfl,rfl,M4 rfl⟩
set_option maxRecDepth 10000 in
theorem b9a {σ:List c5} {w q:Nat} {ev:List Va} {nn:Bool} (hq:σ[q]? = some (.box (P3 ev nn))) (hev:∀ v∈ev,-9223372036854775808≤v.v∧v.v≤9223372036854775807) (hel:ev.length≤1000000000) (k:Ky):b8 CC 102 [.ptr w 0,.agg k.cells,.ptr q 0] σ fun r τ=>r = .ret (sv (if (a1r ev k.a).isSome then [61]++Lib.itoa ((a1r ev k.a).getD 0) else [45]))∧τ=σ:=by
 refine j4 (d8 Tryz.func102 rfl rfl ?_)
 refine a7 (a6 ?_)
 refine cD (w9 rfl tt c6 j3 ?_)
 refine cY i7 ?_
 refine a8 (a7 (a6 ?_))
 refine cY (J3 rfl tt rfl Tryz.isAgg25 Tryz.sizeOf25 (T6 hq _) (nb rfl)) ?_; refine cY A8 ?_; refine cY (o5 rfl tt rfl Tryz.isAgg9 List.getElem?_concat_length rfl) ?_; refine cY (i8 rfl Tryz.call103 ⟨tt,tt,tt⟩ (a5G ev nn k.a hel _) rfl) ?_; refine cY b7 ?_; refine cY A0 ?_; refine cY A0 ?_; refine cY c7 ?_; refine cY c7 ?_
 refine a8 (a7 (a7 (a6 ?_)))
 refine cY b7 ?_; refine cY F1 ?_; refine a8 ?_
 refine b9 tt rfl (fun h1=>?_) (fun h1=>?_)
 ·have u1:(a1r ev k.a).isSome=false:=by simpa using h1
  refine a7 (a6 ?_)
  refine cY i7 ?_
  refine a8 (d5 ?_)
  exact ⟨_,l4 rfl tt c6,_,_,rfl,rfl,M4 (by rw [u1]; rfl)⟩
 ·have u1:(a1r ev k.a).isSome=true:=by simpa using h1
  obtain ⟨v,hv⟩:=Option.isSome_iff_exists.1 u1
  have hvr:=b5y hev hv
  rw [hv]
  have hil:=a2E hvr.1 hvr.2
  refine c8 (a7 (a6 ?_))
  refine cY b7 ?_; refine cY (i8 rfl Tryz.call104 ⟨tt,tt⟩ (b0n v hvr.1 hvr.2 _) rfl) ?_; refine cY (I4 rfl rfl tt rfl rfl (by show 1+(Lib.itoa v).length≤_; omega)) ?_; refine cY c7 ?_
  refine a8 (d5 ?_)
  exact ⟨_,l4 rfl tt c6,_,_,rfl,rfl,M4 (show str ([61]++Lib.itoa v)=_ from rfl)⟩
theorem b4c:∀ {pv:Option Fi} {l:List Fi},rvE pv l=0→(∀ g,pv=some g→∀ f∈l,g.p < f.p)∧l.Pairwise fun a b=>a.p < b.p
 | _,[],_=>⟨fun _ _ f hf=>(by cases hf),List.Pairwise.nil⟩
 | pv,x::l,h=>by
  rw [rvE] at h
  split at h
  ·rename_i hs
   obtain ⟨h1,h2⟩:=b4c h
   have hx:∀ g,pv=some g→g.p < x.p:=fun g hg=>by
    subst hg
    unfold L4 at hs
    split at hs
    ·cases hs
    ·split at hs
     ·cases hs
     ·rename_i h3
      split at hs
      ·cases hs
      ·rename_i h4
       simp only [Option.any_some,decide_eq_true_eq] at h3 h4
       rw [bytesLess_eq,decide_eq_true_eq] at h4
       rcases List.le_total g.p x.p with h5 | h5
       ·rcases Decidable.em (g.p < x.p) with h6 | h6
        ·exact h6
        ·exact absurd (List.le_antisymm h5 (List.not_lt.1 h6)).symm h3
       ·rcases Decidable.em (g.p < x.p) with h6 | h6
        ·exact h6
        ·exact absurd (List.le_antisymm h5 (List.not_lt.1 h4)) h3
   refine ⟨fun g hg f hf=>?_,.cons (fun f hf=>h1 x rfl f hf) h2⟩
   rcases List.mem_cons.1 hf with rfl | hf
   ·exact hx g hg
   ·exact List.lt_trans (hx g hg) (h1 x rfl f hf)
  ·rename_i hs
   exact absurd h hs
structure WI (seen:List Str) (ms:SM) (me:EM):Prop where
 src:∀ p x,glk ms p=some x→a0X x∧p∈seen
 ent:∀ k e,glk me k=some e→1≤e.ct∧a5K ms e
theorem a8p {ms:SM} {path:Str} {x:Src} (hg:glk ms path=some x) (hx:a0X x):∀ (n k:Nat) (me:EM),x.decls.length - k=n→(∀ k e,glk me k=some e→1≤e.ct∧a5K ms e)→∀ q e,glk (F2 me path x.pkg (x.decls.drop k) k) q=some e→1≤e.ct∧a5K ms e
 | 0,k,me,hn,h,q,e,he=>by
  rw [List.drop_eq_nil_of_le c4,F2] at he
  exact h q e he
 | n+1,k,me,hn,h,q,e,he=>by
  obtain ⟨d,hd⟩:∃ d,x.decls[k]? = some d:=⟨x.decls[k]'c4,by simp⟩
  rw [a4L hd] at he
  refine a8p hg hx n (k+1) _ c4 (fun q e he=>?_) q e he
  rw [a19,O4] at he
  split at he
  ·injection he with he
   subst he
   split
   ·rename_i f hf
    obtain ⟨h1,_⟩:=h _ _ hf
    exact ⟨by simp only; omega,fun hc=>by simp only at hc; omega⟩
   ·exact ⟨Int.le_refl _,fun _=>⟨x,d,k,hg,hx,rfl,hd⟩⟩
  ·exact h q e he
theorem a5K.put {ms:SM} {e:En} {path:Str} {x:Src} (h:a5K ms e) (hp:glk ms path=none):a5K (P4 ms path x) e:=fun hc=>by
 obtain ⟨s,d,i,h1,h2⟩:=h hc
 refine ⟨s,d,i,?_,h2⟩
 rw [O4,if_neg]
 ·exact h1
 ·intro he; rw [he,hp] at h1; cases h1
theorem b5g {seen:List Str} {s:WS} {f:Fi} (h:WI seen s.2.1 s.2.2) (hf:f.p∉seen):WI (f.p::seen) (a5X s f).2.1 (a5X s f).2.2:=by
 have hw:WI (f.p::seen) s.2.1 s.2.2:=⟨fun p x hp=>⟨(h.src p x hp).1,List.mem_cons_of_mem _ (h.src p x hp).2⟩,h.ent⟩
 unfold a5X
 split
 ·split
  ·exact hw
  ·rename_i x hx
   have hn:glk s.2.1 f.p=none:=by
    cases hg:glk s.2.1 f.p with
    | none=>rfl
    | some y=>exact absurd (h.src _ _ hg).2 hf
   have hok:=b3G hx
   refine ⟨fun p y hp=>?_,?_⟩
   ·simp only [O4] at hp
    split at hp
    ·rename_i e
     injection hp with hp
     subst hp
     exact ⟨hok,by rw [e]; simp⟩
    ·exact ⟨(h.src p y hp).1,List.mem_cons_of_mem _ (h.src p y hp).2⟩
   ·have hg:glk (P4 s.2.1 f.p x) f.p=some x:=by rw [O4,if_pos rfl]
    have:=a8p hg hok _ 0 s.2.2 rfl (fun k e he=>⟨(h.ent k e he).1,(h.ent k e he).2.put hn⟩)
    simpa using this
 ·exact hw
theorem b1s:∀ {l:List Fi} {seen:List Str} {s:WS},WI seen s.2.1 s.2.2→(∀ f∈l,f.p∉seen)→(l.Pairwise fun a b=>a.p < b.p)→∃ seen',WI seen' (a7F l s).2.1 (a7F l s).2.2
 | [],seen,s,h,_,_=>⟨seen,h⟩
 | f::l,seen,s,h,hn,hp=>by
  have h1:=b5g h (hn f m5)
  refine b1s (l:=l) h1 (fun g hg hm=>?_) (List.pairwise_cons.1 hp).2
  rcases List.mem_cons.1 hm with hm | hm
  ·have:=(List.pairwise_cons.1 hp).1 g hg
   rw [hm] at this
   exact absurd this (List.lt_irrefl _)
  ·exact hn g (by simp [hg]) hm
theorem b1R {fl:List Fi} (h:S5 fl=0):WOk fl (E7 fl).2.1 (E7 fl).2.2:=by
 obtain ⟨h1,h2⟩:=a73 h
 have h0:rvE none fl=0:=by
  unfold S5 at h
  split at h
  ·cases h
  ·exact h
 obtain ⟨seen,h3⟩:=b1s (l:=fl) (seen:=[]) (s:=([],[],[])) ⟨fun p x hp=>(by cases hp),fun k e he=>(by cases he)⟩ (fun f _ hm=>(by cases hm)) (b4c h0).2
 rw [E7,if_pos h]
 exact ⟨h1,fun f hf=>by have:=a0b (h2 f hf).1; have:=(h2 f hf).2; omega,fun p s hp=>(h3.src p s hp).1,fun k e he=>(h3.ent k e he).2⟩
abbrev fv (f:FuncId):CV:=.val (.func (.func f) #[] #[])
def N4 (b:Nat):List (Int × CV):=[(1,fv 96),(2,fv 98),(3,fv 99),(4,fv 100),(5,.clo 102 [.ptr b 0]),(6,fv 105),(7,fv 107)]
abbrev cmO (b:Nat):c5:=.map (gm kv (fun c:CV=>c) (N4 b))
def cfv (b:Nat) (k:Int):CV:=(glk (N4 b) k).getD (C3 .nilFunc)
theorem b1K {L b:Nat} (h:b < L):C8 L (cmO b):=fun x hx=>by
 obtain ⟨y,hy,rfl⟩:=List.mem_map.1 hx
 refine ⟨.val _,?_⟩
 simp only [N4,List.mem_cons,List.not_mem_nil,or_false] at hy
 rcases hy with rfl | rfl | rfl | rfl | rfl | rfl | rfl
 ·exact .val _
 ·exact .val _
 ·exact .val _
 ·exact .val _
 ·refine .clo fun i c hi=>?_
  rcases i with _ | i
  ·injection hi with hi; subst hi; exact .ptr h
  ·cases hi
 ·exact .val _
 ·exact .val _
theorem b66 {R:Nat→Nat→Prop} {b b':Nat} (h:R b b'):B2 R (cmO b) (cmO b'):=.map ⟨rfl,fun i x x' h1 h2=>by
 rcases i with _ | _ | _ | _ | _ | _ | _ | i
 ·injection h1 with h1; injection h2 with h2; subst h1 h2; exact ⟨.pure (.val _),.pure (.val _)⟩
 ·injection h1 with h1; injection h2 with h2; subst h1 h2; exact ⟨.pure (.val _),.pure (.val _)⟩
 ·injection h1 with h1; injection h2 with h2; subst h1 h2; exact ⟨.pure (.val _),.pure (.val _)⟩
 ·injection h1 with h1; injection h2 with h2; subst h1 h2; exact ⟨.pure (.val _),.pure (.val _)⟩
 ·injection h1 with h1; injection h2 with h2; subst h1 h2
  refine ⟨.pure (.val _),.clo rfl fun i c c' g g'=>?_⟩
  rcases i with _ | i
  ·injection g with g; injection g' with g'; subst g g'; exact .ptr h
  ·cases g
 ·injection h1 with h1; injection h2 with h2; subst h1 h2; exact ⟨.pure (.val _),.pure (.val _)⟩
 ·injection h1 with h1; injection h2 with h2; subst h1 h2; exact ⟨.pure (.val _),.pure (.val _)⟩
 ·cases h1⟩
set_option maxRecDepth 10000 in
theorem a67 (ev:List Va) (en:Bool):b8 CC 50 [.agg (P3 ev en)] [] fun r τ=>∃ _:Unit,r = .ret (.map 1)∧τ=[.box (P3 ev en),cmO 0]∧True:=by
 refine (d8 Tryz.func50 rfl rfl ?_)
 refine a7 (a6 ?_)
 refine cD (w9 rfl tt c6 j3 ?_)
 refine cY i7 ?_
 refine a8 (a7 (a6 ?_))
 refine cD (N8 rfl ?_)
 refine cD (l8 (vc:=fun c:CV=>c) (l:=(N4 0).take 0) (a:=1) (b:=((N4 0).getD 0 (0,fv 0)).2) P5 (.inr rfl) tt rfl tt rfl rfl rfl Tryz.runUnderlying106 rfl ?_)
 refine cD (l8 (vc:=fun c:CV=>c) (l:=(N4 0).take 1) (a:=2) (b:=((N4 0).getD 1 (0,fv 0)).2) P5 (.inr rfl) tt rfl tt rfl rfl rfl Tryz.runUnderlying106 rfl ?_)
 refine cD (l8 (vc:=fun c:CV=>c) (l:=(N4 0).take 2) (a:=3) (b:=((N4 0).getD 2 (0,fv 0)).2) P5 (.inr rfl) tt rfl tt rfl rfl rfl Tryz.runUnderlying106 rfl ?_)
 refine cD (l8 (vc:=fun c:CV=>c) (l:=(N4 0).take 3) (a:=4) (b:=((N4 0).getD 3 (0,fv 0)).2) P5 (.inr rfl) tt rfl tt rfl rfl rfl Tryz.runUnderlying106 rfl ?_)
 refine cY (a9f rfl ⟨tt,tt⟩) ?_
 refine cD (l8 (vc:=fun c:CV=>c) (l:=(N4 0).take 4) (a:=5) (b:=((N4 0).getD 4 (0,fv 0)).2) P5 (.inr rfl) tt rfl tt rfl rfl rfl Tryz.runUnderlying106 rfl ?_)
 refine cD (l8 (vc:=fun c:CV=>c) (l:=(N4 0).take 5) (a:=6) (b:=((N4 0).getD 5 (0,fv 0)).2) P5 (.inr rfl) tt rfl tt rfl rfl rfl Tryz.runUnderlying106 rfl ?_)
 refine cD (l8 (vc:=fun c:CV=>c) (l:=(N4 0).take 6) (a:=7) (b:=((N4 0).getD 6 (0,fv 0)).2) P5 (.inr rfl) tt rfl tt rfl rfl rfl Tryz.runUnderlying106 rfl ?_)
 refine cY b7 ?_; refine cY c7 ?_
 refine a8 (d5 ?_)
 exact ⟨_,l4 rfl tt c6,(by exact ⟨(),rfl,rfl,tt⟩)⟩
theorem a74 (ev:List Va) (en:Bool) (σ:List c5):b8 CC 50 [.agg (P3 ev en)] σ fun r τ=>∃ _:Unit,r = .ret (.map (σ.length+1))∧τ=σ++[.box (P3 ev en),cmO σ.length]∧True :=
 a0D (α:=Unit) hCC (fun a ha=>by simp at ha; subst ha; exact d6 ⟨A9 _ _,tt⟩) (res:=fun _=>.ret (.map 1)) (res':=fun _ m=>.ret (.map (m+1))) (S:=fun _=>[.box (P3 ev en),cmO 0]) (S':=fun _ m=>[.box (P3 ev en),cmO m]) (P:=fun _=>True) (a67 ev en) (fun _ _=>rfl) (fun _ m i x h=>by
  rcases i with _ | _ | i
  ·injection h with h; subst h; exact ⟨_,rfl,.box (E9 (fun c hc=>by simp at hc; subst hc; exact A9 _ _))⟩
  ·injection h with h; subst h; exact ⟨_,rfl,b66 m5⟩
  ·cases h) (fun _ m=>.ret (.map rfl)) σ
theorem b5E {k:Ky} (h:F4 k=true):(k.k=1∨k.k=2∨k.k=3∨k.k=4∨k.k=5∨k.k=6∨k.k=7)∧k.a.length≤100:=by
 unfold F4 at h
 split at h
 ·rename_i h1
  simp only [Bool.or_eq_true,beq_iff_eq] at h1
  simp only [Bool.and_eq_true] at h
  have:=B1 h.1
  exact ⟨by omega,by omega⟩
 ·split at h
  ·rename_i h1
   simp only [Bool.or_eq_true,beq_iff_eq] at h1
   simp only [Bool.and_eq_true] at h
   have:=a0b h.1
   exact ⟨by omega,by omega⟩
  ·split at h
   ·rename_i h1
    simp only [Bool.or_eq_true,beq_iff_eq] at h1
    simp only [Bool.and_eq_true] at h
    have:=B1 h.1
    exact ⟨by omega,by omega⟩
   ·cases h
theorem b8V {fl:List Fi} {nn:Bool} {br:List Str} {ms:SM} {me:EM} {σ:List c5} {w q1 q2 t b:Nat} (hσ:WAt σ w q1 q2 t fl nn true br ms me) (hok:WOk fl ms me) {ev:List Va} {en:Bool} (hb:σ[b]? = some (.box (P3 ev en))) (hev:∀ v∈ev,-9223372036854775808≤v.v∧v.v≤9223372036854775807) (hel:ev.length≤1000000000) {k:Ky} (hk:F4 k=true) :
 b1I CC (cfv b k.k) [.ptr w 0,.agg k.cells] σ (sv (P0 fl ms me ev k)):=by
 obtain ⟨hkk,hka⟩:=b5E hk
 rcases hkk with h | h | h | h | h | h | h
 ·refine .inl ⟨96,by rw [h]; rfl,Tryz.call96,?_⟩
  rw [P0,if_pos h]
  exact b9m hσ hok k
 ·refine .inl ⟨98,by rw [h]; rfl,Tryz.call98,?_⟩
  rw [P0,if_neg c4,if_pos h]
  exact b94 hσ hok k
 ·refine .inl ⟨99,by rw [h]; rfl,Tryz.call99,?_⟩
  rw [P0,if_neg c4,if_neg c4,if_pos h]
  exact b9O hσ hok k
 ·refine .inl ⟨100,by rw [h]; rfl,Tryz.call100,?_⟩
  rw [P0,if_neg c4,if_neg c4,if_neg c4,if_pos h]
  exact b9A hσ hok k
 ·refine .inr ⟨102,[.ptr b 0],by rw [h]; rfl,Tryz.call102,?_⟩
  rw [P0,if_neg c4,if_neg c4,if_neg c4,if_neg c4,if_pos h]
  exact b9a hb hev hel k
 ·refine .inl ⟨105,by rw [h]; rfl,Tryz.call105,?_⟩
  rw [P0,if_neg c4,if_neg c4,if_neg c4,if_neg c4,if_neg c4,if_pos h]
  exact b9k hσ hok k
 ·refine .inl ⟨107,by rw [h]; rfl,Tryz.call107,?_⟩
  rw [P0,if_neg c4,if_neg c4,if_neg c4,if_neg c4,if_neg c4,if_neg c4]
  exact b9w hσ hok k hka
noncomputable def O0 (fl:List Fi) (ev:List Va) (l:List Ky):Option (List Str) :=
 if S5 fl=0∧a7J ev=true∧l.all F4=true then some (l.map (P0 fl (E7 fl).2.1 (E7 fl).2.2 ev)) else none
def b1l (o:Option (List Str)):CV:=.tup [.list ((o.getD []).map scv) (gnn (o.getD []).length) none,.val (.int .i64 (if o.isSome then 0 else 1))]
theorem b8K (b:Nat) (k:Int):((glk (N4 b) k).map fun c:CV=>c).getD (C3 .nilFunc)=cfv b k:=by unfold cfv; cases glk (N4 b) k <;> rfl
theorem b3u {p:Ky→Bool} {l:List Ky} {i:Nat} {y:Ky} (h:l[i]? = some y) (ha:(l.take i).all p=true) (hy:p y=true):(l.take (i+1)).all p=true:=by
 rw [List.take_add_one,h,List.all_append,ha]; simp [hy]
theorem b5M {p:Ky→Bool} {l:List Ky} {i:Nat} {y:Ky} (h:l[i]? = some y) (hy:p y=false):l.all p≠true:=fun hh=>by
 rw [List.all_eq_true] at hh
 rw [hh y (List.mem_of_getElem? h)] at hy
 cases hy
set_option maxRecDepth 10000 in
set_option maxHeartbeats 800000 in
theorem a7C (fl:List Fi) (nn:Bool) (hfl:∀ f∈fl,f.p.length≤1000000000) (ev:List Va) (en:Bool) (hev:∀ v∈ev,v.n.length≤1000000000) (hvr:∀ v∈ev,-9223372036854775808≤v.v∧v.v≤9223372036854775807) (hel:ev.length≤1000000000) (l:List Ky) (nk:Bool) (hl:l.length≤1000000000) (hk:∀ k∈l,k.a.length≤1000000000∧k.b.length≤1000000000):b8 CC 14 [.agg (V8 fl nn),.agg (P3 ev en),.list (l.map Ky.cv) nk none] [] fun r τ=>∃ _:Unit,a1i 0 τ r (.ret (b1l (O0 fl ev l)))∧True:=by
 refine (d8 Tryz.func14 rfl rfl ?_)
 refine a7 (a6 ?_)
 refine cD (w9 rfl tt c6 j3 ?_)
 refine cD (w9 rfl tt c6 j3 ?_)
 refine cY i7 ?_; refine cY i7 ?_
 refine a8 (a7 (a6 ?_))
 refine cY a3F ?_
 refine cD (k8 rfl Tryz.call48 ⟨tt,tt⟩ (b8Z fl nn hfl _) rfl ?_)
 intro _ _; refine cY c7 ?_
 refine a8 (a7 (a7 (a6 ?_)))
 refine cY b7 ?_; refine cY o7 ?_; refine cY b5V ?_; refine cY (o5 rfl tt rfl Tryz.isAgg4 rfl rfl) ?_; refine cY F1 ?_; refine cY b7 ?_; refine cG (fun hg=>J3 rfl tt rfl Tryz.isAgg25 Tryz.sizeOf25 rfl (nb rfl)) ?_; refine cG (fun hg=>i8 rfl Tryz.call49 ⟨hg,tt⟩ (a0Y ev en hev _) rfl) ?_; refine cG (fun hg=>a5U rfl hg rfl) ?_; refine cY J0 ?_; refine a8 ?_
 refine b9 tt rfl (fun h1=>?_) (fun h1=>?_)
 ·have hv:¬ (S5 fl=0∧a7J ev=true∧l.all F4=true):=by
   rintro ⟨u1,u2,_⟩
   simp [u1,u2] at h1
  refine a7 (a6 ?_)
  refine cY i7 ?_; refine cY i7 ?_
  refine a8 (d5 ?_)
  exact ⟨_,o4 (rs:=[.tmp 6,.tmp 7]) (cs:=[_,_]) rfl ⟨⟨tt,c6⟩,⟨tt,c6⟩,tt⟩ (Nat.ne_of_beq_eq_false rfl),(by rw [O0,if_neg hv]; exact ⟨(),.ret (.tups ⟨.old (m4 _ ([]:List Str) _),.old (.val _),tt⟩),tt⟩)⟩
 ·have hv:S5 fl=0∧a7J ev=true:=by simpa using h1
  have hok:=b1R hv.1
  have hva:(S5 fl == 0)=true:=by simp [hv.1]
  rw [hva]
  refine c8 (a7 (a6 ?_))
  refine cY b52 ?_
  refine cD (k8 rfl Tryz.call50 ⟨tt,tt⟩ (a74 ev en _) rfl ?_)
  intro _ _; refine cY c7 ?_
  refine a8 (a7 (a6 ?_))
  refine cY i7 ?_
  refine a8 (a7 (a7 (a6 ?_)))
  refine cY b7 ?_; refine cY a4J ?_; refine cY z8 ?_
  refine a8 (d9 ?_)
  refine A2 hCC 8 rfl (α:=Nat) (fun i=>[(8,.ptr 2 0),(9,.map 7),(10,(.list (((l.take i).map (P0 fl (E7 fl).2.1 (E7 fl).2.2 ev)).map scv) (gnn ((l.take i).map (P0 fl (E7 fl).2.1 (E7 fl).2.2 ev)).length) (P6 ((l.take i).map (P0 fl (E7 fl).2.1 (E7 fl).2.2 ev)).length 8))),(27,(.list (l.map Ky.cv) nk none)),(28,(.val (.int .i64 ((l.length:Int))))),(29,(.val (.int .i64 ((i:Int)))))]) (fun i=>[.box (V8 fl nn),.box (P3 ev en),wbx fl nn true (E7 fl).1 3 4 5,smO (E7 fl).2.1,emO (E7 fl).2.2,r9 (E7 fl).1.length,.box (P3 ev en),cmO 6,r9 ((l.take i).map (P0 fl (E7 fl).2.1 (E7 fl).2.2 ev)).length]) (fun i=>i≤l.length∧(l.take i).all F4=true) (fun i=>l.length - i) ⟨0,[0,1,2,3,4,5,6,7,13],⟨Nat.zero_le _,rfl⟩,⟨rfl,rfl⟩,⟨⟨tt,q_9⟩,⟨tt,q_9⟩,⟨tt,q_9⟩,⟨tt,q_9⟩,⟨tt,q_9⟩,⟨tt,q_9⟩,tt⟩,⟨.inr ⟨_,rfl,.same rfl a3N⟩,.inr ⟨_,rfl,.same rfl (l2 ⟨a0E _ _ _,tt⟩)⟩,.inr ⟨_,rfl,.same rfl a6z⟩,.inr ⟨_,rfl,.same rfl X8⟩,.inr ⟨_,rfl,.same rfl X2⟩,.inr ⟨_,rfl,.same rfl s7⟩,.inr ⟨_,rfl,.same rfl (l2 ⟨a0E _ _ _,tt⟩)⟩,.inr ⟨_,rfl,.same rfl (b1K j5)⟩,.inl rfl,tt⟩⟩ ?_; intro i ⟨hi,hall⟩
  refine a7 (a6 ?_)
  refine cY p8 ?_
  refine a8 (a7 ?_)
  refine b9 tt rfl (fun h2=>?_) (fun h2=>?_)
  ·have hlt:i < l.length:=by simp at h2; omega
   obtain ⟨y,hy⟩:∃ y,l[i]? = some y:=⟨l[i]'hlt,by simp⟩
   have hyl:=hk y (List.mem_of_getElem? hy)
   refine c8 (a7 (d9 (a7 (a6 ?_))))
   refine cY (o9 rfl tt tt rfl rfl Tryz.runUnderlying36 Tryz.sizeOf39 c4 (l6 hy) rfl) ?_; refine cY a6x ?_
   refine cD (m9 rfl Tryz.zeroValue39 rfl j3 ?_)
   refine cD (j1 rfl tt tt rfl c6 Tryz.sizeOf39 j3 rfl rfl (nb rfl) ?_)
   refine a8 (a7 (a7 (a6 ?_)))
   refine cY E5 ?_; refine cY (i8 rfl Tryz.call31 ⟨tt,tt⟩ (a5t y hyl.1 hyl.2 _) rfl) ?_; refine cY F1 ?_; refine a8 ?_
   refine b9 tt rfl (fun h3=>?_) (fun h3=>?_)
   ·have hv2:¬ (S5 fl=0∧a7J ev=true∧l.all F4=true):=fun u=>b5M hy (by simpa using h3) u.2.2
    refine a7 (a6 ?_)
    refine cY i7 ?_; refine cY i7 ?_
    refine a8 (d5 ?_)
    exact ⟨_,o4 (rs:=[.tmp 6,.tmp 7]) (cs:=[_,_]) rfl ⟨⟨tt,c6⟩,⟨tt,c6⟩,tt⟩ (Nat.ne_of_beq_eq_false rfl),(by rw [O0,if_neg hv2]; exact ⟨(),.ret (.tups ⟨.old (m4 _ ([]:List Str) _),.old (.val _),tt⟩),tt⟩)⟩
   ·have hyk:F4 y=true:=by simpa using h3
    have htk1:l.take (i+1)=l.take i++[y]:=by rw [List.take_add_one,hy]; rfl
    refine c8 (a6 ?_)
    refine cY b7 ?_; refine cY b7 ?_; refine cY a1x ?_; refine cY t7 ?_; refine cY (H5 (vc:=fun c:CV=>c) (l:=N4 6) (a:=y.k) P5 rfl tt tt rfl rfl Tryz.runUnderlying106 Tryz.zeroValue108 rfl rfl (b8K 6 y.k)) ?_; refine cY b7 ?_; refine cY E5 ?_; refine cY (b2C rfl tt rfl ⟨tt,tt,tt⟩ (by exact b8V (w:=2) (q1:=3) (q2:=4) (t:=5) (b:=6) ⟨rfl,rfl,rfl,rfl,a7k ⟨by decide,by decide,by decide,by decide,by decide,by decide⟩⟩ hok rfl hvr hel hyk) rfl) ?_; refine cY (y7 [scv ((P0 fl (E7 fl).2.1 (E7 fl).2.2 ev) y)] rfl ⟨tt,tt⟩ Tryz.runUnderlying26 Tryz.sizeOf9 Tryz.zeroValue9 rfl rfl rfl rfl rfl rfl rfl rfl rfl) ?_
    refine cD (L3 rfl tt tt rfl m5 q_4 Tryz.runUnderlying26 Tryz.sizeOf9 Tryz.typeInfo9 Tryz.zeroValue9 rfl (.inr rfl) a1Y b3q L1 (((l.take (i+1)).map (P0 fl (E7 fl).2.1 (E7 fl).2.2 ev)).map scv) ((l.take (i+1)).map (P0 fl (E7 fl).2.1 (E7 fl).2.2 ev)).length (by rw [htk1,List.map_append,List.map_append]; rfl) (by rw [htk1]; simp) ?_)
    refine cY c7 ?_
    refine a8 (a6 ?_)
    refine cY n9 ?_; refine cY b7 ?_; refine a8 ?_
    exact ⟨(i+1),[0,1,2,3,4,5,6,7,10],⟨by omega,by omega,b3u hy hall hyk⟩,⟨rfl,rfl⟩,⟨⟨tt,q_7⟩,⟨tt,q_7⟩,⟨tt,q_7⟩,⟨tt,q_7⟩,⟨tt,q_7⟩,⟨tt,q_7⟩,tt⟩,⟨.inr ⟨_,rfl,.same rfl a3N⟩,.inr ⟨_,rfl,.same rfl (l2 ⟨a0E _ _ _,tt⟩)⟩,.inr ⟨_,rfl,.same rfl a6z⟩,.inr ⟨_,rfl,.same rfl X8⟩,.inr ⟨_,rfl,.same rfl X2⟩,.inr ⟨_,rfl,.same rfl s7⟩,.inr ⟨_,rfl,.same rfl (l2 ⟨a0E _ _ _,tt⟩)⟩,.inr ⟨_,rfl,.same rfl (b1K j5)⟩,.inr ⟨_,rfl,.same rfl s7⟩,tt⟩⟩
  ·have hge:l.length≤i:=by simp at h2; omega
   have hta:l.take i=l:=List.take_of_length_le hge
   refine m8 (a7 (a6 ?_))
   refine cY b7 ?_; refine cY c7 ?_; refine cY i7 ?_
   refine a8 (d5 ?_)
   exact ⟨_,o4 (rs:=[.tmp 6,.tmp 7]) (cs:=[_,_]) rfl ⟨⟨tt,c6⟩,⟨tt,c6⟩,tt⟩ (Nat.ne_of_beq_eq_false rfl),(by rw [O0,if_pos ⟨hv.1,hv.2,by rw [← hta]; exact hall⟩,hta]; exact ⟨(),.ret (.tups ⟨.tok (fun r hr c hc=>(A4 (f:=scv) (fun _=>H6.all ⟨.val _,tt⟩) _) r hr c hc),.old (.val _),tt⟩),tt⟩)⟩
theorem b0L (o:Option (List Str)):p5 (b1l o):=d7 (cs:=[_,_]) ⟨c9 _ _,.val _,tt⟩
theorem a3u (fl:List Fi) (nn:Bool) (hfl:∀ f∈fl,f.p.length≤1000000000) (ev:List Va) (en:Bool) (hev:∀ v∈ev,v.n.length≤1000000000) (hvr:∀ v∈ev,-9223372036854775808≤v.v∧v.v≤9223372036854775807) (hel:ev.length≤1000000000) (l:List Ky) (nk:Bool) (hl:l.length≤1000000000) (hk:∀ k∈l,k.a.length≤1000000000∧k.b.length≤1000000000) (σ:List c5):b8 CC 14 [.agg (V8 fl nn),.agg (P3 ev en),.list (l.map Ky.cv) nk none] σ fun r τ=>r = .ret (b1l (O0 fl ev l))∧τ=σ :=
 (J6 (res:=fun _:Unit=>.ret (b1l (O0 fl ev l))) (P:=fun _=>True) hCC (fun a h=>by simp at h; rcases h with rfl | rfl | rfl; exact d6 (cs:=V8 _ _) ⟨x8 _ _,tt⟩; exact d6 (cs:=P3 _ _) ⟨A9 _ _,tt⟩; exact j9 _ _) (a7C fl nn hfl ev en hev hvr hel l nk hl hk) (fun _ _=>b0L _) σ).mono fun r τ ⟨_,h1,h2,_⟩=>⟨h1,h2⟩
def b1v:List Str:=([[97,46,115,114,99],[98,46,115,114,99],[100,47,99,46,115,114,99],[120,46,115,114,99],[97,46,100,97,116],[100,47,98,46,100,97,116],[99],[122,48,46,115,114,99],[122,49,46,115,114,99],[122,50,46,115,114,99]]:List Str)
structure b73 (B:Nat) (fl:List Fi):Prop where
 srt:c0e fl
 pth:∀ f∈fl,f.p∈b1v
 byt:∀ f∈fl,f.b.length≤B
theorem b73.len {B:Nat} {fl:List Fi} (h:b73 B fl):fl.length≤10:=by
 have hn:(fl.map Fi.p).Nodup:=by
  rw [List.nodup_iff_pairwise_ne,List.pairwise_map]
  exact h.srt.imp fun {a b} hab he=>by rw [he,b5Y] at hab; cases hab
 have hs:∀ x∈fl.map Fi.p,x∈b1v:=fun x hx=>by
  obtain ⟨f,hf,rfl⟩:=List.mem_map.1 hx
  exact h.pth f hf
 have:=List.Nodup.length_le_of_subset hn (fun x hx=>hs x hx)
 rw [List.length_map] at this
 exact this
theorem b5R {α:Type} {l:List α} {i:Nat} (h:i < l.length):∃ y,l[i]? = some y∧y∈l:=⟨l[i],by simp [h],List.getElem_mem h⟩
end Go.Proofs.YtoblbdedgjfeaaaGreatDoor
