/- Part 6 of what the claim needs: values without addresses, and what the program's functions do with them. -/
import Derived.Test.YtoblbdedgjfeaaaGreatDoorZ5
namespace Go.Proofs.YtoblbdedgjfeaaaGreatDoor
open Go Go.Cl
noncomputable def a1h (fl:List Fi) (ev:List Va) (k:Ky):Option Str:=(O0 fl ev [k]).map fun l=>l.getD 0 []
def b0e (o:Option Str):CV:=.tup [sv (o.getD []),.val (.int .i64 (if o.isSome then 0 else 1))]
theorem a6T {fl:List Fi} {ev:List Va} {k:List Ky} {l:List Str} (h:O0 fl ev k=some l):l=k.map (P0 fl (E7 fl).2.1 (E7 fl).2.2 ev):=by
 unfold O0 at h
 split at h
 ·injection h with h; exact h.symm
 ·cases h
set_option maxRecDepth 10000 in
theorem a8L (fl:List Fi) (nn:Bool) (hfl:∀ f∈fl,f.p.length≤1000000000) (ev:List Va) (en:Bool) (hev:∀ v∈ev,v.n.length≤1000000000) (hvr:∀ v∈ev,-9223372036854775808≤v.v∧v.v≤9223372036854775807) (hel:ev.length≤1000000000) (k:Ky) (hk:k.a.length≤1000000000∧k.b.length≤1000000000):b8 CC 12 [.agg (V8 fl nn),.agg (P3 ev en),.agg k.cells] [] fun r τ=>∃ _:Unit,a1i 0 τ r (.ret (b0e (a1h fl ev k)))∧True:=by
 refine (d8 Tryz.func12 rfl rfl ?_)
 refine a7 (a6 ?_)
 refine cD (w9 rfl tt c6 j3 ?_)
 refine cD (w9 rfl tt c6 j3 ?_)
 refine cD (w9 rfl tt c6 j3 ?_)
 refine cY i7 ?_; refine cY i7 ?_
 refine a8 (a7 (a6 ?_))
 refine cY a3F ?_; refine cY b52 ?_; refine cY E5 ?_; refine cY (y7 ([k].map Ky.cv) rfl ⟨tt,tt⟩ Tryz.runUnderlying36 Tryz.sizeOf39 Tryz.zeroValue39 rfl rfl rfl rfl rfl rfl rfl rfl rfl) ?_; refine cY (i8 rfl Tryz.call14 ⟨tt,tt,tt,tt⟩ (by exact a3u fl nn hfl ev en hev hvr hel [k] true m5 (fun k1 h1=>by simp at h1; subst h1; exact hk) _) rfl) ?_; refine cY b7 ?_; refine cY A0 ?_; refine cY A0 ?_; refine cY c7 ?_; refine cY c7 ?_
 refine a8 (a7 (a7 (a6 ?_)))
 refine cY b7 ?_; refine cY k7 ?_; refine a8 ?_
 refine b9 tt rfl (fun h1=>?_) (fun h1=>?_)
 ·have hn:O0 fl ev [k]=none:=by
   cases h:O0 fl ev [k] with
   | none=>rfl
   | some l=>rw [h] at h1; simp at h1
  refine a7 (a6 ?_)
  refine cY b7 ?_; refine cY i7 ?_; refine cY c7 ?_
  refine a8 (d5 ?_)
  exact ⟨_,o4 (rs:=[.tmp 6,.tmp 7]) (cs:=[_,_]) rfl ⟨⟨tt,c6⟩,⟨tt,c6⟩,tt⟩ (Nat.ne_of_beq_eq_false rfl),(by rw [a1h,hn]; exact ⟨(),.ret (.old (.tup fun i c hi=>by rcases i with _ | _ | i <;> first|(injection hi with hi; subst hi; exact .val _) | cases hi)),tt⟩)⟩
 ·obtain ⟨s,hs⟩:∃ s,O0 fl ev [k]=some [s]:=by
   cases h:O0 fl ev [k] with
   | none=>rw [h] at h1; simp at h1
   | some l=>exact ⟨_,by rw [a6T h]; rfl⟩
  rw [hs]
  refine c8 (a7 (a6 ?_))
  refine cY b7 ?_; refine cY (o9 rfl tt rfl rfl rfl Tryz.runUnderlying26 Tryz.sizeOf9 c4 (l6 (rfl:[s][0]? = some s)) rfl) ?_; refine cY R4 ?_; refine cY c7 ?_; refine cY i7 ?_
  refine a8 (d5 ?_)
  exact ⟨_,o4 (rs:=[.tmp 6,.tmp 7]) (cs:=[_,_]) rfl ⟨⟨tt,c6⟩,⟨tt,c6⟩,tt⟩ (Nat.ne_of_beq_eq_false rfl),(by rw [a1h,hs]; exact ⟨(),.ret (.old (.tup fun i c hi=>by rcases i with _ | _ | i <;> first|(injection hi with hi; subst hi; exact .val _) | cases hi)),tt⟩)⟩
theorem a4m (fl:List Fi) (nn:Bool) (hfl:∀ f∈fl,f.p.length≤1000000000) (ev:List Va) (en:Bool) (hev:∀ v∈ev,v.n.length≤1000000000) (hvr:∀ v∈ev,-9223372036854775808≤v.v∧v.v≤9223372036854775807) (hel:ev.length≤1000000000) (k:Ky) (hk:k.a.length≤1000000000∧k.b.length≤1000000000) (σ:List c5):b8 CC 12 [.agg (V8 fl nn),.agg (P3 ev en),.agg k.cells] σ fun r τ=>r = .ret (b0e (a1h fl ev k))∧τ=σ :=
 (J6 (res:=fun _:Unit=>.ret (b0e (a1h fl ev k))) (P:=fun _=>True) hCC (fun a h=>by simp at h; rcases h with rfl | rfl | rfl; exact d6 (cs:=V8 _ _) ⟨x8 _ _,tt⟩; exact d6 (cs:=P3 _ _) ⟨A9 _ _,tt⟩; exact d6 (cs:=[_,_,_]) ⟨.val _,.val _,.val _,tt⟩) (a8L fl nn hfl ev en hev hvr hel k hk) (fun _ _=>d7 (cs:=[_,_]) ⟨.val _,.val _,tt⟩) σ).mono fun r τ ⟨_,h1,h2,_⟩=>⟨h1,h2⟩
def a3x:List Str→List Str→Int→Int
 | x::l,y::m,i=>if x=y then a3x l m (i+1) else i
 | _,_,_=>-1
noncomputable def a3J (fl:List Fi) (ev:List Va) (k:List Ky) (ts:List Str):Option Int:=match O0 fl ev k with
 | some l=>if k.length=ts.length then some (a3x l ts 0) else none
 | none=>none
def b5w (o:Option Int):CV:=.tup [.val (.int .i64 (o.getD 0)),.val (.int .i64 (if o.isSome then 0 else 1))]
theorem b0d {l m:List Str} {i:Nat} {x y:Str} (hx:l[i]? = some x) (hy:m[i]? = some y) (j:Int):a3x (l.drop i) (m.drop i) j=if x=y then a3x (l.drop (i+1)) (m.drop (i+1)) (j+1) else j:=by
 obtain ⟨h1,rfl⟩:=List.getElem?_eq_some_iff.1 hx
 obtain ⟨h2,rfl⟩:=List.getElem?_eq_some_iff.1 hy
 rw [List.drop_eq_getElem_cons h1,List.drop_eq_getElem_cons h2,a3x]
set_option maxRecDepth 10000 in
theorem b2b (fl:List Fi) (nn:Bool) (hfl:∀ f∈fl,f.p.length≤1000000000) (ev:List Va) (en:Bool) (hev:∀ v∈ev,v.n.length≤1000000000) (hvr:∀ v∈ev,-9223372036854775808≤v.v∧v.v≤9223372036854775807) (hel:ev.length≤1000000000) (k:List Ky) (nk:Bool) (hl:k.length≤1000000000) (hk:∀ x∈k,x.a.length≤1000000000∧x.b.length≤1000000000) (ts:List Str) (nt:Bool) (htl:ts.length≤4611686018427387904):b8 CC 19 [.agg (V8 fl nn),.agg (P3 ev en),.list (k.map Ky.cv) nk none,.list (ts.map scv) nt none] [] fun r τ=>∃ _:Unit,a1i 0 τ r (.ret (b5w (a3J fl ev k ts)))∧True:=by
 refine (d8 Tryz.func19 rfl rfl ?_)
 refine a7 (a6 ?_)
 refine cD (w9 rfl tt c6 j3 ?_)
 refine cD (w9 rfl tt c6 j3 ?_)
 refine cY i7 ?_; refine cY i7 ?_
 refine a8 (a7 (a6 ?_))
 refine cY a3F ?_; refine cY b52 ?_; refine cY b7 ?_; refine cY (i8 rfl Tryz.call14 ⟨tt,tt,tt,tt⟩ (a3u fl nn hfl ev en hev hvr hel k nk hl hk _) rfl) ?_; refine cY b7 ?_; refine cY A0 ?_; refine cY A0 ?_; refine cY c7 ?_; refine cY c7 ?_
 refine a8 (a7 (a7 (a6 ?_)))
 refine cY b7 ?_; refine cY k7 ?_; refine cY b7 ?_; refine cG o6 ?_; refine cG (fun hg=>S3 rfl hg rfl Tryz.runUnderlying36 a2q rfl) ?_; refine cG o6 ?_; refine cG (fun hg=>S3 rfl hg rfl Tryz.runUnderlying26 a2q rfl) ?_; refine cG a4C ?_; refine cY J0 ?_; refine a8 ?_
 refine b9 tt rfl (fun h1=>?_) (fun h1=>?_)
 ·have hn:a3J fl ev k ts=none:=by
   unfold a3J
   cases h:O0 fl ev k with
   | none=>rfl
   | some l =>
    rw [h] at h1
    have hkt:¬ k.length=ts.length:=by simp at h1; omega
    exact if_neg hkt
  refine a7 (a6 ?_)
  refine cY i7 ?_; refine cY i7 ?_
  refine a8 (d5 ?_)
  exact ⟨_,o4 (rs:=[.tmp 8,.tmp 9]) (cs:=[_,_]) rfl ⟨⟨tt,c6⟩,⟨tt,c6⟩,tt⟩ (Nat.ne_of_beq_eq_false rfl),(by rw [hn]; exact ⟨(),.ret (.old (.tup fun i c hi=>by rcases i with _ | _ | i <;> first|(injection hi with hi; subst hi; exact .val _) | cases hi)),tt⟩)⟩
 ·obtain ⟨l,hs⟩:∃ l,O0 fl ev k=some l:=by
   cases h:O0 fl ev k with
   | none=>rw [h] at h1; simp at h1
   | some l=>exact ⟨_,rfl⟩
  rw [hs] at h1 ⊢
  have hkt:k.length=ts.length:=by simp at h1; omega
  have hlk:l.length=k.length:=by rw [a6T hs]; simp
  have hh:a3J fl ev k ts=some (a3x l ts 0):=by unfold a3J; rw [hs]; exact if_pos hkt
  refine c8 (a7 (a7 (a6 ?_)))
  refine cY b7 ?_; refine cY Y4 ?_; refine cY z8 ?_
  refine a8 (d9 ?_)
  refine r6 hCC (fun i:Nat=>[(3,(.list (ts.map scv) nt none)),(30,(.list (l.map scv) (gnn l.length) none)),(31,(.val (.int .i64 ((l.length:Int))))),(32,(.val (.int .i64 ((i:Int)))))]) (fun _=>[.box (V8 fl nn),.box (P3 ev en)]) (fun i=>i≤l.length∧a3x l ts 0=a3x (l.drop i) (ts.drop i) i) (fun i=>l.length - i) 0 ⟨Nat.zero_le _,rfl⟩ ⟨⟨tt,rfl⟩,⟨tt,rfl⟩,⟨tt,rfl⟩,⟨tt,rfl⟩,tt⟩ (extra0:=[]) rfl y9 (fun a ha=>by repeat' (first|exact tt|exact .val _|exact .ptr (nb rfl)|exact .map (nb rfl)|exact m4 _ _ _|exact (d6 (cs:=V8 _ _) ⟨x8 _ _,tt⟩).old|exact G4 _ _ _|exact a0E _ _ _ | refine l2 ?_ | refine ⟨?_,?_⟩)) ?_; intro i ⟨hi,hr⟩
  refine a7 (a6 ?_)
  refine cY p8 ?_
  refine a8 (a7 ?_)
  refine b9 tt rfl (fun h2=>?_) (fun h2=>?_)
  ·have hlt:i < l.length:=by simp at h2; omega
   obtain ⟨x,hx,_⟩:=b5R hlt
   obtain ⟨y,hy,_⟩:=b5R (l:=ts) (i:=i) c4
   rw [b0d hx hy] at hr
   refine c8 (a7 (d9 (a7 (a6 ?_))))
   refine cY b7 ?_; refine cY (o9 rfl tt tt rfl rfl Tryz.runUnderlying26 Tryz.sizeOf9 c4 (l6 hx) rfl) ?_; refine cY R4 ?_; refine cY c7 ?_; refine cY c7 ?_
   refine a8 (a7 (a6 ?_))
   refine cY b7 ?_; refine cY b7 ?_; refine cY b7 ?_; refine cY b8c ?_; refine cY R4 ?_; refine cY (Y3 rfl tt tt rfl rfl (a8c _ _)) ?_; refine a8 ?_
   refine b9 tt rfl (fun h3=>?_) (fun h3=>?_)
   ·have hxy:¬ x=y:=by simpa using h3
    rw [if_neg hxy] at hr
    refine a7 (a6 ?_)
    refine cY b7 ?_; refine cY c7 ?_; refine cY i7 ?_
    refine a8 (d5 ?_)
    exact ⟨_,o4 (rs:=[.tmp 8,.tmp 9]) (cs:=[_,_]) rfl ⟨⟨tt,c6⟩,⟨tt,c6⟩,tt⟩ (Nat.ne_of_beq_eq_false rfl),b9j⟩
   ·have hxy:x=y:=by simpa using h3
    rw [if_pos hxy] at hr
    refine c8 (a6 ?_)
    refine cY n9 ?_; refine cY b7 ?_; refine a8 ?_
    exact ⟨(i+1),_,⟨by omega,by omega,hr⟩,⟨⟨tt,rfl⟩,⟨tt,rfl⟩,⟨tt,rfl⟩,⟨tt,rfl⟩,tt⟩,rfl⟩
  ·have hge:l.length≤i:=by simp at h2; omega
   rw [List.drop_eq_nil_of_le hge] at hr
   refine m8 (a7 (a6 ?_))
   refine cY i7 ?_; refine cY i7 ?_
   refine a8 (d5 ?_)
   exact ⟨_,o4 (rs:=[.tmp 8,.tmp 9]) (cs:=[_,_]) rfl ⟨⟨tt,c6⟩,⟨tt,c6⟩,tt⟩ (Nat.ne_of_beq_eq_false rfl),b9j⟩
theorem b4b (fl:List Fi) (nn:Bool) (hfl:∀ f∈fl,f.p.length≤1000000000) (ev:List Va) (en:Bool) (hev:∀ v∈ev,v.n.length≤1000000000) (hvr:∀ v∈ev,-9223372036854775808≤v.v∧v.v≤9223372036854775807) (hel:ev.length≤1000000000) (k:List Ky) (nk:Bool) (hl:k.length≤1000000000) (hk:∀ x∈k,x.a.length≤1000000000∧x.b.length≤1000000000) (ts:List Str) (nt:Bool) (htl:ts.length≤4611686018427387904) (σ:List c5):b8 CC 19 [.agg (V8 fl nn),.agg (P3 ev en),.list (k.map Ky.cv) nk none,.list (ts.map scv) nt none] σ fun r τ=>r = .ret (b5w (a3J fl ev k ts))∧τ=σ :=
 (J6 (res:=fun _:Unit=>.ret (b5w (a3J fl ev k ts))) (P:=fun _=>True) hCC (fun a h=>by simp at h; rcases h with rfl | rfl | rfl | rfl; exact d6 (cs:=V8 _ _) ⟨x8 _ _,tt⟩; exact d6 (cs:=P3 _ _) ⟨A9 _ _,tt⟩; exact j9 _ _; exact c9 _ _) (b2b fl nn hfl ev en hev hvr hel k nk hl hk ts nt htl) (fun _ _=>d7 (cs:=[_,_]) ⟨.val _,.val _,tt⟩) σ).mono fun r τ ⟨_,h1,h2,_⟩=>⟨h1,h2⟩
def awF:List Fi:=[⟨[97,46,100,97,116],[45]⟩,⟨[97,46,115,114,99],[112,97,99,107,97,103,101,32,112,59,32,116,101,115,116,32,116,61,49,59]⟩]
theorem aw1:a1h awF [] ⟨4,[97,46,100,97,116],[]⟩=some [61,45]:=by kernel_rfl
def awS:Src:=⟨[112],[],[⟨2,[116],[],[⟨1,1,0,[],[]⟩]⟩]⟩
def awD:De:=⟨2,[116],[],[⟨1,1,0,[],[]⟩]⟩
theorem b4R {d:De} (h:DeG d) {k u o:Int} {nm:Str} (hb:d.body=[⟨k,u,o,nm,[]⟩]):L0 d=(Tr.n k u o nm []).txt d.params 0:=by
 obtain ⟨t,h1,h2,h3⟩:=a4S h
 rw [h3]
 rw [hb] at h1
 have hl:=Tr.flat_len t 0
 rw [← h1] at hl
 rcases t with ⟨k',u',o',nm',ch⟩
 have hch:ch=[]:=by
  rcases ch with _ | ⟨c,ch⟩
  ·rfl
  ·have:=c.size_pos
   simp only [Tr.size,p6,List.length_cons,List.length_nil] at hl
   omega
 subst hch
 simp only [Tr.flat,C5,o3,List.nil_append,List.cons.injEq,Ex.mk.injEq,and_true] at h1
 obtain ⟨rfl,rfl,rfl,rfl⟩:=h1
 rfl
theorem aw2:a1h awF [] ⟨2,[112],[116]⟩=some [61,112,97,99,107,97,103,101,32,112,59,10,116,101,115,116,32,116,32,61,32,49,59,10]:=by
 have hv:S5 awF=0:=by kernel_rfl
 have hok:=b1R hv
 have hg:glk (E7 awF).2.1 [97,46,115,114,99]=some awS:=by kernel_rfl
 have hx:Y0 true (E7 awF).2.2 2 [112] [116]=⟨[112],[116],2,[97,46,115,114,99],0,1⟩:=by kernel_rfl
 have hd:DeG awD:=(hok.src _ _ hg).dec awD (by simp [awS,awD])
 have hb:L0 awD=[49]:=(b4R hd rfl).trans j6
 have ht:W6 awS awD=[112,97,99,107,97,103,101,32,112,59,10,116,101,115,116,32,116,32,61,32,49,59,10]:=by
  unfold W6
  rw [hb]
  kernel_rfl
 have hc:O0 awF [] [⟨2,[112],[116]⟩]=some [[61]++W6 awS awD]:=by
  unfold O0
  rw [if_pos ⟨hv,by kernel_rfl,by kernel_rfl⟩]
  have:P0 awF (E7 awF).2.1 (E7 awF).2.2 [] ⟨2,[112],[116]⟩=[61]++W6 awS awD:=by
   unfold P0
   rw [if_neg j5,if_pos rfl,hx]
   show Z0 _ _=_
   unfold Z0
   rw [if_neg j5,if_pos rfl]
   unfold b1S
   rw [hg]
   rfl
  rw [List.map_cons,this]
  rfl
 unfold a1h
 rw [hc,ht]
 rfl
theorem aw3:a3J awF [] [⟨4,[99],[]⟩] [[45]]=some (-1):=by kernel_rfl
theorem b8d:∀ f∈awF,f.p.length≤1000000000:=by decide
theorem b9S (σ:List c5):b8 CC 12 [.agg (V8 awF true),.agg (P3 [] false),CV.agg (Ky.cells ⟨4,[97,46,100,97,116],[]⟩)] σ fun r τ=>r = .ret (.tup [sv [61,45],.val (.int .i64 0)])∧τ=σ:=by
 have h:=a4m awF true b8d [] false m5 m5 m5 ⟨4,[97,46,100,97,116],[]⟩ ⟨by decide,by decide⟩ σ
 rw [aw1] at h; exact h
theorem b9Z (σ:List c5):b8 CC 12 [.agg (V8 awF true),.agg (P3 [] false),CV.agg (Ky.cells ⟨2,[112],[116]⟩)] σ fun r τ=>r = .ret (.tup [sv [61,112,97,99,107,97,103,101,32,112,59,10,116,101,115,116,32,116,32,61,32,49,59,10],.val (.int .i64 0)])∧τ=σ:=by
 have h:=a4m awF true b8d [] false m5 m5 m5 ⟨2,[112],[116]⟩ ⟨by decide,by decide⟩ σ
 rw [aw2] at h; exact h
theorem b9L (σ:List c5):b8 CC 19 [.agg (V8 awF true),.agg (P3 [] false),.list ([(⟨4,[99],[]⟩:Ky)].map Ky.cv) true none,.list ([([45]:Str)].map scv) true none] σ fun r τ=>r = .ret (.tup [.val (.int .i64 (-1)),.val (.int .i64 0)])∧τ=σ:=by
 have h:=b4b awF true b8d [] false m5 m5 m5 [⟨4,[99],[]⟩] true m5 (fun x h=>by simp at h; subst h; exact ⟨by decide,by decide⟩) [[45]] true m5 σ
 rw [aw3] at h; exact h
set_option maxRecDepth 10000 in
theorem b4D  : b8 CC 21 [] [] fun r σ'=>r = .ret (.val (.bool (true)))∧σ'=[]:=by
 refine j4 (d8 Tryz.func21 rfl rfl ?_)
 refine a7 (a6 ?_)
 refine cY i7 ?_
 refine a8 (a7 (a6 ?_))
 refine cY b9t ?_; refine cY b9t ?_; refine cY (y7 (awF.map Fi.cv) rfl ⟨tt,tt,tt⟩ Tryz.runUnderlying30 Tryz.sizeOf57 Tryz.zeroValue57 rfl rfl rfl rfl rfl rfl rfl rfl rfl) ?_; refine cY (v6 #[(0,1)] rfl ⟨tt,tt⟩ Tryz.runUnderlying32 Tryz.zeroValue32 rfl ⟨_,rfl⟩ (fun w=>by kernel_rfl) rfl rfl) ?_
 refine cD (m9 rfl Tryz.zeroValue32 rfl j3 ?_)
 refine cD (j1 rfl tt tt rfl c6 Tryz.sizeOf32 j3 rfl rfl (nb rfl) ?_)
 refine a8 (a7 (a6 ?_))
 refine cY a3F ?_; refine cY b8y ?_; refine cY b9Y ?_; refine cY (i8 rfl Tryz.call12 ⟨tt,tt,tt,tt⟩ (by exact b9S _) rfl) ?_; refine cY b7 ?_; refine cY A0 ?_; refine cY A0 ?_; refine cY c7 ?_; refine cY c7 ?_
 refine a8 (a7 (a6 ?_))
 refine cY a3F ?_; refine cY b8y ?_; refine cY (v6 #[(0,1),(1,1),(2,1)] rfl ⟨rfl,rfl,rfl,tt⟩ Tryz.runUnderlying39 Tryz.zeroValue39 rfl ⟨_,rfl⟩ (fun w=>by kernel_rfl) rfl rfl) ?_; refine cY (i8 rfl Tryz.call12 ⟨tt,tt,tt,tt⟩ (by exact b9Z _) rfl) ?_; refine cY b7 ?_; refine cY A0 ?_; refine cY A0 ?_; refine cY c7 ?_; refine cY c7 ?_
 refine a8 (a7 (a6 ?_))
 refine cY a3F ?_; refine cY b8y ?_; refine cY b9Y ?_; refine cY (y7 ([(⟨4,[99],[]⟩:Ky)].map Ky.cv) rfl ⟨tt,tt⟩ Tryz.runUnderlying36 Tryz.sizeOf39 Tryz.zeroValue39 rfl rfl rfl rfl rfl rfl rfl rfl rfl) ?_; refine cY (y7 ([([45]:Str)].map scv) rfl ⟨rfl,tt⟩ Tryz.runUnderlying26 Tryz.sizeOf9 Tryz.zeroValue9 rfl rfl rfl rfl rfl rfl rfl rfl rfl) ?_; refine cY (i8 rfl Tryz.call19 ⟨tt,tt,tt,tt,tt⟩ (by exact b9L _) rfl) ?_; refine cY b7 ?_; refine cY A0 ?_; refine cY A0 ?_; refine cY c7 ?_; refine cY c7 ?_
 refine a8 (a7 (a6 ?_))
 refine cY b7 ?_; refine cY k7 ?_; refine cY b7 ?_; refine cG o6 ?_; refine cG A6 ?_; refine cY p9 ?_; refine cY b7 ?_; refine cG o6 ?_; refine cG A6 ?_; refine cY p9 ?_; refine cY b7 ?_; refine cG o6 ?_; refine cG a10 ?_; refine cY p9 ?_; refine cY b7 ?_; refine cG o6 ?_; refine cG a10 ?_; refine cY p9 ?_; refine cY b7 ?_; refine cG o6 ?_; refine cG A6 ?_; refine cY p9 ?_; refine cY c7 ?_
 refine a8 (d5 ?_)
 exact ⟨_,l4 rfl tt c6,_,_,rfl,rfl,j8 (by rfl)⟩
theorem b0k  (σ:List c5):b8 CC 21 [] σ fun r σ'=>r = .ret (.val (.bool (true)))∧σ'=σ :=
 b8.anyw hCC (by repeat' (first|exact .val _|exact d4 _ _|exact c9 _ _|exact x8 _ _|exact tt | refine d6 ?_ | refine d7 ?_ | refine ⟨?_,?_⟩)) (by repeat' (first|exact .val _|exact d4 _ _|exact c9 _ _|exact x8 _ _|exact tt | refine d6 ?_ | refine d7 ?_ | refine ⟨?_,?_⟩)) (b4D) σ
set_option maxRecDepth 10000 in
theorem b2Q (l:List Int) (nn:Bool) (k:Nat) (hat:k≤800000000) (hl:l.length≤maxLen):b8 CC 11 [.ptr 0 0] [J9 l nn k] fun r σ'=>∃ a:List Ky × Nat,r = .ret (.list (a.1.map Ky.cv) (gnn a.1.length) (P6 a.1.length 1))∧σ'=[J9 l nn a.2,r9 a.1.length]∧(a.1.length≤8∧a3i a.1∧(k≤a.2∧a.2≤k+60)):=by
 have hb:=a4a (v:=a5v l k) (n:=8) c4
 have hb1:0≤B3 l k 8:=hb.1
 have hb2:B3 l k 8 < 8:=hb.2
 refine (d8 Tryz.func11 rfl rfl ?_)
 refine a7 (a6 ?_)
 refine cY i7 ?_
 refine a8 (a7 (a6 ?_))
 refine cY i7 ?_
 refine a8 (a7 (a7 (a6 ?_)))
 refine cY b7 ?_
 refine cD (k8 rfl Tryz.call18 ⟨tt,rfl,tt⟩ (Z9 l nn k _ 0 rfl c4 hl 8 c4) rfl ?_)
 intro _ _; refine cY c7 ?_
 refine a8 (d9 ?_)
 refine A2 hCC 1 rfl (α:=List Ky × Nat) (fun x=>[(0,.ptr 0 0),(3,(.list (x.1.map Ky.cv) (gnn x.1.length) (P6 x.1.length 1))),(4,(.val (.int .i64 ((B3 l k 8 - (x.1.length:Int))))))]) (fun x=>[J9 l nn x.2,r9 x.1.length]) (fun x=>(x.1.length:Int)≤B3 l k 8∧(k+1≤x.2∧x.2≤k+1+7*x.1.length)∧a3i x.1) (fun x=>8 - x.1.length) ⟨([],k+1),[0,7],⟨by simpa using hb1,by simp,fun x hx=>by simp at hx⟩,⟨rfl,rfl⟩,⟨⟨tt,q_3⟩,⟨tt,q_3⟩,⟨tt,(by first|exact .ptr rfl|exact .map rfl|exact .vec rfl|exact .same (congrArg (fun x=>CV.val (.int .i64 x)) (by simp:B3 l k 8=B3 l k 8 - ((([]:List Ky).length:Nat):Int))) a5x|exact z7.grow (f:=Ky.cv) (fun _=>⟨.val _,.val _,.val _,tt⟩) rfl)⟩,tt⟩,(by repeat' (first|exact tt|exact .inl rfl|exact .inr ⟨_,rfl,.same rfl s7⟩|exact .inr ⟨_,rfl,.same (gobj_snoc _ _ _) s7⟩|exact .inr ⟨_,rfl,.same rfl (by repeat' (first|exact tt|exact .val _|exact .ptr (nb rfl)|exact .map (nb rfl)|exact a8P | refine l2 ?_ | refine ⟨?_,?_⟩))⟩|exact .inr ⟨_,rfl,.box (by repeat' (first|exact tt|exact .same rfl a5x|exact .ptr rfl|exact .map rfl|exact .vec rfl|exact z7.grow (f:=Ky.cv) (fun _=>⟨.val _,.val _,.val _,tt⟩) rfl | refine ⟨?_,?_⟩))⟩ | refine ⟨?_,?_⟩))⟩ ?_; intro ⟨acc,p⟩ ⟨hi,⟨hp1,hp2⟩,hs⟩
 dsimp only at hi hp1 hp2 hs ⊢
 refine a7 (a7 (a6 ?_))
 refine cY b7 ?_; refine cY k7 ?_; refine a8 ?_
 refine b9 tt rfl (fun h1=>?_) (fun h1=>?_)
 ·have hlt:(acc.length:Int) < B3 l k 8:=by simp at h1; omega
  refine c8 (a7 (d9 (a7 (a6 ?_))))
  refine cY b7 ?_
  refine cD (k8 rfl Tryz.call42 ⟨tt,tt⟩ (b78 l nn p c4 hl _ 0 rfl) rfl ?_)
  rintro ⟨x,p2⟩ ⟨hx,hq1,hq2⟩
  dsimp only at hx hq1 hq2 ⊢
  refine cD (m9 rfl Tryz.zeroValue39 rfl j3 ?_)
  refine cD (j1 rfl tt tt rfl c6 Tryz.sizeOf39 j3 rfl rfl (nb rfl) ?_)
  refine a8 (a7 (a7 (a6 ?_)))
  refine cY b7 ?_
  refine cD (k8 rfl Tryz.call18 ⟨tt,rfl,tt⟩ (Z9 l nn p2 _ 0 rfl c4 hl 20 c4) rfl ?_)
  intro _ _
  refine a8 (d9 (a7 (a6 ?_)))
  refine cY k7 ?_; refine cY c7 ?_; refine a8 ?_
  refine b9 tt rfl (fun h2=>?_) (fun h2=>?_)
  ·skip
   refine a6 ?_; refine cY b7 ?_; refine cY (y7 ([0,8,-1].map icv) rfl ⟨rfl,rfl,rfl,tt⟩ Tryz.runUnderlying22 Tryz.sizeOf3 Tryz.zeroValue3 rfl rfl rfl rfl rfl rfl rfl rfl rfl) ?_
   refine cD (k8 rfl Tryz.call43 ⟨tt,tt,tt⟩ (b2V l nn (p2+1) _ 0 rfl c4 hl [0,8,-1] m5 m5) rfl ?_)
   intro v hv; refine cY a1x ?_
   refine cD (j1 rfl tt tt rfl c6 Tryz.sizeOf3 (.inl rfl) rfl rfl (nb rfl) ?_)
   refine a8 (a6 ?_)
   refine cY b7 ?_; refine cY E5 ?_; refine cY (y7 [Ky.cv ({ x with k:=v})] rfl ⟨tt,tt⟩ Tryz.runUnderlying36 Tryz.sizeOf39 Tryz.zeroValue39 rfl rfl rfl rfl rfl rfl rfl rfl rfl) ?_
   refine cD (L3 rfl tt tt rfl m5 q_4 Tryz.runUnderlying36 Tryz.sizeOf39 Tryz.typeInfo39 Tryz.zeroValue39 rfl (.inr rfl) a1Y a87 L1 ((acc++[{ x with k:=v}]).map Ky.cv) (acc++[{ x with k:=v}]).length m5 m5 ?_)
   refine cY c7 ?_
   refine a8 (a6 ?_)
   refine cY b7 ?_; refine cY T4 ?_; refine cY c7 ?_; refine a8 ?_
   exact ⟨(acc++[{ x with k:=v}],p2+2),[0,3],⟨by simp; omega,by simp; omega,by simp; omega,hs.snoc ⟨hx.1,hx.2⟩⟩,⟨rfl,rfl⟩,⟨⟨tt,q_3⟩,⟨tt,q_3⟩,⟨tt,(by first|exact .ptr rfl|exact .map rfl|exact .vec rfl|exact .same (congrArg (fun x=>CV.val (.int .i64 x)) (by simp; omega:B3 l k 8 - (acc.length:Int) - 1=B3 l k 8 - ((acc++[{ x with k:=v}]).length:Int))) a5x|exact z7.grow (f:=Ky.cv) (fun _=>⟨.val _,.val _,.val _,tt⟩) rfl)⟩,tt⟩,(by repeat' (first|exact tt|exact .inl rfl|exact .inr ⟨_,rfl,.same rfl s7⟩|exact .inr ⟨_,rfl,.same (gobj_snoc _ _ _) s7⟩|exact .inr ⟨_,rfl,.same rfl (by repeat' (first|exact tt|exact .val _|exact .ptr (nb rfl)|exact .map (nb rfl)|exact a8P | refine l2 ?_ | refine ⟨?_,?_⟩))⟩|exact .inr ⟨_,rfl,.box (by repeat' (first|exact tt|exact .same rfl a5x|exact .ptr rfl|exact .map rfl|exact .vec rfl|exact z7.grow (f:=Ky.cv) (fun _=>⟨.val _,.val _,.val _,tt⟩) rfl | refine ⟨?_,?_⟩))⟩ | refine ⟨?_,?_⟩))⟩
  ·skip
   refine a7 (a6 ?_)
   refine cY k7 ?_; refine cY c7 ?_; refine a8 ?_
   refine b9 tt rfl (fun h3=>?_) (fun h3=>?_)
   ·skip
    refine a6 ?_; refine cY b7 ?_; refine cY (y7 (([[],[65],[97,46,98],[120,47,121]]:List Str).map scv) rfl ⟨rfl,rfl,rfl,rfl,tt⟩ Tryz.runUnderlying26 Tryz.sizeOf9 Tryz.zeroValue9 rfl rfl rfl rfl rfl rfl rfl rfl rfl) ?_
    refine cD (k8 rfl Tryz.call17 ⟨tt,tt,tt⟩ (O3 l nn (p2+1) _ 0 rfl c4 hl ([[],[65],[97,46,98],[120,47,121]]:List Str) m5 m5) rfl ?_)
    intro v hv
    have hv8:v.length≤8:=by revert v; decide
    refine cY A8 ?_
    refine cD (j1 rfl tt tt rfl c6 Tryz.sizeOf9 (.inl rfl) rfl rfl (nb rfl) ?_)
    refine a8 (a6 ?_)
    refine cY b7 ?_; refine cY E5 ?_; refine cY (y7 [Ky.cv ({ x with a:=v})] rfl ⟨tt,tt⟩ Tryz.runUnderlying36 Tryz.sizeOf39 Tryz.zeroValue39 rfl rfl rfl rfl rfl rfl rfl rfl rfl) ?_
    refine cD (L3 rfl tt tt rfl m5 q_4 Tryz.runUnderlying36 Tryz.sizeOf39 Tryz.typeInfo39 Tryz.zeroValue39 rfl (.inr rfl) a1Y a87 L1 ((acc++[{ x with a:=v}]).map Ky.cv) (acc++[{ x with a:=v}]).length m5 m5 ?_)
    refine cY c7 ?_
    refine a8 (a6 ?_)
    refine cY b7 ?_; refine cY T4 ?_; refine cY c7 ?_; refine a8 ?_
    exact ⟨(acc++[{ x with a:=v}],p2+2),[0,3],⟨by simp; omega,by simp; omega,by simp; omega,hs.snoc ⟨hv8,hx.2⟩⟩,⟨rfl,rfl⟩,⟨⟨tt,q_3⟩,⟨tt,q_3⟩,⟨tt,(by first|exact .ptr rfl|exact .map rfl|exact .vec rfl|exact .same (congrArg (fun x=>CV.val (.int .i64 x)) (by simp; omega:B3 l k 8 - (acc.length:Int) - 1=B3 l k 8 - ((acc++[{ x with a:=v}]).length:Int))) a5x|exact z7.grow (f:=Ky.cv) (fun _=>⟨.val _,.val _,.val _,tt⟩) rfl)⟩,tt⟩,(by repeat' (first|exact tt|exact .inl rfl|exact .inr ⟨_,rfl,.same rfl s7⟩|exact .inr ⟨_,rfl,.same (gobj_snoc _ _ _) s7⟩|exact .inr ⟨_,rfl,.same rfl (by repeat' (first|exact tt|exact .val _|exact .ptr (nb rfl)|exact .map (nb rfl)|exact a8P | refine l2 ?_ | refine ⟨?_,?_⟩))⟩|exact .inr ⟨_,rfl,.box (by repeat' (first|exact tt|exact .same rfl a5x|exact .ptr rfl|exact .map rfl|exact .vec rfl|exact z7.grow (f:=Ky.cv) (fun _=>⟨.val _,.val _,.val _,tt⟩) rfl | refine ⟨?_,?_⟩))⟩ | refine ⟨?_,?_⟩))⟩
   ·skip
    refine a7 (a6 ?_)
    refine cY k7 ?_; refine cY c7 ?_; refine a8 ?_
    refine b9 tt rfl (fun h4=>?_) (fun h4=>?_)
    ·skip
     refine a6 ?_; refine cY b7 ?_; refine cY (y7 (([[],[66],[102]]:List Str).map scv) rfl ⟨rfl,rfl,rfl,tt⟩ Tryz.runUnderlying26 Tryz.sizeOf9 Tryz.zeroValue9 rfl rfl rfl rfl rfl rfl rfl rfl rfl) ?_
     refine cD (k8 rfl Tryz.call17 ⟨tt,tt,tt⟩ (O3 l nn (p2+1) _ 0 rfl c4 hl ([[],[66],[102]]:List Str) m5 m5) rfl ?_)
     intro v hv
     have hv8:v.length≤8:=by revert v; decide
     refine cY A8 ?_
     refine cD (j1 rfl tt tt rfl c6 Tryz.sizeOf9 (.inl rfl) rfl rfl (nb rfl) ?_)
     refine a8 (a6 ?_)
     refine cY b7 ?_; refine cY E5 ?_; refine cY (y7 [Ky.cv ({ x with b:=v})] rfl ⟨tt,tt⟩ Tryz.runUnderlying36 Tryz.sizeOf39 Tryz.zeroValue39 rfl rfl rfl rfl rfl rfl rfl rfl rfl) ?_
     refine cD (L3 rfl tt tt rfl m5 q_4 Tryz.runUnderlying36 Tryz.sizeOf39 Tryz.typeInfo39 Tryz.zeroValue39 rfl (.inr rfl) a1Y a87 L1 ((acc++[{ x with b:=v}]).map Ky.cv) (acc++[{ x with b:=v}]).length m5 m5 ?_)
     refine cY c7 ?_
     refine a8 (a6 ?_)
     refine cY b7 ?_; refine cY T4 ?_; refine cY c7 ?_; refine a8 ?_
     exact ⟨(acc++[{ x with b:=v}],p2+2),[0,3],⟨by simp; omega,by simp; omega,by simp; omega,hs.snoc ⟨hx.1,hv8⟩⟩,⟨rfl,rfl⟩,⟨⟨tt,q_3⟩,⟨tt,q_3⟩,⟨tt,(by first|exact .ptr rfl|exact .map rfl|exact .vec rfl|exact .same (congrArg (fun x=>CV.val (.int .i64 x)) (by simp; omega:B3 l k 8 - (acc.length:Int) - 1=B3 l k 8 - ((acc++[{ x with b:=v}]).length:Int))) a5x|exact z7.grow (f:=Ky.cv) (fun _=>⟨.val _,.val _,.val _,tt⟩) rfl)⟩,tt⟩,(by repeat' (first|exact tt|exact .inl rfl|exact .inr ⟨_,rfl,.same rfl s7⟩|exact .inr ⟨_,rfl,.same (gobj_snoc _ _ _) s7⟩|exact .inr ⟨_,rfl,.same rfl (by repeat' (first|exact tt|exact .val _|exact .ptr (nb rfl)|exact .map (nb rfl)|exact a8P | refine l2 ?_ | refine ⟨?_,?_⟩))⟩|exact .inr ⟨_,rfl,.box (by repeat' (first|exact tt|exact .same rfl a5x|exact .ptr rfl|exact .map rfl|exact .vec rfl|exact z7.grow (f:=Ky.cv) (fun _=>⟨.val _,.val _,.val _,tt⟩) rfl | refine ⟨?_,?_⟩))⟩ | refine ⟨?_,?_⟩))⟩
    ·skip
     refine c8 (a6 ?_)
     refine cY b7 ?_; refine cY E5 ?_; refine cY (y7 [Ky.cv (x)] rfl ⟨tt,tt⟩ Tryz.runUnderlying36 Tryz.sizeOf39 Tryz.zeroValue39 rfl rfl rfl rfl rfl rfl rfl rfl rfl) ?_
     refine cD (L3 rfl tt tt rfl m5 q_4 Tryz.runUnderlying36 Tryz.sizeOf39 Tryz.typeInfo39 Tryz.zeroValue39 rfl (.inr rfl) a1Y a87 L1 ((acc++[x]).map Ky.cv) (acc++[x]).length m5 m5 ?_)
     refine cY c7 ?_
     refine a8 (a6 ?_)
     refine cY b7 ?_; refine cY T4 ?_; refine cY c7 ?_; refine a8 ?_
     exact ⟨(acc++[x],p2+1),[0,3],⟨by simp; omega,by simp; omega,by simp; omega,hs.snoc hx⟩,⟨rfl,rfl⟩,⟨⟨tt,q_3⟩,⟨tt,q_3⟩,⟨tt,(by first|exact .ptr rfl|exact .map rfl|exact .vec rfl|exact .same (congrArg (fun x=>CV.val (.int .i64 x)) (by simp; omega:B3 l k 8 - (acc.length:Int) - 1=B3 l k 8 - ((acc++[x]).length:Int))) a5x|exact z7.grow (f:=Ky.cv) (fun _=>⟨.val _,.val _,.val _,tt⟩) rfl)⟩,tt⟩,(by repeat' (first|exact tt|exact .inl rfl|exact .inr ⟨_,rfl,.same rfl s7⟩|exact .inr ⟨_,rfl,.same (gobj_snoc _ _ _) s7⟩|exact .inr ⟨_,rfl,.same rfl (by repeat' (first|exact tt|exact .val _|exact .ptr (nb rfl)|exact .map (nb rfl)|exact a8P | refine l2 ?_ | refine ⟨?_,?_⟩))⟩|exact .inr ⟨_,rfl,.box (by repeat' (first|exact tt|exact .same rfl a5x|exact .ptr rfl|exact .map rfl|exact .vec rfl|exact z7.grow (f:=Ky.cv) (fun _=>⟨.val _,.val _,.val _,tt⟩) rfl | refine ⟨?_,?_⟩))⟩ | refine ⟨?_,?_⟩))⟩
 ·skip
  refine m8 (a7 (a6 ?_))
  refine cY b7 ?_; refine cY c7 ?_
  refine a8 (d5 ?_)
  exact ⟨_,l4 rfl tt c6,⟨(acc,p),rfl,rfl,by show acc.length≤8; omega,hs,by show k≤p; omega,by show p≤k+60; omega⟩⟩
theorem b27 {R:Nat→Nat→Prop} {rows:List (List CV)} {m s s':Nat} (hp:∀ r∈rows,∀ c∈r,p5 c) (h:R s s'):H3 R (.list rows (gnn m) (P6 m s)) (.list rows (gnn m) (P6 m s')):=by
 refine .list rfl (fun i r r' h1 h2=>by rw [h1] at h2; injection h2 with h2; rw [h2]) (fun i j r r' c c' h1 h2 h3 h4=>?_) ?_
 ·rw [h1] at h2; injection h2 with h2; subst h2; rw [h3] at h4; injection h4 with h4; subst h4
  exact .pure (hp r (List.mem_of_getElem? h1) c (List.mem_of_getElem? h3))
 ·cases m with
  | zero=>exact .inl ⟨rfl,rfl⟩
  | succ m=>exact .inr ⟨s,s',rfl,rfl,h⟩
theorem b5x (l:List Int) (nn:Bool) (k:Nat) (hat:k≤800000000) (hl:l.length≤maxLen) (σ:List c5) (q:Nat) (hk:σ[q]? = some (J9 l nn k)):b8 CC 11 [.ptr q 0] σ fun r σ'=>∃ a:List Ky × Nat,r = .ret (.list (a.1.map Ky.cv) (gnn a.1.length) (P6 a.1.length σ.length))∧σ'=σ.set q (J9 l nn a.2)++[r9 a.1.length]∧(a.1.length≤8∧a3i a.1∧(k≤a.2∧a.2≤k+60)):=by
 have hql:=(List.getElem?_eq_some_iff.1 hk).1
 have hpt:∀ {R:Nat→Nat→Prop} {k:Nat},B2 R (J9 l nn k) (J9 l nn k):=fun {R k}=>.box (E9 (a1P l nn k))
 refine B4 [q] hCC rfl (fun i j k g1 g2=>?_) (fun i k ob g1 g2=>?_) (.cons (.ptr rfl) .nil) (b2Q l nn k hat hl) fun r τ hk=>?_
 ·rcases i with _ | i <;> rcases j with _ | j <;> simp at g1 g2 <;> rfl
 ·rcases i with _ | i
  ·simp at g1 g2
   subst g1 g2
   exact ⟨_,hk,hpt⟩
  ·simp at g1
 ·obtain ⟨a,rfl,rfl,hpa⟩:=hk
  refine ⟨by simp,.ret (.list (a.1.map Ky.cv) (gnn a.1.length) (P6 a.1.length σ.length)),σ.set q (J9 l nn a.2)++[r9 a.1.length],.ret (b27 (K2 a.1) (.inr ⟨by simp,by simp⟩)),by simp,fun k hk hks=>?_,fun i k x ha hx=>?_,a,rfl,rfl,hpa⟩
  ·have n1:q≠k:=fun e=>hks (by simp [e])
   rw [List.getElem?_append_left (by simpa using hk)]
   simp [n1]
  ·rcases ha with ha | ⟨ha,rfl⟩
   ·rcases i with _ | i
    ·simp at ha hx
     subst ha hx
     exact ⟨_,by rw [List.getElem?_append_left (by simpa using hql)]; simp [hql],hpt⟩
    ·simp at ha
   ·rcases i with _ | _ | i
    ·simp at ha
    ·simp at hx
     subst hx
     exact ⟨_,by rw [List.getElem?_append_right m5]; simp,V0 _⟩
    ·simp at hx
def b2u (x:Ky):Prop:=x.a.length≤1000000000∧x.b.length≤1000000000
set_option maxRecDepth 10000 in
set_option maxHeartbeats 1600000 in
theorem a7Y (l:List Int) (nn:Bool) (hl:l.length≤maxLen) (raw:List Ky) (rnn:Bool) (hrl:raw.length≤maxLen) (hlr:∀ x∈raw,b2u x):b8 CC 7 [.list (l.map icv) nn none,(.list (raw.map Ky.cv) rnn none)] [] fun r τ=>∃ _:Unit,a1i 0 τ r (.ret (.val (.bool true)))∧True:=by
 refine (d8 Tryz.func7 rfl rfl ?_)
 refine a7 (a6 ?_)
 refine cY i7 ?_; refine a8 ?_; refine R1 hCC (α:=List Ky) (fun a=>[(0,(.list (l.map icv) nn none)),(1,(.list (a.map Ky.cv) rnn none))]) (fun _=>[]) (fun a=>a.length≤12∧∀ x∈a,b2u x) y9 (fun a ha=>by repeat' (first|exact tt|exact .val _|exact .ptr (nb rfl)|exact .map (nb rfl)|exact C6 _ _ _|exact t6 _ _ _|exact K5 _ _ | refine l2 ?_ | refine ⟨?_,?_⟩)) ?_ ?_
 ·
  refine a7 (a6 ?_)
  refine cY b7 ?_; refine cY a4J ?_; refine cY k7 ?_; refine a8 ?_
  refine b9 tt rfl (fun h1=>?_) (fun h1=>?_)
  ·have h12:12≤raw.length:=by simp at h1; omega
   refine a6 ?_; refine cY b7 ?_; refine cY (a35 (h:=12) rfl tt rfl Tryz.runUnderlying36 Tryz.sizeOf39 b1f rfl ⟨rfl,_,_,rfl,by omega,by omega⟩ a0U Z4) ?_; refine cY c7 ?_; refine a8 ?_
   exact ⟨(raw.take 12),_,⟨by simp; omega,fun x hx=>hlr x (List.mem_of_mem_take hx)⟩,⟨⟨tt,rfl⟩,⟨tt,(by rw [List.map_take]; rfl)⟩,tt⟩,rfl⟩
  ·skip
   refine c8 ?_
   exact ⟨raw,_,⟨by simp at h1; omega,hlr⟩,⟨⟨tt,rfl⟩,⟨tt,rfl⟩,tt⟩,rfl⟩
 ·rintro raw2 ⟨hr2,hlr2⟩
  refine a7 (a6 ?_)
  refine cY b7 ?_; refine cY (v6 #[(0,1),(1,1)] rfl ⟨tt,tt⟩ Tryz.runUnderlying29 Tryz.zeroValue29 rfl ⟨_,rfl⟩ (fun w=>by kernel_rfl) rfl rfl) ?_
  refine cD (w9 rfl tt c6 j3 ?_)
  refine cD (k8 rfl Tryz.call11 ⟨tt,tt⟩ (b5x l nn 0 c4 hl _ 0 rfl) rfl ?_)
  rintro ⟨ks,p⟩ ⟨hk8,hks,hp1,hp2⟩
  dsimp only at hk8 hks hp1 hp2 ⊢
  obtain ⟨xs,hxs⟩:∃ xs,xs=ks++raw2:=⟨_,rfl⟩
  have hxl:xs.length≤20:=by rw [hxs]; simp; omega
  have hxa:∀ x∈xs,b2u x:=fun x hx=>by
   rw [hxs] at hx
   rcases List.mem_append.1 hx with hx | hx
   ·have:=hks x hx; exact ⟨by have:=this.1; omega,by have:=this.2; omega⟩
   ·exact hlr2 x hx
  refine cY b7 ?_
  refine cD (L3 rfl tt tt rfl m5 q_4 Tryz.runUnderlying36 Tryz.sizeOf39 Tryz.typeInfo39 Tryz.zeroValue39 rfl (.inr rfl) a1Y a87 L1 (xs.map Ky.cv) xs.length (by rw [hxs]; simp) (by rw [hxs]; simp) ?_)
  refine cY c7 ?_
  refine a8 (a7 (a7 (a6 ?_)))
  refine cY b7 ?_; refine cY a4J ?_; refine cY z8 ?_
  refine a8 (d9 ?_)
  refine A2 hCC 3 rfl (α:=Nat) (fun i=>[(5,(.list (xs.map Ky.cv) (gnn xs.length) none)),(21,(.list (xs.map Ky.cv) (gnn xs.length) none)),(22,(.val (.int .i64 ((xs.length:Int))))),(23,(.val (.int .i64 ((i:Int)))))]) (fun _=>[.dead,.dead,.dead]) (fun i=>i≤xs.length) (fun i=>xs.length - i) ⟨0,[0,1,2],(Nat.zero_le _),⟨rfl,rfl⟩,⟨⟨tt,q_5⟩,⟨tt,q_5⟩,⟨tt,q_5⟩,⟨tt,q_5⟩,tt⟩,(by repeat' (first|exact tt|exact .inl rfl|exact .inr ⟨_,rfl,.same rfl s7⟩|exact .inr ⟨_,rfl,.same (gobj_snoc _ _ _) s7⟩|exact .inr ⟨_,rfl,.same rfl (by repeat' (first|exact tt|exact .val _|exact .ptr (nb rfl)|exact .map (nb rfl)|exact C6 _ _ _|exact t6 _ _ _|exact K5 _ _ | refine l2 ?_ | refine ⟨?_,?_⟩))⟩|exact .inr ⟨_,rfl,.box (by repeat' (first|exact tt|exact .same rfl b6t|exact .ptr rfl|exact .map rfl|exact .vec rfl|exact (M3 (f:=Ky.cv) (fun _=>⟨.val _,.val _,.val _,tt⟩) _) | refine ⟨?_,?_⟩))⟩ | refine ⟨?_,?_⟩))⟩ ?_; intro i hi
  refine a7 (a6 ?_)
  refine cY p8 ?_
  refine a8 (a7 ?_)
  refine b9 tt rfl (fun h2=>?_) (fun h2=>?_)
  ·have hlt:i < xs.length:=by simp at h2; omega
   obtain ⟨y,hb⟩:∃ y,xs[i]? = some y:=⟨xs[i]'hlt,by simp⟩
   have hya:=hxa y (List.mem_of_getElem? hb)
   refine c8 (a7 (d9 (a7 (a6 ?_))))
   refine cY (o9 rfl tt tt rfl rfl Tryz.runUnderlying36 Tryz.sizeOf39 c4 (l6 hb) rfl) ?_; refine cY a6x ?_
   refine cD (m9 rfl Tryz.zeroValue39 rfl j3 ?_)
   refine cD (j1 rfl tt tt rfl c6 Tryz.sizeOf39 j3 rfl rfl (nb rfl) ?_)
   refine a8 (a7 (a7 ?_))
   refine r5 5 [0,1,0,7,15] j6 j6 rfl ?_; refine hY E5 ?_; refine hY (i8 rfl Tryz.call31 ⟨tt,tt⟩ (a5t y hya.1 hya.2 _) rfl) ?_; refine hY E5 ?_; refine hY (i8 rfl Tryz.call32 ⟨tt,tt⟩ (a8k y hya.1 hya.2 _) rfl) ?_; refine hY (b5m rfl Tryz.runUnderlying4 trivial trivial rfl rfl rfl) ?_
   refine u0 (a8 ?_)
   refine b9 tt rfl (fun h3=>?_) (fun h3=>?_)
   ·exfalso
    simp at h3
   ·skip
    refine c8 (a7 (a6 ?_))
    refine cY b7 ?_; refine cY a4J ?_; refine cY z8 ?_
    refine a8 (d9 ?_)
    refine A2 hCC 4 rfl (α:=Nat) (fun j=>[(5,(.list (xs.map Ky.cv) (gnn xs.length) none)),(7,.ptr 3 0),(21,(.list (xs.map Ky.cv) (gnn xs.length) none)),(22,(.val (.int .i64 ((xs.length:Int))))),(23,(.val (.int .i64 ((i:Int))))),(32,(.list (xs.map Ky.cv) (gnn xs.length) none)),(33,(.val (.int .i64 ((xs.length:Int))))),(34,(.val (.int .i64 ((j:Int)))))]) (fun _=>[.dead,.dead,.dead,.box y.cells]) (fun j=>j≤xs.length) (fun j=>xs.length - j) ⟨0,[0,1,2,3],(Nat.zero_le _),⟨rfl,rfl⟩,⟨⟨tt,q_5⟩,⟨tt,q_5⟩,⟨tt,q_5⟩,⟨tt,q_5⟩,⟨tt,q_5⟩,⟨tt,q_5⟩,⟨tt,q_5⟩,⟨tt,q_5⟩,tt⟩,(by repeat' (first|exact tt|exact .inl rfl|exact .inr ⟨_,rfl,.same rfl s7⟩|exact .inr ⟨_,rfl,.same (gobj_snoc _ _ _) s7⟩|exact .inr ⟨_,rfl,.same rfl (by repeat' (first|exact tt|exact .val _|exact .ptr (nb rfl)|exact .map (nb rfl)|exact C6 _ _ _|exact t6 _ _ _|exact K5 _ _ | refine l2 ?_ | refine ⟨?_,?_⟩))⟩|exact .inr ⟨_,rfl,.box (by repeat' (first|exact tt|exact .same rfl b6t|exact .ptr rfl|exact .map rfl|exact .vec rfl|exact (M3 (f:=Ky.cv) (fun _=>⟨.val _,.val _,.val _,tt⟩) _) | refine ⟨?_,?_⟩))⟩ | refine ⟨?_,?_⟩))⟩ ?_; intro j hj
    refine a7 (a6 ?_)
    refine cY p8 ?_
    refine a8 (a7 ?_)
    refine b9 tt rfl (fun h4=>?_) (fun h4=>?_)
    ·have hlj:j < xs.length:=by simp at h4; omega
     obtain ⟨z,hb2⟩:∃ z,xs[j]? = some z:=⟨xs[j]'hlj,by simp⟩
     refine c8 (a7 (d9 (a7 (a6 ?_))))
     refine cY (o9 rfl tt tt rfl rfl Tryz.runUnderlying36 Tryz.sizeOf39 c4 (l6 hb2) rfl) ?_; refine cY a6x ?_
     refine cD (m9 rfl Tryz.zeroValue39 rfl j3 ?_)
     refine cD (j1 rfl tt tt rfl c6 Tryz.sizeOf39 j3 rfl rfl (nb rfl) ?_)
     refine a8 (a7 ?_)
     refine r5 7 [0,0,3,0,0,31,63] j6 j6 rfl ?_; refine hY E5 ?_; refine hY E5 ?_; refine hY (i8 rfl Tryz.call33 ⟨tt,tt,tt⟩ (a7d y z _) rfl) ?_; refine hY E5 ?_; refine hY E5 ?_; refine hY (i8 rfl Tryz.call34 ⟨tt,tt,tt⟩ (a5P y z _) rfl) ?_; refine hY p8 ?_
     refine u0 (a8 ?_)
     refine b9 tt rfl (fun h5=>?_) (fun h5=>?_)
     ·exfalso
      simp at h5
     ·skip
      refine c8 (a6 ?_)
      refine cY n9 ?_; refine cY b7 ?_; refine a8 ?_
      exact ⟨(j+1),[0,1,2,3],⟨by omega,by omega⟩,⟨rfl,rfl⟩,⟨⟨tt,q_5⟩,⟨tt,q_5⟩,⟨tt,q_5⟩,⟨tt,q_5⟩,⟨tt,q_5⟩,⟨tt,q_5⟩,⟨tt,q_5⟩,⟨tt,q_5⟩,tt⟩,(by repeat' (first|exact tt|exact .inl rfl|exact .inr ⟨_,rfl,.same rfl s7⟩|exact .inr ⟨_,rfl,.same (gobj_snoc _ _ _) s7⟩|exact .inr ⟨_,rfl,.same rfl (by repeat' (first|exact tt|exact .val _|exact .ptr (nb rfl)|exact .map (nb rfl)|exact C6 _ _ _|exact t6 _ _ _|exact K5 _ _ | refine l2 ?_ | refine ⟨?_,?_⟩))⟩|exact .inr ⟨_,rfl,.box (by repeat' (first|exact tt|exact .same rfl b6t|exact .ptr rfl|exact .map rfl|exact .vec rfl|exact (M3 (f:=Ky.cv) (fun _=>⟨.val _,.val _,.val _,tt⟩) _) | refine ⟨?_,?_⟩))⟩ | refine ⟨?_,?_⟩))⟩
    ·skip
     refine m8 (a6 ?_)
     refine cY n9 ?_; refine cY b7 ?_; refine a8 ?_
     exact ⟨(i+1),[0,1,2],⟨by omega,by omega⟩,⟨rfl,rfl⟩,⟨⟨tt,q_5⟩,⟨tt,q_5⟩,⟨tt,q_5⟩,⟨tt,q_5⟩,tt⟩,(by repeat' (first|exact tt|exact .inl rfl|exact .inr ⟨_,rfl,.same rfl s7⟩|exact .inr ⟨_,rfl,.same (gobj_snoc _ _ _) s7⟩|exact .inr ⟨_,rfl,.same rfl (by repeat' (first|exact tt|exact .val _|exact .ptr (nb rfl)|exact .map (nb rfl)|exact C6 _ _ _|exact t6 _ _ _|exact K5 _ _ | refine l2 ?_ | refine ⟨?_,?_⟩))⟩|exact .inr ⟨_,rfl,.box (by repeat' (first|exact tt|exact .same rfl b6t|exact .ptr rfl|exact .map rfl|exact .vec rfl|exact (M3 (f:=Ky.cv) (fun _=>⟨.val _,.val _,.val _,tt⟩) _) | refine ⟨?_,?_⟩))⟩ | refine ⟨?_,?_⟩))⟩
  ·skip
   refine m8 (a7 (a6 ?_))
   refine cY b7 ?_; refine cY (i8 rfl Tryz.call35 ⟨tt,tt⟩ (b8i xs c4 _) rfl) ?_; refine cY b7 ?_; refine cY (i8 rfl Tryz.call36 ⟨tt,tt⟩ (b67 xs _ c4 _) rfl) ?_; refine cY (i8 rfl Tryz.call30 ⟨tt,tt,tt⟩ (b04 (a5O xs) (a33 xs) _ _ (by have:=b5h xs; rw [a6k]; unfold maxLen; omega) _) rfl) ?_; refine cY b7 ?_; refine cG (fun hg=>i8 rfl Tryz.call21 trivial (b0k _) rfl) ?_; refine cY p9 ?_; refine cY c7 ?_
   refine a8 (d5 ?_)
   exact ⟨_,l4 rfl tt c6,(by rw [a6k]; exact ⟨(),.ret (by simp; exact .old (.val _)),tt⟩)⟩
end Go.Proofs.YtoblbdedgjfeaaaGreatDoor
