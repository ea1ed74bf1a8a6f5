/- Part 5 of what the claim needs: values without addresses, and what the program's functions do with them. -/
import Derived.Test.YtoblbdedgjfeaaaGreatDoorZ4
namespace Go.Proofs.YtoblbdedgjfeaaaGreatDoor
open Go Go.Cl
set_option maxRecDepth 10000 in
theorem b2Q {E:List Ex} {ps:List Str} {en pn:Bool} {k u o:Int} {nm:Str} {ch:List Tr} {s:Nat} (hAt:a7S E (.n k u o nm ch) s) (T:Str) (pl dp:Int) (hpl:a3V k o < pl) (hd0:0≤dp) (hd:dp+2*((p8 ch+1:Nat):Int)+1≤1000000000) (a:Bool) (b:Str) (d:Int) (hb:b.length+([40]++T++[41]:Str).length≤100000000000000)
 (hW:∀ (dp:Int) (a:Bool) (b:Str) (d:Int),0≤dp→dp+2*((p8 ch+1:Nat):Int)≤1000000000→b.length+T.length≤100000000000000→∀ (σ:List c5) (q k:Nat),BAt σ q k TW a b (WR E ps en pn d) →
  c4 CC 270 [.ptr q 0,.val (.int .i64 ((s+p8 ch:Nat):Int)),.val (.int .i64 0),.val (.int .i64 dp)] σ fun r τ=>∃ d':Int,r = .ret (.tup [])∧τ=(σ.set q (A1 TW q σ.length true (b++T) (WR E ps en pn d'))).set k .dead++[r3 tU8 (b++T).length]∧True) :
 c4 CC 270 [.ptr 0 0,(.val (.int .i64 (((s+p8 ch:Nat):Int)))),(.val (.int .i64 (pl))),(.val (.int .i64 (dp)))] (bSt TW a b (WR E ps en pn d)) fun r τ=>∃ d':Int,G8 2 τ r (.ret (.tup [])) (a3R TW (b++([40]++T++[41])) (WR E ps en pn d'))∧True:=by
 refine (d5 Tryz.func270 rfl rfl ?_)
 refine a7 (a6 ?_)
 refine cY b7 ?_; refine cY o6 ?_; refine cY (l8 rfl tt rfl Tryz.runUnderlying301 rfl Tryz.sizeOf115 j4) ?_; refine cY a0a ?_; refine cY b7 ?_; refine cY (r5 rfl tt tt rfl rfl Tryz.runUnderlying115 Tryz.sizeOf208 b8 (m7 hAt.node) rfl) ?_; refine cY b5A ?_
 refine cD (l5 rfl Tryz.zeroValue208 rfl j2 ?_)
 refine cD (i7 rfl tt tt rfl c6 Tryz.sizeOf208 j2 rfl rfl (nb rfl) ?_)
 refine a8 (a7 (a7 (a6 ?_)))
 refine cY a2m ?_; refine cY (i8 rfl Tryz.call290 ⟨tt,tt⟩ (a2u ⟨k,u,o,nm,o3 ch s⟩ _) rfl) ?_; refine cY b7 ?_; refine cY r9 ?_; refine a8 ?_
 refine b9 tt rfl (fun h1=>?_) (fun h1=>?_)
 ·refine L2 [A1 TW 0 1 a b (WR E ps en pn d),r3 tU8 b.length,.box (Ex.cells ⟨k,u,o,nm,o3 ch s⟩)] rfl ?_
  refine a7 (a6 ?_)
  refine cY b7 ?_; refine cY o6 ?_; refine cY a1f ?_
  refine cD (j3 rfl Tryz.call291 ⟨tt,rfl,tt⟩ (W1 Z9 _ (b) (A2 _ _ _ _ _) 40 a1C ⟨rfl,rfl,Nat.ne_of_beq_eq_false rfl⟩) rfl ?_)
  intro _ _; refine p7 [A1 TW 0 3 true (b++[40]) (WR E ps en pn d),.dead,.box (Ex.cells ⟨k,u,o,nm,o3 ch s⟩),r3 tU8 (b++[40]).length] rfl ?_
  refine a8 (a7 (a6 ?_))
  refine cY b7 ?_; refine cY b7 ?_; refine cY b7 ?_; refine cY m9 ?_
  refine cD (j3 rfl Tryz.call270 ⟨tt,tt,rfl,tt,tt⟩ (hW (dp+1) true (b++[40]) d b8 b8 a1C _ 0 3 ⟨rfl,rfl,Nat.ne_of_beq_eq_false rfl⟩) rfl ?_)
  rintro d1 _
  dsimp only
  refine p7 [A1 TW 0 4 true (b++[40]++T) (WR E ps en pn d1),.dead,.box (Ex.cells ⟨k,u,o,nm,o3 ch s⟩),.dead,r3 tU8 (b++[40]++T).length] rfl ?_
  refine a8 (a7 (a6 ?_))
  refine cY b7 ?_; refine cY o6 ?_; refine cY a1f ?_
  refine cD (j3 rfl Tryz.call291 ⟨tt,rfl,tt⟩ (W1 Z9 _ (b++[40]++T) (A2 _ _ _ _ _) 41 a1C ⟨rfl,rfl,Nat.ne_of_beq_eq_false rfl⟩) rfl ?_)
  intro _ _
  refine a8 (c9 ?_)
  exact ⟨_,o0 (rs:=[]) (cs:=[]) rfl tt (Nat.ne_of_beq_eq_false rfl),⟨d1,(by simp only [← List.append_assoc]; exact a6O (k:=5) rfl rfl j4 (A2 _ _ _ _ _) a0y),tt⟩⟩
 ·exact absurd hpl (by simpa using h1)
theorem b14 {np d:Nat}:∀ {l:List Tr} {m:Nat} {c:Tr},wfL np d l→l[m]? = some c→c.wf np d
 | [],_,_,_,h=>by simp at h
 | t::l,0,c,h,hc=>by rw [wfL] at h; injection hc with hc; subst hc; exact h.1
 | t::l,m+1,c,h,hc=>by rw [wfL] at h; exact b14 h.2 (by simpa using hc)
theorem b5H (k o:Int):0≤a3V k o:=by
 unfold a3V
 split; decide
 split
 ·have:=a9i o; omega
 ·decide
theorem a9Y {E:List Ex} {ps:List Str} {en pn:Bool} (hE:E.length≤1000000):∀ (n:Nat) (t:Tr) (s:Nat),t.size≤n→a7S E t s→(∃ d,t.wf ps.length d)→WEG E ps en pn t s (fun _=>True)
 | 0,t,_,h,_,_=>by have:=t.size_pos; omega
 | n+1,.n k u o nm ch,s,hsz,hAt,⟨dd,hw⟩=>by
  rw [Tr.wf] at hw
  obtain ⟨_,hn,hwl⟩:=hw
  have hI:∀ m c,ch[m]? = some c→WEG E ps en pn c (s+p8 (ch.take m)) (fun _=>True):=fun m c hc=>by
   have:=a0B hc
   rw [Tr.size] at hsz
   exact a9Y hE n c _ b8 (hAt.child hc) ⟨_,b14 hwl hc⟩
  intro pl dp a b d _ hd0 hd hb σ q k' hσ
  rw [Tr.size] at hd ⊢
  rw [show s+(p8 ch+1) - 1=s+p8 ch by omega]
  rw [Tr.txt] at hb ⊢
  by_cases hpl:a3V k o < pl
  ·rw [if_pos hpl] at hb ⊢
   refine a4S (b2Q hAt (ndT ps k u o nm (F7 ps ch (a4C k o))) pl dp hpl hd0 b8 a b d hb fun dp' a' b' d' h0 h1 h2 σ' q' k'' hσ'=>?_) σ q k' hσ
   have hp0:=b5H k o
   exact a4S (a7d hAt hn hE hI _ rfl 0 dp' b8 h0 h1 a' b' d' h2) σ' q' k'' hσ'
  ·rw [if_neg hpl] at hb ⊢
   exact a4S (a7d hAt hn hE hI _ rfl pl dp hpl hd0 b8 a b d hb) σ q k' hσ
def a4s (cs:List Str):Nat:=(cs.map List.length).sum
theorem b35 (cs:List Str):(cs.getD 0 []).length+(cs.getD 1 []).length+(cs.getD 2 []).length≤a4s cs:=by
 rcases cs with _ | ⟨a,_ | ⟨b,_ | ⟨c,l⟩⟩⟩ <;> simp [a4s,List.getD] <;> omega
theorem a2c (sep:Str):∀ cs:List Str,(D8 sep cs).length≤a4s cs+sep.length*cs.length
 | []=>by simp [D8]
 | [x]=>by simp [D8,a4s]
 | x::y::l=>by
  have:=a2c sep (y::l)
  simp only [D8,List.length_append,a4s,List.map_cons,List.sum_cons,List.length_cons,Nat.mul_add] at this ⊢
  omega
theorem b6Q {ps:List Str} (hp:∀ s∈ps,s.length≤80) {k u o:Int} {nm:Str} {c:Nat} (hn:T2 ps.length k u o nm c) (cs:List Str):(ndT ps k u o nm cs).length≤a4s cs+2*cs.length+290:=by
 have hg:=b35 cs
 have hj:=a2c [44,32] cs
 have hs:=b1a o
 have hw:=a62 k
 have hnm:=hn.len
 have e2:([44,32]:Str).length=2:=rfl
 rw [e2] at hj
 unfold ndT
 split
 ·rename_i h1
  have:=hn.k1 h1
  have:=a3q (n:=u) b8 b8
  omega
 split
 ·have:(ps.getD u.toNat []).length≤80:=by
   rw [List.getD_eq_getElem?_getD]
   cases hh:ps[u.toNat]? with
   | none=>exact Nat.zero_le _
   | some x=>exact hp x (List.mem_of_getElem? hh)
  omega
 split
 ·simp only [List.length_append,List.length_cons,List.length_nil]; omega
 split
 ·simp only [List.length_append,List.length_cons,List.length_nil]; omega
 split
 ·simp only [List.length_append,List.length_cons,List.length_nil]; omega
 split
 ·simp only [List.length_append,List.length_cons,List.length_nil]; omega
 split
 ·rename_i h10
  have:=hn.k10 h10
  have:=a3q (n:=u) b8 b8
  simp only [List.length_append,List.length_cons,List.length_nil]; omega
 ·simp only [List.length_append,List.length_cons,List.length_nil]; omega
mutual
theorem Tr.txt_len {ps:List Str} (hp:∀ s∈ps,s.length≤80):∀ (t:Tr) (d:Nat) (pl:Int),t.wf ps.length d→(t.txt ps pl).length+2≤300*t.size
 | .n k u o nm ch,d,pl,h=>by
  rw [Tr.wf] at h
  have h1:=b6Q hp h.2.1 (F7 ps ch (a4C k o))
  have h2:=a7a hp ch _ (a4C k o) h.2.2
  rw [a49] at h1
  rw [Tr.txt,Tr.size]
  have:([40]++ndT ps k u o nm (F7 ps ch (a4C k o))++[41]:Str).length=(ndT ps k u o nm (F7 ps ch (a4C k o))).length+2:=by simp
  split
  ·rw [this]; omega
  ·omega
theorem a7a {ps:List Str} (hp:∀ s∈ps,s.length≤80):∀ (l:List Tr) (d:Nat) (pls:List Int),wfL ps.length d l→a4s (F7 ps l pls)+2*l.length≤300*p8 l
 | [],_,_,_=>by simp [F7,a4s]
 | t::l,d,pls,h=>by
  rw [wfL] at h
  have h1:=Tr.txt_len hp t d (pls.headD 0) h.1
  have h2:=a7a hp l d pls.tail h.2
  rw [F7,p8]
  simp only [a4s,List.map_cons,List.sum_cons,List.length_cons] at h2 ⊢
  omega
end
set_option maxRecDepth 10000 in
theorem b3l {E:List Ex} {ps:List Str} (en pn:Bool) (hE:E.length≤1000000) (t:Tr) (ht:E=t.flat 0) (hw:∃ d,t.wf ps.length d) (hp:∀ s∈ps,s.length≤80):c4 CC 235 [(.list (E.map Ex.cv) en none),(.list (ps.map scv) pn none)] [] fun r τ=>∃ d:Int,a1V 0 τ r (.ret (.tup [sv (t.txt ps 0),.val (.int .i64 d)]))∧True:=by
 have hsz:E.length=t.size:=by rw [ht,Tr.flat_len]
 have hpos:=t.size_pos
 have hAt:a7S E t 0:=⟨[],[],by rw [ht]; simp,rfl⟩
 obtain ⟨dd,hwd⟩:=hw
 have htl:=t.txt_len hp dd 0 hwd
 have hx:=a9Y (en:=en) (pn:=pn) hE t.size t 0 (Nat.le_refl _) hAt ⟨dd,hwd⟩ 0 1 false [] 0 trivial b8 b8 (by simp only [List.length_nil]; omega) ([A1 TW 0 1 false [] (WR E ps en pn 0)]++[.dead]) 0 1 ⟨rfl,rfl,Nat.ne_of_beq_eq_false rfl⟩
 replace hx:=U6 hx
 rw [show ((0+t.size - 1:Nat):Int)=(E.length:Int) - 1 by omega] at hx
 simp only [List.nil_append] at hx
 refine (d5 Tryz.func235 rfl rfl ?_)
 refine a7 (a6 ?_)
 refine cY j1 ?_; refine cY j1 ?_
 refine a8 (a7 (a6 ?_))
 refine cY b7 ?_; refine cY b7 ?_; refine cY (t6 #[(0,2),(2,1),(3,1),(4,1)] rfl ⟨tt,tt,tt⟩ Tryz.runUnderlying301 Tryz.zeroValue301 rfl ⟨_,rfl⟩ (fun w=>by kernel_rfl) rfl rfl) ?_
 refine cD (b75 rfl tt c6 j2 ?_)
 refine cY c7 ?_
 refine a8 (a7 (a6 ?_))
 refine cY b7 ?_; refine cY b7 ?_; refine cY a9Q ?_; refine cY R7 ?_
 refine cD (j3 rfl Tryz.call270 ⟨tt,tt,rfl,rfl,tt⟩ (hx) rfl ?_)
 rintro d1 _
 dsimp only
 refine a8 (a7 ?_)
 refine v8 [0,1,2,4,5,6,7,3,8,9] 7 [0,1,3,7,0,16,48,112,15,511] [[3,4,5,6],[3,4,5,6],[]] (hd1l:=[0,1,2,4,5,6,7]) (tll:=[(3,[3,4,5,6]),(8,[3,4,5,6]),(9,[])]) j6 j6 rfl rfl rfl ?_; refine chf rfl x8 ?_; refine chf rfl a0G ?_; refine chf rfl b7p ?_; refine chf rfl x8 ?_; refine chf rfl a0G ?_; refine chf rfl (k7 rfl a9q) ?_; refine chf rfl a9H ?_; refine y0 ?_
 refine u0 rfl rfl (j3 rfl Tryz.call197 ⟨tt,tt⟩ (a0p (rest:=WR E ps en pn d1) (T:=TW) (A2 _ _ _ _ _) true _ (q:=0) (k:=2) ⟨rfl,rfl,Nat.ne_of_beq_eq_false rfl⟩) rfl ?_)
 intro _ _
 refine ⟨⟨A0,Z2,(by exact k7 rfl a9q),a6G,tt⟩,?_⟩
 refine w6 rfl a1e ⟨⟨A0,Z2,(by exact k7 rfl a9q),a6G,tt⟩,?_⟩
 refine w6 rfl a1e ⟨tt,?_⟩
 refine A8 (c9 ?_)
 exact ⟨_,o0 (rs:=[.tmp 4,.tmp 5]) (cs:=[_,_]) rfl ⟨⟨tt,c6⟩,⟨tt,c6⟩,tt⟩ (Nat.ne_of_beq_eq_false rfl),⟨d1,.ret (.old (d9 (cs:=[sv (t.txt ps 0),.val (.int .i64 d1)]) ⟨.val _,.val _,tt⟩).old),tt⟩⟩
theorem b4w {E:List Ex} {ps:List Str} (en pn:Bool) (hE:E.length≤1000000) (t:Tr) (ht:E=t.flat 0) (hw:∃ d,t.wf ps.length d) (hp:∀ s∈ps,s.length≤80) (σ:List c5):c4 CC 235 [(.list (E.map Ex.cv) en none),(.list (ps.map scv) pn none)] σ fun r τ=>∃ d:Int,r = .ret (.tup [sv (t.txt ps 0),.val (.int .i64 d)])∧τ=σ∧True :=
 L8 (res:=fun d:Int=>.ret (.tup [sv (t.txt ps 0),.val (.int .i64 d)])) (P:=fun _=>True) hCC (fun c hc=>by simp at hc; rcases hc with rfl | rfl; exact t7 _ _; exact d6 _ _) (b3l en pn hE t ht hw hp) (fun d _=>d9 ⟨.val _,.val _,tt⟩) σ
abbrev tSB:Nat:=240
theorem a1G:a1B tSB 2:=by unfold a1B; kernel_rfl
def b7y (T:TypeId) (rest:List CV):List c5:=[.boxT (some T) (.ptr 0 0::.list [] true (some 2)::rest),.dead,.tipT (some tU8) 0]
set_option maxRecDepth 10000 in
theorem b4s {T:TypeId} {rest:List CV} {c:CV} {obs:List c5}:c4 CC 236 [.ptr 0 0] (.boxT (some T) (.ptr 0 0::c::rest)::obs) fun r τ=>∃ _:Unit,r = .ret (.tup [])∧τ = .boxT (some T) (.ptr 0 0::c::rest)::obs∧True:=by
 refine (d5 Tryz.func236 rfl rfl ?_)
 refine a7 (a6 ?_)
 refine cY b7 ?_; refine cY o6 ?_; refine cY a6R ?_; refine cY a82 ?_; refine cY (a8S rfl tt rfl Tryz.runUnderlying238) ?_; refine a8 ?_
 refine b9 tt rfl (fun h1=>?_) (fun h1=>?_)
 ·cases h1
 ·skip
  refine a7 (a6 ?_)
  refine cY b7 ?_; refine cY o6 ?_; refine cY a6R ?_; refine cY a82 ?_; refine cY b7 ?_; refine cY (a6W rfl tt tt rfl rfl 240 j6 j6) ?_; refine a8 ?_
  refine b9 tt rfl (fun h2=>?_) (fun h2=>?_)
  ·cases h2
  ·skip
   refine c8 ?_
   exact ⟨_,o0 (rs:=[]) (cs:=[]) rfl tt (Nat.ne_of_beq_eq_false rfl),⟨(),rfl,rfl,tt⟩⟩
set_option maxRecDepth 10000 in
set_option maxHeartbeats 1600000 in
theorem b6b {T:TypeId} {rest:List CV} (n:Nat) (h1:1≤n) (h2:n≤1000000000):c4 CC 272 [.ptr 0 0,.val (.int .i64 (n:Int))] [.boxT (some T) (.ptr 0 0::.list [] false none::rest),.dead] fun r τ=>∃ _:Unit,r = .ret (.tup [])∧τ=b7y T rest∧True:=by
 refine (d5 Tryz.func272 rfl rfl ?_)
 refine a7 ?_; refine v8 [0,1,2,3,4,5,6,7,9,10,11,12,13,8,14,15] 13 [0,1,3,7,15,31,0,127,255,0,512,1536,3584,7680,16383,32767] [[8,9,10,11,12],[],[]] (hd1l:=[0,1,2,3,4,5,6,7,9,10,11,12,13]) (tll:=[(8,[8,9,10,11,12]),(14,[]),(15,[])]) j6 j6 rfl rfl rfl ?_; refine chf rfl x8 ?_; refine chf rfl a0G ?_; refine chf rfl (k7 rfl U4) ?_; refine chf rfl (k7 rfl a0O) ?_; refine chf rfl (k7 rfl (b4i rfl tt rfl Tryz.runUnderlying139)) ?_; refine chf rfl (k7 rfl (b1u rfl rfl tt rfl rfl b8 b8)) ?_; refine chf rfl x8 ?_; refine chf rfl (k7 rfl a3o) ?_; refine chf rfl x8 ?_; refine chf rfl a0G ?_; refine chf rfl (k7 rfl U4) ?_; refine chf rfl (k7 rfl a0O) ?_; refine chf rfl (k7 rfl b0e) ?_; refine y0 ?_
 refine u0 rfl rfl (a7W (t:=139) (e:=5) rfl Tryz.func293 rfl rfl rfl rfl j6 tt (congrArg (fun z:Int=>CV.val (.int .i64 z)) (show (2*0+(n:Int))=n by omega)) b8 ?_)
 refine ⟨⟨A0,Z2,(by exact k7 rfl U4),(by exact k7 rfl a0O),(by exact k7 rfl b0e),tt⟩,?_⟩
 refine w6 rfl (k7 rfl (a8O rfl tt tt rfl rfl h1 Tryz.runUnderlying139 Tryz.sizeOf5)) ⟨tt,?_⟩
 refine w6 rfl a1e ⟨tt,?_⟩
 refine A8 (a7 (a6 ?_))
 refine cY b7 ?_; refine cY b7 ?_; refine cY o6 ?_; refine cY U4 ?_; refine cY a0O ?_
 refine cD (b51 rfl tt tt rfl rfl Tryz.runUnderlying139 Tryz.sizeOf5 ?_)
 refine a8 (a6 ?_)
 refine cY b7 ?_; refine cY b7 ?_; refine cY o6 ?_; refine cY U4 ?_
 refine cD (i7 rfl tt tt rfl c6 Tryz.sizeOf139 (.inl rfl) rfl rfl (nb rfl) ?_)
 refine a8 ?_
 exact ⟨_,o0 (rs:=[]) (cs:=[]) rfl tt (Nat.ne_of_beq_eq_false rfl),⟨(),rfl,rfl,tt⟩⟩
set_option maxRecDepth 10000 in
theorem b6P {T:TypeId} {rest:List CV} (hT:a1B T (rest.length+2)) (n:Nat) (hn1:1≤n) (hn2:n≤1000000000):c4 CC 237 [.ptr 0 0,.val (.int .i64 (n:Int))] (bSt T false [] rest) fun r τ=>∃ _:Unit,r = .ret (.tup [])∧τ=b7y T rest∧True:=by
 refine (d5 Tryz.func237 rfl rfl ?_)
 refine a7 (a6 ?_)
 refine cY b7 ?_
 refine cD (j3 rfl Tryz.call236 ⟨tt,tt⟩ (a7v hT false []) rfl ?_)
 intro _ _
 refine a8 (a7 (a7 (a6 ?_)))
 refine cY b7 ?_; refine cY j9 ?_; refine a8 ?_
 refine b9 tt rfl (fun h1=>?_) (fun h1=>?_)
 ·exact absurd (of_decide_eq_true h1) b8
 ·skip
  refine c8 (a7 ?_)
  refine w8 13 [0,1,3,7,15,0,32,96,224,480,1023,0,4095] j6 j6 rfl ?_; refine hY b7 ?_; refine hY o6 ?_; refine hY U4 ?_; refine hY a0O ?_; refine hY (b4i rfl tt rfl Tryz.runUnderlying139) ?_; refine hY b7 ?_; refine hY o6 ?_; refine hY U4 ?_; refine hY a0O ?_; refine hY b0e ?_; refine hY (a4g rfl tt tt rfl rfl l7 l7) ?_; refine hY b7 ?_; refine hY r9 ?_
  refine B6 (a8 ?_)
  refine b9 tt rfl (fun h2=>?_) (fun h2=>?_)
  ·skip
   refine a6 ?_; refine cY b7 ?_; refine cY b7 ?_
   refine cD (j3 rfl Tryz.call272 ⟨tt,tt,tt⟩ (b6b n hn1 hn2) rfl ?_)
   intro _ _; refine a8 ?_
   exact ⟨_,o0 (rs:=[]) (cs:=[]) rfl tt (Nat.ne_of_beq_eq_false rfl),⟨(),rfl,rfl,tt⟩⟩
  ·exact absurd (of_decide_eq_false h2) (by show ¬ ¬ (0 - 0:Int) < n; omega)
set_option maxRecDepth 10000 in
theorem a4D {T:TypeId} {rest:List CV} (s:Str) (hs:s≠[]) (hl:s.length≤140737488355328):c4 CC 195 [.ptr 0 0,sv s] (b7y T rest) fun r τ=>∃ _:Unit,r = .ret (.tup [.val (.int .i64 s.length),.val .nilIface])∧τ=[A1 T 0 3 true s rest,.dead,.dead,r3 tU8 s.length]∧True:=by
 refine (d5 Tryz.func195 rfl rfl ?_)
 refine a7 (a6 ?_)
 refine cY j1 ?_; refine cY j1 ?_
 refine a8 (a7 (a6 ?_))
 refine cY b7 ?_
 refine cD (j3 rfl Tryz.call236 ⟨tt,tt⟩ (b4s) rfl ?_)
 intro _ _
 refine a8 (a7 (a6 ?_))
 refine cY b7 ?_; refine cY b7 ?_; refine cY o6 ?_; refine cY U4 ?_; refine cY a0O ?_; refine cY b7 ?_
 refine cD (b6a (new:=s) (p:=2) rfl tt tt rfl (b0S rfl) Tryz.runUnderlying139 Tryz.sizeOf5 Tryz.typeInfo5 Tryz.zeroValue5 rfl (.inr Tryz.runUnderlying9) rfl rfl hs a6Z ?_)
 refine cY o6 ?_; refine cY U4 ?_
 refine cD (i7 rfl tt tt rfl c6 Tryz.sizeOf139 (.inl rfl) rfl rfl (nb rfl) ?_)
 refine a8 (a7 (a6 ?_))
 refine cY b7 ?_; refine cY I3 ?_; refine cY c7 ?_; refine cY j1 ?_
 refine a8 (c9 ?_)
 exact ⟨_,o0 (rs:=[.tmp 4,.tmp 5]) (cs:=[_,_]) rfl ⟨⟨tt,c6⟩,⟨tt,c6⟩,tt⟩ (Nat.ne_of_beq_eq_false rfl),⟨(),rfl,rfl,tt⟩⟩
theorem b5W {a b:Int} (hb:0 < b) (h1:0≤a) (h2:a≤9223372036854775807):a76 .quo .i64 a b=some (.int .i64 (a.tdiv b)):=by
 have hne:b≠0:=by omega
 have h0:0≤a.tdiv b:=Int.tdiv_nonneg h1 b8
 have h3:a.tdiv b≤a:=by rw [Int.tdiv_eq_ediv_of_nonneg h1]; exact Int.ediv_le_self b h1
 simp only [a76,if_neg hne]
 rw [a72 b8 b8]
theorem b38 {sep:Str} {n:Int} (hs2:sep.length=2) (h1:0 < n) (h2:n≤1000):¬ (9223372036854775807:Int).tdiv n≤(sep.length:Int):=by
 rw [hs2,Int.tdiv_eq_ediv_of_nonneg j4]
 have:=Int.le_ediv_of_mul_le h1 (show 1000000*n≤9223372036854775807 by omega)
 omega
theorem List.take_one_eq {α:Type} {l:List α} {x:α} (h:l[0]? = some x):l.take (0+1)=[x]:=by
 cases l with
 | nil=>simp at h
 | cons a l=>simp at h; subst h; rfl
theorem a5v {sep:Str} {l:List Str} (hs:sep.length=2) (hl:∀ s∈l,1≤s.length∧s.length≤1000):∀ m,(C2 sep l m).length≤m*1002
 | 0=>by simp [C2,D8]
 | m+1=>by
  have ih:=a5v (sep:=sep) (l:=l) hs hl m
  cases hg:l[m]? with
  | none =>
   have:l.length≤m:=by simpa using hg
   have e:C2 sep l (m+1)=C2 sep l m:=by unfold C2; rw [List.take_of_length_le (show l.length≤m+1 by omega),List.take_of_length_le (show l.length≤m by omega)]
   rw [e]; exact Nat.le_trans ih (Nat.mul_le_mul_right _ (Nat.le_succ m))
  | some y =>
   have:=(hl y (List.mem_of_getElem? hg)).2
   rw [a2z hg,List.length_append,List.length_append]
   split
   ·simp; omega
   ·omega
set_option maxRecDepth 10000 in
theorem a8h (l:List Str) (nn:Bool) (sep:Str) (hs2:sep.length=2) (hl:l.length≤1000) (hl2:∀ s∈l,1≤s.length∧s.length≤1000):c4 CC 196 [(.list (l.map scv) nn none),(sv (sep))] [] fun r σ'=>r = .ret (sv (D8 sep l))∧σ'=[]:=by
 refine j8 (d5 Tryz.func196 rfl rfl ?_)
 refine a7 (a6 ?_)
 refine cY j1 ?_
 refine a8 (a7 (a7 (a6 ?_)))
 refine cY b7 ?_; refine cY R1 ?_
 refine a8 (d4 (a7 (a6 ?_)))
 refine cY j9 ?_; refine cY c7 ?_; refine a8 ?_
 refine b9 tt rfl (fun h1=>?_) (fun h1=>?_)
 ·have h0:l=[]:=by simpa using h1
  refine a7 (a6 ?_)
  refine cY j1 ?_
  refine a8 (c9 ?_)
  exact ⟨_,l9 rfl tt c6,_,_,rfl,rfl,L0 (by rw [h0]; rfl)⟩
 ·have h1':¬ l.length=0:=by simp at h1; simpa using h1
  refine a7 (a6 ?_)
  refine cY j9 ?_; refine cY c7 ?_; refine a8 ?_
  refine b9 tt rfl (fun h2=>?_) (fun h2=>?_)
  ·have h1l:l.length=1:=by simp at h2; omega
   obtain ⟨e0,he0⟩:∃ e0,l=[e0]:=by
    rcases l with _ | ⟨a,_ | ⟨b,l⟩⟩
    ·simp at h1l
    ·exact ⟨a,rfl⟩
    ·simp at h1l
   have g0:l[0]? = some e0:=by rw [he0]; rfl
   refine a7 (a6 ?_)
   refine cY b7 ?_; refine cY (r5 rfl tt rfl rfl rfl Tryz.runUnderlying26 Tryz.sizeOf9 b8 (m7 g0) rfl) ?_; refine cY M7 ?_; refine cY c7 ?_
   refine a8 (c9 ?_)
   exact ⟨_,l9 rfl tt c6,_,_,rfl,rfl,L0 (by rw [he0]; rfl)⟩
  ·have h2l:2≤l.length:=by
    have:¬ (l.length:Int)=1:=by simpa using h2
    omega
   refine c8 (a7 (a6 ?_))
   refine cY j1 ?_; refine a8 ?_; refine T5 hCC (α:=Nat) (fun n=>[(0,(.list (l.map scv) nn none)),(1,(sv (sep))),(5,(.val (.int .i64 ((n:Int)))))]) (fun _=>[]) (fun n=>1≤n∧n≤2000) A5 (fun a ha=>by repeat' (first|exact tt|exact .val _|exact .ptr (nb rfl)|exact .map (nb rfl)|exact k8 _ _ _ | refine l2 ?_ | refine ⟨?_,?_⟩)) ?_ ?_
   ·
    refine a7 (a6 ?_)
    refine cY b7 ?_; refine cY I3 ?_; refine cY j9 ?_; refine a8 ?_
    refine b9 tt rfl (fun h3=>?_) (fun h3=>?_)
    ·skip
     refine a7 (a7 (a6 ?_))
     refine cY b7 ?_; refine cY I3 ?_; refine cY b7 ?_; refine cY R1 ?_; refine cY R7 ?_; refine cY (a1d rfl rfl tt rfl rfl (b5W b8 b8 b8)) ?_; refine cY r9 ?_; refine a8 ?_
     refine b9 tt rfl (fun h4=>?_) (fun h4=>?_)
     ·exact absurd (of_decide_eq_true h4) (b38 hs2 b8 b8)
     ·have hmm:(sep.length:Int)*((l.length:Int) - 1)=2*((l.length:Int) - 1):=by rw [hs2]; rfl
      refine c8 (a6 ?_)
      refine cY b7 ?_; refine cY b7 ?_; refine cY I3 ?_; refine cY b7 ?_; refine cY R1 ?_; refine cY R7 ?_; refine cY (b1u rfl tt tt rfl rfl (by rw [hmm]; omega) (by rw [hmm]; omega)) ?_; refine cY a3o ?_; refine cY c7 ?_; refine a8 ?_
      exact ⟨(2*(l.length - 1)),_,⟨by omega,by omega⟩,⟨⟨tt,rfl⟩,⟨tt,rfl⟩,⟨tt,(congrArg (fun z:Int=>CV.val (.int .i64 z)) (show (0+(sep.length:Int)*((l.length:Int) - 1))=((2*(l.length - 1):Nat):Int) by rw [hmm]; omega))⟩,tt⟩,rfl⟩
    ·exact absurd (of_decide_eq_false h3) (by show ¬ ¬ (0:Int) < sep.length; rw [hs2]; decide)
   ·intro n ⟨hn1,hn2⟩
    refine a7 (a7 (a6 ?_))
    refine cY b7 ?_; refine cY R1 ?_; refine cY A7 ?_
    refine a8 (d4 ?_)
    refine p9 hCC (α:=Nat × Nat) (fun x=>[(0,(.list (l.map scv) nn none)),(1,(sv (sep))),(5,(.val (.int .i64 ((x.2:Int))))),(39,(.list (l.map scv) nn none)),(40,(.val (.int .i64 ((l.length:Int))))),(41,(.val (.int .i64 ((x.1:Int)))))]) (fun _=>[]) (fun x=>x.1≤l.length∧1≤x.2∧x.2≤2000+1000*x.1) (fun x=>l.length - x.1) (0,n) ⟨Nat.zero_le _,hn1,by omega⟩ ⟨⟨tt,rfl⟩,⟨tt,rfl⟩,⟨tt,rfl⟩,⟨tt,rfl⟩,⟨tt,rfl⟩,⟨tt,rfl⟩,tt⟩ (extra0:=[]) rfl A5 (fun a ha=>by repeat' (first|exact tt|exact .val _|exact .ptr (nb rfl)|exact .map (nb rfl)|exact k8 _ _ _ | refine l2 ?_ | refine ⟨?_,?_⟩)) ?_; intro ⟨i,n'⟩ ⟨hi,hn1',hn2'⟩
    dsimp only at hi hn1' hn2' ⊢
    refine a7 (a6 ?_)
    refine cY r9 ?_
    refine a8 (a7 ?_)
    refine b9 tt rfl (fun h5=>?_) (fun h5=>?_)
    ·have hlt:i < l.length:=by simp at h5; omega
     obtain ⟨y,hy⟩:∃ y,l[i]? = some y:=⟨l[i]'hlt,by simp⟩
     have hyl:=hl2 y (List.mem_of_getElem? hy)
     refine c8 (a7 (d4 (a7 (a6 ?_))))
     refine cY b7d ?_; refine cY M7 ?_; refine cY c7 ?_
     refine a8 (a7 (a7 (a6 ?_)))
     refine cY b7 ?_; refine cY I3 ?_; refine cY b7 ?_; refine cY (a4g rfl rfl tt rfl rfl b8 b8) ?_; refine cY r9 ?_; refine a8 ?_
     refine b9 tt rfl (fun h6=>?_) (fun h6=>?_)
     ·exact absurd (of_decide_eq_true h6) b8
     ·skip
      refine c8 (a6 ?_)
      refine cY b7 ?_; refine cY b7 ?_; refine cY I3 ?_; refine cY a3o ?_; refine cY c7 ?_
      refine a8 (a6 ?_)
      refine cY m9 ?_; refine cY b7 ?_; refine a8 ?_
      exact ⟨(i+1,n'+y.length),_,⟨by dsimp only; omega,by dsimp only; omega,by dsimp only; omega,by dsimp only; omega⟩,⟨⟨tt,rfl⟩,⟨tt,rfl⟩,⟨tt,rfl⟩,⟨tt,rfl⟩,⟨tt,rfl⟩,⟨tt,rfl⟩,tt⟩,rfl⟩
    ·have hie:i=l.length:=by simp at h5; omega
     obtain ⟨e0,g0⟩:∃ e0,l[0]? = some e0:=⟨l[0]'b8,by simp⟩
     have he0:=hl2 e0 (List.mem_of_getElem? g0)
     refine m4 (a7 (a6 ?_))
     refine cD (a8m rfl Tryz.zeroValue240 rfl j2 ?_)
     refine a8 (a7 (a6 ?_))
     refine cY b7 ?_
     refine cD (j3 rfl Tryz.call237 ⟨tt,tt,tt⟩ ((U6 (b6P a1G n' hn1' b8))) rfl ?_)
     intro _ _
     refine a8 (a7 (a6 ?_))
     refine cY b7 ?_; refine cY (r5 rfl tt rfl rfl rfl Tryz.runUnderlying26 Tryz.sizeOf9 b8 (m7 g0) rfl) ?_; refine cY M7 ?_
     refine cD (j3 rfl Tryz.call195 ⟨tt,tt,tt⟩ (a4D e0 (by intro h; rw [h] at he0; simp at he0) b8) rfl ?_)
     intro _ _
     refine a8 (a7 (a7 (a6 ?_)))
     refine cY b7 ?_; refine cY (a7z (l:=1) rfl tt rfl Tryz.runUnderlying26 Tryz.sizeOf9 b3T ⟨rfl,_,_,rfl,by omega,by omega⟩ rfl b1l l7) ?_; refine cY R1 ?_; refine cY A7 ?_
     refine a8 (d4 ?_)
     refine B2 hCC 4 rfl (α:=Nat × Bool) (fun x=>[(1,(sv (sep))),(8,.ptr 0 0),(63,(.list ((l.drop 1).map scv) nn none)),(64,(.val (.int .i64 (((l.length - 1:Nat):Int))))),(65,(.val (.int .i64 ((x.1:Int)))))]) (fun x=>[A1 tSB 0 (kp x.2) true (C2 sep l (x.1+1)) [],.dead,.dead,op1 x.2 (C2 sep l (x.1+1)).length,op2 x.2 (C2 sep l (x.1+1)).length]) (fun x=>x.1+1≤l.length) (fun x=>l.length - x.1) ⟨(0,false),[0,1,2,3,7],(show 0+1≤l.length by omega),⟨rfl,rfl⟩,⟨⟨tt,a0o⟩,⟨tt,a0o⟩,⟨tt,(by first|exact .ptr rfl|exact .map rfl|exact .vec rfl|exact .same (show CV.list (((l.map scv).take (l.map scv).length).drop 1) nn none=_ from by rw [List.take_of_length_le (Nat.le_refl _),List.map_drop]) (by first|exact .val _|exact .ptr (nb rfl)|exact .map (nb rfl)|exact k8 _ _ _))⟩,⟨tt,(by first|exact .ptr rfl|exact .map rfl|exact .vec rfl|exact .same (show CV.val (.int .i64 ((((l.map scv).take (l.map scv).length).drop 1).length:Int))=_ from by simp) (by first|exact .val _|exact .ptr (nb rfl)|exact .map (nb rfl)|exact k8 _ _ _))⟩,⟨tt,a0o⟩,tt⟩,⟨.inr ⟨_,rfl,a2G j4 rfl (fun c hc=>by cases hc) (by rw [C2,List.take_one_eq g0]; rfl)⟩,.inl rfl,.inl rfl,.inr ⟨_,rfl,K4 (by rw [C2,List.take_one_eq g0]; rfl)⟩,.inl rfl,tt⟩⟩ ?_; intro ⟨m,ph⟩ hm
     dsimp only at hm ⊢
     refine a7 (a6 ?_)
     refine cY r9 ?_
     refine a8 (a7 ?_)
     refine b9 tt rfl (fun h7=>?_) (fun h7=>?_)
     ·have hlt:m+1 < l.length:=by simp at h7; omega
      obtain ⟨y,hy⟩:∃ y,l[m+1]? = some y:=⟨l[m+1]'hlt,by simp⟩
      have hyl:=hl2 y (List.mem_of_getElem? hy)
      have hy':(l.drop 1)[m]? = some y:=by rw [List.getElem?_drop,Nat.add_comm]; exact hy
      have es:=a2z (sep:=sep) hy
      rw [if_neg b8] at es
      have hjl:=a5v (sep:=sep) (l:=l) hs2 hl2 (m+1)
      have hjl2:(m+1)*1002≤1000*1002:=Nat.mul_le_mul_right _ b8
      refine c8 (a7 (d4 (a7 (a6 ?_))))
      refine cY (r5 rfl tt tt rfl rfl Tryz.runUnderlying26 Tryz.sizeOf9 b8 (m7 hy') rfl) ?_; refine cY M7 ?_; refine cY c7 ?_
      refine a8 (a7 (a6 ?_))
      refine cY b7 ?_
      refine cD (j3 rfl Tryz.call195 ⟨tt,tt,tt⟩ (o7 a1G _ (C2 sep l (m+1)) (fun c hc=>by cases hc) sep b8 (σ:=_) (q:=0) (k:=kp ph) ⟨rfl,by cases ph <;> rfl,by cases ph <;> exact Nat.ne_of_beq_eq_false rfl⟩) rfl ?_)
      intro _ _; refine p7 [A1 tSB 0 5 true (C2 sep l (m+1)++sep) [],.dead,.dead,.dead,.dead,r3 tU8 (C2 sep l (m+1)++sep).length] a0u ?_
      refine a8 (a6 ?_)
      refine cY b7 ?_
      refine cD (j3 rfl Tryz.call195 ⟨tt,tt,tt⟩ (o7 a1G _ (C2 sep l (m+1)++sep) (fun c hc=>by cases hc) y (by rw [F1]; omega) (q:=0) (k:=5) ⟨rfl,rfl,Nat.ne_of_beq_eq_false rfl⟩) rfl ?_)
      intro _ _; refine p7 [A1 tSB 0 6 true (C2 sep l (m+1)++sep++y) [],.dead,.dead,.dead,.dead,.dead,r3 tU8 (C2 sep l (m+1)++sep++y).length] rfl ?_
      refine a8 (a6 ?_)
      refine cY m9 ?_; refine cY b7 ?_; refine a8 ?_
      exact ⟨(m+1,true),[0,1,2,3,6],(show l.length - (m+1) < l.length - m∧m+1+1≤l.length from ⟨by omega,by omega⟩),⟨rfl,rfl⟩,⟨⟨tt,a0o⟩,⟨tt,a0o⟩,⟨tt,a0o⟩,⟨tt,a0o⟩,⟨tt,a0o⟩,tt⟩,⟨.inr ⟨_,rfl,a2G j4 rfl (fun c hc=>by cases hc) es.symm⟩,.inl rfl,.inl rfl,.inl rfl,.inr ⟨_,rfl,K4 es.symm⟩,tt⟩⟩
     ·have hme:m+1=l.length:=by simp at h7; omega
      refine m4 (a7 (a6 ?_))
      refine cD (j3 rfl Tryz.call197 ⟨tt,tt⟩ (a0p (rest:=[]) (T:=tSB) (fun c hc=>by cases hc) true (C2 sep l (m+1)) (q:=0) (k:=kp ph) ⟨rfl,by cases ph <;> rfl,by cases ph <;> exact Nat.ne_of_beq_eq_false rfl⟩) rfl ?_)
      intro _ _; refine cY c7 ?_
      refine a8 (c9 ?_)
      exact ⟨_,l9 rfl tt c6,_,_,rfl,rfl,L0 (by rw [hme,C2,List.take_of_length_le (Nat.le_refl _)])⟩
theorem a5F (l:List Str) (nn:Bool) (sep:Str) (hs2:sep.length=2) (hl:l.length≤1000) (hl2:∀ s∈l,1≤s.length∧s.length≤1000) (σ:List c5):c4 CC 196 [(.list (l.map scv) nn none),(sv (sep))] σ fun r σ'=>r = .ret (sv (D8 sep l))∧σ'=σ :=
 c4.anyw hCC (by repeat' (first|exact .val _|exact d8 _ _|exact d6 _ _|exact tt | refine d7 ?_ | refine d9 ?_ | refine ⟨?_,?_⟩)) (by repeat' (first|exact .val _|exact d8 _ _|exact d6 _ _|exact tt | refine d7 ?_ | refine d9 ?_ | refine ⟨?_,?_⟩)) (a8h l nn sep hs2 hl hl2) σ
end Go.Proofs.YtoblbdedgjfeaaaGreatDoor
namespace Go.Proofs.YtoblbdedgjfeaaaGreatDoor
open Go Go.Cl
open Classical in
noncomputable def O0 (d:De):Str:=if h:∃ t:Tr,d.body=t.flat 0∧t.wf d.params.length 1 then h.choose.txt d.params 0 else []
theorem a5b {d:De} (h:DeG d):∃ t:Tr,d.body=t.flat 0∧t.wf d.params.length 1∧O0 d=t.txt d.params 0:=by
 refine ⟨h.tree.choose,h.tree.choose_spec.1,h.tree.choose_spec.2,?_⟩
 unfold O0
 rw [dif_pos h.tree]
theorem a8p {d:De} (h:DeG d):∀ s∈d.params,s.length≤80:=fun s hs=>by have:=B1 (h.par s hs).1; omega
theorem a6E {d:De} (h:DeG d):(O0 d).length≤76800:=by
 obtain ⟨t,h1,h2,h3⟩:=a5b h
 have:=t.txt_len (a8p h) 1 0 h2
 have hb:=h.blen
 rw [h1,Tr.flat_len] at hb
 rw [h3]
 omega
def b7b (d:De):Src:=⟨[112],[],[⟨1,[102],d.params,d.body⟩]⟩
theorem b6L {d:De} (h:DeG d):a1i (b7b d) where
 pkg:=by show B8 [112]=true∧M6 [112]=false; decide
 imp:=fun s hs=>by cases hs
 impl:=Nat.zero_le _
 impn:=List.nodup_nil
 impp:=fun h=>by cases h
 dec:=fun e he=>by
  simp only [b7b,List.mem_cons,List.not_mem_nil,or_false] at he
  subst he
  exact { kind:=.inl rfl,name:=fun _=>by (show B8 [102]=true∧M6 [102]=false); decide,path:=fun hk=>absurd (show (1:Int)=3 from hk) j4,pars:=fun hk=>absurd rfl hk,par:=h.par,parl:=h.parl,nod:=h.nod,tree:=h.tree,blen:=h.blen}
 decl:=by show 1≤64; decide
 decn:=by show (List.map _ [_]).Nodup; simp
set_option maxRecDepth 10000 in
theorem b60 (d:De) (h:DeG d):c4 CC 194 [(.list (d.body.map Ex.cv) (gnn d.body.length) none),(.list (d.params.map scv) (gnn d.params.length) none)] [] fun r σ'=>r = .ret (.tup [sv (O0 d),(.val (.int .i64 (0)))])∧σ'=[]:=by
 refine j8 (d5 Tryz.func194 rfl rfl ?_)
 refine a7 (a6 ?_)
 refine cY j1 ?_; refine cY j1 ?_
 refine a8 (a7 (a7 (a6 ?_)))
 refine cY b7 ?_; refine cY b7 ?_; refine cY (t6 #[(0,1),(1,1),(2,1),(3,1)] rfl ⟨rfl,rfl,tt,tt,tt⟩ Tryz.runUnderlying117 Tryz.zeroValue117 rfl ⟨_,rfl⟩ (fun w=>by kernel_rfl) rfl rfl) ?_; refine cY (y9 ([(⟨1,[102],d.params,d.body⟩:De)].map De.cv) rfl ⟨tt,tt⟩ Tryz.runUnderlying67 Tryz.sizeOf117 Tryz.zeroValue117 rfl rfl rfl rfl rfl rfl rfl rfl rfl) ?_; refine cY (t6 #[(0,1),(1,1),(2,1)] rfl ⟨rfl,tt,tt⟩ Tryz.runUnderlying69 Tryz.zeroValue69 rfl ⟨_,rfl⟩ (fun w=>by kernel_rfl) rfl rfl) ?_; refine cY (i8 rfl Tryz.call193 ⟨tt,tt⟩ (a4W (b7b d) (b6L h) _) rfl) ?_; refine cY c7 ?_
 refine a8 (a7 (a6 ?_))
 refine cY b7 ?_; refine cY j9 ?_; refine a8 ?_
 refine b9 tt rfl (fun h1=>?_) (fun h1=>?_)
 ·cases h1
 ·obtain ⟨t,ht1,ht2,ht3⟩:=a5b h
  refine c8 (a7 (a6 ?_))
  refine cY b7 ?_; refine cY b7 ?_
  refine cD (j3 rfl Tryz.call235 ⟨tt,tt,tt⟩ (b4w (gnn d.body.length) (gnn d.params.length) (by have:=h.blen; omega) t ht1 ⟨1,ht2⟩ (a8p h) _) rfl ?_)
  rintro dd _
  dsimp only
  rw [← ht3]
  refine cY b7 ?_; refine cY v7 ?_; refine cY v7 ?_; refine cY c7 ?_; refine cY c7 ?_
  refine a8 (a7 (a6 ?_))
  refine cY b7 ?_; refine cY c7 ?_; refine cY j1 ?_
  refine a8 (c9 ?_)
  exact ⟨_,o0 (rs:=[.tmp 4,.tmp 5]) (cs:=[_,_]) rfl ⟨⟨tt,c6⟩,⟨tt,c6⟩,tt⟩ (Nat.ne_of_beq_eq_false rfl),_,_,rfl,rfl,(.old (d9 (cs:=[sv (O0 d),.val (.int .i64 0)]) ⟨.val _,.val _,tt⟩).old)⟩
theorem b2N (d:De) (h:DeG d) (σ:List c5):c4 CC 194 [(.list (d.body.map Ex.cv) (gnn d.body.length) none),(.list (d.params.map scv) (gnn d.params.length) none)] σ fun r σ'=>r = .ret (.tup [sv (O0 d),(.val (.int .i64 (0)))])∧σ'=σ :=
 c4.anyw hCC (by repeat' (first|exact .val _|exact d8 _ _|exact d6 _ _|exact t7 _ _|exact x0 _ _|exact tt | refine d7 ?_ | refine d9 ?_ | refine ⟨?_,?_⟩)) (by repeat' (first|exact .val _|exact d8 _ _|exact d6 _ _|exact t7 _ _|exact x0 _ _|exact tt | refine d7 ?_ | refine d9 ?_ | refine ⟨?_,?_⟩)) (b60 d h) σ
def L7 (l:List Str):Str:=(l.map fun s=>[105,109,112,111,114,116,32]++s++[59,10]).flatten
theorem a7e {l:List Str} {m:Nat} {s:Str} (h:l[m]? = some s):L7 (l.take (m+1))=L7 (l.take m)++([105,109,112,111,114,116,32]++s++[59,10]):=by
 unfold L7
 rw [List.take_add_one,h]
 simp
def a68 (d:De):Str:=if d.k=1 then [102,117,110,99,32]++d.name++[40]++D8 [44,32] d.params++[41,32,61,32] else if d.k=2 then [116,101,115,116,32]++d.name++[32,61,32] else [103,101,110,32,34]++d.name++[34,32,61,32]
noncomputable def X4 (x:Src) (d:De):Str:=([112,97,99,107,97,103,101,32]++x.pkg++[59,10])++L7 x.imports++a68 d++(O0 d++[59,10])
theorem a5T {l:List Str} (h:∀ s∈l,s.length≤80):∀ m,(L7 (l.take m)).length≤100*m
 | 0=>by simp [L7]
 | m+1=>by
  have ih:=a5T h m
  cases hg:l[m]? with
  | none =>
   have:l.length≤m:=by simpa using hg
   rw [List.take_of_length_le (show l.length≤m+1 by omega)]
   rw [List.take_of_length_le this] at ih
   omega
  | some y =>
   have:=h y (List.mem_of_getElem? hg)
   rw [a7e hg]
   simp only [List.length_append,List.length_cons,List.length_nil]
   omega
theorem b1w {l:List Str} {k:Nat} (h:∀ s∈l,s.length≤k):a4s l≤k*l.length:=by
 induction l with
 | nil=>simp [a4s]
 | cons x l ih =>
  have h1:=h x l7
  have h2:=ih fun s hs=>h s (by simp [hs])
  simp only [a4s,List.map_cons,List.sum_cons,List.length_cons,Nat.mul_add] at h2 ⊢
  omega
theorem De.name_len {d:De} (h:DeG d):d.name.length≤80:=by
 by_cases h3:d.k=3
 ·exact W9 (h.path h3)
 ·have:=B1 (h.name h3).1; omega
def kpn (a:Nat) (ph:Bool):Nat:=match ph with | false=>a | true=>a+1
theorem b1J {L:Nat} {sel:List Nat} {T:TypeId} {q s s':Nat} {a:Bool} {l l':Str} {rest:List CV} (hL:q < L) (hs:sel[s']? = some s) (hr:∀ c∈rest,o9 c) (he:l=l'):a5S L sel (A1 T q s a l rest) (A1 T q s' a l' rest):=by
 subst he
 refine .box ⟨?_,.list (fun r hr c hc=>(X1 l r hr c hc).old) (fun j hj=>?_),?_⟩
 ·cases a
  ·exact .old (.val _)
  ·exact .old (.ptr hL)
 ·cases hb:l.length with
  | zero=>rw [hb] at hj; cases hj
  | succ m=>rw [hb] at hj; injection hj with hj; subst hj; exact ⟨s,rfl,hs⟩
 ·have:∀ l:List CV,(∀ c∈l,o9 c)→a7w L l:=fun l=>by
   induction l with
   | nil=>intro _; trivial
   | cons x l ih=>intro h; exact ⟨(h x l7).old,ih fun c hc=>h c (by simp [hc])⟩
  exact a23 (this rest hr)
theorem b2l {s:Str} (h:B8 s=true):1≤s.length:=by
 cases s with
 | nil=>simp [B8] at h
 | cons a l=>simp
set_option maxRecDepth 10000 in
set_option maxHeartbeats 1000000 in
theorem b55 (x:Src) (h:a1i x) (i:Nat) (d:De) (hx:x.decls[i]? = some d) (hd:DeG d) (hi:i < x.decls.length):c4 CC 145 [.agg x.cells,(.val (.int .i64 ((i:Int))))] [] fun r σ'=>r = .ret (.tup [sv (X4 x d),(.val (.int .i64 (0)))])∧σ'=[]:=by
 refine j8 (d5 Tryz.func145 rfl rfl ?_)
 refine a7 (a6 ?_)
 refine cD (A4 rfl tt c6 j2 ?_)
 refine cY j1 ?_; refine cY j1 ?_
 refine a8 (a7 (a7 (a6 ?_)))
 refine cY a6r ?_; refine cY (i8 rfl Tryz.call193 ⟨tt,tt⟩ (a4W x h _) rfl) ?_; refine cY c7 ?_
 refine a8 (a7 (a6 ?_))
 refine cY b7 ?_; refine cY j9 ?_; refine a8 ?_
 refine b9 tt rfl (fun h1=>?_) (fun h1=>?_)
 ·cases h1
 ·skip
  refine c8 (a7 (a7 (a6 ?_)))
  refine cY b7 ?_; refine cY j9 ?_; refine cY b7 ?_; refine cG o5 ?_; refine cG (fun hg=>l8 rfl tt rfl Tryz.runUnderlying69 rfl Tryz.sizeOf67 j4) ?_; refine cG (fun hg=>n8 rfl hg rfl Tryz.isAgg67 rfl rfl) ?_; refine cG (fun hg=>U8 rfl hg rfl Tryz.runUnderlying67 a2s rfl) ?_; refine cG a4Q ?_; refine cY G5 ?_; refine a8 ?_
  refine b9 tt rfl (fun h2=>?_) (fun h2=>?_)
  ·exact absurd h2 (by simp; omega)
  ·have hdl:=De.name_len hd
   have hbl:=a6E hd
   have hpk:=B1 h.pkg.1
   have himl:=h.impl
   have him8:∀ s∈x.imports,s.length≤80:=fun s hs=>by have:=B1 (h.imp s hs).1; omega
   have hjl:=a2c [44,32] d.params
   have hsl:=b1w (a8p hd)
   have hprl:=hd.parl
   have e2:([44,32]:Str).length=2:=rfl
   rw [e2] at hjl
   refine c8 (a7 (a6 ?_))
   refine cY a5a ?_; refine cY a3m ?_; refine cY b7 ?_; refine cY (r5 rfl tt tt rfl rfl Tryz.runUnderlying67 Tryz.sizeOf117 b8 (m7 hx) rfl) ?_; refine cY a6H ?_
   refine cD (l5 rfl Tryz.zeroValue117 rfl j2 ?_)
   refine cD (i7 rfl tt tt rfl c6 Tryz.sizeOf117 j2 rfl rfl (nb rfl) ?_)
   refine a8 (a7 (a6 ?_))
   refine cY a3c ?_; refine cY a0a ?_; refine cY a4o ?_; refine cY R2 ?_; refine cY (i8 rfl Tryz.call194 ⟨tt,tt,tt⟩ (b2N d hd _) rfl) ?_; refine cY b7 ?_; refine cY v7 ?_; refine cY v7 ?_; refine cY c7 ?_; refine cY c7 ?_
   refine a8 (a7 (a7 (a6 ?_)))
   refine cY b7 ?_; refine cY j9 ?_; refine a8 ?_
   refine b9 tt rfl (fun h3=>?_) (fun h3=>?_)
   ·cases h3
   ·skip
    refine c8 (a7 (a6 ?_))
    refine cD (a8m rfl Tryz.zeroValue240 rfl j2 ?_)
    refine a8 (a7 (a6 ?_))
    refine cY a9n ?_; refine cY s7 ?_; refine cY b4K ?_; refine cY a7G ?_
    refine cD (j3 rfl Tryz.call195 ⟨tt,tt,tt⟩ ((U6 (o7 a1G false [] (fun c hc=>by cases hc) ([112,97,99,107,97,103,101,32]++x.pkg++[59,10]) a2N (q:=2) (k:=3) ⟨rfl,rfl,Nat.ne_of_beq_eq_false rfl⟩))) rfl ?_)
    intro _ _; refine p7 [.box x.cells,.box d.cells,A1 tSB 2 4 true (([112,97,99,107,97,103,101,32]++x.pkg++[59,10])) [],.dead,r3 tU8 (([112,97,99,107,97,103,101,32]++x.pkg++[59,10])).length] rfl ?_
    refine a8 (a7 (a7 (a6 ?_)))
    refine cY a4P ?_; refine cY R2 ?_; refine cY R1 ?_; refine cY A7 ?_
    refine a8 (d4 ?_)
    refine B2 hCC 5 rfl (α:=Nat × Bool) (fun x'=>[(7,.ptr 1 0),(8,(sv (O0 d))),(10,.ptr 2 0),(49,(.list (x.imports.map scv) (gnn x.imports.length) none)),(50,(.val (.int .i64 ((x.imports.length:Int))))),(51,(.val (.int .i64 ((x'.1:Int)))))]) (fun x'=>[.box x.cells,.box d.cells,A1 tSB 2 (kpn 4 x'.2) true (([112,97,99,107,97,103,101,32]++x.pkg++[59,10])++L7 (x.imports.take x'.1)) [],.dead,op1 x'.2 (([112,97,99,107,97,103,101,32]++x.pkg++[59,10])++L7 (x.imports.take x'.1)).length,op2 x'.2 (([112,97,99,107,97,103,101,32]++x.pkg++[59,10])++L7 (x.imports.take x'.1)).length]) (fun x'=>x'.1≤x.imports.length) (fun x'=>x.imports.length - x'.1) ⟨(0,false),[0,1,2,3,4,9],(Nat.zero_le _),⟨rfl,rfl⟩,⟨⟨tt,a0o⟩,⟨tt,a0o⟩,⟨tt,a0o⟩,⟨tt,a0o⟩,⟨tt,a0o⟩,⟨tt,a0o⟩,tt⟩,⟨.inr ⟨_,rfl,.same rfl (Src.old x _)⟩,.inr ⟨_,rfl,.same rfl (De.old d _)⟩,.inr ⟨_,rfl,b1J j4 rfl (fun c hc=>by cases hc) (List.append_nil _).symm⟩,.inl rfl,.inr ⟨_,rfl,K4 (List.append_nil _).symm⟩,.inl rfl,tt⟩⟩ ?_; intro ⟨m,ph⟩ hm
    dsimp only at hm ⊢
    have hil:=a5T him8 m
    refine a7 (a6 ?_)
    refine cY r9 ?_
    refine a8 (a7 ?_)
    refine b9 tt rfl (fun h4=>?_) (fun h4=>?_)
    ·have hlt:m < x.imports.length:=by simp at h4; omega
     obtain ⟨y,hy⟩:∃ y,x.imports[m]? = some y:=⟨x.imports[m]'hlt,by simp⟩
     have hyl:=him8 y (List.mem_of_getElem? hy)
     have es:=a7e hy
     have ej:([112,97,99,107,97,103,101,32]++x.pkg++[59,10])++L7 (x.imports.take m)++([105,109,112,111,114,116,32]++y++[59,10])=([112,97,99,107,97,103,101,32]++x.pkg++[59,10])++L7 (x.imports.take (m+1)):=by rw [es]; simp only [List.append_assoc]
     refine c8 (a7 (d4 (a7 (a6 ?_))))
     refine cY b7d ?_; refine cY M7 ?_; refine cY c7 ?_
     refine a8 (a6 ?_)
     refine cY b7 ?_; refine cY b4K ?_; refine cY a7G ?_
     refine cD (j3 rfl Tryz.call195 ⟨tt,tt,tt⟩ (o7 a1G _ (([112,97,99,107,97,103,101,32]++x.pkg++[59,10])++L7 (x.imports.take m)) (fun c hc=>by cases hc) ([105,109,112,111,114,116,32]++y++[59,10]) a2N (q:=2) (k:=kpn 4 ph) ⟨rfl,by cases ph <;> rfl,by cases ph <;> exact Nat.ne_of_beq_eq_false rfl⟩) rfl ?_)
     intro _ _; refine p7 [.box x.cells,.box d.cells,A1 tSB 2 6 true (([112,97,99,107,97,103,101,32]++x.pkg++[59,10])++L7 (x.imports.take m)++([105,109,112,111,114,116,32]++y++[59,10])) [],.dead,.dead,.dead,r3 tU8 (([112,97,99,107,97,103,101,32]++x.pkg++[59,10])++L7 (x.imports.take m)++([105,109,112,111,114,116,32]++y++[59,10])).length] a0u ?_
     refine a8 (a6 ?_)
     refine cY m9 ?_; refine cY b7 ?_; refine a8 ?_
     exact ⟨(m+1,true),[0,1,2,3,4,6],(show x.imports.length - (m+1) < x.imports.length - m∧m+1≤x.imports.length from ⟨by omega,by omega⟩),⟨rfl,rfl⟩,⟨⟨tt,a0o⟩,⟨tt,a0o⟩,⟨tt,a0o⟩,⟨tt,a0o⟩,⟨tt,a0o⟩,⟨tt,a0o⟩,tt⟩,⟨.inr ⟨_,rfl,.same rfl (Src.old x _)⟩,.inr ⟨_,rfl,.same rfl (De.old d _)⟩,.inr ⟨_,rfl,b1J j4 rfl (fun c hc=>by cases hc) ej⟩,.inl rfl,.inl rfl,.inr ⟨_,rfl,K4 ej⟩,tt⟩⟩
    ·have hme:m=x.imports.length:=by simp at h4; omega
     rw [hme] at hil
     have etk:x.imports.take m=x.imports:=by rw [hme]; exact List.take_of_length_le (Nat.le_refl _)
     rw [etk]
     rw [← hme,etk] at hil
     refine m4 (a7 (a7 (a6 ?_)))
     refine cY a6o ?_; refine cY z8 ?_
     refine a8 (d4 (a7 (a6 ?_)))
     refine cY j9 ?_; refine cY c7 ?_; refine a8 ?_
     refine b9 tt rfl (fun h5=>?_) (fun h5=>?_)
     ·have u5:d.k=1:=by simpa using h5
      refine w8 9 [0,1,3,7,0,16,48,127,255,511] j6 j6 rfl ?_; refine hY a4i ?_; refine hY s7 ?_; refine hY b4K ?_; refine hY a7G ?_; refine hY a4o ?_; refine hY R2 ?_; refine hY (i8 rfl Tryz.call196 ⟨tt,rfl,tt⟩ (a5F d.params _ [44,32] rfl b8 (fun s hs=>⟨b2l (hd.par s hs).1,by have:=a8p hd s hs; omega⟩) _) rfl) ?_; refine hY (G4 rfl tt tt rfl rfl a2N) ?_; refine hY a7G ?_; refine B6 ?_
      refine cD (j3 rfl Tryz.call195 ⟨tt,tt,tt⟩ (o7 a1G _ (([112,97,99,107,97,103,101,32]++x.pkg++[59,10])++L7 x.imports) (fun c hc=>by cases hc) ([102,117,110,99,32]++d.name++[40]++D8 [44,32] d.params++[41,32,61,32]) a2N (q:=2) (k:=kpn 4 ph) ⟨rfl,by cases ph <;> rfl,by cases ph <;> exact Nat.ne_of_beq_eq_false rfl⟩) rfl ?_)
      intro _ _; refine p7 [.box x.cells,.box d.cells,A1 tSB 2 6 true (([112,97,99,107,97,103,101,32]++x.pkg++[59,10])++L7 x.imports++([102,117,110,99,32]++d.name++[40]++D8 [44,32] d.params++[41,32,61,32])) [],.dead,.dead,.dead,r3 tU8 (([112,97,99,107,97,103,101,32]++x.pkg++[59,10])++L7 x.imports++([102,117,110,99,32]++d.name++[40]++D8 [44,32] d.params++[41,32,61,32])).length] a0u ?_
      refine a8 (a7 (a6 ?_))
      refine cY b7 ?_; refine cY a7G ?_
      refine cD (j3 rfl Tryz.call195 ⟨tt,tt,tt⟩ (o7 a1G _ (([112,97,99,107,97,103,101,32]++x.pkg++[59,10])++L7 x.imports++([102,117,110,99,32]++d.name++[40]++D8 [44,32] d.params++[41,32,61,32])) (fun c hc=>by cases hc) (O0 d++[59,10]) a2N (q:=2) (k:=6) ⟨rfl,rfl,Nat.ne_of_beq_eq_false rfl⟩) rfl ?_)
      intro _ _; refine p7 [.box x.cells,.box d.cells,A1 tSB 2 7 true (([112,97,99,107,97,103,101,32]++x.pkg++[59,10])++L7 x.imports++([102,117,110,99,32]++d.name++[40]++D8 [44,32] d.params++[41,32,61,32])++(O0 d++[59,10])) [],.dead,.dead,.dead,.dead,r3 tU8 (([112,97,99,107,97,103,101,32]++x.pkg++[59,10])++L7 x.imports++([102,117,110,99,32]++d.name++[40]++D8 [44,32] d.params++[41,32,61,32])++(O0 d++[59,10])).length] rfl ?_
      refine a8 (a7 (a6 ?_))
      refine cD (j3 rfl Tryz.call197 ⟨tt,tt⟩ (a0p (rest:=[]) (T:=tSB) (fun c hc=>by cases hc) true (([112,97,99,107,97,103,101,32]++x.pkg++[59,10])++L7 x.imports++([102,117,110,99,32]++d.name++[40]++D8 [44,32] d.params++[41,32,61,32])++(O0 d++[59,10])) (q:=2) (k:=7) ⟨rfl,rfl,Nat.ne_of_beq_eq_false rfl⟩) rfl ?_)
      intro _ _; refine cY c7 ?_; refine cY j1 ?_
      refine a8 (c9 ?_)
      exact ⟨_,o0 (rs:=[.tmp 4,.tmp 5]) (cs:=[_,_]) rfl ⟨⟨tt,c6⟩,⟨tt,c6⟩,tt⟩ (Nat.ne_of_beq_eq_false rfl),_,_,rfl,rfl,(by rw [X4]; rw [a68,if_pos u5]; exact .old (d9 (cs:=[sv _,.val (.int .i64 0)]) ⟨.val _,.val _,tt⟩).old)⟩
     ·have u5:¬ d.k=1:=by simpa using h5
      refine a7 (a6 ?_)
      refine cY j9 ?_; refine cY c7 ?_; refine a8 ?_
      refine b9 tt rfl (fun h6=>?_) (fun h6=>?_)
      ·have u6:d.k=2:=by simpa using h6
       refine a6 ?_; refine cY a4i ?_; refine cY s7 ?_; refine cY b4K ?_; refine cY a7G ?_
       refine cD (j3 rfl Tryz.call195 ⟨tt,tt,tt⟩ (o7 a1G _ (([112,97,99,107,97,103,101,32]++x.pkg++[59,10])++L7 x.imports) (fun c hc=>by cases hc) ([116,101,115,116,32]++d.name++[32,61,32]) a2N (q:=2) (k:=kpn 4 ph) ⟨rfl,by cases ph <;> rfl,by cases ph <;> exact Nat.ne_of_beq_eq_false rfl⟩) rfl ?_)
       intro _ _; refine p7 [.box x.cells,.box d.cells,A1 tSB 2 6 true (([112,97,99,107,97,103,101,32]++x.pkg++[59,10])++L7 x.imports++([116,101,115,116,32]++d.name++[32,61,32])) [],.dead,.dead,.dead,r3 tU8 (([112,97,99,107,97,103,101,32]++x.pkg++[59,10])++L7 x.imports++([116,101,115,116,32]++d.name++[32,61,32])).length] a0u ?_
       refine a8 (a7 (a6 ?_))
       refine cY b7 ?_; refine cY a7G ?_
       refine cD (j3 rfl Tryz.call195 ⟨tt,tt,tt⟩ (o7 a1G _ (([112,97,99,107,97,103,101,32]++x.pkg++[59,10])++L7 x.imports++([116,101,115,116,32]++d.name++[32,61,32])) (fun c hc=>by cases hc) (O0 d++[59,10]) a2N (q:=2) (k:=6) ⟨rfl,rfl,Nat.ne_of_beq_eq_false rfl⟩) rfl ?_)
       intro _ _; refine p7 [.box x.cells,.box d.cells,A1 tSB 2 7 true (([112,97,99,107,97,103,101,32]++x.pkg++[59,10])++L7 x.imports++([116,101,115,116,32]++d.name++[32,61,32])++(O0 d++[59,10])) [],.dead,.dead,.dead,.dead,r3 tU8 (([112,97,99,107,97,103,101,32]++x.pkg++[59,10])++L7 x.imports++([116,101,115,116,32]++d.name++[32,61,32])++(O0 d++[59,10])).length] rfl ?_
       refine a8 (a7 (a6 ?_))
       refine cD (j3 rfl Tryz.call197 ⟨tt,tt⟩ (a0p (rest:=[]) (T:=tSB) (fun c hc=>by cases hc) true (([112,97,99,107,97,103,101,32]++x.pkg++[59,10])++L7 x.imports++([116,101,115,116,32]++d.name++[32,61,32])++(O0 d++[59,10])) (q:=2) (k:=7) ⟨rfl,rfl,Nat.ne_of_beq_eq_false rfl⟩) rfl ?_)
       intro _ _; refine cY c7 ?_; refine cY j1 ?_
       refine a8 (c9 ?_)
       exact ⟨_,o0 (rs:=[.tmp 4,.tmp 5]) (cs:=[_,_]) rfl ⟨⟨tt,c6⟩,⟨tt,c6⟩,tt⟩ (Nat.ne_of_beq_eq_false rfl),_,_,rfl,rfl,(by rw [X4]; rw [a68,if_neg u5,if_pos u6]; exact .old (d9 (cs:=[sv _,.val (.int .i64 0)]) ⟨.val _,.val _,tt⟩).old)⟩
      ·have u6:¬ d.k=2:=by simpa using h6
       refine a6 ?_; refine cY a4i ?_; refine cY s7 ?_; refine cY b4K ?_; refine cY a7G ?_
       refine cD (j3 rfl Tryz.call195 ⟨tt,tt,tt⟩ (o7 a1G _ (([112,97,99,107,97,103,101,32]++x.pkg++[59,10])++L7 x.imports) (fun c hc=>by cases hc) ([103,101,110,32,34]++d.name++[34,32,61,32]) a2N (q:=2) (k:=kpn 4 ph) ⟨rfl,by cases ph <;> rfl,by cases ph <;> exact Nat.ne_of_beq_eq_false rfl⟩) rfl ?_)
       intro _ _; refine p7 [.box x.cells,.box d.cells,A1 tSB 2 6 true (([112,97,99,107,97,103,101,32]++x.pkg++[59,10])++L7 x.imports++([103,101,110,32,34]++d.name++[34,32,61,32])) [],.dead,.dead,.dead,r3 tU8 (([112,97,99,107,97,103,101,32]++x.pkg++[59,10])++L7 x.imports++([103,101,110,32,34]++d.name++[34,32,61,32])).length] a0u ?_
       refine a8 (a7 (a6 ?_))
       refine cY b7 ?_; refine cY a7G ?_
       refine cD (j3 rfl Tryz.call195 ⟨tt,tt,tt⟩ (o7 a1G _ (([112,97,99,107,97,103,101,32]++x.pkg++[59,10])++L7 x.imports++([103,101,110,32,34]++d.name++[34,32,61,32])) (fun c hc=>by cases hc) (O0 d++[59,10]) a2N (q:=2) (k:=6) ⟨rfl,rfl,Nat.ne_of_beq_eq_false rfl⟩) rfl ?_)
       intro _ _; refine p7 [.box x.cells,.box d.cells,A1 tSB 2 7 true (([112,97,99,107,97,103,101,32]++x.pkg++[59,10])++L7 x.imports++([103,101,110,32,34]++d.name++[34,32,61,32])++(O0 d++[59,10])) [],.dead,.dead,.dead,.dead,r3 tU8 (([112,97,99,107,97,103,101,32]++x.pkg++[59,10])++L7 x.imports++([103,101,110,32,34]++d.name++[34,32,61,32])++(O0 d++[59,10])).length] rfl ?_
       refine a8 (a7 (a6 ?_))
       refine cD (j3 rfl Tryz.call197 ⟨tt,tt⟩ (a0p (rest:=[]) (T:=tSB) (fun c hc=>by cases hc) true (([112,97,99,107,97,103,101,32]++x.pkg++[59,10])++L7 x.imports++([103,101,110,32,34]++d.name++[34,32,61,32])++(O0 d++[59,10])) (q:=2) (k:=7) ⟨rfl,rfl,Nat.ne_of_beq_eq_false rfl⟩) rfl ?_)
       intro _ _; refine cY c7 ?_; refine cY j1 ?_
       refine a8 (c9 ?_)
       exact ⟨_,o0 (rs:=[.tmp 4,.tmp 5]) (cs:=[_,_]) rfl ⟨⟨tt,c6⟩,⟨tt,c6⟩,tt⟩ (Nat.ne_of_beq_eq_false rfl),_,_,rfl,rfl,(by rw [X4]; rw [a68,if_neg u5,if_neg u6]; exact .old (d9 (cs:=[sv _,.val (.int .i64 0)]) ⟨.val _,.val _,tt⟩).old)⟩
theorem b2w (x:Src) (h:a1i x) (i:Nat) (d:De) (hx:x.decls[i]? = some d) (hd:DeG d) (hi:i < x.decls.length) (σ:List c5):c4 CC 145 [.agg x.cells,(.val (.int .i64 ((i:Int))))] σ fun r σ'=>r = .ret (.tup [sv (X4 x d),(.val (.int .i64 (0)))])∧σ'=σ :=
 c4.anyw hCC (by repeat' (first|exact .val _|exact d8 _ _|exact d6 _ _|exact t7 _ _|exact x0 _ _|exact tt | refine d7 ?_ | refine d9 ?_ | refine ⟨?_,?_⟩)) (by repeat' (first|exact .val _|exact d8 _ _|exact d6 _ _|exact t7 _ _|exact x0 _ _|exact tt | refine d7 ?_ | refine d9 ?_ | refine ⟨?_,?_⟩)) (b55 x h i d hx hd hi) σ
end Go.Proofs.YtoblbdedgjfeaaaGreatDoor
namespace Go.Proofs.YtoblbdedgjfeaaaGreatDoor
open Go Go.Cl
def V8 (n:Nat):Str:=if h:n < 128 then [UInt8.ofNat n] else UInt8.ofNat (n%128+128)::V8 (n / 128)
termination_by n
decreasing_by omega
theorem S9 (n:Nat):V8 n=if n < 128 then [UInt8.ofNat n] else UInt8.ofNat (n%128+128)::V8 (n / 128):=by
 rw [V8]
 split <;> rfl
theorem a5s {n k:Nat} (h:n < 128^(k+1)):(V8 n).length≤k+1:=by
 induction k generalizing n with
 | zero=>rw [S9,if_pos a33]; exact Nat.le_refl _
 | succ k ih =>
  rw [S9]
  split
  ·simp
  ·have:=ih (n:=n / 128) (by rw [Nat.pow_succ] at h; exact Nat.div_lt_of_lt_mul (by rw [Nat.mul_comm]; exact h))
   simp; omega
def P1 (l s:Str):Str:=l++V8 s.length++s
set_option maxRecDepth 100000 in
theorem b7Z:∀ x:Fin 256,(x.val ||| 128)=x.val%128+128:=by decide
theorem b9b {n:Nat}:(n%256) ||| 128=n%128+128:=by
 have h:∀ x:Fin 256,(x.val ||| 128)=x.val%128+128:=b7Z
 have:=h ⟨n%256,Nat.mod_lt _ j4⟩
 simp only at this
 omega
theorem b65 {n:Nat} (h:n < 256):((UInt8.ofNat n).toNat:Int)=(n:Int):=by
 rw [UInt8.toNat_ofNat',Nat.mod_eq_of_lt a33]
theorem b86 (n:Nat):IntKind.u8.wrap (n:Int)=((n%256:Nat):Int):=by
 simp [IntKind.wrap,IntKind.signed,IntKind.bits]
theorem a9m {C:Ctx} {σ:List c5} {E:Env} {y:Operand} {b:UInt8} {nn:Bool} {tok:Option Nat} (ey:E.val C y = .list [bcv b] nn tok):∀ M w v,Rel C M σ w→RV M w (E.val C y) v→b0j C w M ([b].map bcv) 1 v:=fun M w v hr h=>(a2M ey (by intro r hr; simp at hr; subst hr; rfl) M w v hr h).any
theorem b6m {L:Nat} {sel:List Nat} {l:Str} {k p:Nat} (hs:sel[p]? = some k):B4 L sel (a0n l k) (a0n l p):=by
 refine .list (fun r hr c hc=>(X1 l r hr c hc).old) (fun j hj=>?_)
 cases hb:l.length with
 | zero=>rw [hb] at hj; cases hj
 | succ m=>rw [hb] at hj; injection hj with hj; subst hj; exact ⟨k,rfl,hs⟩
theorem b62 (m:Nat):CV.list [[CV.val (.int .u8 ((m%256 ||| 128:Nat):Int))]] true none = .list [bcv (UInt8.ofNat (m%128+128))] true none:=by
 rw [b9b,bcv,b65 b8]
theorem b45 {m:Nat} (h:m < 128):CV.list [[CV.val (.int .u8 (m:Int))]] true none = .list [bcv (UInt8.ofNat m)] true none:=by
 rw [bcv,b65 b8]
def a54 (k:Nat) (g:c5):List c5:=List.replicate k .dead++[g]
theorem a9b (k:Nat) (g:c5):(a54 k g).length=k+1:=by simp [a54]
theorem a5P (k:Nat) (g:c5):(a54 k g)[k]? = some g:=by
 rw [a54,List.getElem?_append_right l7]; simp
theorem a87 (k:Nat) (g g':c5):(a54 k g).set k .dead++[g']=a54 (k+1) g':=by
 unfold a54
 congr 1
 rw [List.replicate_succ']
 induction k with
 | zero=>rfl
 | succ k ih=>rw [List.replicate_succ,List.cons_append,List.set_cons_succ,ih]; rfl
theorem b3Y {k:Nat} {g:c5} {l:Str}:G8 1 ((a54 k g).set k .dead++[r3 tU8 l.length]) (.ret (a0n l (a54 k g).length)) (.ret (a0n l 1)) [.dead,r3 tU8 l.length]:=by
 rw [a87,a9b]
 refine ⟨[0,k+1],rfl,by simp [T3],.ret (b6m rfl),.inl rfl,.inr ⟨_,a5P _ _,K4 rfl⟩,tt⟩
set_option maxRecDepth 10000 in
theorem a9O (l:Str) (nn:Bool) (n:Nat) (hl:l.length≤100000000000000) (hn:n < 18446744073709551616):c4 CC 199 [(.list (l.map bcv) nn none),.val (.int .u64 (n:Int))] [.dead] fun r τ=>G8 1 τ r (.ret (a0n (l++V8 n) 1)) [.dead,r3 tU8 (l++V8 n).length]:=by
 refine (d5 Tryz.func199 rfl rfl ?_)
 refine a7 (a6 ?_)
 refine cY j1 ?_
 refine a8 (a7 (a6 ?_))
 refine cY b7 ?_
 refine cD (a3B (l:=[]) (new:=l) (p:=0) rfl rfl tt rfl (fun M w v hr h=>(a2M rfl (by intro r hr; obtain ⟨b,_,rfl⟩:=List.mem_map.1 hr; rfl) M w v hr h).any) Tryz.runUnderlying139 Tryz.sizeOf5 Tryz.typeInfo5 Tryz.zeroValue5 rfl (.inl Tryz.runUnderlying139) rfl rfl a6Z ?_)
 refine cY c7 ?_
 refine a8 (a7 (d4 ?_))
 refine O1 (α:=Str × Nat × Nat) (fun x=>[(1,(.val (.int .u64 (x.2.1:Int)))),(5,(a0n x.1 x.2.2))]) (fun x=>a54 x.2.2 (r3 tU8 x.1.length)) (fun x=>l++V8 n=x.1++V8 x.2.1∧x.2.1≤n) (fun x=>x.2.1) (l,n,1) ⟨rfl,Nat.le_refl _⟩ ⟨⟨tt,rfl⟩,⟨tt,rfl⟩,tt⟩ rfl ?_; intro ⟨b,m,k⟩ _ ⟨hb,hmn⟩
 dsimp only at hb hmn ⊢
 have hlen:b.length≤l.length+10:=by
  have h1:=congrArg List.length hb
  have h2:=a5s (n:=n) (k:=9) b8
  simp only [List.length_append] at h1
  omega
 refine a7 (a7 (a6 ?_))
 refine cY b7 ?_; refine cY j9 ?_; refine a8 ?_
 refine b9 tt rfl (fun h1=>?_) (fun h1=>?_)
 ·have h128:¬ m < 128:=by have:=of_decide_eq_true h1; omega
  rw [S9 m,if_neg h128] at hb
  refine c8 (d4 (a7 (a6 ?_)))
  refine cY b7 ?_; refine cY b7 ?_; refine cY (a70 rfl tt rfl Tryz.runUnderlying77 Tryz.runUnderlying5 (b86 m)) ?_; refine cY (b8m (a:=(m%256)) (b:=128) rfl tt rfl rfl rfl (Nat.mod_lt _ j4) j4) ?_; refine cY (y9 [[.val (.int .u8 ((m%256 ||| 128:Nat):Int))]] rfl ⟨tt,tt⟩ Tryz.runUnderlying139 Tryz.sizeOf5 Tryz.zeroValue5 rfl rfl rfl rfl rfl rfl rfl rfl rfl) ?_
  refine cD (a3B (l:=b) (new:=[UInt8.ofNat (m%128+128)]) (p:=k) rfl tt tt rfl (a9m (b62 m)) Tryz.runUnderlying139 Tryz.sizeOf5 Tryz.typeInfo5 Tryz.zeroValue5 rfl (.inl Tryz.runUnderlying139) rfl (a5P _ _) a6Z ?_)
  refine cY c7 ?_
  refine a8 (a6 ?_)
  refine cY b7 ?_; refine cY (b7r (m:=7) rfl tt rfl rfl rfl j4 (show (m:Int) / 2^7=((m / 128:Nat):Int) by omega)) ?_; refine cY c7 ?_; refine a8 ?_
  exact ⟨(b++[UInt8.ofNat (m%128+128)],m / 128,k+1),(show m / 128 < m by omega),(show l++V8 n=(b++[UInt8.ofNat (m%128+128)])++V8 (m / 128)∧m / 128≤n from ⟨by rw [hb]; simp,by omega⟩),⟨⟨tt,rfl⟩,⟨tt,(congrArg (a0n _) (a9b k _))⟩,tt⟩,(a87 _ _ _)⟩
 ·have h128:m < 128:=by have:=of_decide_eq_false h1; omega
  rw [S9 m,if_pos h128] at hb
  refine m4 (a7 (a6 ?_))
  refine cY b7 ?_; refine cY b7 ?_; refine cY (a70 rfl tt rfl Tryz.runUnderlying77 Tryz.runUnderlying5 ((b86 m).trans (by rw [Nat.mod_eq_of_lt b8]))) ?_; refine cY (y9 [[.val (.int .u8 (m:Int))]] rfl ⟨tt,tt⟩ Tryz.runUnderlying139 Tryz.sizeOf5 Tryz.zeroValue5 rfl rfl rfl rfl rfl rfl rfl rfl rfl) ?_
  refine cD (a3B (l:=b) (new:=[UInt8.ofNat m]) (p:=k) rfl tt tt rfl (a9m (b45 h128)) Tryz.runUnderlying139 Tryz.sizeOf5 Tryz.typeInfo5 Tryz.zeroValue5 rfl (.inl Tryz.runUnderlying139) rfl (a5P _ _) a6Z ?_)
  refine cY c7 ?_
  refine a8 (c9 ?_)
  exact ⟨_,l9 rfl tt c6,(by rw [hb]; exact b3Y)⟩
theorem b8H {n:Nat} (h:n < 18446744073709551616):IntKind.u64.wrap (n:Int)=(n:Int):=by
 simp [IntKind.wrap,IntKind.signed,IntKind.bits]
 omega
theorem b0U (l:Str) (nn:Bool) (n:Nat) (hl:l.length≤100000000000000) (hn:n < 18446744073709551616) (σ:List c5):c4 CC 199 [(.list (l.map bcv) nn none),.val (.int .u64 (n:Int))] σ fun r τ=>∃ _:Unit,r = .ret (a0n (l++V8 n) (σ.length+1))∧τ=σ++[.dead,r3 tU8 (l++V8 n).length]∧True :=
 a2D (α:=Unit) hCC (fun a ha=>by simp at ha; rcases ha with rfl | rfl; exact a01 _ _; exact .val _) (res:=fun _=>.ret (a0n (l++V8 n) 1)) (res':=fun _ m=>.ret (a0n (l++V8 n) (m+1))) (S:=fun _=>[.dead,r3 tU8 (l++V8 n).length]) (S':=fun _ _=>[.dead,r3 tU8 (l++V8 n).length]) (P:=fun _=>True)
  (U6 (L6 hCC ((a9O l nn n hl hn).mono fun r τ h=>⟨_,_,h,(),rfl,rfl,tt⟩))) (fun _ _=>rfl) (fun _ m i x h=>by
   rcases i with _ | _ | i
   ·injection h with h; subst h; exact ⟨_,rfl,.dead⟩
   ·injection h with h; subst h; exact ⟨_,rfl,a18 _ _⟩
   ·cases h) (fun _ m=>.ret (a81 rfl)) σ
theorem b2K {n:Nat} {τ:List c5} {l l':Str} {k:Nat} (h:l=l'):Cls n τ (a0n l k) (.list (l'.map bcv) (gnn l'.length) none):=by
 subst h
 refine .list rfl (fun i r r' h h'=>by rw [h] at h'; injection h' with h'; rw [h']) (fun i j r r' c c' h h' g g'=>?_)
 rw [h] at h'; injection h' with h'; subst h'
 rw [g] at g'; injection g' with g'; subst g'
 exact .old (X1 l r (List.mem_of_getElem? h) c (List.mem_of_getElem? g)).old
set_option maxRecDepth 10000 in
theorem b0i (l:Str) (nn:Bool) (s:Str) (hl:l.length≤100000000000) (hs:s.length≤100000000000):c4 CC 148 [(.list (l.map bcv) nn none),(sv (s))] [] fun r σ'=>r = .ret (.list ((P1 l s).map bcv) (gnn (P1 l s).length) none)∧σ'=[]:=by
 refine j8 (d5 Tryz.func148 rfl rfl ?_)
 refine a7 (a6 ?_)
 refine cY j1 ?_
 refine a8 (a7 (a6 ?_))
 refine cY b7 ?_; refine cY b7 ?_; refine cY I3 ?_; refine cY (a70 rfl tt rfl Tryz.runUnderlying3 Tryz.runUnderlying77 (b8H b8)) ?_
 refine cD (j3 rfl Tryz.call199 ⟨tt,tt,tt⟩ (b0U l nn s.length b8 b8 _) rfl ?_)
 have hpu:=a5s (n:=s.length) (k:=9) b8
 intro _ _; refine cY b7 ?_
 refine cD (a3B (l:=(l++V8 s.length)) (new:=s) (p:=1) rfl tt tt rfl (b0S rfl) Tryz.runUnderlying139 Tryz.sizeOf5 Tryz.typeInfo5 Tryz.zeroValue5 rfl (.inr Tryz.runUnderlying9) rfl rfl (by simp only [List.length_append]; omega) ?_)
 refine cY c7 ?_
 refine a8 (c9 ?_)
 exact ⟨_,l9 rfl tt c6,_,_,rfl,rfl,(by exact b2K (l:=l++V8 s.length++s) (k:=2) rfl)⟩
theorem V9 (l:Str) (nn:Bool) (s:Str) (hl:l.length≤100000000000) (hs:s.length≤100000000000) (σ:List c5):c4 CC 148 [(.list (l.map bcv) nn none),(sv (s))] σ fun r σ'=>r = .ret (.list ((P1 l s).map bcv) (gnn (P1 l s).length) none)∧σ'=σ :=
 c4.anyw hCC (by repeat' (first|exact .val _|exact d8 _ _|exact d6 _ _|exact a01 _ _|exact tt | refine d7 ?_ | refine d9 ?_ | refine ⟨?_,?_⟩)) (by repeat' (first|exact .val _|exact d8 _ _|exact d6 _ _|exact a01 _ _|exact tt | refine d7 ?_ | refine d9 ?_ | refine ⟨?_,?_⟩)) (b0i l nn s hl hs) σ
theorem a7Z {fl:List Fi} {nn va:Bool} {br:List Str} {ms:SM} {me:EM} {σ:List c5} {w q1 q2 t:Nat} (hσ:WAt σ w q1 q2 t fl nn va br ms me) (k:Int) (p o:Str):c4 CC 76 [.ptr w 0,(.val (.int .i64 (k))),(sv (p)),(sv (o))] σ fun r τ=>r = .ret (.agg (Q9 va me k p o).cells)∧τ=σ :=
 a6q (fun a h=>by simp at h; rcases h with rfl | rfl | rfl <;> exact .val _) (En.pure _) (b33 fl nn va br ms me k p o) hσ
theorem b6H {fl:List Fi} {nn va:Bool} {br:List Str} {ms:SM} {me:EM} {σ:List c5} {w q1 q2 t:Nat} (hσ:WAt σ w q1 q2 t fl nn va br ms me) (s:Str) (hfl:fl.length≤1000000):c4 CC 101 [.ptr w 0,(sv (s))] σ fun r τ=>r = .ret (.tup [sv ((U5 fl s).getD []),.val (.bool (U5 fl s).isSome)])∧τ=σ :=
 a6q (fun a h=>by simp at h; subst h; exact .val _) (d9 (cs:=[sv _,.val _]) ⟨.val _,.val _,tt⟩) (b5L fl nn va br ms me s hfl) hσ
def r4 (ms:SM) (fl:List Fi) (pkg:Str):List Fi:=fl.filter fun f=>(glk ms f.p).isSome && decide (((glk ms f.p).getD Src.z).pkg=pkg)
theorem a9V {ms:SM} {fl:List Fi} {i:Nat} {y:Fi} (h:fl[i]? = some y) (pkg:Str):r4 ms (fl.drop i) pkg=(if ((glk ms y.p).isSome && decide (((glk ms y.p).getD Src.z).pkg=pkg))=true then [y] else [])++r4 ms (fl.drop (i+1)) pkg:=by
 obtain ⟨hlt,rfl⟩:=List.getElem?_eq_some_iff.1 h
 rw [List.drop_eq_getElem_cons hlt]
 unfold r4
 rw [List.filter_cons]
 split <;> rfl
set_option maxRecDepth 10000 in
theorem b2m (fl:List Fi) (nn va:Bool) (br:List Str) (ms:SM) (me:EM) (pkg:Str) (hfl:fl.length≤1000000):c4 CC 147 [.ptr 0 0,(sv (pkg))] (wst fl nn va br ms me) fun r τ=>G8 4 τ r (.ret (.list ((r4 ms fl pkg).map Fi.cv) (gnn (r4 ms fl pkg).length) none)) (wst fl nn va br ms me):=by
 refine (d5 Tryz.func147 rfl rfl ?_)
 refine a7 (a6 ?_)
 refine cY j1 ?_
 refine a8 (a7 (a6 ?_))
 refine cY j1 ?_
 refine a8 (a7 (a7 (a6 ?_)))
 refine cY b7 ?_; refine cY o6 ?_; refine cY (l8 rfl tt rfl Tryz.runUnderlying105 rfl Tryz.sizeOf32 j4) ?_; refine cY O4 ?_; refine cY V7 ?_; refine cY a3I ?_; refine cY A7 ?_
 refine a8 (d4 ?_)
 refine B2 hCC 4 rfl (α:=Nat × List Fi) (fun x=>[(0,.ptr 0 0),(1,(sv (pkg))),(5,(.list (x.2.map Fi.cv) (gnn x.2.length) (P3 x.2.length 4))),(14,(.list (fl.map Fi.cv) nn none)),(15,(.val (.int .i64 ((fl.length:Int))))),(16,(.val (.int .i64 ((x.1:Int)))))]) (fun x=>[wbx fl nn va br 1 2 3,smO ms,emO me,r6 br.length,r6 x.2.length]) (fun x=>x.1≤fl.length∧x.2.length≤x.1∧r4 ms fl pkg=x.2++r4 ms (fl.drop x.1) pkg) (fun x=>fl.length - x.1) ⟨(0,[]),[0,1,2,3,9],⟨Nat.zero_le _,Nat.le_refl _,rfl⟩,⟨rfl,rfl⟩,⟨⟨tt,q_8⟩,⟨tt,q_8⟩,⟨tt,q_8⟩,⟨tt,q_8⟩,⟨tt,q_8⟩,⟨tt,q_8⟩,tt⟩,⟨.inr ⟨_,rfl,.same rfl a6D⟩,.inr ⟨_,rfl,.same rfl a0b⟩,.inr ⟨_,rfl,.same rfl Z8⟩,.inr ⟨_,rfl,.same rfl s8⟩,.inl rfl,tt⟩⟩ ?_; intro ⟨i,out⟩ ⟨hi,hol,hr⟩
 dsimp only at hi hol hr ⊢
 refine a7 (a6 ?_)
 refine cY r9 ?_
 refine a8 (a7 ?_)
 refine b9 tt rfl (fun h1=>?_) (fun h1=>?_)
 ·have hlt:(i:Int) < fl.length:=by simpa using h1
  obtain ⟨y,hb⟩:∃ y,fl[i]? = some y:=⟨fl[i]'b8,by simp⟩
  rw [a9V hb] at hr
  refine c8 (a7 (d4 (a7 (a6 ?_))))
  refine cY a5l ?_; refine cY a1c ?_
  refine cD (l5 rfl Tryz.zeroValue57 rfl j2 ?_)
  refine cD (i7 rfl tt tt rfl c6 Tryz.sizeOf57 j2 rfl rfl (nb rfl) ?_)
  refine a8 (a7 ?_)
  refine v8 [0,1,2,3,4,5,6,7,8,9,10,11,12] 10 [0,1,3,7,0,16,63,127,255,255,0,1535,4095] [[0,1,2,3,4,5,6,7,8,9],[9],[]] (hd1l:=[0,1,2,3,4,5,6,7,8,9]) (tll:=[(10,[0,1,2,3,4,5,6,7,8,9]),(11,[9]),(12,[])]) j6 j6 rfl rfl rfl ?_; refine chf rfl x8 ?_; refine chf rfl a0G ?_; refine chf rfl (k7 rfl a8l) ?_; refine chf rfl (k7 rfl a9C) ?_; refine chf rfl b4J ?_; refine chf rfl a6n ?_; refine chf rfl (k7 rfl b8X) ?_; refine chf rfl x8 ?_; refine chf rfl a7g ?_; refine chf rfl a7g ?_; refine y0 ?_
  refine u0 rfl rfl (l5 rfl Tryz.zeroValue69 rfl j2 ?_)
  refine ⟨⟨A0,Z2,(by exact k7 rfl a8l),(by exact k7 rfl a9C),a6a,a1x,(by exact k7 rfl b8X),A0,a3f,a3f,tt⟩,?_⟩
  refine u0 rfl rfl (i7 rfl tt tt rfl c6 Tryz.sizeOf69 j2 rfl rfl (nb rfl) ?_)
  refine ⟨⟨a3f,tt⟩,?_⟩
  refine w6 rfl a1e ⟨tt,?_⟩
  refine A8 (a7 (a6 ?_))
  refine cY b7 ?_; refine cY b7 ?_; refine cG (fun hg=>l8 rfl tt rfl Tryz.runUnderlying69 rfl Tryz.sizeOf9 j4) ?_; refine cG U7 ?_; refine cG o5 ?_; refine cG a3x ?_; refine cY t8 ?_; refine a8 ?_
  refine b9 tt rfl (fun h2=>?_) (fun h2=>?_)
  ·rw [if_pos (by simpa using h2)] at hr
   refine a6 ?_; refine cY b7 ?_; refine cY a6U ?_; refine cY b6e ?_
   refine cD (H3 rfl tt tt rfl l7 q_3 Tryz.runUnderlying30 Tryz.sizeOf57 Tryz.typeInfo57 Tryz.zeroValue57 rfl (.inr rfl) Y9 b22 K0 ((out++[y]).map Fi.cv) (out++[y]).length l7 l7 ?_)
   refine cY c7 ?_
   refine a8 (a6 ?_)
   refine cY m9 ?_; refine cY b7 ?_; refine a8 ?_
   exact ⟨(i+1,out++[y]),[0,1,2,3,7],⟨by dsimp only; omega,by dsimp only; omega,by dsimp only; simp; omega,by dsimp only; rw [hr,List.append_assoc]⟩,⟨rfl,rfl⟩,⟨⟨tt,q_8⟩,⟨tt,q_8⟩,⟨tt,q_8⟩,⟨tt,q_8⟩,⟨tt,q_8⟩,⟨tt,q_8⟩,tt⟩,⟨.inr ⟨_,rfl,.same rfl a6D⟩,.inr ⟨_,rfl,.same rfl a0b⟩,.inr ⟨_,rfl,.same rfl Z8⟩,.inr ⟨_,rfl,.same rfl s8⟩,.inr ⟨_,rfl,.same rfl s8⟩,tt⟩⟩
  ·rw [if_neg (by simpa using h2),List.nil_append] at hr
   refine c8 (a6 ?_)
   refine cY m9 ?_; refine cY b7 ?_; refine a8 ?_
   exact ⟨(i+1,out),[0,1,2,3,4],⟨by dsimp only; omega,by dsimp only; omega,by dsimp only; omega,hr⟩,⟨rfl,rfl⟩,⟨⟨tt,q_8⟩,⟨tt,q_8⟩,⟨tt,q_8⟩,⟨tt,q_8⟩,⟨tt,q_8⟩,⟨tt,q_8⟩,tt⟩,⟨.inr ⟨_,rfl,.same rfl a6D⟩,.inr ⟨_,rfl,.same rfl a0b⟩,.inr ⟨_,rfl,.same rfl Z8⟩,.inr ⟨_,rfl,.same rfl s8⟩,.inr ⟨_,rfl,.same rfl s8⟩,tt⟩⟩
 ·have hge:fl.length≤i:=by simp at h1; omega
  rw [List.drop_eq_nil_of_le hge] at hr
  replace hr:r4 ms fl pkg=out:=by rw [hr]; exact List.append_nil _
  refine m4 (a7 (a6 ?_))
  refine cY b7 ?_; refine cY c7 ?_
  refine a8 (c9 ?_)
  exact ⟨_,l9 rfl tt c6,(by rw [hr]; exact a0w rfl (W4 (f:=Fi.cv) (fun a=>⟨.val _,.val _,tt⟩) _))⟩
theorem a8H {fl:List Fi} {nn va:Bool} {br:List Str} {ms:SM} {me:EM} {σ:List c5} {w q1 q2 t:Nat} (hσ:WAt σ w q1 q2 t fl nn va br ms me) (pkg:Str) (hfl:fl.length≤1000000):c4 CC 147 [.ptr w 0,(sv (pkg))] σ fun r τ=>r = .ret (.list ((r4 ms fl pkg).map Fi.cv) (gnn (r4 ms fl pkg).length) none)∧τ=σ :=
 a6q (fun a h=>by simp at h; subst h; exact .val _) (r7 _ _) (b2m fl nn va br ms me pkg hfl) hσ
noncomputable def a8z (ms:SM) (x:En):Str:=((glk ms x.pl).bind fun s=>(s.decls[x.ix.toNat]?).map fun d=>X4 s d).getD []
noncomputable def V5 (ms:SM) (x:En):Str:=if x.ct=0 then [45] else if x.ct=1 then [61]++a8z ms x else [63]
def a6c (ms:SM) (x:En):Prop:=x.ct=1→∃ (s:Src) (d:De) (i:Nat),glk ms x.pl=some s∧a1i s∧x.ix=(i:Int)∧s.decls[i]? = some d
theorem b17 {x:Src} {d:De} (h:a1i x) (hd:DeG d):(X4 x d).length≤100000:=by
 have hdl:=De.name_len hd
 have hbl:=a6E hd
 have hpk:=B1 h.pkg.1
 have himl:=h.impl
 have him8:∀ s∈x.imports,s.length≤80:=fun s hs=>by have:=B1 (h.imp s hs).1; omega
 have hil:=a5T him8 x.imports.length
 rw [List.take_of_length_le (Nat.le_refl _)] at hil
 have hjl:=a2c [44,32] d.params
 have hsl:=b1w (a8p hd)
 have hprl:=hd.parl
 have e2:([44,32]:Str).length=2:=rfl
 rw [e2] at hjl
 have hh:(a68 d).length≤1200:=by
  unfold a68
  split
  ·simp only [List.length_append,List.length_cons,List.length_nil]; omega
  ·split
   ·simp only [List.length_append,List.length_cons,List.length_nil]; omega
   ·simp only [List.length_append,List.length_cons,List.length_nil]; omega
 unfold X4
 simp only [List.length_append,List.length_cons,List.length_nil]
 omega
set_option maxRecDepth 10000 in
theorem a74 (fl:List Fi) (nn va:Bool) (br:List Str) (ms:SM) (me:EM) (x:En) (hx:a6c ms x):c4 CC 97 [.ptr 0 0,.agg x.cells] (wst fl nn va br ms me) fun r τ=>G8 4 τ r (.ret (sv (V5 ms x))) (wst fl nn va br ms me):=by
 refine (d5 Tryz.func97 rfl rfl ?_)
 refine a7 (a6 ?_)
 refine cD (A4 rfl tt c6 j2 ?_)
 refine cY j1 ?_
 refine a8 (a7 (a7 (a6 ?_)))
 refine cY a8A ?_; refine cY z8 ?_
 refine a8 (d4 (a7 (a6 ?_)))
 refine cY j9 ?_; refine cY c7 ?_; refine a8 ?_
 refine b9 tt rfl (fun h1=>?_) (fun h1=>?_)
 ·have u1:x.ct=0:=by simpa using h1
  refine a7 (a6 ?_)
  refine cY j1 ?_
  refine a8 (c9 ?_)
  exact ⟨_,l9 rfl tt c6,(by rw [V5,if_pos u1]; exact a0w rfl (.old (.val _)))⟩
 ·have u1:¬ x.ct=0:=by simpa using h1
  refine a7 (a6 ?_)
  refine cY j9 ?_; refine cY c7 ?_; refine a8 ?_
  refine b9 tt rfl (fun h2=>?_) (fun h2=>?_)
  ·have u2:x.ct=1:=by simpa using h2
   obtain ⟨src,d,i,hg,hsg,hix,hdi⟩:=hx u2
   have hdg:=hsg.dec d (List.mem_of_getElem? hdi)
   have hlen:=b17 hsg hdg
   have ed:a8z ms x=X4 src d:=by rw [a8z,hg,Option.bind_some,hix,Int.toNat_natCast,hdi]; rfl
   refine a7 ?_; refine w8 15 [0,1,3,7,0,16,63,0,128,511,1023,2047,2047,4095,16383] j6 j6 rfl ?_; refine hY b7 ?_; refine hY o6 ?_; refine hY a8l ?_; refine hY a9C ?_; refine hY b4b ?_; refine hY s7 ?_; refine hY (J7 (vc:=vcS) (l:=ms) (a:=x.pl) a9N rfl tt tt rfl rfl Tryz.runUnderlying102 Tryz.zeroValue69 rfl rfl (show ((glk ms x.pl).map vcS).getD _=vcS src by rw [hg]; rfl)) ?_; refine hY a8A ?_; refine hY z8 ?_; refine hY (i8 rfl Tryz.call145 ⟨tt,tt,tt⟩ ((by have h:=b2w src hsg i d hdi hdg (List.getElem?_eq_some_iff.1 hdi).1 ((wst fl nn va br ms me)++[.box x.cells]); rw [← hix] at h; exact h)) rfl) ?_; refine hY b7 ?_; refine hY v7 ?_; refine hY v7 ?_; refine hY c7 ?_; refine hY c7 ?_
   refine B6 (a8 (a7 (a6 ?_)))
   refine cY b7 ?_; refine cY (G4 rfl rfl tt rfl rfl (by show 1+(X4 src d).length≤_; omega)) ?_; refine cY c7 ?_
   refine a8 (c9 ?_)
   exact ⟨_,l9 rfl tt c6,(by rw [V5,if_neg u1,if_pos u2,ed]; exact a0w rfl (.old (.val _)))⟩
  ·have u2:¬ x.ct=1:=by simpa using h2
   refine c8 (a7 (a6 ?_))
   refine cY j1 ?_
   refine a8 (c9 ?_)
   exact ⟨_,l9 rfl tt c6,(by rw [V5,if_neg u1,if_neg u2]; exact a0w rfl (.old (.val _)))⟩
theorem a9T {fl:List Fi} {nn va:Bool} {br:List Str} {ms:SM} {me:EM} {σ:List c5} {w q1 q2 t:Nat} (hσ:WAt σ w q1 q2 t fl nn va br ms me) (x:En) (hx:a6c ms x):c4 CC 97 [.ptr w 0,.agg x.cells] σ fun r τ=>r = .ret (sv (V5 ms x))∧τ=σ :=
 a6q (fun a h=>by simp at h; subst h; exact En.pure _) (.val _) (a74 fl nn va br ms me x hx) hσ
def a3Q (l:Str) (fs:List Fi):Str:=fs.foldl (fun l f=>P1 (P1 l f.p) f.b) l
theorem b3a {fs:List Fi} {i:Nat} {y:Fi} (h:fs[i]? = some y) (l:Str):a3Q l (fs.drop i)=a3Q (P1 (P1 l y.p) y.b) (fs.drop (i+1)):=by
 obtain ⟨hlt,rfl⟩:=List.getElem?_eq_some_iff.1 h
 rw [List.drop_eq_getElem_cons hlt]
 rfl
theorem a0J {l s:Str} (hs:s.length≤100000000000):(P1 l s).length≤l.length+s.length+10:=by
 have:=a5s (n:=s.length) (k:=9) b8
 unfold P1
 simp only [List.length_append]
 omega
theorem b3M {fs:List Fi} (h:∀ f∈fs,f.p.length≤100∧f.b.length≤100000) (l:Str):(a3Q l fs).length≤l.length+fs.length*101000:=by
 induction fs generalizing l with
 | nil=>simp [a3Q]
 | cons y fs ih =>
  have h1:=h y l7
  have h2:=ih (fun f hf=>h f (by simp [hf])) (P1 (P1 l y.p) y.b)
  have h3:=a0J (l:=P1 l y.p) (s:=y.b) b8
  have h4:=a0J (l:=l) (s:=y.p) b8
  rw [List.length_cons,Nat.add_mul]
  simp only [a3Q,List.foldl_cons] at h2 ⊢
  omega
def I2 (ms:SM) (fl:List Fi) (pkg:Str):Str:=[61]++a3Q [] (r4 ms fl pkg)
theorem a02 {ms:SM} {fl:List Fi} {pkg:Str} {f:Fi} (h:f∈r4 ms fl pkg):f∈fl:=(List.mem_filter.1 h).1
theorem a3Y (ms:SM) (fl:List Fi) (pkg:Str):(r4 ms fl pkg).length≤fl.length:=List.length_filter_le _ _
theorem b0g {ms:SM} {fl:List Fi} {pkg:Str} (hfl:fl.length≤1000) (hfb:∀ f∈fl,f.p.length≤100∧f.b.length≤100000):(I2 ms fl pkg).length≤102000000:=by
 have h1:=b3M (fun f hf=>hfb f (a02 hf)) (fs:=r4 ms fl pkg) []
 have h2:=a3Y ms fl pkg
 have h3:(r4 ms fl pkg).length*101000≤1000*101000:=Nat.mul_le_mul_right _ b8
 unfold I2
 simp only [List.length_append,List.length_cons,List.length_nil] at h1 ⊢
 omega
theorem b6u (fl:List Fi) (nn va:Bool) (br:List Str) (ms:SM) (me:EM):WAt (wst fl nn va br ms me) 0 1 2 3 fl nn va br ms me:=⟨rfl,rfl,rfl,rfl,a7N ⟨by decide,by decide,by decide,by decide,by decide,by decide⟩⟩
set_option maxRecDepth 10000 in
theorem b25 (fl:List Fi) (nn va:Bool) (br:List Str) (ms:SM) (me:EM) (pkg:Str) (hfl:fl.length≤1000) (hfb:∀ f∈fl,f.p.length≤100∧f.b.length≤100000):c4 CC 106 [.ptr 0 0,(sv (pkg))] (wst fl nn va br ms me) fun r τ=>G8 4 τ r (.ret (sv (I2 ms fl pkg))) (wst fl nn va br ms me):=by
 have hffl:=a3Y ms fl pkg
 refine (d5 Tryz.func106 rfl rfl ?_)
 refine a7 (a6 ?_)
 refine cY j1 ?_
 refine a8 (a7 (a6 ?_))
 refine cY j1 ?_
 refine a8 (a7 (a7 (a6 ?_)))
 refine cY b7 ?_; refine cY b7 ?_; refine cY (i8 rfl Tryz.call147 ⟨tt,tt,tt⟩ (a8H (b6u fl nn va br ms me) pkg b8) rfl) ?_; refine cY a3I ?_; refine cY A7 ?_
 refine a8 (d4 ?_)
 refine p9 hCC (α:=Nat × Str) (fun x=>[(5,(.list (x.2.map bcv) (gnn x.2.length) none)),(10,(.list ((r4 ms fl pkg).map Fi.cv) (gnn (r4 ms fl pkg).length) none)),(11,(.val (.int .i64 (((r4 ms fl pkg).length:Int))))),(12,(.val (.int .i64 ((x.1:Int)))))]) (fun _=>(wst fl nn va br ms me)) (fun x=>x.1≤(r4 ms fl pkg).length∧x.2.length≤x.1*101000∧a3Q [] (r4 ms fl pkg)=a3Q x.2 ((r4 ms fl pkg).drop x.1)) (fun x=>(r4 ms fl pkg).length - x.1) (0,[]) ⟨Nat.zero_le _,Nat.zero_le _,rfl⟩ ⟨⟨tt,rfl⟩,⟨tt,rfl⟩,⟨tt,rfl⟩,⟨tt,rfl⟩,tt⟩ (extra0:=[]) rfl A5 (fun a ha=>by repeat' (first|exact tt|exact .val _|exact .ptr (nb rfl)|exact .map (nb rfl)|exact z7 _ _ _|exact a7o (nb rfl) (nb rfl) (nb rfl)|exact a7J _ _|exact a78 _ _|exact a27 _ _|exact J3 _ _ _ | refine l2 ?_ | refine ⟨?_,?_⟩)) ?_; intro ⟨i,l⟩ ⟨hi,hl,hr⟩
 dsimp only at hi hl hr ⊢
 refine a7 (a6 ?_)
 refine cY r9 ?_
 refine a8 (a7 ?_)
 refine b9 tt rfl (fun h1=>?_) (fun h1=>?_)
 ·have hlt:(i:Int) < (r4 ms fl pkg).length:=by simpa using h1
  obtain ⟨y,hb⟩:∃ y,(r4 ms fl pkg)[i]? = some y:=⟨(r4 ms fl pkg)[i]'b8,by simp⟩
  rw [b3a hb] at hr
  obtain ⟨hyp,hyb⟩:=hfb y (a02 (List.mem_of_getElem? hb))
  have hp1:=a0J (l:=l) (s:=y.p) b8
  have hp2:=a0J (l:=P1 l y.p) (s:=y.b) b8
  have hi2:i*101000≤1000*101000:=Nat.mul_le_mul_right _ b8
  refine c8 (a7 (d4 (a7 (a6 ?_))))
  refine cY a5l ?_; refine cY a1c ?_
  refine cD (l5 rfl Tryz.zeroValue57 rfl j2 ?_)
  refine cD (i7 rfl tt tt rfl c6 Tryz.sizeOf57 j2 rfl rfl (nb rfl) ?_)
  refine a8 ?_; refine w8 8 [0,0,2,7,0,16,63,127] j6 j6 rfl ?_; refine hY b7 ?_; refine hY O5 ?_; refine hY s7 ?_; refine hY (i8 rfl Tryz.call148 ⟨tt,tt,tt⟩ (V9 l _ y.p b8 b8 _) rfl) ?_; refine hY O5 ?_; refine hY s7 ?_; refine hY (i8 rfl Tryz.call148 ⟨tt,tt,tt⟩ (V9 (P1 l y.p) _ y.b b8 b8 _) rfl) ?_; refine hY c7 ?_
  refine B6 (a8 (a6 ?_))
  refine cY m9 ?_; refine cY b7 ?_; refine a8 ?_
  exact ⟨(i+1,P1 (P1 l y.p) y.b),_,⟨by dsimp only; omega,by dsimp only; omega,by dsimp only; omega,hr⟩,⟨⟨tt,rfl⟩,⟨tt,rfl⟩,⟨tt,rfl⟩,⟨tt,rfl⟩,tt⟩,rfl⟩
 ·have hge:(r4 ms fl pkg).length≤i:=by simp at h1; omega
  rw [List.drop_eq_nil_of_le hge] at hr
  replace hr:a3Q [] (r4 ms fl pkg)=l:=hr
  have hi2:i*101000≤1000*101000:=Nat.mul_le_mul_right _ b8
  refine m4 (a7 (a6 ?_))
  refine cY b7 ?_; refine cY b5O ?_; refine cY (G4 rfl rfl tt rfl rfl (by show 1+l.length≤_; omega)) ?_; refine cY c7 ?_
  refine a8 (c9 ?_)
  exact ⟨_,l9 rfl tt c6,(by rw [I2,hr]; exact a0w rfl (.old (.val _)))⟩
theorem a9d {fl:List Fi} {nn va:Bool} {br:List Str} {ms:SM} {me:EM} {σ:List c5} {w q1 q2 t:Nat} (hσ:WAt σ w q1 q2 t fl nn va br ms me) (pkg:Str) (hfl:fl.length≤1000) (hfb:∀ f∈fl,f.p.length≤100∧f.b.length≤100000):c4 CC 106 [.ptr w 0,(sv (pkg))] σ fun r τ=>r = .ret (sv (I2 ms fl pkg))∧τ=σ :=
 a6q (fun a h=>by simp at h; subst h; exact .val _) (.val _) (b25 fl nn va br ms me pkg hfl hfb) hσ
end Go.Proofs.YtoblbdedgjfeaaaGreatDoor
namespace Go.Proofs
open Go.Shelf
def Tryz.lays190_ren:Go.Shelf.Ren:=⟨fun | 190=>150 | 125=>121 | 258=>201 | 128=>163 | 129=>164 | 302=>242 | 303=>243 | 304=>244 | 305=>245 | 306=>246 | 307=>247 | 308=>248 | 309=>249 | 310=>250 | 333=>277 | 329=>206 | 330=>207 | 334=>278 | 335=>279 | 336=>280 | 344=>296 | n=>n,fun | 31=>26 | 9=>9 | 3=>3 | 46=>125 | 0=>0 | 51=>203 | 53=>77 | 4=>4 | 183=>197 | 182=>196 | 131=>136 | 5=>5 | 218=>250 | 222=>254 | 228=>287 | 229=>288 | n=>n,fun | n=>n⟩
theorem Tryz.lays190:Go.Proofs.Lays.n190 Tryz.prog Tryz.lays190_ren:={
 mixed:=by kernel_rfl
 f125:=Tryz.func121.trans (congrArg some j6)
 f128:=Tryz.func163.trans (congrArg some j6)
 f129:=Tryz.func164.trans (congrArg some j6)
 f190:=Tryz.func150.trans (congrArg some j6)
 f258:=Tryz.func201.trans (congrArg some j6)
 f302:=Tryz.func242.trans (congrArg some j6)
 f303:=Tryz.func243.trans (congrArg some j6)
 f304:=Tryz.func244.trans (congrArg some j6)
 f305:=Tryz.func245.trans (congrArg some j6)
 f306:=Tryz.func246.trans (congrArg some j6)
 f307:=Tryz.func247.trans (congrArg some j6)
 f308:=Tryz.func248.trans (congrArg some j6)
 f309:=Tryz.func249.trans (congrArg some j6)
 f310:=Tryz.func250.trans (congrArg some j6)
 f329:=Tryz.func206.trans (congrArg some j6)
 f330:=Tryz.func207.trans (congrArg some j6)
 f333:=Tryz.func277.trans (congrArg some j6)
 f334:=Tryz.func278.trans (congrArg some j6)
 f335:=Tryz.func279.trans (congrArg some j6)
 f336:=Tryz.func280.trans (congrArg some j6)
 f344:=Tryz.func296.trans (congrArg some j6)
 t0:=Tryz.underlying0
 a0:=Tryz.isAgg0
 z0:=Tryz.sizeOf0
 v0:=Tryz.zeroValue0
 t3:=Tryz.underlying3
 a3:=Tryz.isAgg3
 z3:=Tryz.sizeOf3
 v3:=Tryz.zeroValue3
 t4:=Tryz.underlying4
 a4:=Tryz.isAgg4
 z4:=Tryz.sizeOf4
 v4:=Tryz.zeroValue4
 t5:=Tryz.underlying5
 a5:=Tryz.isAgg5
 z5:=Tryz.sizeOf5
 v5:=Tryz.zeroValue5
 t9:=Tryz.underlying9
 a9:=Tryz.isAgg9
 z9:=Tryz.sizeOf9
 v9:=Tryz.zeroValue9
 t31:=Tryz.underlying26
 a31:=Tryz.isAgg26
 z31:=Tryz.sizeOf26
 v31:=Tryz.zeroValue26
 t46:=Tryz.underlying125
 a46:=Tryz.isAgg125
 z46:=Tryz.sizeOf125
 v46:=Tryz.zeroValue125
 t51:=Tryz.underlying203
 a51:=Tryz.isAgg203
 z51:=Tryz.sizeOf203
 v51:=Tryz.zeroValue203
 t53:=Tryz.underlying77
 a53:=Tryz.isAgg77
 z53:=Tryz.sizeOf77
 v53:=Tryz.zeroValue77
 t131:=Tryz.underlying136
 a131:=Tryz.isAgg136
 z131:=Tryz.sizeOf136
 v131:=Tryz.zeroValue136
 t182:=Tryz.underlying196
 a182:=Tryz.isAgg196
 z182:=Tryz.sizeOf196
 v182:=Tryz.zeroValue196
 t183:=Tryz.underlying197
 a183:=Tryz.isAgg197
 z183:=Tryz.sizeOf197
 v183:=Tryz.zeroValue197
 t218:=Tryz.underlying250
 a218:=Tryz.isAgg250
 z218:=Tryz.sizeOf250
 v218:=Tryz.zeroValue250
 t222:=Tryz.underlying254
 a222:=Tryz.isAgg254
 z222:=Tryz.sizeOf254
 v222:=Tryz.zeroValue254
 t228:=Tryz.underlying287
 a228:=Tryz.isAgg287
 z228:=Tryz.sizeOf287
 v228:=Tryz.zeroValue287
 t229:=Tryz.underlying288
 a229:=Tryz.isAgg288
 z229:=Tryz.sizeOf288
 v229:=Tryz.zeroValue288}
end Go.Proofs
namespace Go.Proofs.YtoblbdedgjfeaaaGreatDoor
open Go Go.Cl
theorem b5C {σ:List c5} {k:Nat} {ss:List Str} (hne:ss≠[]) (hlen:ss.length≤1000000) (hk:σ[k]? = some (.vec 1 (ss.map scv))):c4 CC 150 [.vec k 0 ss.length] σ fun r τ=>∃ _:Unit,r = .ret (.tup [])∧τ=σ.set k (.vec 1 ((a0c ss).map scv))∧True :=
 (b39 (f:=150) (fun blk off cap ss w h1 h2 h3=>a8v Tryz.lays190 blk off cap ss w h1 h2 h3) hne b8 hk).mono fun r τ h=>⟨(),h.1,h.2,tt⟩
def Y6 (ms:SM) (f:Fi):List Str:=((glk ms f.p).getD Src.z).imports
inductive Reach (ms:SM) (fl:List Fi) (pkg:Str):Str→Prop where
 | base:Reach ms fl pkg pkg
 | step {n:Str} {f:Fi} {s:Str}:Reach ms fl pkg n→f∈r4 ms fl n→s∈Y6 ms f→Reach ms fl pkg s
def allI (ms:SM) (fl:List Fi):List Str:=fl.flatMap (Y6 ms)
theorem a8C {ms:SM} {fl:List Fi} {pkg n:Str} (h:Reach ms fl pkg n):n∈pkg::allI ms fl:=by
 cases h with
 | base=>simp
 | step _ hf hs=>exact List.mem_cons_of_mem _ (List.mem_flatMap.2 ⟨_,a02 hf,hs⟩)
structure NmI (ms:SM) (fl:List Fi) (pkg:Str) (N:List Str):Prop where
 nd:N.Nodup
 rch:∀ n∈N,Reach ms fl pkg n
 pk:pkg∈N
theorem NmI.len {ms:SM} {fl:List Fi} {pkg:Str} {N:List Str} (h:NmI ms fl pkg N):N.length≤1+(allI ms fl).length:=by
 have:=List.Nodup.length_le_of_subset h.nd (fun n hn=>a8C (h.rch n hn))
 simpa [Nat.add_comm] using this
theorem NmI.snoc {ms:SM} {fl:List Fi} {pkg n s:Str} {N:List Str} {f:Fi} (h:NmI ms fl pkg N) (hn:n∈N) (hf:f∈r4 ms fl n) (hs:s∈Y6 ms f) (hsN:s∉N):NmI ms fl pkg (N++[s]) where
 nd:=a2y h.nd hsN
 rch:=fun m hm=>by
  rcases List.mem_append.1 hm with hm | hm
  ·exact h.rch m hm
  ·simp at hm; subst hm; exact .step (h.rch n hn) hf hs
 pk:=List.mem_append_left _ h.pk
theorem a75 {ms:SM} {fl:List Fi} {pkg:Str} {N:List Str} (h:NmI ms fl pkg N) (hc:∀ n∈N,∀ f∈r4 ms fl n,∀ s∈Y6 ms f,s∈N) (n:Str):n∈N↔Reach ms fl pkg n :=
 ⟨h.rch n,fun hr=>by
  induction hr with
  | base=>exact h.pk
  | step _ hf hs ih=>exact hc _ ih _ hf _ hs⟩
theorem a83 {A B:List Str} (hA:A.Nodup) (hB:B.Nodup) (h:∀ n,n∈A↔n∈B):a0c A=a0c B:=by
 have hp:A.Perm B:=(List.perm_ext_iff_of_nodup hA hB).2 h
 have tr:∀ (a b c:Str),decide (a≤b)=true→decide (b≤c)=true→decide (a≤c)=true:=fun a b c h1 h2=>by
  simp only [decide_eq_true_eq] at h1 h2 ⊢; exact List.le_trans h1 h2
 have to:∀ (a b:Str),(decide (a≤b) || decide (b≤a))=true:=fun a b=>by
  simp only [Bool.or_eq_true,decide_eq_true_eq]; exact List.le_total a b
 refine List.Perm.eq_of_pairwise (le:=fun a b=>decide (a≤b)=true) (fun a b _ _ h1 h2=>?_) (List.pairwise_mergeSort tr to A) (List.pairwise_mergeSort tr to B) ((List.mergeSort_perm A _).trans (hp.trans (List.mergeSort_perm B _).symm))
 simp only [decide_eq_true_eq] at h1 h2
 exact List.le_antisymm h1 h2
open Classical in
noncomputable def a2x (ms:SM) (fl:List Fi) (pkg:Str):List Str:=if h:∃ N:List Str,N.Nodup∧∀ n,n∈N↔Reach ms fl pkg n then a0c h.choose else []
theorem a7f {ms:SM} {fl:List Fi} {pkg:Str} {N:List Str} (hN:N.Nodup) (h:∀ n,n∈N↔Reach ms fl pkg n):a2x ms fl pkg=a0c N:=by
 have hex:∃ N:List Str,N.Nodup∧∀ n,n∈N↔Reach ms fl pkg n:=⟨N,hN,h⟩
 unfold a2x
 rw [dif_pos hex]
 exact a83 hex.choose_spec.1 hN fun n=>(hex.choose_spec.2 n).trans (h n).symm
def a6h (ms:SM) (fl:List Fi) (l:Str) (N:List Str):Str:=N.foldl (fun l s=>P1 (P1 l s) (I2 ms fl s)) l
theorem b2c {ms:SM} {fl:List Fi} {N:List Str} {i:Nat} {y:Str} (h:N[i]? = some y) (l:Str):a6h ms fl l (N.drop i)=a6h ms fl (P1 (P1 l y) (I2 ms fl y)) (N.drop (i+1)):=by
 obtain ⟨hlt,rfl⟩:=List.getElem?_eq_some_iff.1 h
 rw [List.drop_eq_getElem_cons hlt]
 rfl
noncomputable def a32 (ms:SM) (fl:List Fi) (pkg:Str):Str:=[61]++a6h ms fl [] (a2x ms fl pkg)
def tst (W G:List c5) (v:c5) (H:List c5):List c5:=W++G++v::H
theorem a04 {W G:List c5} {v:c5} {H:List c5} (hW:W.length=4):(tst W G v H)[4+G.length]? = some v:=by
 rw [tst,List.getElem?_append_right (by simp [hW])]; simp [hW]
theorem b1W {W G:List c5} {v v':c5} {H:List c5} (hW:W.length=4):(tst W G v H).set (4+G.length) v'=tst W G v' H:=by
 rw [tst,List.set_append_right _ _ (by simp [hW])]; simp [hW,tst]
theorem b6U {W G:List c5} {v v':c5} {H:List c5} (hW:W.length=4):(tst W G v H).set (4+G.length) .dead++[v']=tst W (G++.dead::H) v' []:=by
 rw [b1W hW]; simp [tst]
theorem b6o {W G:List c5} {v:c5} {H:List c5} (hW:W.length=4):(tst W G v H).length=4+(G++c5.dead::H).length:=by
 simp [tst,hW]
theorem b5T {W G:List c5} {v:c5} {H:List c5} (a b:c5):(tst W G v H++[a]).set (tst W G v H).length b=tst W G v (H++[b]):=by
 rw [List.set_append_right _ _ (Nat.le_refl _)]; simp [tst]
theorem a55 {σ:List c5} {k:Nat} {N:List Str} (s:Str) (hk:σ[k]? = some (.vec 1 (N.map scv))) (hl:N.length≤1000000):c4 CC 149 [.vec k 0 N.length,sv s] σ fun r σ'=>r = .ret (.val (.bool (decide (s∈N))))∧σ'=σ:=by
 have h:=a22 N true s b8
 refine a6b (len:=N.length) (rows:=N.map scv) hCC (fun a ha=>by simp at ha; subst ha; exact .val _) (fun r hr c hc=>?_) l7 hk ?_
 ·obtain ⟨x,_,rfl⟩:=List.mem_map.1 hr
  simp [scv] at hc
  subst hc
  exact .val _
 ·rw [show ((N.map scv).drop 0).take N.length=N.map scv from by rw [List.drop_zero,List.take_of_length_le l7]]
  exact h
theorem b1j (fl:List Fi) (nn va:Bool) (br:List Str) (ms:SM) (me:EM) {G:List c5} {v:c5} {H:List c5}:WAt (tst (wst fl nn va br ms me) G v H) 0 1 2 3 fl nn va br ms me:=⟨rfl,rfl,rfl,rfl,a7N ⟨by decide,by decide,by decide,by decide,by decide,by decide⟩⟩
theorem b4g {ms:SM} {fl:List Fi} {f:Fi} (h:f∈fl):(Y6 ms f).length≤(allI ms fl).length:=by
 unfold allI
 induction fl with
 | nil=>cases h
 | cons x l ih =>
  rw [List.flatMap_cons,List.length_append]
  rcases List.mem_cons.1 h with rfl | h
  ·omega
  ·have:=ih h; omega
set_option maxRecDepth 10000 in
set_option maxHeartbeats 1600000 in
theorem b3R (fl:List Fi) (nn va:Bool) (br:List Str) (ms:SM) (me:EM) (pkg:Str) (hfl:fl.length≤64) (hfb:∀ f∈fl,f.p.length≤100∧f.b.length≤100000) (allI_len:(allI ms fl).length≤512) (reach_len:∀ {n:Str},Reach ms fl pkg n→n.length≤100000):c4 CC 108 [.ptr 0 0,(sv (pkg))] (wst fl nn va br ms me) fun r τ=>G8 4 τ r (.ret (sv (a32 ms fl pkg))) (wst fl nn va br ms me):=by
 refine (d5 Tryz.func108 rfl rfl ?_)
 refine a7 (a6 ?_)
 refine cY j1 ?_
 refine a8 (a7 (a6 ?_))
 refine cY b7 ?_
 refine cD (b6D rfl tt rfl rfl Tryz.runUnderlying26 Tryz.sizeOf9 Tryz.zeroValue9 rfl ?_)
 refine cY c7 ?_
 refine a8 (a7 (a7 (a6 ?_)))
 refine cY j1 ?_
 refine a8 (d4 ?_)
 refine O1 (α:=Nat × List Str × List c5 × List c5) (fun x=>[(0,.ptr 0 0),(5,.vec (4+x.2.2.1.length) 0 x.2.1.length),(6,(.val (.int .i64 ((x.1:Int)))))]) (fun x=>tst (wst fl nn va br ms me) x.2.2.1 (.vec 1 (x.2.1.map scv)) x.2.2.2) (fun x=>NmI ms fl pkg x.2.1∧x.1≤x.2.1.length∧∀ n∈x.2.1.take x.1,∀ f∈r4 ms fl n,∀ s∈Y6 ms f,s∈x.2.1) (fun x=>1+(allI ms fl).length - x.1) (0,[pkg],[],[]) ⟨⟨by simp,fun n hn=>by simp at hn; subst hn; exact .base,by simp⟩,Nat.zero_le _,fun n hn=>by simp at hn⟩ ⟨⟨tt,rfl⟩,⟨tt,rfl⟩,⟨tt,rfl⟩,tt⟩ rfl ?_; intro ⟨i,N,G,H⟩ _ ⟨hN,hi,hc⟩
 dsimp only at hN hi hc ⊢
 have hNl:=hN.len
 have hal:=allI_len
 refine a7 (a7 (a6 ?_))
 refine cY b7 ?_; refine cY b7 ?_; refine cY (a6p rfl tt rfl Tryz.runUnderlying26 rfl rfl) ?_; refine cY r9 ?_; refine a8 ?_
 refine b9 tt rfl (fun h1=>?_) (fun h1=>?_)
 ·have hlt:i < N.length:=by simp at h1; omega
  obtain ⟨n,gn⟩:∃ n,N[i]? = some n:=⟨N[i]'hlt,by simp⟩
  have hffl:=a3Y ms fl n
  refine c8 (a7 (d4 (a7 (a6 ?_))))
  refine cY b7 ?_; refine cY b7 ?_; refine cY b7 ?_; refine cY (W6 rfl tt tt rfl rfl Tryz.runUnderlying26 Tryz.sizeOf9 (a04 rfl) b8 b8) ?_; refine cY (S7 rfl tt rfl Tryz.isAgg9 (a04 rfl) (m7 (by rw [Nat.zero_add]; exact gn)) rfl) ?_; refine cY (i8 rfl Tryz.call147 ⟨tt,tt,tt⟩ (a8H (b1j fl nn va br ms me) n b8) rfl) ?_; refine cY a3I ?_; refine cY A7 ?_
  refine a8 (d4 ?_)
  refine O1 (α:=Nat × List Str × List c5 × List c5) (fun x=>[(0,.ptr 0 0),(5,.vec (4+x.2.2.1.length) 0 x.2.1.length),(6,(.val (.int .i64 ((i:Int))))),(27,(.list ((r4 ms fl n).map Fi.cv) (gnn (r4 ms fl n).length) none)),(28,(.val (.int .i64 (((r4 ms fl n).length:Int))))),(29,(.val (.int .i64 ((x.1:Int)))))]) (fun x=>tst (wst fl nn va br ms me) x.2.2.1 (.vec 1 (x.2.1.map scv)) x.2.2.2) (fun x=>NmI ms fl pkg x.2.1∧(∃ t,x.2.1=N++t)∧x.1≤(r4 ms fl n).length∧∀ f∈(r4 ms fl n).take x.1,∀ s∈Y6 ms f,s∈x.2.1) (fun x=>(r4 ms fl n).length - x.1) (0,N,G,H) ⟨hN,⟨[],by simp⟩,Nat.zero_le _,fun f hf=>by simp at hf⟩ ⟨⟨tt,rfl⟩,⟨tt,rfl⟩,⟨tt,rfl⟩,⟨tt,rfl⟩,⟨tt,rfl⟩,⟨tt,rfl⟩,tt⟩ rfl ?_; intro ⟨q,N1,G1,H1⟩ _ ⟨hN1,hpre,hq,hc1⟩
  dsimp only at hN1 hpre hq hc1 ⊢
  have hNl1:=hN1.len
  refine a7 (a6 ?_)
  refine cY r9 ?_
  refine a8 (a7 ?_)
  refine b9 tt rfl (fun h2=>?_) (fun h2=>?_)
  ·have hlq:q < (r4 ms fl n).length:=by simp at h2; omega
   obtain ⟨y,hy⟩:∃ y,(r4 ms fl n)[q]? = some y:=⟨(r4 ms fl n)[q]'hlq,by simp⟩
   have hym:=List.mem_of_getElem? hy
   refine c8 (a7 (d4 (a7 (a6 ?_))))
   refine cY (r5 rfl tt tt rfl rfl Tryz.runUnderlying30 Tryz.sizeOf57 b8 (m7 hy) rfl) ?_; refine cY a1c ?_
   refine cD (l5 rfl Tryz.zeroValue57 rfl j2 ?_)
   refine cD (i7 rfl tt tt rfl c6 Tryz.sizeOf57 j2 List.getElem?_concat_length rfl (nb rfl) ?_)
   refine a8 (a7 ?_)
   refine w8 10 [0,1,3,7,0,16,63,127,255,0] j6 j6 rfl ?_; refine hY b7 ?_; refine hY o6 ?_; refine hY a8l ?_; refine hY a9C ?_; refine hY O5 ?_; refine hY (n8 rfl tt rfl Tryz.isAgg9 (by rw [List.getElem?_set_self l7]) rfl) ?_; refine hY (J7 (vc:=vcS) (l:=ms) (a:=y.p) a9N rfl tt tt rfl rfl Tryz.runUnderlying102 Tryz.zeroValue69 rfl rfl (a17 Src.z rfl _)) ?_; refine hY (a19 rfl tt rfl Tryz.runUnderlying69 rfl Tryz.isAgg26 rfl) ?_; refine hY R1 ?_; refine hY A7 ?_
   refine B6 (a8 (d4 ?_))
   refine O1 (α:=Nat × List Str × List c5 × List c5) (fun x=>[(0,.ptr 0 0),(5,.vec (4+x.2.2.1.length) 0 x.2.1.length),(6,(.val (.int .i64 ((i:Int))))),(27,(.list ((r4 ms fl n).map Fi.cv) (gnn (r4 ms fl n).length) none)),(28,(.val (.int .i64 (((r4 ms fl n).length:Int))))),(29,(.val (.int .i64 ((q:Int))))),(40,(.list ((Y6 ms y).map scv) (gnn (Y6 ms y).length) none)),(41,(.val (.int .i64 (((Y6 ms y).length:Int))))),(42,(.val (.int .i64 ((x.1:Int)))))]) (fun x=>tst (wst fl nn va br ms me) x.2.2.1 (.vec 1 (x.2.1.map scv)) x.2.2.2) (fun x=>NmI ms fl pkg x.2.1∧(∃ t,x.2.1=N1++t)∧x.1≤(Y6 ms y).length∧∀ s∈(Y6 ms y).take x.1,s∈x.2.1) (fun x=>(Y6 ms y).length - x.1) (0,N1,G1,H1++[.box y.cells]) ⟨hN1,⟨[],by simp⟩,Nat.zero_le _,fun f hf=>by simp at hf⟩ ⟨⟨tt,rfl⟩,⟨tt,rfl⟩,⟨tt,rfl⟩,⟨tt,rfl⟩,⟨tt,rfl⟩,⟨tt,rfl⟩,⟨tt,rfl⟩,⟨tt,rfl⟩,⟨tt,rfl⟩,tt⟩ (b5T _ _) ?_; intro ⟨r,N2,G2,H2⟩ _ ⟨hN2,hpre2,hr,hc2⟩
   dsimp only at hN2 hpre2 hr hc2 ⊢
   have hNl2:=hN2.len
   have hil:(Y6 ms y).length≤(allI ms fl).length:=b4g (a02 hym)
   refine a7 (a6 ?_)
   refine cY r9 ?_
   refine a8 (a7 ?_)
   refine b9 tt rfl (fun h3=>?_) (fun h3=>?_)
   ·have hlr:r < (Y6 ms y).length:=by simp at h3; omega
    obtain ⟨s,hs⟩:∃ s,(Y6 ms y)[r]? = some s:=⟨(Y6 ms y)[r]'hlr,by simp⟩
    have hsm:=List.mem_of_getElem? hs
    have htk:(Y6 ms y).take (r+1)=(Y6 ms y).take r++[s]:=by rw [List.take_add_one,hs]; rfl
    refine c8 (a7 (d4 (a7 (a6 ?_))))
    refine cY (r5 rfl tt tt rfl rfl Tryz.runUnderlying26 Tryz.sizeOf9 b8 (m7 hs) rfl) ?_; refine cY M7 ?_; refine cY c7 ?_
    refine a8 (a7 (a6 ?_))
    refine cY b7 ?_; refine cY b7 ?_; refine cY (i8 rfl Tryz.call149 ⟨tt,tt,tt⟩ (a55 s (a04 rfl) b8) rfl) ?_; refine cY F6 ?_; refine a8 ?_
    refine b9 tt rfl (fun h4=>?_) (fun h4=>?_)
    ·have h4':s∉N2:=by simpa using h4
     obtain ⟨t1,ht1⟩:=hpre
     obtain ⟨t2,ht2⟩:=hpre2
     have hnN2:n∈N2:=by rw [ht2,ht1]; simp [List.mem_of_getElem? gn]
     have hsn:=hN2.snoc hnN2 hym hsm h4'
     have hsnl:=hsn.len
     rw [List.length_append,List.length_singleton] at hsnl
     refine a6 ?_; refine cY b7 ?_; refine cY b7 ?_; refine cY (y9 [scv s] rfl ⟨tt,tt⟩ Tryz.runUnderlying26 Tryz.sizeOf9 Tryz.zeroValue9 rfl rfl rfl rfl rfl rfl rfl rfl rfl) ?_
     refine cD (a8r ((N2++[s]).map scv) (N2++[s]).length rfl tt tt rfl q_3 Tryz.runUnderlying26 Tryz.sizeOf9 Tryz.typeInfo9 Tryz.zeroValue9 rfl (a04 rfl) K0 l7 a6i K0 l7 l7 ?_)
     refine cY c7 ?_
     refine a8 (a6 ?_)
     refine cY m9 ?_; refine cY b7 ?_; refine a8 ?_
     exact ⟨(r+1,N2++[s],G2++.dead::H2,[]),R8,⟨hsn,⟨t2++[s],by rw [ht2,List.append_assoc]⟩,by dsimp only; omega,fun z hz=>by
  dsimp only at hz ⊢
  rw [htk] at hz
  rcases List.mem_append.1 hz with hz | hz
  ·exact List.mem_append_left _ (hc2 z hz)
  ·simp at hz; subst hz; simp⟩,⟨⟨tt,rfl⟩,⟨tt,(congrArg (fun k=>CV.vec k 0 (N2++[s]).length) (b6o rfl))⟩,⟨tt,rfl⟩,⟨tt,rfl⟩,⟨tt,rfl⟩,⟨tt,rfl⟩,⟨tt,rfl⟩,⟨tt,rfl⟩,⟨tt,rfl⟩,tt⟩,(b6U rfl)⟩
    ·have h4':s∈N2:=by simpa using h4
     refine c8 (a6 ?_)
     refine cY m9 ?_; refine cY b7 ?_; refine a8 ?_
     exact ⟨(r+1,N2,G2,H2),R8,⟨hN2,hpre2,by dsimp only; omega,fun z hz=>by
  dsimp only at hz ⊢
  rw [htk] at hz
  rcases List.mem_append.1 hz with hz | hz
  ·exact hc2 z hz
  ·simp at hz; subst hz; exact h4'⟩,⟨⟨tt,rfl⟩,⟨tt,rfl⟩,⟨tt,rfl⟩,⟨tt,rfl⟩,⟨tt,rfl⟩,⟨tt,rfl⟩,⟨tt,rfl⟩,⟨tt,rfl⟩,⟨tt,rfl⟩,tt⟩,rfl⟩
   ·have hre:r=(Y6 ms y).length:=by simp at h3; omega
    obtain ⟨t1,ht1⟩:=hpre
    obtain ⟨t2,ht2⟩:=hpre2
    have htk:(r4 ms fl n).take (q+1)=(r4 ms fl n).take q++[y]:=by rw [List.take_add_one,hy]; rfl
    refine m4 (a6 ?_)
    refine cY m9 ?_; refine cY b7 ?_; refine a8 ?_
    exact ⟨(q+1,N2,G2,H2),R8,⟨hN2,⟨t1++t2,by rw [ht2,ht1,List.append_assoc]⟩,by dsimp only; omega,fun z hz s hs=>by
  dsimp only at hz ⊢
  rw [htk] at hz
  rcases List.mem_append.1 hz with hz | hz
  ·rw [ht2]; exact List.mem_append_left _ (hc1 z hz s hs)
  ·simp at hz; subst hz; exact hc2 s (by rw [hre,List.take_of_length_le (Nat.le_refl _)]; exact hs)⟩,⟨⟨tt,rfl⟩,⟨tt,rfl⟩,⟨tt,rfl⟩,⟨tt,rfl⟩,⟨tt,rfl⟩,⟨tt,rfl⟩,tt⟩,rfl⟩
  ·have hqe:q=(r4 ms fl n).length:=by simp at h2; omega
   obtain ⟨t1,ht1⟩:=hpre
   have htk:N1.take (i+1)=N.take i++[n]:=by
    rw [ht1,List.take_append_of_le_length b8,List.take_add_one,gn]; rfl
   refine m4 (a6 ?_)
   refine cY b7 ?_; refine cY m9 ?_; refine cY c7 ?_; refine a8 ?_
   exact ⟨(i+1,N1,G1,H1),R8,⟨hN1,by dsimp only; rw [ht1,List.length_append]; omega,fun z hz f hf s hs=>by
  dsimp only at hz ⊢
  rw [htk] at hz
  rcases List.mem_append.1 hz with hz | hz
  ·rw [ht1]; exact List.mem_append_left _ (hc z hz f hf s hs)
  ·simp at hz; subst hz; exact hc1 f (by rw [hqe,List.take_of_length_le (Nat.le_refl _)]; exact hf) s hs⟩,⟨⟨tt,rfl⟩,⟨tt,rfl⟩,⟨tt,rfl⟩,tt⟩,rfl⟩
 ·have hie:i=N.length:=by simp at h1; omega
  have hcl:=a75 hN (fun n hn=>hc n (by rw [hie,List.take_of_length_le (Nat.le_refl _)]; exact hn))
  have hT:=a7f hN.nd hcl
  have hpl:(a0c N).length=N.length:=List.length_mergeSort _
  have hne:N≠[]:=fun h=>by have:=hN.pk; rw [h] at this; cases this
  refine m4 (a7 (a6 ?_))
  refine cY b7 ?_
  refine cD (j3 rfl Tryz.call150 ⟨tt,tt⟩ (b5C hne b8 (a04 rfl)) rfl ?_)
  intro _ _; refine p7 (tst (wst fl nn va br ms me) G (.vec 1 ((a0c N).map scv)) H) (b1W rfl) ?_
  refine a8 (a7 (a6 ?_))
  refine cY j1 ?_
  refine a8 (a7 (a7 (a6 ?_)))
  refine cY b7 ?_; refine cY (a6p rfl tt rfl Tryz.runUnderlying26 rfl rfl) ?_; refine cY A7 ?_
  refine a8 (d4 ?_)
  refine O1 (α:=Nat × Str) (fun x=>[(0,.ptr 0 0),(11,(.list (x.2.map bcv) (gnn x.2.length) none)),(58,.vec (4+G.length) 0 N.length),(59,(.val (.int .i64 ((N.length:Int))))),(60,(.val (.int .i64 ((x.1:Int)))))]) (fun _=>tst (wst fl nn va br ms me) G (.vec 1 ((a0c N).map scv)) H) (fun x=>x.1≤N.length∧x.2.length≤x.1*103000000∧a6h ms fl [] (a0c N)=a6h ms fl x.2 ((a0c N).drop x.1)) (fun x=>N.length - x.1) (0,[]) ⟨Nat.zero_le _,Nat.zero_le _,rfl⟩ ⟨⟨tt,rfl⟩,⟨tt,rfl⟩,⟨tt,rfl⟩,⟨tt,rfl⟩,⟨tt,rfl⟩,tt⟩ rfl ?_; intro ⟨j,l⟩ _ ⟨hj,hl,hr⟩
  dsimp only at hj hl hr ⊢
  refine a7 (a6 ?_)
  refine cY r9 ?_
  refine a8 (a7 ?_)
  refine b9 tt rfl (fun h5=>?_) (fun h5=>?_)
  ·have hlj:j < N.length:=by simp at h5; omega
   obtain ⟨s,hs⟩:∃ s,(a0c N)[j]? = some s:=⟨(a0c N)[j]'b8,by simp⟩
   rw [b2c hs] at hr
   have hsl:=reach_len (hN.rch s ((List.mergeSort_perm N _).mem_iff.1 (List.mem_of_getElem? hs)))
   have hfc:=b0g (ms:=ms) (pkg:=s) b8 hfb
   have hp1:=a0J (l:=l) (s:=s) b8
   have hp2:=a0J (l:=P1 l s) (s:=I2 ms fl s) b8
   have hj2:j*103000000≤600*103000000:=Nat.mul_le_mul_right _ b8
   refine c8 (a7 (d4 (a7 (a6 ?_))))
   refine cY (W6 rfl tt tt rfl rfl Tryz.runUnderlying26 Tryz.sizeOf9 (a04 rfl) b8 b8) ?_; refine cY (S7 rfl tt rfl Tryz.isAgg9 (a04 rfl) (m7 (by rw [Nat.zero_add]; exact hs)) rfl) ?_; refine cY c7 ?_
   refine a8 (a6 ?_)
   refine cY b7 ?_; refine cY b7 ?_; refine cY (i8 rfl Tryz.call148 ⟨tt,tt,tt⟩ (V9 l _ s b8 b8 _) rfl) ?_; refine cY b7 ?_; refine cY b7 ?_; refine cY (i8 rfl Tryz.call106 ⟨tt,tt,tt⟩ (a9d (b1j fl nn va br ms me) s b8 hfb) rfl) ?_; refine cY (i8 rfl Tryz.call148 ⟨tt,tt,tt⟩ (V9 (P1 l s) _ (I2 ms fl s) b8 b8 _) rfl) ?_; refine cY c7 ?_
   refine a8 (a6 ?_)
   refine cY m9 ?_; refine cY b7 ?_; refine a8 ?_
   exact ⟨(j+1,P1 (P1 l s) (I2 ms fl s)),R8,⟨by dsimp only; omega,by dsimp only; omega,hr⟩,⟨⟨tt,rfl⟩,⟨tt,rfl⟩,⟨tt,rfl⟩,⟨tt,rfl⟩,⟨tt,rfl⟩,tt⟩,rfl⟩
  ·have hje:j=N.length:=by simp at h5; omega
   rw [hje,← hpl,List.drop_length] at hr
   replace hr:a6h ms fl [] (a0c N)=l:=hr
   have hj2:j*103000000≤600*103000000:=Nat.mul_le_mul_right _ b8
   refine m4 (a7 (a6 ?_))
   refine cY b7 ?_; refine cY b5O ?_; refine cY (G4 rfl rfl tt rfl rfl (by show 1+l.length≤_; omega)) ?_; refine cY c7 ?_
   refine a8 (c9 ?_)
   exact ⟨_,l9 rfl tt c6,(by rw [a32,hT,hr]; exact a0w rfl (.old (.val _)))⟩
theorem b6T {fl:List Fi} {nn va:Bool} {br:List Str} {ms:SM} {me:EM} {σ:List c5} {w q1 q2 t:Nat} (hσ:WAt σ w q1 q2 t fl nn va br ms me) (pkg:Str) (hfl:fl.length≤64) (hfb:∀ f∈fl,f.p.length≤100∧f.b.length≤100000) (allI_len:(allI ms fl).length≤512) (reach_len:∀ {n:Str},Reach ms fl pkg n→n.length≤100000):c4 CC 108 [.ptr w 0,(sv (pkg))] σ fun r τ=>r = .ret (sv (a32 ms fl pkg))∧τ=σ :=
 a6q (fun a h=>by simp at h; subst h; exact .val _) (.val _) (b3R fl nn va br ms me pkg hfl hfb allI_len reach_len) hσ
theorem a0Y {fl:List Fi} {nn va:Bool} {br:List Str} {ms:SM} {me:EM} {σ:List c5} {w q1 q2 t:Nat} (hσ:WAt σ w q1 q2 t fl nn va br ms me) (l:List c5):WAt (σ++l) w q1 q2 t fl nn va br ms me:=⟨W5 hσ.hw l,W5 hσ.hs l,W5 hσ.he l,W5 hσ.ht l,hσ.nd⟩
structure WOk (fl:List Fi) (ms:SM) (me:EM):Prop where
 len:fl.length≤64
 fb:∀ f∈fl,f.p.length≤100∧f.b.length≤100000
 src:∀ p s,glk ms p=some s→a1i s
 ent:∀ k e,glk me k=some e→a6c ms e
theorem WOk.find {fl:List Fi} {ms:SM} {me:EM} (h:WOk fl ms me) (k:Int) (p o:Str):a6c ms (Q9 true me k p o):=by
 unfold Q9
 rw [if_pos rfl]
 split
 ·rename_i x hx
  exact h.ent _ _ hx
 ·intro h1; cases h1
theorem WOk.imp {fl:List Fi} {ms:SM} {me:EM} (h:WOk fl ms me) (f:Fi):(Y6 ms f).length≤8∧∀ s∈Y6 ms f,s.length≤24:=by
 unfold Y6
 cases hg:glk ms f.p with
 | none=>exact ⟨Nat.zero_le _,fun s hs=>by cases hs⟩
 | some x =>
  have:=h.src _ _ hg
  exact ⟨this.impl,fun s hs=>B1 (this.imp s hs).1⟩
theorem WOk.allI {fl:List Fi} {ms:SM} {me:EM} (h:WOk fl ms me):(allI ms fl).length≤512:=by
 have:∀ l:List Fi,(Go.Proofs.YtoblbdedgjfeaaaGreatDoor.allI ms l).length≤8*l.length:=fun l=>by
  induction l with
  | nil=>exact Nat.zero_le _
  | cons x l ih =>
   have:=(h.imp x).1
   unfold Go.Proofs.YtoblbdedgjfeaaaGreatDoor.allI at ih ⊢
   rw [List.flatMap_cons,List.length_append,List.length_cons]
   omega
 have h1:=this fl
 have h2:=h.len
 omega
theorem WOk.reach {fl:List Fi} {ms:SM} {me:EM} (h:WOk fl ms me) {pkg:Str} (hp:pkg.length≤100) {n:Str} (hr:Reach ms fl pkg n):n.length≤100000:=by
 cases hr with
 | base=>omega
 | @step _ f _ _ _ hs=>have:=(h.imp f).2 _ hs; omega
noncomputable def G9 (fl:List Fi) (ms:SM) (me:EM) (ev:List Va) (k:Ky):Str :=
 if k.k=1 then V5 ms (Q9 true me 1 k.a k.b) else if k.k=2 then V5 ms (Q9 true me 2 k.a k.b) else if k.k=3 then V5 ms (Q9 true me 3 [] k.a)
 else if k.k=4 then (if (U5 fl k.a).isSome then [61]++(U5 fl k.a).getD [] else [45]) else if k.k=5 then (if (a1w ev k.a).isSome then [61]++Lib.itoa ((a1w ev k.a).getD 0) else [45])
 else if k.k=6 then I2 ms fl k.a else a32 ms fl k.a
theorem b3i {fl:List Fi} {s b:Str} (h:U5 fl s=some b):∃ f∈fl,f.b=b:=by
 unfold U5 at h
 rw [Option.map_eq_some_iff] at h
 obtain ⟨f,hf,rfl⟩:=h
 exact ⟨f,List.mem_of_find?_eq_some hf,rfl⟩
theorem b44 {ev:List Va} {s:Str} {v:Int} (hev:∀ v∈ev,-9223372036854775808≤v.v∧v.v≤9223372036854775807) (h:a1w ev s=some v) : -9223372036854775808≤v∧v≤9223372036854775807:=by
 unfold a1w at h
 rw [Option.map_eq_some_iff] at h
 obtain ⟨x,hx,rfl⟩:=h
 exact hev x (List.mem_of_find?_eq_some hx)
set_option maxRecDepth 10000 in
theorem b78 {fl:List Fi} {nn:Bool} {br:List Str} {ms:SM} {me:EM} {σ:List c5} {w q1 q2 t:Nat} (hσ:WAt σ w q1 q2 t fl nn true br ms me) (hok:WOk fl ms me) (k:Ky):c4 CC 96 [.ptr w 0,.agg k.cells] σ fun r τ=>r = .ret (sv (V5 ms (Q9 true me 1 k.a k.b)))∧τ=σ:=by
 refine j8 (d5 Tryz.func96 rfl rfl ?_)
 refine a7 (a6 ?_)
 refine cD (A4 rfl tt c6 j2 ?_)
 refine cY j1 ?_
 refine a8 (a7 (a6 ?_))
 refine cY b7 ?_; refine cY b7 ?_; refine cY Z0 ?_; refine cY (n8 rfl tt rfl Tryz.isAgg9 List.getElem?_concat_length rfl) ?_; refine cY Z0 ?_; refine cY (n8 rfl tt rfl Tryz.isAgg9 List.getElem?_concat_length rfl) ?_; refine cY (i8 rfl Tryz.call76 ⟨tt,rfl,tt,tt,tt⟩ (a7Z (a0Y hσ _) 1 k.a k.b) rfl) ?_; refine cY b7Q ?_; refine cY c7 ?_
 refine a8 (c9 ?_)
 exact ⟨_,l9 rfl tt c6,_,_,rfl,rfl,L0 rfl⟩
set_option maxRecDepth 10000 in
theorem b8P {fl:List Fi} {nn:Bool} {br:List Str} {ms:SM} {me:EM} {σ:List c5} {w q1 q2 t:Nat} (hσ:WAt σ w q1 q2 t fl nn true br ms me) (hok:WOk fl ms me) (k:Ky):c4 CC 98 [.ptr w 0,.agg k.cells] σ fun r τ=>r = .ret (sv (V5 ms (Q9 true me 2 k.a k.b)))∧τ=σ:=by
 refine j8 (d5 Tryz.func98 rfl rfl ?_)
 refine a7 (a6 ?_)
 refine cD (A4 rfl tt c6 j2 ?_)
 refine cY j1 ?_
 refine a8 (a7 (a6 ?_))
 refine cY b7 ?_; refine cY b7 ?_; refine cY Z0 ?_; refine cY (n8 rfl tt rfl Tryz.isAgg9 List.getElem?_concat_length rfl) ?_; refine cY Z0 ?_; refine cY (n8 rfl tt rfl Tryz.isAgg9 List.getElem?_concat_length rfl) ?_; refine cY (i8 rfl Tryz.call76 ⟨tt,rfl,tt,tt,tt⟩ (a7Z (a0Y hσ _) 2 k.a k.b) rfl) ?_; refine cY b7Q ?_; refine cY c7 ?_
 refine a8 (c9 ?_)
 exact ⟨_,l9 rfl tt c6,_,_,rfl,rfl,L0 rfl⟩
set_option maxRecDepth 10000 in
theorem b8J {fl:List Fi} {nn:Bool} {br:List Str} {ms:SM} {me:EM} {σ:List c5} {w q1 q2 t:Nat} (hσ:WAt σ w q1 q2 t fl nn true br ms me) (hok:WOk fl ms me) (k:Ky):c4 CC 99 [.ptr w 0,.agg k.cells] σ fun r τ=>r = .ret (sv (V5 ms (Q9 true me 3 [] k.a)))∧τ=σ:=by
 refine j8 (d5 Tryz.func99 rfl rfl ?_)
 refine a7 (a6 ?_)
 refine cD (A4 rfl tt c6 j2 ?_)
 refine cY j1 ?_
 refine a8 (a7 (a6 ?_))
 refine cY b7 ?_; refine cY b7 ?_; refine cY Z0 ?_; refine cY (n8 rfl tt rfl Tryz.isAgg9 List.getElem?_concat_length rfl) ?_; refine cY (i8 rfl Tryz.call76 ⟨tt,rfl,rfl,tt,tt⟩ (a7Z (a0Y hσ _) 3 [] k.a) rfl) ?_; refine cY b7Q ?_; refine cY c7 ?_
 refine a8 (c9 ?_)
 exact ⟨_,l9 rfl tt c6,_,_,rfl,rfl,L0 rfl⟩
set_option maxRecDepth 10000 in
theorem b8S {fl:List Fi} {nn:Bool} {br:List Str} {ms:SM} {me:EM} {σ:List c5} {w q1 q2 t:Nat} (hσ:WAt σ w q1 q2 t fl nn true br ms me) (hok:WOk fl ms me) (k:Ky):c4 CC 100 [.ptr w 0,.agg k.cells] σ fun r τ=>r = .ret (sv (if (U5 fl k.a).isSome then [61]++(U5 fl k.a).getD [] else [45]))∧τ=σ:=by
 refine j8 (d5 Tryz.func100 rfl rfl ?_)
 refine a7 (a6 ?_)
 refine cD (A4 rfl tt c6 j2 ?_)
 refine cY j1 ?_
 refine a8 (a7 (a6 ?_))
 refine cY b7 ?_; refine cY Z0 ?_; refine cY (n8 rfl tt rfl Tryz.isAgg9 List.getElem?_concat_length rfl) ?_; refine cY (i8 rfl Tryz.call101 ⟨tt,tt,tt⟩ (b6H (a0Y hσ _) k.a (by have:=hok.len; omega)) rfl) ?_; refine cY b7 ?_; refine cY v7 ?_; refine cY v7 ?_; refine cY c7 ?_; refine cY c7 ?_
 refine a8 (a7 (a7 (a6 ?_)))
 refine cY b7 ?_; refine cY F6 ?_; refine a8 ?_
 refine b9 tt rfl (fun h1=>?_) (fun h1=>?_)
 ·have u1:(U5 fl k.a).isSome=false:=by simpa using h1
  refine a7 (a6 ?_)
  refine cY j1 ?_
  refine a8 (c9 ?_)
  exact ⟨_,l9 rfl tt c6,_,_,rfl,rfl,L0 (by rw [u1]; rfl)⟩
 ·have u1:(U5 fl k.a).isSome=true:=by simpa using h1
  obtain ⟨b,hb⟩:=Option.isSome_iff_exists.1 u1
  obtain ⟨f,hf,hfb⟩:=b3i hb
  have hlen:=(hok.fb f hf).2
  rw [hb]
  refine c8 (a7 (a6 ?_))
  refine cY b7 ?_; refine cY (G4 rfl rfl tt rfl rfl (by show 1+b.length≤_; rw [← hfb]; omega)) ?_; refine cY c7 ?_
  refine a8 (c9 ?_)
  exact ⟨_,l9 rfl tt c6,_,_,rfl,rfl,L0 (show str ([61]++(some b).getD [])=_ from rfl)⟩
set_option maxRecDepth 10000 in
theorem b8N {fl:List Fi} {nn:Bool} {br:List Str} {ms:SM} {me:EM} {σ:List c5} {w q1 q2 t:Nat} (hσ:WAt σ w q1 q2 t fl nn true br ms me) (hok:WOk fl ms me) (k:Ky):c4 CC 105 [.ptr w 0,.agg k.cells] σ fun r τ=>r = .ret (sv (I2 ms fl k.a))∧τ=σ:=by
 refine j8 (d5 Tryz.func105 rfl rfl ?_)
 refine a7 (a6 ?_)
 refine cD (A4 rfl tt c6 j2 ?_)
 refine cY j1 ?_
 refine a8 (a7 (a6 ?_))
 refine cY b7 ?_; refine cY Z0 ?_; refine cY (n8 rfl tt rfl Tryz.isAgg9 List.getElem?_concat_length rfl) ?_; refine cY (i8 rfl Tryz.call106 ⟨tt,tt,tt⟩ (a9d (a0Y hσ _) k.a (by have:=hok.len; omega) hok.fb) rfl) ?_; refine cY c7 ?_
 refine a8 (c9 ?_)
 exact ⟨_,l9 rfl tt c6,_,_,rfl,rfl,L0 rfl⟩
set_option maxRecDepth 10000 in
theorem b8d {fl:List Fi} {nn:Bool} {br:List Str} {ms:SM} {me:EM} {σ:List c5} {w q1 q2 t:Nat} (hσ:WAt σ w q1 q2 t fl nn true br ms me) (hok:WOk fl ms me) (k:Ky)(hka:k.a.length≤100):c4 CC 107 [.ptr w 0,.agg k.cells] σ fun r τ=>r = .ret (sv (a32 ms fl k.a))∧τ=σ:=by
 refine j8 (d5 Tryz.func107 rfl rfl ?_)
 refine a7 (a6 ?_)
 refine cD (A4 rfl tt c6 j2 ?_)
 refine cY j1 ?_
 refine a8 (a7 (a6 ?_))
 refine cY b7 ?_; refine cY Z0 ?_; refine cY (n8 rfl tt rfl Tryz.isAgg9 List.getElem?_concat_length rfl) ?_; refine cY (i8 rfl Tryz.call108 ⟨tt,tt,tt⟩ (b6T (a0Y hσ _) k.a hok.len hok.fb hok.allI (hok.reach hka)) rfl) ?_; refine cY c7 ?_
 refine a8 (c9 ?_)
 exact ⟨_,l9 rfl tt c6,_,_,rfl,rfl,L0 rfl⟩
set_option maxRecDepth 10000 in
theorem b8h {σ:List c5} {w q:Nat} {ev:List Va} {nn:Bool} (hq:σ[q]? = some (.box (H6 ev nn))) (hev:∀ v∈ev,-9223372036854775808≤v.v∧v.v≤9223372036854775807) (hel:ev.length≤1000000000) (k:Ky):c4 CC 102 [.ptr w 0,.agg k.cells,.ptr q 0] σ fun r τ=>r = .ret (sv (if (a1w ev k.a).isSome then [61]++Lib.itoa ((a1w ev k.a).getD 0) else [45]))∧τ=σ:=by
 refine j8 (d5 Tryz.func102 rfl rfl ?_)
 refine a7 (a6 ?_)
 refine cD (A4 rfl tt c6 j2 ?_)
 refine cY j1 ?_
 refine a8 (a7 (a6 ?_))
 refine cY (M4 rfl tt rfl Tryz.isAgg25 Tryz.sizeOf25 (W5 hq _) (nb rfl)) ?_; refine cY Z0 ?_; refine cY (n8 rfl tt rfl Tryz.isAgg9 List.getElem?_concat_length rfl) ?_; refine cY (i8 rfl Tryz.call103 ⟨tt,tt,tt⟩ (a56 ev nn k.a hel _) rfl) ?_; refine cY b7 ?_; refine cY v7 ?_; refine cY v7 ?_; refine cY c7 ?_; refine cY c7 ?_
 refine a8 (a7 (a7 (a6 ?_)))
 refine cY b7 ?_; refine cY F6 ?_; refine a8 ?_
 refine b9 tt rfl (fun h1=>?_) (fun h1=>?_)
 ·have u1:(a1w ev k.a).isSome=false:=by simpa using h1
  refine a7 (a6 ?_)
  refine cY j1 ?_
  refine a8 (c9 ?_)
  exact ⟨_,l9 rfl tt c6,_,_,rfl,rfl,L0 (by rw [u1]; rfl)⟩
 ·have u1:(a1w ev k.a).isSome=true:=by simpa using h1
  obtain ⟨v,hv⟩:=Option.isSome_iff_exists.1 u1
  have hvr:=b44 hev hv
  rw [hv]
  have hil:=a3q hvr.1 hvr.2
  refine c8 (a7 (a6 ?_))
  refine cY b7 ?_; refine cY (i8 rfl Tryz.call104 ⟨tt,tt⟩ (b01 v hvr.1 hvr.2 _) rfl) ?_; refine cY (G4 rfl rfl tt rfl rfl (by show 1+(Lib.itoa v).length≤_; omega)) ?_; refine cY c7 ?_
  refine a8 (c9 ?_)
  exact ⟨_,l9 rfl tt c6,_,_,rfl,rfl,L0 (show str ([61]++Lib.itoa v)=_ from rfl)⟩
theorem b0s:∀ {pv:Option Fi} {l:List Fi},rvE pv l=0→(∀ g,pv=some g→∀ f∈l,g.p < f.p)∧l.Pairwise fun a b=>a.p < b.p
 | _,[],_=>⟨fun _ _ f hf=>(by cases hf),List.Pairwise.nil⟩
 | pv,x::l,h=>by
  rw [rvE] at h
  split at h
  ·rename_i hs
   obtain ⟨h1,h2⟩:=b0s h
   have hx:∀ g,pv=some g→g.p < x.p:=fun g hg=>by
    subst hg
    unfold K6 at hs
    split at hs
    ·cases hs
    ·split at hs
     ·cases hs
     ·rename_i h3
      split at hs
      ·cases hs
      ·rename_i h4
       simp only [Option.any_some,decide_eq_true_eq] at h3 h4
       rw [bytesLess_eq,decide_eq_true_eq] at h4
       rcases List.le_total g.p x.p with h5 | h5
       ·rcases Decidable.em (g.p < x.p) with h6 | h6
        ·exact h6
        ·exact absurd (List.le_antisymm h5 (List.not_lt.1 h6)).symm h3
       ·rcases Decidable.em (g.p < x.p) with h6 | h6
        ·exact h6
        ·exact absurd (List.le_antisymm h5 (List.not_lt.1 h4)) h3
   refine ⟨fun g hg f hf=>?_,.cons (fun f hf=>h1 x rfl f hf) h2⟩
   rcases List.mem_cons.1 hf with rfl | hf
   ·exact hx g hg
   ·exact List.lt_trans (hx g hg) (h1 x rfl f hf)
  ·rename_i hs
   exact absurd h hs
structure WI (seen:List Str) (ms:SM) (me:EM):Prop where
 src:∀ p x,glk ms p=some x→a1i x∧p∈seen
 ent:∀ k e,glk me k=some e→1≤e.ct∧a6c ms e
theorem a9K {ms:SM} {path:Str} {x:Src} (hg:glk ms path=some x) (hx:a1i x):∀ (n k:Nat) (me:EM),x.decls.length - k=n→(∀ k e,glk me k=some e→1≤e.ct∧a6c ms e)→∀ q e,glk (addDs me path x.pkg (x.decls.drop k) k) q=some e→1≤e.ct∧a6c ms e
 | 0,k,me,hn,h,q,e,he=>by
  rw [List.drop_eq_nil_of_le b8,addDs] at he
  exact h q e he
 | n+1,k,me,hn,h,q,e,he=>by
  obtain ⟨d,hd⟩:∃ d,x.decls[k]? = some d:=⟨x.decls[k]'b8,by simp⟩
  rw [a2B hd] at he
  refine a9K hg hx n (k+1) _ b8 (fun q e he=>?_) q e he
  rw [a1F,H7] at he
  split at he
  ·injection he with he
   subst he
   split
   ·rename_i f hf
    obtain ⟨h1,_⟩:=h _ _ hf
    exact ⟨by simp only; omega,fun hc=>by simp only at hc; omega⟩
   ·exact ⟨Int.le_refl _,fun _=>⟨x,d,k,hg,hx,rfl,hd⟩⟩
  ·exact h q e he
theorem a6c.put {ms:SM} {e:En} {path:Str} {x:Src} (h:a6c ms e) (hp:glk ms path=none):a6c (O3 ms path x) e:=fun hc=>by
 obtain ⟨s,d,i,h1,h2⟩:=h hc
 refine ⟨s,d,i,?_,h2⟩
 rw [H7,if_neg]
 ·exact h1
 ·intro he; rw [he,hp] at h1; cases h1
theorem b4z {seen:List Str} {s:WS} {f:Fi} (h:WI seen s.2.1 s.2.2) (hf:f.p∉seen):WI (f.p::seen) (V6 s f).2.1 (V6 s f).2.2:=by
 have hw:WI (f.p::seen) s.2.1 s.2.2:=⟨fun p x hp=>⟨(h.src p x hp).1,List.mem_cons_of_mem _ (h.src p x hp).2⟩,h.ent⟩
 unfold V6
 split
 ·split
  ·exact hw
  ·rename_i x hx
   have hn:glk s.2.1 f.p=none:=by
    cases hg:glk s.2.1 f.p with
    | none=>rfl
    | some y=>exact absurd (h.src _ _ hg).2 hf
   have hok:=b2I hx
   refine ⟨fun p y hp=>?_,?_⟩
   ·simp only [H7] at hp
    split at hp
    ·rename_i e
     injection hp with hp
     subst hp
     exact ⟨hok,by rw [e]; simp⟩
    ·exact ⟨(h.src p y hp).1,List.mem_cons_of_mem _ (h.src p y hp).2⟩
   ·have hg:glk (O3 s.2.1 f.p x) f.p=some x:=by rw [H7,if_pos rfl]
    have:=a9K hg hok _ 0 s.2.2 rfl (fun k e he=>⟨(h.ent k e he).1,(h.ent k e he).2.put hn⟩)
    simpa using this
 ·exact hw
theorem b1y:∀ {l:List Fi} {seen:List Str} {s:WS},WI seen s.2.1 s.2.2→(∀ f∈l,f.p∉seen)→(l.Pairwise fun a b=>a.p < b.p)→∃ seen',WI seen' (a4y l s).2.1 (a4y l s).2.2
 | [],seen,s,h,_,_=>⟨seen,h⟩
 | f::l,seen,s,h,hn,hp=>by
  have h1:=b4z h (hn f l7)
  refine b1y (l:=l) h1 (fun g hg hm=>?_) (List.pairwise_cons.1 hp).2
  rcases List.mem_cons.1 hm with hm | hm
  ·have:=(List.pairwise_cons.1 hp).1 g hg
   rw [hm] at this
   exact absurd this (List.lt_irrefl _)
  ·exact hn g (by simp [hg]) hm
theorem b1c {fl:List Fi} (h:K5 fl=0):WOk fl (y7 fl).2.1 (y7 fl).2.2:=by
 obtain ⟨h1,h2⟩:=a8K h
 have h0:rvE none fl=0:=by
  unfold K5 at h
  split at h
  ·cases h
  ·exact h
 obtain ⟨seen,h3⟩:=b1y (l:=fl) (seen:=[]) (s:=([],[],[])) ⟨fun p x hp=>(by cases hp),fun k e he=>(by cases he)⟩ (fun f _ hm=>(by cases hm)) (b0s h0).2
 rw [y7,if_pos h]
 exact ⟨h1,fun f hf=>by have:=W9 (h2 f hf).1; have:=(h2 f hf).2; omega,fun p s hp=>(h3.src p s hp).1,fun k e he=>(h3.ent k e he).2⟩
abbrev fv (f:FuncId):CV:=.val (.func (.func f) #[] #[])
def P7 (b:Nat):List (Int × CV):=[(1,fv 96),(2,fv 98),(3,fv 99),(4,fv 100),(5,.clo 102 [.ptr b 0]),(6,fv 105),(7,fv 107)]
abbrev cmO (b:Nat):c5:=.map (gm kv (fun c:CV=>c) (P7 b))
def cfv (b:Nat) (k:Int):CV:=(glk (P7 b) k).getD (G3 .nilFunc)
theorem b1h {L b:Nat} (h:b < L):F0 L (cmO b):=fun x hx=>by
 obtain ⟨y,hy,rfl⟩:=List.mem_map.1 hx
 refine ⟨.val _,?_⟩
 simp only [P7,List.mem_cons,List.not_mem_nil,or_false] at hy
 rcases hy with rfl | rfl | rfl | rfl | rfl | rfl | rfl
 ·exact .val _
 ·exact .val _
 ·exact .val _
 ·exact .val _
 ·refine .clo fun i c hi=>?_
  rcases i with _ | i
  ·injection hi with hi; subst hi; exact .ptr h
  ·cases hi
 ·exact .val _
 ·exact .val _
theorem b5Z {R:Nat→Nat→Prop} {b b':Nat} (h:R b b'):D7 R (cmO b) (cmO b'):=.map ⟨rfl,fun i x x' h1 h2=>by
 rcases i with _ | _ | _ | _ | _ | _ | _ | i
 ·injection h1 with h1; injection h2 with h2; subst h1 h2; exact ⟨.pure (.val _),.pure (.val _)⟩
 ·injection h1 with h1; injection h2 with h2; subst h1 h2; exact ⟨.pure (.val _),.pure (.val _)⟩
 ·injection h1 with h1; injection h2 with h2; subst h1 h2; exact ⟨.pure (.val _),.pure (.val _)⟩
 ·injection h1 with h1; injection h2 with h2; subst h1 h2; exact ⟨.pure (.val _),.pure (.val _)⟩
 ·injection h1 with h1; injection h2 with h2; subst h1 h2
  refine ⟨.pure (.val _),.clo rfl fun i c c' g g'=>?_⟩
  rcases i with _ | i
  ·injection g with g; injection g' with g'; subst g g'; exact .ptr h
  ·cases g
 ·injection h1 with h1; injection h2 with h2; subst h1 h2; exact ⟨.pure (.val _),.pure (.val _)⟩
 ·injection h1 with h1; injection h2 with h2; subst h1 h2; exact ⟨.pure (.val _),.pure (.val _)⟩
 ·cases h1⟩
set_option maxRecDepth 10000 in
theorem a7O (ev:List Va) (en:Bool):c4 CC 50 [.agg (H6 ev en)] [] fun r τ=>∃ _:Unit,r = .ret (.map 1)∧τ=[.box (H6 ev en),cmO 0]∧True:=by
 refine (d5 Tryz.func50 rfl rfl ?_)
 refine a7 (a6 ?_)
 refine cD (A4 rfl tt c6 j2 ?_)
 refine cY j1 ?_
 refine a8 (a7 (a6 ?_))
 refine cD (P5 rfl ?_)
 refine cD (m0 (vc:=fun c:CV=>c) (l:=(P7 0).take 0) (a:=1) (b:=((P7 0).getD 0 (0,fv 0)).2) R5 (.inr rfl) tt rfl tt rfl rfl rfl Tryz.runUnderlying106 rfl ?_)
 refine cD (m0 (vc:=fun c:CV=>c) (l:=(P7 0).take 1) (a:=2) (b:=((P7 0).getD 1 (0,fv 0)).2) R5 (.inr rfl) tt rfl tt rfl rfl rfl Tryz.runUnderlying106 rfl ?_)
 refine cD (m0 (vc:=fun c:CV=>c) (l:=(P7 0).take 2) (a:=3) (b:=((P7 0).getD 2 (0,fv 0)).2) R5 (.inr rfl) tt rfl tt rfl rfl rfl Tryz.runUnderlying106 rfl ?_)
 refine cD (m0 (vc:=fun c:CV=>c) (l:=(P7 0).take 3) (a:=4) (b:=((P7 0).getD 3 (0,fv 0)).2) R5 (.inr rfl) tt rfl tt rfl rfl rfl Tryz.runUnderlying106 rfl ?_)
 refine cY (a42 rfl ⟨tt,tt⟩) ?_
 refine cD (m0 (vc:=fun c:CV=>c) (l:=(P7 0).take 4) (a:=5) (b:=((P7 0).getD 4 (0,fv 0)).2) R5 (.inr rfl) tt rfl tt rfl rfl rfl Tryz.runUnderlying106 rfl ?_)
 refine cD (m0 (vc:=fun c:CV=>c) (l:=(P7 0).take 5) (a:=6) (b:=((P7 0).getD 5 (0,fv 0)).2) R5 (.inr rfl) tt rfl tt rfl rfl rfl Tryz.runUnderlying106 rfl ?_)
 refine cD (m0 (vc:=fun c:CV=>c) (l:=(P7 0).take 6) (a:=7) (b:=((P7 0).getD 6 (0,fv 0)).2) R5 (.inr rfl) tt rfl tt rfl rfl rfl Tryz.runUnderlying106 rfl ?_)
 refine cY b7 ?_; refine cY c7 ?_
 refine a8 (c9 ?_)
 exact ⟨_,l9 rfl tt c6,(by exact ⟨(),rfl,rfl,tt⟩)⟩
theorem a8R (ev:List Va) (en:Bool) (σ:List c5):c4 CC 50 [.agg (H6 ev en)] σ fun r τ=>∃ _:Unit,r = .ret (.map (σ.length+1))∧τ=σ++[.box (H6 ev en),cmO σ.length]∧True :=
 a2D (α:=Unit) hCC (fun a ha=>by simp at ha; subst ha; exact d7 ⟨C0 _ _,tt⟩) (res:=fun _=>.ret (.map 1)) (res':=fun _ m=>.ret (.map (m+1))) (S:=fun _=>[.box (H6 ev en),cmO 0]) (S':=fun _ m=>[.box (H6 ev en),cmO m]) (P:=fun _=>True) (a7O ev en) (fun _ _=>rfl) (fun _ m i x h=>by
  rcases i with _ | _ | i
  ·injection h with h; subst h; exact ⟨_,rfl,.box (K2 (fun c hc=>by simp at hc; subst hc; exact C0 _ _))⟩
  ·injection h with h; subst h; exact ⟨_,rfl,b5Z l7⟩
  ·cases h) (fun _ m=>.ret (.map rfl)) σ
theorem b4j {k:Ky} (h:N4 k=true):(k.k=1∨k.k=2∨k.k=3∨k.k=4∨k.k=5∨k.k=6∨k.k=7)∧k.a.length≤100:=by
 unfold N4 at h
 split at h
 ·rename_i h1
  simp only [Bool.or_eq_true,beq_iff_eq] at h1
  simp only [Bool.and_eq_true] at h
  have:=B1 h.1
  exact ⟨by omega,by omega⟩
 ·split at h
  ·rename_i h1
   simp only [Bool.or_eq_true,beq_iff_eq] at h1
   simp only [Bool.and_eq_true] at h
   have:=W9 h.1
   exact ⟨by omega,by omega⟩
  ·split at h
   ·rename_i h1
    simp only [Bool.or_eq_true,beq_iff_eq] at h1
    simp only [Bool.and_eq_true] at h
    have:=B1 h.1
    exact ⟨by omega,by omega⟩
   ·cases h
theorem b7C {fl:List Fi} {nn:Bool} {br:List Str} {ms:SM} {me:EM} {σ:List c5} {w q1 q2 t b:Nat} (hσ:WAt σ w q1 q2 t fl nn true br ms me) (hok:WOk fl ms me) {ev:List Va} {en:Bool} (hb:σ[b]? = some (.box (H6 ev en))) (hev:∀ v∈ev,-9223372036854775808≤v.v∧v.v≤9223372036854775807) (hel:ev.length≤1000000000) {k:Ky} (hk:N4 k=true) :
 b1F CC (cfv b k.k) [.ptr w 0,.agg k.cells] σ (sv (G9 fl ms me ev k)):=by
 obtain ⟨hkk,hka⟩:=b4j hk
 rcases hkk with h | h | h | h | h | h | h
 ·refine .inl ⟨96,by rw [h]; rfl,Tryz.call96,?_⟩
  rw [G9,if_pos h]
  exact b78 hσ hok k
 ·refine .inl ⟨98,by rw [h]; rfl,Tryz.call98,?_⟩
  rw [G9,if_neg b8,if_pos h]
  exact b8P hσ hok k
 ·refine .inl ⟨99,by rw [h]; rfl,Tryz.call99,?_⟩
  rw [G9,if_neg b8,if_neg b8,if_pos h]
  exact b8J hσ hok k
 ·refine .inl ⟨100,by rw [h]; rfl,Tryz.call100,?_⟩
  rw [G9,if_neg b8,if_neg b8,if_neg b8,if_pos h]
  exact b8S hσ hok k
 ·refine .inr ⟨102,[.ptr b 0],by rw [h]; rfl,Tryz.call102,?_⟩
  rw [G9,if_neg b8,if_neg b8,if_neg b8,if_neg b8,if_pos h]
  exact b8h hb hev hel k
 ·refine .inl ⟨105,by rw [h]; rfl,Tryz.call105,?_⟩
  rw [G9,if_neg b8,if_neg b8,if_neg b8,if_neg b8,if_neg b8,if_pos h]
  exact b8N hσ hok k
 ·refine .inl ⟨107,by rw [h]; rfl,Tryz.call107,?_⟩
  rw [G9,if_neg b8,if_neg b8,if_neg b8,if_neg b8,if_neg b8,if_neg b8]
  exact b8d hσ hok k hka
noncomputable def Q0 (fl:List Fi) (ev:List Va) (l:List Ky):Option (List Str) :=
 if K5 fl=0∧a3r ev=true∧l.all N4=true then some (l.map (G9 fl (y7 fl).2.1 (y7 fl).2.2 ev)) else none
def b1V (o:Option (List Str)):CV:=.tup [.list ((o.getD []).map scv) (gnn (o.getD []).length) none,.val (.int .i64 (if o.isSome then 0 else 1))]
theorem b71 (b:Nat) (k:Int):((glk (P7 b) k).map fun c:CV=>c).getD (G3 .nilFunc)=cfv b k:=by unfold cfv; cases glk (P7 b) k <;> rfl
theorem b2a {p:Ky→Bool} {l:List Ky} {i:Nat} {y:Ky} (h:l[i]? = some y) (ha:(l.take i).all p=true) (hy:p y=true):(l.take (i+1)).all p=true:=by
 rw [List.take_add_one,h,List.all_append,ha]; simp [hy]
theorem b4p {p:Ky→Bool} {l:List Ky} {i:Nat} {y:Ky} (h:l[i]? = some y) (hy:p y=false):l.all p≠true:=fun hh=>by
 rw [List.all_eq_true] at hh
 rw [hh y (List.mem_of_getElem? h)] at hy
 cases hy
set_option maxRecDepth 10000 in
set_option maxHeartbeats 800000 in
theorem a7y (fl:List Fi) (nn:Bool) (hfl:∀ f∈fl,f.p.length≤1000000000) (ev:List Va) (en:Bool) (hev:∀ v∈ev,v.n.length≤1000000000) (hvr:∀ v∈ev,-9223372036854775808≤v.v∧v.v≤9223372036854775807) (hel:ev.length≤1000000000) (l:List Ky) (nk:Bool) (hl:l.length≤1000000000) (hk:∀ k∈l,k.a.length≤1000000000∧k.b.length≤1000000000):c4 CC 14 [.agg (w7 fl nn),.agg (H6 ev en),.list (l.map Ky.cv) nk none] [] fun r τ=>∃ _:Unit,a1V 0 τ r (.ret (b1V (Q0 fl ev l)))∧True:=by
 refine (d5 Tryz.func14 rfl rfl ?_)
 refine a7 (a6 ?_)
 refine cD (A4 rfl tt c6 j2 ?_)
 refine cD (A4 rfl tt c6 j2 ?_)
 refine cY j1 ?_; refine cY j1 ?_
 refine a8 (a7 (a6 ?_))
 refine cY Q5 ?_
 refine cD (j3 rfl Tryz.call48 ⟨tt,tt⟩ (b7t fl nn hfl _) rfl ?_)
 intro _ _; refine cY c7 ?_
 refine a8 (a7 (a7 (a6 ?_)))
 refine cY b7 ?_; refine cY o6 ?_; refine cY b3z ?_; refine cY (n8 rfl tt rfl Tryz.isAgg4 rfl rfl) ?_; refine cY F6 ?_; refine cY b7 ?_; refine cG (fun hg=>M4 rfl tt rfl Tryz.isAgg25 Tryz.sizeOf25 rfl (nb rfl)) ?_; refine cG (fun hg=>i8 rfl Tryz.call49 ⟨hg,tt⟩ (a1m ev en hev _) rfl) ?_; refine cG (fun hg=>a7b rfl hg rfl) ?_; refine cY G5 ?_; refine a8 ?_
 refine b9 tt rfl (fun h1=>?_) (fun h1=>?_)
 ·have hv:¬ (K5 fl=0∧a3r ev=true∧l.all N4=true):=by
   rintro ⟨u1,u2,_⟩
   simp [u1,u2] at h1
  refine a7 (a6 ?_)
  refine cY j1 ?_; refine cY j1 ?_
  refine a8 (c9 ?_)
  exact ⟨_,o0 (rs:=[.tmp 6,.tmp 7]) (cs:=[_,_]) rfl ⟨⟨tt,c6⟩,⟨tt,c6⟩,tt⟩ (Nat.ne_of_beq_eq_false rfl),(by rw [Q0,if_neg hv]; exact ⟨(),.ret (.tups ⟨.old (k8 _ ([]:List Str) _),.old (.val _),tt⟩),tt⟩)⟩
 ·have hv:K5 fl=0∧a3r ev=true:=by simpa using h1
  have hok:=b1c hv.1
  have hva:(K5 fl == 0)=true:=by simp [hv.1]
  rw [hva]
  refine c8 (a7 (a6 ?_))
  refine cY a2n ?_
  refine cD (j3 rfl Tryz.call50 ⟨tt,tt⟩ (a8R ev en _) rfl ?_)
  intro _ _; refine cY c7 ?_
  refine a8 (a7 (a6 ?_))
  refine cY j1 ?_
  refine a8 (a7 (a7 (a6 ?_)))
  refine cY b7 ?_; refine cY (U8 rfl tt rfl Tryz.runUnderlying36 a2s rfl) ?_; refine cY A7 ?_
  refine a8 (d4 ?_)
  refine B2 hCC 8 rfl (α:=Nat) (fun i=>[(8,.ptr 2 0),(9,.map 7),(10,(.list (((l.take i).map (G9 fl (y7 fl).2.1 (y7 fl).2.2 ev)).map scv) (gnn ((l.take i).map (G9 fl (y7 fl).2.1 (y7 fl).2.2 ev)).length) (P3 ((l.take i).map (G9 fl (y7 fl).2.1 (y7 fl).2.2 ev)).length 8))),(27,(.list (l.map Ky.cv) nk none)),(28,(.val (.int .i64 ((l.length:Int))))),(29,(.val (.int .i64 ((i:Int)))))]) (fun i=>[.box (w7 fl nn),.box (H6 ev en),wbx fl nn true (y7 fl).1 3 4 5,smO (y7 fl).2.1,emO (y7 fl).2.2,r6 (y7 fl).1.length,.box (H6 ev en),cmO 6,r6 ((l.take i).map (G9 fl (y7 fl).2.1 (y7 fl).2.2 ev)).length]) (fun i=>i≤l.length∧(l.take i).all N4=true) (fun i=>l.length - i) ⟨0,[0,1,2,3,4,5,6,7,13],⟨Nat.zero_le _,rfl⟩,⟨rfl,rfl⟩,⟨⟨tt,q_7⟩,⟨tt,q_7⟩,⟨tt,q_7⟩,⟨tt,q_7⟩,⟨tt,q_7⟩,⟨tt,q_7⟩,tt⟩,⟨.inr ⟨_,rfl,.same rfl V2⟩,.inr ⟨_,rfl,.same rfl (l2 ⟨L3 _ _ _,tt⟩)⟩,.inr ⟨_,rfl,.same rfl a6D⟩,.inr ⟨_,rfl,.same rfl a0b⟩,.inr ⟨_,rfl,.same rfl Z8⟩,.inr ⟨_,rfl,.same rfl s8⟩,.inr ⟨_,rfl,.same rfl (l2 ⟨L3 _ _ _,tt⟩)⟩,.inr ⟨_,rfl,.same rfl (b1h j4)⟩,.inl rfl,tt⟩⟩ ?_; intro i ⟨hi,hall⟩
  refine a7 (a6 ?_)
  refine cY r9 ?_
  refine a8 (a7 ?_)
  refine b9 tt rfl (fun h2=>?_) (fun h2=>?_)
  ·have hlt:i < l.length:=by simp at h2; omega
   obtain ⟨y,hy⟩:∃ y,l[i]? = some y:=⟨l[i]'hlt,by simp⟩
   have hyl:=hk y (List.mem_of_getElem? hy)
   refine c8 (a7 (d4 (a7 (a6 ?_))))
   refine cY (r5 rfl tt tt rfl rfl Tryz.runUnderlying36 Tryz.sizeOf39 b8 (m7 hy) rfl) ?_; refine cY (Q2 rfl tt rfl Tryz.isAgg39 Tryz.sizeOf39 (nb rfl)) ?_
   refine cD (l5 rfl Tryz.zeroValue39 rfl j2 ?_)
   refine cD (i7 rfl tt tt rfl c6 Tryz.sizeOf39 j2 rfl rfl (nb rfl) ?_)
   refine a8 (a7 (a7 (a6 ?_)))
   refine cY a8D ?_; refine cY (i8 rfl Tryz.call31 ⟨tt,tt⟩ (b06 y hyl.1 hyl.2 _) rfl) ?_; refine cY F6 ?_; refine a8 ?_
   refine b9 tt rfl (fun h3=>?_) (fun h3=>?_)
   ·have hv2:¬ (K5 fl=0∧a3r ev=true∧l.all N4=true):=fun u=>b4p hy (by simpa using h3) u.2.2
    refine a7 (a6 ?_)
    refine cY j1 ?_; refine cY j1 ?_
    refine a8 (c9 ?_)
    exact ⟨_,o0 (rs:=[.tmp 6,.tmp 7]) (cs:=[_,_]) rfl ⟨⟨tt,c6⟩,⟨tt,c6⟩,tt⟩ (Nat.ne_of_beq_eq_false rfl),(by rw [Q0,if_neg hv2]; exact ⟨(),.ret (.tups ⟨.old (k8 _ ([]:List Str) _),.old (.val _),tt⟩),tt⟩)⟩
   ·have hyk:N4 y=true:=by simpa using h3
    have htk1:l.take (i+1)=l.take i++[y]:=by rw [List.take_add_one,hy]; rfl
    refine c8 (a6 ?_)
    refine cY b7 ?_; refine cY b7 ?_; refine cY (l8 rfl tt rfl Tryz.runUnderlying39 rfl Tryz.sizeOf3 j4) ?_; refine cY z8 ?_; refine cY (J7 (vc:=fun c:CV=>c) (l:=P7 6) (a:=y.k) R5 rfl tt tt rfl rfl Tryz.runUnderlying106 Tryz.zeroValue108 rfl rfl (b71 6 y.k)) ?_; refine cY b7 ?_; refine cY a8D ?_; refine cY (b2C rfl tt rfl ⟨tt,tt,tt⟩ (by exact b7C (w:=2) (q1:=3) (q2:=4) (t:=5) (b:=6) ⟨rfl,rfl,rfl,rfl,a7N ⟨by decide,by decide,by decide,by decide,by decide,by decide⟩⟩ hok rfl hvr hel hyk) rfl) ?_; refine cY (y9 [scv ((G9 fl (y7 fl).2.1 (y7 fl).2.2 ev) y)] rfl ⟨tt,tt⟩ Tryz.runUnderlying26 Tryz.sizeOf9 Tryz.zeroValue9 rfl rfl rfl rfl rfl rfl rfl rfl rfl) ?_
    refine cD (H3 rfl tt tt rfl l7 q_3 Tryz.runUnderlying26 Tryz.sizeOf9 Tryz.typeInfo9 Tryz.zeroValue9 rfl (.inr rfl) Y9 a6i K0 (((l.take (i+1)).map (G9 fl (y7 fl).2.1 (y7 fl).2.2 ev)).map scv) ((l.take (i+1)).map (G9 fl (y7 fl).2.1 (y7 fl).2.2 ev)).length (by rw [htk1,List.map_append,List.map_append]; rfl) (by rw [htk1]; simp) ?_)
    refine cY c7 ?_
    refine a8 (a6 ?_)
    refine cY m9 ?_; refine cY b7 ?_; refine a8 ?_
    exact ⟨(i+1),[0,1,2,3,4,5,6,7,10],⟨by omega,by omega,b2a hy hall hyk⟩,⟨rfl,rfl⟩,⟨⟨tt,q_5⟩,⟨tt,q_5⟩,⟨tt,q_5⟩,⟨tt,q_5⟩,⟨tt,q_5⟩,⟨tt,q_5⟩,tt⟩,⟨.inr ⟨_,rfl,.same rfl V2⟩,.inr ⟨_,rfl,.same rfl (l2 ⟨L3 _ _ _,tt⟩)⟩,.inr ⟨_,rfl,.same rfl a6D⟩,.inr ⟨_,rfl,.same rfl a0b⟩,.inr ⟨_,rfl,.same rfl Z8⟩,.inr ⟨_,rfl,.same rfl s8⟩,.inr ⟨_,rfl,.same rfl (l2 ⟨L3 _ _ _,tt⟩)⟩,.inr ⟨_,rfl,.same rfl (b1h j4)⟩,.inr ⟨_,rfl,.same rfl s8⟩,tt⟩⟩
  ·have hge:l.length≤i:=by simp at h2; omega
   have hta:l.take i=l:=List.take_of_length_le hge
   refine m4 (a7 (a6 ?_))
   refine cY b7 ?_; refine cY c7 ?_; refine cY j1 ?_
   refine a8 (c9 ?_)
   exact ⟨_,o0 (rs:=[.tmp 6,.tmp 7]) (cs:=[_,_]) rfl ⟨⟨tt,c6⟩,⟨tt,c6⟩,tt⟩ (Nat.ne_of_beq_eq_false rfl),(by rw [Q0,if_pos ⟨hv.1,hv.2,by rw [← hta]; exact hall⟩,hta]; exact ⟨(),.ret (.tups ⟨.tok (fun r hr c hc=>(D6 (f:=scv) (fun _=>L5.all ⟨.val _,tt⟩) _) r hr c hc),.old (.val _),tt⟩),tt⟩)⟩
theorem b0p (o:Option (List Str)):o9 (b1V o):=d9 (cs:=[_,_]) ⟨d6 _ _,.val _,tt⟩
theorem a4f (fl:List Fi) (nn:Bool) (hfl:∀ f∈fl,f.p.length≤1000000000) (ev:List Va) (en:Bool) (hev:∀ v∈ev,v.n.length≤1000000000) (hvr:∀ v∈ev,-9223372036854775808≤v.v∧v.v≤9223372036854775807) (hel:ev.length≤1000000000) (l:List Ky) (nk:Bool) (hl:l.length≤1000000000) (hk:∀ k∈l,k.a.length≤1000000000∧k.b.length≤1000000000) (σ:List c5):c4 CC 14 [.agg (w7 fl nn),.agg (H6 ev en),.list (l.map Ky.cv) nk none] σ fun r τ=>r = .ret (b1V (Q0 fl ev l))∧τ=σ :=
 (L8 (res:=fun _:Unit=>.ret (b1V (Q0 fl ev l))) (P:=fun _=>True) hCC (fun a h=>by simp at h; rcases h with rfl | rfl | rfl; exact d7 (cs:=w7 _ _) ⟨r7 _ _,tt⟩; exact d7 (cs:=H6 _ _) ⟨C0 _ _,tt⟩; exact o8 _ _) (a7y fl nn hfl ev en hev hvr hel l nk hl hk) (fun _ _=>b0p _) σ).mono fun r τ ⟨_,h1,h2,_⟩=>⟨h1,h2⟩
theorem a7x:∀ a:Str,Op.bytesLess a a=false
 | []=>rfl
 | x::a=>by simp [Op.bytesLess,a7x a]
theorem a48:∀ {a b c:Str},Op.bytesLess a b=true→Op.bytesLess b c=true→Op.bytesLess a c=true
 | [],[],_,h,_=>by cases h
 | [],_::_,[],_,h=>by cases h
 | [],_::_,_::_,_,_=>rfl
 | _::_,[],_,h,_=>by cases h
 | _::_,_::_,[],_,h=>by cases h
 | x::a,y::b,z::c,h1,h2=>by
  simp only [Op.bytesLess,Bool.or_eq_true,decide_eq_true_eq,Bool.and_eq_true,beq_iff_eq] at h1 h2 ⊢
  rcases h1 with h1 | ⟨h1,h1'⟩ <;> rcases h2 with h2 | ⟨h2,h2'⟩
  ·exact .inl (UInt8.lt_trans h1 h2)
  ·exact .inl (h2 ▸ h1)
  ·exact .inl (h1 ▸ h2)
  ·exact .inr ⟨h1.trans h2,a48 h1' h2'⟩
theorem b40:∀ {a b:Str},Op.bytesLess a b=false→a≠b→Op.bytesLess b a=true
 | [],[],_,h=>absurd rfl h
 | [],_::_,h,_=>by cases h
 | _::_,[],_,_=>rfl
 | x::a,y::b,h1,h2=>by
  simp only [Op.bytesLess,Bool.or_eq_false_iff,decide_eq_false_iff_not,Bool.and_eq_false_iff,beq_eq_false_iff_ne,Bool.or_eq_true,decide_eq_true_eq,Bool.and_eq_true,beq_iff_eq] at h1 ⊢
  by_cases hxy:x=y
  ·subst hxy
   refine .inr ⟨rfl,b40 (h1.2.resolve_left fun h=>h rfl) fun h=>h2 (by rw [h])⟩
  ·have:=h1.1
   exact .inl (by
    rcases Nat.lt_or_gt_of_ne (fun h=>hxy (UInt8.toNat_inj.1 h):x.toNat≠y.toNat) with h | h
    ·exact absurd (UInt8.lt_iff_toNat_lt.2 h) this
    ·exact UInt8.lt_iff_toNat_lt.2 h)
def b2D (l:List Fi):Prop:=l.Pairwise fun f g=>Op.bytesLess f.p g.p=true
def B7:List Str:=([[97,46,115,114,99],[98,46,115,114,99],[100,47,99,46,115,114,99],[120,46,115,114,99]]:List Str)
set_option maxRecDepth 10000 in
theorem b0l  : c4 CC 52 [] [] fun r σ'=>r = .ret (.list (B7.map scv) true none)∧σ'=[]:=by
 refine j8 (d5 Tryz.func52 rfl rfl ?_)
 refine a7 (a6 ?_)
 refine cY j1 ?_
 refine a8 (a7 (a6 ?_))
 refine cY (y9 (B7.map scv) rfl ⟨rfl,rfl,rfl,rfl,tt⟩ Tryz.runUnderlying26 Tryz.sizeOf9 Tryz.zeroValue9 rfl rfl rfl rfl rfl rfl rfl rfl rfl) ?_; refine cY c7 ?_
 refine a8 (c9 ?_)
 exact ⟨_,l9 rfl tt c6,_,_,rfl,rfl,X8 rfl (by repeat' (first|exact .val _|exact d8 _ _|exact d6 _ _|exact tt | refine d7 ?_ | refine d9 ?_ | refine ⟨?_,?_⟩))⟩
theorem a2X  (σ:List c5):c4 CC 52 [] σ fun r σ'=>r = .ret (.list (B7.map scv) true none)∧σ'=σ :=
 c4.anyw hCC (by repeat' (first|exact .val _|exact d8 _ _|exact d6 _ _|exact r7 _ _|exact tt | refine d7 ?_ | refine d9 ?_ | refine ⟨?_,?_⟩)) (by repeat' (first|exact .val _|exact d8 _ _|exact d6 _ _|exact r7 _ _|exact tt | refine d7 ?_ | refine d9 ?_ | refine ⟨?_,?_⟩)) (b0l) σ
set_option maxRecDepth 10000 in
theorem b7c (l:List Str) (nn:Bool) (s:Str) (hl:l.length≤1000000000):c4 CC 110 [(.list (l.map scv) nn none),(sv (s))] [] fun r σ'=>r = .ret (.val (.bool (decide (s∈l))))∧σ'=[]:=by
 refine j8 (d5 Tryz.func110 rfl rfl ?_)
 refine a7 (a6 ?_)
 refine cY j1 ?_
 refine a8 (a7 (a7 (a6 ?_)))
 refine cY j1 ?_
 refine a8 (d4 ?_)
 refine p9 hCC (fun i:Nat=>[(0,(.list (l.map scv) nn none)),(1,(sv (s))),(5,(.val (.int .i64 ((i:Int)))))]) (fun _=>[]) (fun i=>i≤l.length∧decide (s∈l)=decide (s∈l.drop i)) (fun i=>l.length - i) 0 ⟨Nat.zero_le _,rfl⟩ ⟨⟨tt,rfl⟩,⟨tt,rfl⟩,⟨tt,rfl⟩,tt⟩ (extra0:=[]) rfl A5 (fun a ha=>by repeat' (first|exact tt|exact .val _|exact .ptr (nb rfl)|exact .map (nb rfl)|exact k8 _ _ _ | refine l2 ?_ | refine ⟨?_,?_⟩)) ?_; intro i ⟨hi,hr⟩
 refine a7 (a7 (a6 ?_))
 refine cY b7 ?_; refine cY b7 ?_; refine cY R1 ?_; refine cY r9 ?_; refine a8 ?_
 refine b9 tt rfl (fun h1=>?_) (fun h1=>?_)
 ·have hlt:i < l.length:=by simp at h1; omega
  obtain ⟨y,hb⟩:∃ y,l[i]? = some y:=⟨l[i]'hlt,by simp⟩
  have hdr:l.drop i=y::l.drop (i+1):=by
   obtain ⟨hlt,rfl⟩:=List.getElem?_eq_some_iff.1 hb
   exact List.drop_eq_getElem_cons hlt
  rw [hdr] at hr
  refine c8 (a7 (d4 (a7 (a6 ?_))))
  refine cY b7 ?_; refine cY b7 ?_; refine cY a7E ?_; refine cY M7 ?_; refine cY b7 ?_; refine cY a3e ?_; refine a8 ?_
  refine b9 tt rfl (fun h2=>?_) (fun h2=>?_)
  ·have hys:y=s:=by simpa using h2
   refine a7 (a6 ?_)
   refine cY j1 ?_
   refine a8 (c9 ?_)
   exact ⟨_,l9 rfl tt c6,_,_,rfl,rfl,m5 (by rw [hr,hys]; simp)⟩
  ·have hys:¬ y=s:=by simpa using h2
   refine c8 (a6 ?_)
   refine cY b7 ?_; refine cY m9 ?_; refine cY c7 ?_; refine a8 ?_
   exact ⟨(i+1),_,⟨by omega,by omega,by
 rw [hr]
 have:(s=y)=False:=by simpa using fun h=>hys h.symm
 simp [this]⟩,⟨⟨tt,rfl⟩,⟨tt,rfl⟩,⟨tt,rfl⟩,tt⟩,rfl⟩
 ·have hge:l.length≤i:=by simp at h1; omega
  rw [List.drop_eq_nil_of_le hge] at hr
  refine m4 (a7 (a6 ?_))
  refine cY j1 ?_
  refine a8 (c9 ?_)
  exact ⟨_,l9 rfl tt c6,_,_,rfl,rfl,m5 (by rw [hr]; rfl)⟩
theorem a4U (l:List Str) (nn:Bool) (s:Str) (hl:l.length≤1000000000) (σ:List c5):c4 CC 110 [(.list (l.map scv) nn none),(sv (s))] σ fun r σ'=>r = .ret (.val (.bool (decide (s∈l))))∧σ'=σ :=
 c4.anyw hCC (by repeat' (first|exact .val _|exact d8 _ _|exact d6 _ _|exact r7 _ _|exact tt | refine d7 ?_ | refine d9 ?_ | refine ⟨?_,?_⟩)) (by repeat' (first|exact .val _|exact d8 _ _|exact d6 _ _|exact r7 _ _|exact tt | refine d7 ?_ | refine d9 ?_ | refine ⟨?_,?_⟩)) (b7c l nn s hl) σ
def a1n (n:Nat):Str:=if h:n < 10 then [UInt8.ofNat (48+n)] else a1n (n / 10)++[UInt8.ofNat (48+n%10)]
termination_by n
decreasing_by omega
theorem a2Y {n:Nat} (h:n < 10):a1n n=[UInt8.ofNat (48+n)]:=by rw [a1n,dif_pos h]
theorem b61 {n:Nat} (h:¬ n < 10):a1n n=a1n (n / 10)++a1n (n%10):=by rw [a1n,dif_neg h,a2Y (Nat.mod_lt _ b8)]
theorem X7:∀ (m n:Nat),n < 10^(m+1)→(a1n n).length≤m+1
 | 0,n,h=>by rw [a2Y a33]; simp
 | m+1,n,h=>by
  by_cases hn:n < 10
  ·rw [a2Y hn]; simp
  ·rw [a1n,dif_neg hn,List.length_append]
   have:=X7 m (n / 10) (by rw [Nat.div_lt_iff_lt_mul b8]; rw [Nat.pow_succ] at h; exact h)
   simp only [List.length_cons,List.length_nil]
   omega
theorem b9j:∀ n:Nat,n < 10→(([48,49,50,51,52,53,54,55,56,57]:Str).take (n+1)).drop n=[UInt8.ofNat (48+n)]:=by decide
theorem a2P {n:Nat} (h:c4 CC 57 [(.val (.int .i64 ((n:Int))))] [] fun r σ'=>r = .ret (sv (a1n n))∧σ'=[]) (σ:List c5):c4 CC 57 [(.val (.int .i64 ((n:Int))))] σ fun r σ'=>r = .ret (sv (a1n n))∧σ'=σ :=
 c4.anyw hCC (by repeat' (first|exact .val _|exact d8 _ _|exact d6 _ _|exact tt | refine d7 ?_ | refine d9 ?_ | refine ⟨?_,?_⟩)) (by repeat' (first|exact .val _|exact d8 _ _|exact d6 _ _|exact tt | refine d7 ?_ | refine d9 ?_ | refine ⟨?_,?_⟩)) h σ
set_option maxRecDepth 10000 in
theorem b2S (n:Nat) (hn:n≤4611686018427387904):c4 CC 57 [(.val (.int .i64 ((n:Int))))] [] fun r σ'=>r = .ret (sv (a1n n))∧σ'=[]:=by
 induction n using Nat.strongRecOn
 rename_i n ih
 refine j8 (d5 Tryz.func57 rfl rfl ?_)
 refine a7 (a6 ?_)
 refine cY j1 ?_
 refine a8 (a7 (a7 (a6 ?_)))
 refine cY b7 ?_; refine cY j9 ?_; refine a8 ?_
 refine b9 tt rfl (fun h1=>?_) (fun h1=>?_)
 ·have hn9:n < 10:=by simp at h1; omega
  refine a7 (a6 ?_)
  refine cY b7 ?_; refine cY b7 ?_; refine cY m9 ?_; refine cY (J2 (a:=n) (h:=(n+1)) rfl rfl rfl Tryz.runUnderlying9 ⟨tt,_,_,rfl,by first|omega|(simp at hg; omega),by first|omega|(simp at hg; omega)⟩ ⟨tt,_,_,rfl,by first|omega|(simp at hg; omega),by first|omega|(simp at hg; omega)⟩ b8 (by show n+1≤10; omega)) ?_; refine cY c7 ?_
  refine a8 (c9 ?_)
  exact ⟨_,l9 rfl tt c6,_,_,rfl,rfl,L0 (by rw [a2Y hn9]; exact congrArg str (b9j n hn9))⟩
 ·have hn9:¬ n < 10:=by simp at h1; omega
  have hd:Int.tdiv (n:Int) 10=((n / 10:Nat):Int):=by rfl
  have hm:Int.tmod (n:Int) 10=((n%10:Nat):Int):=by rfl
  have g1:=X7 18 (n / 10) b8
  have g2:=X7 18 (n%10) b8
  have e1:IntKind.i64.wrap ((n:Int).tdiv 10)=((n / 10:Nat):Int):=by rw [hd]; exact a72 b8 b8
  have e2:(n:Int).tmod 10=((n%10:Nat):Int):=by exact hm
  refine c8 (a7 (a6 ?_))
  refine cY b7 ?_; refine cY (a1d rfl tt rfl rfl rfl (rfl)) ?_; refine cY (i8 rfl Tryz.call57 ⟨tt,tt⟩ (by have h:=a2P (ih (n / 10) b8 b8) []; rw [← e1] at h; exact h) rfl) ?_; refine cY b7 ?_; refine cY (a1d rfl tt rfl rfl rfl (rfl)) ?_; refine cY (i8 rfl Tryz.call57 ⟨tt,tt⟩ (by have h:=a2P (ih (n%10) b8 b8) []; rw [← e2] at h; exact h) rfl) ?_; refine cY a0C ?_; refine cY c7 ?_
  refine a8 (c9 ?_)
  exact ⟨_,l9 rfl tt c6,_,_,rfl,rfl,L0 (congrArg str (b61 hn9).symm)⟩
theorem a9z (n:Nat) (hn:n≤4611686018427387904) (σ:List c5):c4 CC 57 [(.val (.int .i64 ((n:Int))))] σ fun r σ'=>r = .ret (sv (a1n n))∧σ'=σ :=
 c4.anyw hCC (by repeat' (first|exact .val _|exact d8 _ _|exact d6 _ _|exact r7 _ _|exact tt | refine d7 ?_ | refine d9 ?_ | refine ⟨?_,?_⟩)) (by repeat' (first|exact .val _|exact d8 _ _|exact d6 _ _|exact r7 _ _|exact tt | refine d7 ?_ | refine d9 ?_ | refine ⟨?_,?_⟩)) (b2S n hn) σ
def leF (f x:Fi):Bool:=Op.bytesLess f.p x.p || decide (f.p=x.p)
def a3A (f:Fi):Bool→List Fi→List Fi
 | d,[]=>if d then [] else [f]
 | d,x::l=>(if !d && leF f x then [f] else [])++((if x.p=f.p then [] else [x])++a3A f (d || leF f x) l)
def a1q (l:List Fi) (f:Fi):List Fi:=a3A f false l
def a1N (l:List Fi) (s:Str):List Fi:=l.filter fun x=>!decide (x.p=s)
theorem b2g {f:Fi} {l:List Fi} {i:Nat} {y:Fi} (h:l[i]? = some y) (d:Bool):a3A f d (l.drop i)=(if !d && leF f y then [f] else [])++((if y.p=f.p then [] else [y])++a3A f (d || leF f y) (l.drop (i+1))):=by
 obtain ⟨hlt,rfl⟩:=List.getElem?_eq_some_iff.1 h
 rw [List.drop_eq_getElem_cons hlt]; rfl
theorem b2n {s:Str} {l:List Fi} {i:Nat} {y:Fi} (h:l[i]? = some y):a1N (l.drop i) s=(if y.p=s then [] else [y])++a1N (l.drop (i+1)) s:=by
 obtain ⟨hlt,rfl⟩:=List.getElem?_eq_some_iff.1 h
 rw [List.drop_eq_getElem_cons hlt,a1N,List.filter_cons]
 by_cases h:(l[i]).p=s
 ·simp [h,a1N]
 ·simp [h,a1N]
theorem a7p {L:Nat} {sel:List Nat} {l:List Fi} {nn:Bool} {tok:Option Nat}:B4 L sel (.agg [.list (l.map Fi.cv) nn tok]) (.agg (w7 l nn)) :=
 .agg rfl fun i c c' h h'=>by
  rcases i with _ | i
  ·injection h with h; injection h' with h'; subst h h'; exact W4 (f:=Fi.cv) Fi.pure _
  ·cases h
set_option maxRecDepth 10000 in
theorem b0r (fl:List Fi) (nn:Bool) (f:Fi) (hfl:fl.length≤1000000):c4 CC 53 [.agg (w7 fl nn),.agg f.cells] [] fun r τ=>G8 0 τ r (.ret (.agg (w7 (a1q fl f) (gnn (a1q fl f).length)))) []:=by
 refine (d5 Tryz.func53 rfl rfl ?_)
 refine a7 (a6 ?_)
 refine cD (A4 rfl tt c6 j2 ?_)
 refine cD (A4 rfl tt c6 j2 ?_)
 refine cD (l5 rfl Tryz.zeroValue32 rfl j2 ?_)
 refine a8 (a7 (a6 ?_))
 refine cD (l5 rfl Tryz.zeroValue32 rfl j2 ?_)
 refine a8 (a7 (a6 ?_))
 refine cY j1 ?_
 refine a8 (a7 (a7 (a6 ?_)))
 refine cY O4 ?_; refine cY V7 ?_; refine cY a3I ?_; refine cY A7 ?_
 refine a8 (d4 ?_)
 refine B2 hCC 4 rfl (α:=List Fi × Bool × Nat) (fun x=>[(3,.ptr 1 0),(4,.ptr 2 0),(5,.ptr 3 0),(6,(.val (.bool (x.2.1)))),(10,(.list (fl.map Fi.cv) nn none)),(11,(.val (.int .i64 ((fl.length:Int))))),(12,(.val (.int .i64 ((x.2.2:Int)))))]) (fun x=>[.box (w7 fl nn),.box f.cells,.box (w7 [] false),.box [(.list (x.1.map Fi.cv) (gnn x.1.length) (P3 x.1.length 4))],r6 x.1.length]) (fun x=>x.2.2≤fl.length∧x.1.length≤x.2.2+1∧(x.2.1=false→x.1.length≤x.2.2)∧a1q fl f=x.1++a3A f x.2.1 (fl.drop x.2.2)) (fun x=>fl.length - x.2.2) ⟨([],false,0),[0,1,2,3,9],⟨Nat.zero_le _,Nat.zero_le _,fun _=>Nat.zero_le _,rfl⟩,⟨rfl,rfl⟩,⟨⟨tt,D2⟩,⟨tt,D2⟩,⟨tt,D2⟩,⟨tt,D2⟩,⟨tt,D2⟩,⟨tt,D2⟩,⟨tt,D2⟩,tt⟩,⟨.inr ⟨_,rfl,.same rfl V2⟩,.inr ⟨_,rfl,.same rfl a5H⟩,.inr ⟨_,rfl,.same rfl a4q⟩,.inr ⟨_,rfl,.box ⟨.same rfl (z7 _ ([]:List Fi) _),tt⟩⟩,.inl rfl,tt⟩⟩ ?_; intro ⟨out,d,i⟩ ⟨hi,hol,hod,hr⟩
 dsimp only at hi hol hod hr ⊢
 refine a7 (a6 ?_)
 refine cY r9 ?_
 refine a8 (a7 ?_)
 refine b9 tt rfl (fun h1=>?_) (fun h1=>?_)
 ·have hlt:i < fl.length:=by simp at h1; omega
  obtain ⟨y,hb⟩:∃ y,fl[i]? = some y:=⟨fl[i]'hlt,by simp⟩
  rw [b2g hb] at hr
  refine c8 (a7 (d4 (a7 (a6 ?_))))
  refine cY a5l ?_; refine cY a1c ?_
  refine cD (l5 rfl Tryz.zeroValue57 rfl j2 ?_)
  refine cD (i7 rfl tt tt rfl c6 Tryz.sizeOf57 j2 rfl rfl (nb rfl) ?_)
  refine a8 (a7 (a7 (a6 ?_)))
  refine cY b7 ?_; refine cY F6 ?_; refine cY b7 ?_; refine cG b1T ?_; refine cG U7 ?_; refine cG b1T ?_; refine cG U7 ?_; refine cG (fun hg=>a0i rfl hg hg rfl rfl (a8V _ _)) ?_; refine cY t8 ?_; refine a8 ?_
  refine b9 tt rfl (fun h2=>?_) (fun h2=>?_)
  ·have h2':d=false∧leF f y=true:=by
    have h2:(!d && leF f y)=true:=h2
    simpa using h2
   obtain ⟨hd,hle⟩:=h2'
   subst hd
   rw [hle] at hr
   have hol2:=hod rfl
   refine a7 (a6 ?_)
   refine cY O4 ?_; refine cY V7 ?_; refine cY a6U ?_; refine cY b87 ?_
   refine cD (H3 rfl tt tt rfl l7 q_3 Tryz.runUnderlying30 Tryz.sizeOf57 Tryz.typeInfo57 Tryz.zeroValue57 rfl (.inr rfl) Y9 b22 K0 ((out++[f]).map Fi.cv) (out++[f]).length l7 l7 ?_)
   refine cY O4 ?_
   refine cD (i7 rfl tt tt rfl c6 Tryz.sizeOf30 (.inl rfl) rfl rfl (nb rfl) ?_)
   refine a8 (a6 ?_)
   refine cY j1 ?_
   refine a8 (a7 (a6 ?_))
   refine cY O5 ?_; refine cY s7 ?_; refine cY O5 ?_; refine cY s7 ?_; refine cY a6J ?_; refine a8 ?_
   refine b9 tt rfl (fun h3=>?_) (fun h3=>?_)
   ·have hyp:¬ y.p=f.p:=by simpa using h3
    rw [if_neg hyp] at hr
    refine a6 ?_; refine cY O4 ?_; refine cY V7 ?_; refine cY a6U ?_; refine cY b6e ?_
    refine cD (H3 rfl tt tt rfl l7 q_3 Tryz.runUnderlying30 Tryz.sizeOf57 Tryz.typeInfo57 Tryz.zeroValue57 rfl (.inr rfl) Y9 b22 K0 ((out++[f]++[y]).map Fi.cv) (out++[f]++[y]).length l7 l7 ?_)
    refine cY O4 ?_
    refine cD (i7 rfl tt tt rfl c6 Tryz.sizeOf30 (.inl rfl) rfl rfl (nb rfl) ?_)
    refine a8 (a6 ?_)
    refine cY m9 ?_; refine cY b7 ?_; refine a8 ?_
    exact ⟨(out++[f]++[y],true,i+1),[0,1,2,3,7],⟨by dsimp only; omega,by dsimp only; omega,by simp only [List.length_append,List.length_cons,List.length_nil]; omega,(fun h=>by cases h),by rw [hr]; simp⟩,⟨rfl,rfl⟩,⟨⟨tt,D2⟩,⟨tt,D2⟩,⟨tt,D2⟩,⟨tt,D2⟩,⟨tt,D2⟩,⟨tt,D2⟩,⟨tt,D2⟩,tt⟩,⟨.inr ⟨_,rfl,.same rfl V2⟩,.inr ⟨_,rfl,.same rfl a5H⟩,.inr ⟨_,rfl,.same rfl a4q⟩,.inr ⟨_,rfl,.box ⟨B4.grow (f:=Fi.cv) (fun a=>⟨.val _,.val _,tt⟩) rfl,tt⟩⟩,.inr ⟨_,rfl,.same rfl s8⟩,tt⟩⟩
   ·have hyp:y.p=f.p:=by simpa using h3
    rw [if_pos hyp] at hr
    refine c8 (a6 ?_)
    refine cY m9 ?_; refine cY b7 ?_; refine a8 ?_
    exact ⟨(out++[f],true,i+1),[0,1,2,3,6],⟨by dsimp only; omega,by dsimp only; omega,by simp only [List.length_append,List.length_cons,List.length_nil]; omega,(fun h=>by cases h),by rw [hr]; simp⟩,⟨rfl,rfl⟩,⟨⟨tt,D2⟩,⟨tt,D2⟩,⟨tt,D2⟩,⟨tt,D2⟩,⟨tt,D2⟩,⟨tt,D2⟩,⟨tt,D2⟩,tt⟩,⟨.inr ⟨_,rfl,.same rfl V2⟩,.inr ⟨_,rfl,.same rfl a5H⟩,.inr ⟨_,rfl,.same rfl a4q⟩,.inr ⟨_,rfl,.box ⟨B4.grow (f:=Fi.cv) (fun a=>⟨.val _,.val _,tt⟩) rfl,tt⟩⟩,.inr ⟨_,rfl,.same rfl s8⟩,tt⟩⟩
  ·have hd:(!d && leF f y)=false:=by
    have h2:(!d && leF f y)=false:=h2
    simpa using h2
   have hd2:(d || leF f y)=d:=by cases d <;> simp_all
   rw [hd,hd2] at hr
   refine c8 (a7 (a6 ?_))
   refine cY O5 ?_; refine cY s7 ?_; refine cY O5 ?_; refine cY s7 ?_; refine cY a6J ?_; refine a8 ?_
   refine b9 tt rfl (fun h4=>?_) (fun h4=>?_)
   ·have hyp:¬ y.p=f.p:=by simpa using h4
    rw [if_neg hyp] at hr
    refine a6 ?_; refine cY O4 ?_; refine cY V7 ?_; refine cY a6U ?_; refine cY b6e ?_
    refine cD (H3 rfl tt tt rfl l7 q_3 Tryz.runUnderlying30 Tryz.sizeOf57 Tryz.typeInfo57 Tryz.zeroValue57 rfl (.inr rfl) Y9 b22 K0 ((out++[y]).map Fi.cv) (out++[y]).length l7 l7 ?_)
    refine cY O4 ?_
    refine cD (i7 rfl tt tt rfl c6 Tryz.sizeOf30 (.inl rfl) rfl rfl (nb rfl) ?_)
    refine a8 (a6 ?_)
    refine cY m9 ?_; refine cY b7 ?_; refine a8 ?_
    exact ⟨(out++[y],d,i+1),[0,1,2,3,6],⟨by dsimp only; omega,by dsimp only; omega,by simp only [List.length_append,List.length_cons,List.length_nil]; omega,(fun h=>by have:=hod h; simp only [List.length_append,List.length_cons,List.length_nil]; omega),by rw [hr]; simp⟩,⟨rfl,rfl⟩,⟨⟨tt,D2⟩,⟨tt,D2⟩,⟨tt,D2⟩,⟨tt,D2⟩,⟨tt,D2⟩,⟨tt,D2⟩,⟨tt,D2⟩,tt⟩,⟨.inr ⟨_,rfl,.same rfl V2⟩,.inr ⟨_,rfl,.same rfl a5H⟩,.inr ⟨_,rfl,.same rfl a4q⟩,.inr ⟨_,rfl,.box ⟨B4.grow (f:=Fi.cv) (fun a=>⟨.val _,.val _,tt⟩) rfl,tt⟩⟩,.inr ⟨_,rfl,.same rfl s8⟩,tt⟩⟩
   ·have hyp:y.p=f.p:=by simpa using h4
    rw [if_pos hyp] at hr
    refine c8 (a6 ?_)
    refine cY m9 ?_; refine cY b7 ?_; refine a8 ?_
    exact ⟨(out,d,i+1),[0,1,2,3,4],⟨by dsimp only; omega,by dsimp only; omega,by dsimp only; omega,(fun h=>by have:=hod h; dsimp only; omega),by rw [hr]; simp⟩,⟨rfl,rfl⟩,⟨⟨tt,D2⟩,⟨tt,D2⟩,⟨tt,D2⟩,⟨tt,D2⟩,⟨tt,D2⟩,⟨tt,D2⟩,⟨tt,D2⟩,tt⟩,⟨.inr ⟨_,rfl,.same rfl V2⟩,.inr ⟨_,rfl,.same rfl a5H⟩,.inr ⟨_,rfl,.same rfl a4q⟩,.inr ⟨_,rfl,.box ⟨B4.grow (f:=Fi.cv) (fun a=>⟨.val _,.val _,tt⟩) rfl,tt⟩⟩,.inr ⟨_,rfl,.same rfl s8⟩,tt⟩⟩
 ·have hge:fl.length≤i:=by simp at h1; omega
  rw [List.drop_eq_nil_of_le hge] at hr
  refine m4 (a7 (a7 (a6 ?_)))
  refine cY b7 ?_; refine cY F6 ?_; refine a8 ?_
  refine b9 tt rfl (fun h5=>?_) (fun h5=>?_)
  ·have hd:d=false:=by simpa using h5
   subst hd
   replace hr:a1q fl f=out++[f]:=hr
   refine a6 ?_; refine cY O4 ?_; refine cY V7 ?_; refine cY a6U ?_; refine cY b87 ?_
   refine cD (H3 rfl tt tt rfl l7 q_3 Tryz.runUnderlying30 Tryz.sizeOf57 Tryz.typeInfo57 Tryz.zeroValue57 rfl (.inr rfl) Y9 b22 K0 ((out++[f]).map Fi.cv) (out++[f]).length l7 l7 ?_)
   refine cY O4 ?_
   refine cD (i7 rfl tt tt rfl c6 Tryz.sizeOf30 (.inl rfl) rfl rfl (nb rfl) ?_)
   refine a8 (a7 (a6 ?_))
   refine cY Q5 ?_
   refine cD (i7 rfl tt tt rfl c6 Tryz.sizeOf32 j2 rfl rfl (nb rfl) ?_)
   refine a8 (c9 ?_)
   exact ⟨_,B5 rfl ⟨tt,_,_,_,rfl,rfl,.inr ⟨_,Tryz.isAgg32,Tryz.sizeOf32,nb rfl,rfl⟩⟩,(by rw [hr]; exact b7i a7p)⟩
  ·have hd:d=true:=by simpa using h5
   subst hd
   replace hr:a1q fl f=out:=by rw [hr]; exact List.append_nil _
   refine c8 (a7 (a6 ?_))
   refine cY Q5 ?_
   refine cD (i7 rfl tt tt rfl c6 Tryz.sizeOf32 j2 rfl rfl (nb rfl) ?_)
   refine a8 (c9 ?_)
   exact ⟨_,B5 rfl ⟨tt,_,_,_,rfl,rfl,.inr ⟨_,Tryz.isAgg32,Tryz.sizeOf32,nb rfl,rfl⟩⟩,(by rw [hr]; exact b7i a7p)⟩
theorem N8 (fl:List Fi) (nn:Bool) (f:Fi) (hfl:fl.length≤1000000) (σ:List c5):c4 CC 53 [.agg (w7 fl nn),.agg f.cells] σ fun r τ=>r = .ret (.agg (w7 (a1q fl f) (gnn (a1q fl f).length)))∧τ=σ :=
 b5b hCC (fun a h=>by simp at h; rcases h with rfl | rfl; exact d7 (cs:=w7 _ _) ⟨r7 _ _,tt⟩; exact d7 (Fi.pure _)) (d7 (cs:=w7 _ _) ⟨r7 _ _,tt⟩) (b0r fl nn f hfl) σ
set_option maxRecDepth 10000 in
theorem b05 (fl:List Fi) (nn:Bool) (s:Str) (hfl:fl.length≤1000000):c4 CC 55 [.agg (w7 fl nn),(sv (s))] [] fun r τ=>G8 0 τ r (.ret (.agg (w7 (a1N fl s) (gnn (a1N fl s).length)))) []:=by
 refine (d5 Tryz.func55 rfl rfl ?_)
 refine a7 (a6 ?_)
 refine cD (A4 rfl tt c6 j2 ?_)
 refine cD (l5 rfl Tryz.zeroValue32 rfl j2 ?_)
 refine a8 (a7 (a6 ?_))
 refine cD (l5 rfl Tryz.zeroValue32 rfl j2 ?_)
 refine a8 (a7 (a7 (a6 ?_)))
 refine cY O4 ?_; refine cY V7 ?_; refine cY a3I ?_; refine cY A7 ?_
 refine a8 (d4 ?_)
 refine B2 hCC 3 rfl (α:=List Fi × Nat) (fun x=>[(1,(sv (s))),(4,.ptr 1 0),(5,.ptr 2 0),(9,(.list (fl.map Fi.cv) nn none)),(10,(.val (.int .i64 ((fl.length:Int))))),(11,(.val (.int .i64 ((x.2:Int)))))]) (fun x=>[.box (w7 fl nn),.box (w7 [] false),.box [(.list (x.1.map Fi.cv) (gnn x.1.length) (P3 x.1.length 3))],r6 x.1.length]) (fun x=>x.2≤fl.length∧x.1.length≤x.2∧a1N fl s=x.1++a1N (fl.drop x.2) s) (fun x=>fl.length - x.2) ⟨([],0),[0,1,2,9],⟨Nat.zero_le _,Nat.zero_le _,rfl⟩,⟨rfl,rfl⟩,⟨⟨tt,D2⟩,⟨tt,D2⟩,⟨tt,D2⟩,⟨tt,D2⟩,⟨tt,D2⟩,⟨tt,D2⟩,tt⟩,⟨.inr ⟨_,rfl,.same rfl V2⟩,.inr ⟨_,rfl,.same rfl a4q⟩,.inr ⟨_,rfl,.box ⟨.same rfl (z7 _ ([]:List Fi) _),tt⟩⟩,.inl rfl,tt⟩⟩ ?_; intro ⟨out,i⟩ ⟨hi,hol,hr⟩
 dsimp only at hi hol hr ⊢
 refine a7 (a6 ?_)
 refine cY r9 ?_
 refine a8 (a7 ?_)
 refine b9 tt rfl (fun h1=>?_) (fun h1=>?_)
 ·have hlt:i < fl.length:=by simp at h1; omega
  obtain ⟨y,hb⟩:∃ y,fl[i]? = some y:=⟨fl[i]'hlt,by simp⟩
  rw [b2n hb] at hr
  refine c8 (a7 (d4 (a7 (a6 ?_))))
  refine cY a5l ?_; refine cY a1c ?_
  refine cD (l5 rfl Tryz.zeroValue57 rfl j2 ?_)
  refine cD (i7 rfl tt tt rfl c6 Tryz.sizeOf57 j2 rfl rfl (nb rfl) ?_)
  refine a8 (a7 (a6 ?_))
  refine cY O5 ?_; refine cY s7 ?_; refine cY b7 ?_; refine cY a6J ?_; refine a8 ?_
  refine b9 tt rfl (fun h2=>?_) (fun h2=>?_)
  ·have hyp:¬ y.p=s:=by simpa using h2
   rw [if_neg hyp] at hr
   refine a6 ?_; refine cY O4 ?_; refine cY V7 ?_; refine cY a6U ?_; refine cY b6e ?_
   refine cD (H3 rfl tt tt rfl l7 q_3 Tryz.runUnderlying30 Tryz.sizeOf57 Tryz.typeInfo57 Tryz.zeroValue57 rfl (.inr rfl) Y9 b22 K0 ((out++[y]).map Fi.cv) (out++[y]).length l7 l7 ?_)
   refine cY O4 ?_
   refine cD (i7 rfl tt tt rfl c6 Tryz.sizeOf30 (.inl rfl) rfl rfl (nb rfl) ?_)
   refine a8 (a6 ?_)
   refine cY m9 ?_; refine cY b7 ?_; refine a8 ?_
   exact ⟨(out++[y],i+1),[0,1,2,5],⟨by dsimp only; omega,by dsimp only; omega,by simp only [List.length_append,List.length_cons,List.length_nil]; omega,by rw [hr]; simp⟩,⟨rfl,rfl⟩,⟨⟨tt,D2⟩,⟨tt,D2⟩,⟨tt,D2⟩,⟨tt,D2⟩,⟨tt,D2⟩,⟨tt,D2⟩,tt⟩,⟨.inr ⟨_,rfl,.same rfl V2⟩,.inr ⟨_,rfl,.same rfl a4q⟩,.inr ⟨_,rfl,.box ⟨B4.grow (f:=Fi.cv) (fun a=>⟨.val _,.val _,tt⟩) rfl,tt⟩⟩,.inr ⟨_,rfl,.same rfl s8⟩,tt⟩⟩
  ·have hyp:y.p=s:=by simpa using h2
   rw [if_pos hyp] at hr
   refine c8 (a6 ?_)
   refine cY m9 ?_; refine cY b7 ?_; refine a8 ?_
   exact ⟨(out,i+1),[0,1,2,3],⟨by dsimp only; omega,by dsimp only; omega,by dsimp only; omega,by rw [hr]; simp⟩,⟨rfl,rfl⟩,⟨⟨tt,D2⟩,⟨tt,D2⟩,⟨tt,D2⟩,⟨tt,D2⟩,⟨tt,D2⟩,⟨tt,D2⟩,tt⟩,⟨.inr ⟨_,rfl,.same rfl V2⟩,.inr ⟨_,rfl,.same rfl a4q⟩,.inr ⟨_,rfl,.box ⟨B4.grow (f:=Fi.cv) (fun a=>⟨.val _,.val _,tt⟩) rfl,tt⟩⟩,.inr ⟨_,rfl,.same rfl s8⟩,tt⟩⟩
 ·have hge:fl.length≤i:=by simp at h1; omega
  rw [List.drop_eq_nil_of_le hge] at hr
  replace hr:a1N fl s=out:=by rw [hr]; exact List.append_nil _
  refine m4 (a7 (a6 ?_))
  refine cY Q5 ?_
  refine cD (i7 rfl tt tt rfl c6 Tryz.sizeOf32 j2 rfl rfl (nb rfl) ?_)
  refine a8 (c9 ?_)
  exact ⟨_,B5 rfl ⟨tt,_,_,_,rfl,rfl,.inr ⟨_,Tryz.isAgg32,Tryz.sizeOf32,nb rfl,rfl⟩⟩,(by rw [hr]; exact b7i a7p)⟩
theorem a6P (fl:List Fi) (nn:Bool) (s:Str) (hfl:fl.length≤1000000) (σ:List c5):c4 CC 55 [.agg (w7 fl nn),(sv (s))] σ fun r τ=>r = .ret (.agg (w7 (a1N fl s) (gnn (a1N fl s).length)))∧τ=σ :=
 b5b hCC (fun a h=>by simp at h; rcases h with rfl | rfl; exact d7 (cs:=w7 _ _) ⟨r7 _ _,tt⟩; exact .val _) (d7 (cs:=w7 _ _) ⟨r7 _ _,tt⟩) (b05 fl nn s hfl) σ
theorem a0N {l:List Int} {k:Nat} {n:Int} (hn:1≤n):0≤I8 l k n∧I8 l k n < n:=a7q hn
theorem N3 (n:Nat) (l:List Int) (nn:Bool) (k:Nat):F0 n (o4 l nn k):=l2 ⟨D4 _ _ _,.val _,tt⟩
set_option maxRecDepth 10000 in
theorem a98 (l:List Int) (nn:Bool) (k:Nat) (hat:k≤900000000) (hl:l.length≤maxLen) (n:Nat) (hn:n≤1000) (al:Str) (ha:1≤al.length) (hal:al.length≤1000):c4 CC 109 [.ptr 0 0,(.val (.int .i64 ((n:Int)))),(sv (al))] [o4 l nn k] fun r τ=>∃ a:Str × Nat,G8 1 τ r (.ret (sv a.1)) [o4 l nn a.2]∧(a.1.length=n∧k≤a.2∧a.2≤k+n):=by
 refine (d5 Tryz.func109 rfl rfl ?_)
 refine a7 (a6 ?_)
 refine cY j1 ?_
 refine a8 (a7 (a6 ?_))
 refine cY j1 ?_
 refine a8 (a7 (a7 (a6 ?_)))
 refine cY j1 ?_
 refine a8 (d4 ?_)
 refine B2 hCC 1 rfl (α:=Str × Nat) (fun x=>[(0,.ptr 0 0),(1,(.val (.int .i64 ((n:Int))))),(2,(sv (al))),(7,(.list (x.1.map bcv) (gnn x.1.length) (P3 x.1.length 1))),(8,(.val (.int .i64 ((x.1.length:Int)))))]) (fun x=>[o4 l nn x.2,r6 x.1.length]) (fun x=>x.1.length≤n∧x.2=k+x.1.length) (fun x=>n - x.1.length) ⟨([],k),[0,9],⟨Nat.zero_le _,rfl⟩,⟨rfl,rfl⟩,⟨⟨tt,b5v⟩,⟨tt,b5v⟩,⟨tt,b5v⟩,⟨tt,b5v⟩,⟨tt,b5v⟩,tt⟩,⟨.inr ⟨_,rfl,.same rfl A6⟩,.inl rfl,tt⟩⟩ ?_; intro ⟨out,p⟩ ⟨hol,hp⟩
 dsimp only at hol hp ⊢
 refine a7 (a7 (a6 ?_))
 refine cY b7 ?_; refine cY b7 ?_; refine cY r9 ?_; refine a8 ?_
 refine b9 tt rfl (fun h1=>?_) (fun h1=>?_)
 ·have hlt:out.length < n:=by simp at h1; omega
  have hb:=a0N (l:=l) (k:=p) (n:=(al.length:Int)) b8
  obtain ⟨c,hc⟩:∃ c,al[(I8 l p (al.length:Int)).toNat]? = some c:=⟨al[(I8 l p (al.length:Int)).toNat]'b8,by simp⟩
  refine c8 (a7 (d4 (a6 ?_)))
  refine cY b7 ?_; refine cY b7 ?_; refine cY b7 ?_; refine cY b7 ?_; refine cY I3 ?_
  refine cD (j3 rfl Tryz.call18 ⟨tt,tt,tt⟩ (F9 l nn p _ 0 rfl b8 hl (al.length:Int) b8) rfl ?_)
  intro _ _; refine cY (M8 rfl tt tt rfl rfl Tryz.runUnderlying9 b8 hc) ?_; refine cY b8D ?_
  refine cD (H3 rfl tt tt rfl l7 q_3 Tryz.runUnderlying139 Tryz.sizeOf5 Tryz.typeInfo5 Tryz.zeroValue5 rfl (.inr rfl) Y9 (by have hb:Tryz.t5.bytes=1:=rfl; rw [hb]; first|omega|(simp; done)|(simp; omega)) K0 ((out++[c]).map bcv) (out++[c]).length l7 l7 ?_)
  refine cY c7 ?_
  refine a8 (a6 ?_)
  refine cY b7 ?_; refine cY m9 ?_; refine cY c7 ?_; refine a8 ?_
  exact ⟨(out++[c],p+1),[0,2],⟨by simp only [List.length_append,List.length_cons,List.length_nil]; omega,by simp only [List.length_append,List.length_cons,List.length_nil]; omega,by simp only [List.length_append,List.length_cons,List.length_nil]; omega⟩,⟨rfl,rfl⟩,⟨⟨tt,q_9⟩,⟨tt,q_9⟩,⟨tt,q_9⟩,⟨tt,q_9⟩,⟨tt,(by first|exact .ptr rfl|exact .map rfl|exact .vec rfl|exact .same (congrArg (fun x=>CV.val (.int .i64 x)) (by simp:(out.length:Int)+1=((out++[c]).length:Int))) (by first|exact .val _|exact .ptr (nb rfl)|exact .map (nb rfl)|exact J3 _ _ _)|exact B4.grow (f:=bcv) (fun a=>⟨.val _,tt⟩) rfl)⟩,tt⟩,⟨.inr ⟨_,rfl,.same rfl A6⟩,.inr ⟨_,rfl,.same rfl s8⟩,tt⟩⟩
 ·have hge:out.length=n:=by simp at h1; omega
  refine m4 (a7 (a6 ?_))
  refine cY b7 ?_; refine cY b5O ?_; refine cY c7 ?_
  refine a8 (c9 ?_)
  exact ⟨_,l9 rfl tt c6,⟨(out,p),P0 rfl A6 (.old (.val _)),hge,by dsimp only; omega,by dsimp only; omega⟩⟩
theorem b19 (l:List Int) (nn:Bool) (k:Nat) (hat:k≤900000000) (hl:l.length≤maxLen) (n:Nat) (hn:n≤1000) (al:Str) (ha:1≤al.length) (hal:al.length≤1000) (σ:List c5) (q:Nat) (hq:σ[q]? = some (o4 l nn k)):c4 CC 109 [.ptr q 0,(.val (.int .i64 ((n:Int)))),(sv (al))] σ fun r τ=>∃ a:Str × Nat,r = .ret (sv a.1)∧τ=σ.set q (o4 l nn a.2)∧(a.1.length=n∧k≤a.2∧a.2≤k+n) :=
 a3n (c:=fun a:Str × Nat=>sv a.1) (S:=fun a=>o4 l nn a.2) hCC (fun a h=>by simp at h; rcases h with rfl | rfl <;> exact .val _) (fun _=>.val _) (fun _=>B0 _ _ _) (B0 _ _ _) rfl (a98 l nn k hat hl n hn al ha hal) σ q hq
set_option maxRecDepth 10000 in
theorem b4X (l:List Int) (nn:Bool) (k:Nat) (hat:k≤800000000) (hl:l.length≤maxLen):c4 CC 54 [.ptr 0 0] [o4 l nn k] fun r τ=>∃ a:Str × Nat,G8 1 τ r (.ret (sv a.1)) [o4 l nn a.2]∧(a.1.length≤3∧k≤a.2∧a.2≤k+4):=by
 refine (d5 Tryz.func54 rfl rfl ?_)
 refine a7 (a6 ?_)
 refine cY j1 ?_
 refine a8 (a7 (a6 ?_))
 refine cY b7 ?_; refine cY b7 ?_
 refine cD (j3 rfl Tryz.call18 ⟨tt,rfl,tt⟩ (F9 l nn k _ 0 rfl b8 hl 4 b8) rfl ?_)
 intro _ _
 have hb:=a0N (l:=l) (k:=k) (n:=4) b8
 obtain ⟨m,hm⟩:∃ m:Nat,I8 l k 4=(m:Int):=⟨(I8 l k 4).toNat,by omega⟩
 rw [hm] at hb ⊢
 refine cD (j3 rfl Tryz.call109 ⟨tt,tt,rfl,tt⟩ (b19 l nn (k+1) b8 hl m b8 [97,98,0,255,48] j4 j4 _ 0 rfl) rfl ?_)
 intro ⟨s,p⟩ ⟨hs,hp1,hp2⟩
 dsimp only at hs hp1 hp2 ⊢
 refine cY c7 ?_
 refine a8 (c9 ?_)
 exact ⟨_,l9 rfl tt c6,⟨(s,p),P0 rfl A6 (.old (.val _)),by dsimp only; omega,by dsimp only; omega,by dsimp only; omega⟩⟩
theorem b1B (l:List Int) (nn:Bool) (k:Nat) (hat:k≤800000000) (hl:l.length≤maxLen) (σ:List c5) (q:Nat) (hq:σ[q]? = some (o4 l nn k)):c4 CC 54 [.ptr q 0] σ fun r τ=>∃ a:Str × Nat,r = .ret (sv a.1)∧τ=σ.set q (o4 l nn a.2)∧(a.1.length≤3∧k≤a.2∧a.2≤k+4) :=
 a3n (c:=fun a:Str × Nat=>sv a.1) (S:=fun a=>o4 l nn a.2) hCC (fun a h=>by simp at h) (fun _=>.val _) (fun _=>B0 _ _ _) (B0 _ _ _) rfl (b4X l nn k hat hl) σ q hq
def a2K (l:List Int) (nn:Bool) (ps:List Str) (d L K B:Nat):Prop:=∀ (k:Nat),k≤B→∀ (σ:List c5) (q:Nat),σ[q]? = some (o4 l nn k)→c4 CC 111 [.ptr q 0,(.val (.int .i64 ((d:Int)))),.list (ps.map scv) (gnn ps.length) none] σ fun r τ=>∃ a:Str × Nat,r = .ret (sv a.1)∧τ=σ.set q (o4 l nn a.2)∧(a.1.length≤L∧k≤a.2∧a.2≤k+K)
abbrev eob (l:List Int) (nn:Bool) (ps:List Str) (d p:Nat):List c5:=[o4 l nn (p),.box [.ptr 0 0],.box [(.val (.int .i64 ((d:Int))))],.box [(.list (ps.map scv) (gnn ps.length) none)]]
set_option maxRecDepth 10000 in
theorem a5u {l:List Int} {nn:Bool} {ps:List Str} {d L K B:Nat} (hd:d≤10) (ih:a2K l nn ps d L K B) (p:Nat) (hp:p≤B):c4 CC 151 [.ptr 1 0,.ptr 2 0,.ptr 3 0] (eob l nn ps (d+1) p) fun r τ=>∃ a:Str × Nat,r = .ret (sv a.1)∧τ=eob l nn ps (d+1) a.2∧(a.1.length≤L∧p≤a.2∧a.2≤p+K):=by
 refine (d5 Tryz.func151 rfl rfl ?_)
 refine a7 (a6 ?_)
 refine cY j1 ?_
 refine a8 (a7 (a6 ?_))
 refine cY a1h ?_; refine cY z8 ?_; refine cY R7 ?_; refine cY R2 ?_
 refine cD (j3 rfl Tryz.call111 ⟨tt,tt,tt,tt⟩ (by have h:=ih p hp (eob l nn ps (d+1) p) 0 rfl; rw [show (d:Int)=((d+1:Nat):Int) - 1 by omega] at h; exact h) rfl ?_)
 intro ⟨s,p1⟩ ⟨h1,h2,h3⟩
 dsimp only at h1 h2 h3 ⊢
 refine cY c7 ?_
 refine a8 (c9 ?_)
 exact ⟨_,l9 rfl tt c6,⟨(s,p1),rfl,rfl,h1,h2,h3⟩⟩
set_option maxRecDepth 10000 in
set_option maxHeartbeats 1600000 in
theorem b4E (l:List Int) (nn:Bool) (k:Nat) (hl:l.length≤maxLen) (d:Nat) (hd:d≤10) (ps:List Str) (hps:∀ s∈ps,s.length≤10) (hpl:ps.length≤2) (L K B:Nat) (hL:L≤1000000) (hK:K≤1000) (hat:k+3*K+10≤B) (hB:B≤900000000) (hclo:1≤d→∀ p,p≤B→c4 CC 151 [.ptr 1 0,.ptr 2 0,.ptr 3 0] (eob l nn ps d p) fun r τ=>∃ a:Str × Nat,r = .ret (sv a.1)∧τ=eob l nn ps d a.2∧(a.1.length≤L∧p≤a.2∧a.2≤p+K)):c4 CC 111 [.ptr 0 0,(.val (.int .i64 ((d:Int)))),.list (ps.map scv) (gnn ps.length) none] [o4 l nn k] fun r τ=>∃ a:Str × Nat,G8 1 τ r (.ret (sv a.1)) [o4 l nn a.2]∧(a.1.length≤3*L+30∧k≤a.2∧a.2≤k+(3*K+5)):=by
 refine (d5 Tryz.func111 rfl rfl ?_)
 refine a7 (a6 ?_)
 refine cD (A4 rfl tt c6 (.inl rfl) ?_)
 refine cD (A4 rfl tt c6 (.inl rfl) ?_)
 refine cD (A4 rfl tt c6 (.inl rfl) ?_)
 refine cY j1 ?_
 refine a8 (a7 ?_)
 refine a0d (α:=Bool × Nat) (fun x=>[(3,.ptr 1 0),(4,.ptr 2 0),(5,.ptr 3 0),(15,(.val (.bool (x.1))))]) (fun x=>[o4 l nn (x.2),.box [.ptr 0 0],.box [(.val (.int .i64 ((d:Int))))],.box [(.list (ps.map scv) (gnn ps.length) none)]]) (fun x=>k≤x.2∧x.2≤k+1∧(x.1=false→1≤d)) ?_ ?_
 ·
  refine a6 ?_; refine cY z8 ?_; refine cY j9 ?_; refine cY b7 ?_; refine cG (fun hg=>n8 rfl tt rfl Tryz.isAgg27 rfl rfl) ?_
  refine b3V (.val (.bool false)) rfl rfl tt rfl rfl (fun hg=>j3 rfl Tryz.call10 ⟨hg,rfl,rfl,tt⟩ (D3 l nn k _ 0 rfl b8 hl 1 4 b8) rfl ?_) (fun hg=>?_)
  ·
   intro _ _; refine cY G5 ?_; refine a8 ?_
   exact ⟨(_,k+1),(by exact ⟨by dsimp only; omega,by dsimp only; omega,fun _=>by simp at hg; omega⟩),⟨⟨tt,rfl⟩,⟨tt,rfl⟩,⟨tt,rfl⟩,⟨tt,rfl⟩,tt⟩,rfl⟩
  ·
   refine cY G5 ?_; refine a8 ?_
   exact ⟨(_,k),(by exact ⟨by dsimp only; omega,by dsimp only; omega,fun hb=>by exfalso; revert hb hg; cases decide ((d:Int)≤0) <;> simp⟩),⟨⟨tt,rfl⟩,⟨tt,rfl⟩,⟨tt,rfl⟩,⟨tt,rfl⟩,tt⟩,rfl⟩
 ·intro ⟨b,p⟩ E0 ⟨hp1,hp2,hbd⟩
  dsimp only at hp1 hp2 hbd ⊢
  refine b9 tt rfl (fun h1=>?_) (fun h1=>?_)
  ·skip
   refine a0d (α:=Nat) (fun _=>[(3,.ptr 1 0)]) (fun x=>[o4 l nn (x),.box [.ptr 0 0],.box [(.val (.int .i64 ((d:Int))))],.box [(.list (ps.map scv) (gnn ps.length) none)]]) (fun x=>k≤x∧x≤k+3) ?_ ?_
   ·
    refine a7 (a6 ?_)
    refine cY a1h ?_
    refine cD (j3 rfl Tryz.call18 ⟨tt,rfl,tt⟩ (F9 l nn p _ 0 rfl b8 hl 9 b8) rfl ?_)
    intro _ _
    refine a8 (d4 ?_)
    refine a0d (α:=Bool) (fun b=>[(3,.ptr 1 0),(4,.ptr 2 0),(5,.ptr 3 0),(17,(.val (.int .i64 (I8 l p 9)))),(18,(.val (.bool (b))))]) (fun _=>[o4 l nn (p+1),.box [.ptr 0 0],.box [(.val (.int .i64 ((d:Int))))],.box [(.list (ps.map scv) (gnn ps.length) none)]]) (fun _=>True) ?_ ?_
    ·
     refine a7 (a6 ?_)
     refine cY j9 ?_; refine cY c7 ?_; refine a8 ?_
     refine b9 tt rfl (fun h2=>?_) (fun h2=>?_)
     ·skip
      refine c8 ?_
      exact ⟨_,tt,⟨⟨tt,rfl⟩,⟨tt,rfl⟩,⟨tt,rfl⟩,⟨tt,rfl⟩,⟨tt,rfl⟩,tt⟩,rfl⟩
     ·skip
      refine a6 ?_; refine cY j9 ?_; refine cY c7 ?_; refine a8 ?_
      exact ⟨_,tt,⟨⟨tt,rfl⟩,⟨tt,rfl⟩,⟨tt,rfl⟩,⟨tt,rfl⟩,⟨tt,rfl⟩,tt⟩,rfl⟩
    ·intro b2 E2 _
     refine b9 tt rfl (fun h3=>?_) (fun h3=>?_)
     ·skip
      refine a7 (a6 ?_)
      refine cY R2 ?_; refine cY R1 ?_; refine cY j9 ?_; refine a8 ?_
      refine b9 tt rfl (fun h4=>?_) (fun h4=>?_)
      ·obtain ⟨x,ps',rfl⟩:∃ x ps',ps=x::ps':=by
        rcases ps with _ | ⟨x,ps'⟩
        ·simp at h4
        ·exact ⟨x,ps',rfl⟩
       refine a7 (a6 ?_)
       refine cY a1h ?_; refine cY R2 ?_
       refine cD (j3 rfl Tryz.call17 ⟨tt,tt,tt⟩ (C3 l nn (p+1) _ 0 rfl b8 hl (x::ps') l7 b8) rfl ?_)
       intro v hv
       have hv8:=hps v hv
       refine cY c7 ?_
       refine a8 (c9 ?_)
       exact ⟨_,l9 rfl tt c6,⟨(_,p+2),P0 rfl A6 (.old (.val _)),a0K,by dsimp only; omega,by dsimp only; omega⟩⟩
      ·skip
       refine c8 ?_
       exact ⟨(p+1),⟨by omega,by omega⟩,⟨⟨tt,rfl⟩,tt⟩,rfl⟩
     ·skip
      refine a7 (a6 ?_)
      refine cY j9 ?_; refine cY c7 ?_; refine a8 ?_
      refine b9 tt rfl (fun h5=>?_) (fun h5=>?_)
      ·skip
       refine a7 ?_; refine w8 2 [0,0,3,7,15,31] j6 j6 rfl ?_; refine hY a1h ?_; refine hY b1C ?_; refine B6 ?_
       refine cD (j3 rfl Tryz.call17 ⟨tt,tt,tt⟩ (C3 l nn (p+1) _ 0 rfl b8 hl P8 j4 j4) rfl ?_)
       intro v hv
       have hv8:v.length≤8:=J4 (.inr (.inr (.inr (.inl hv))))
       refine cY R6 ?_; refine cY J5 ?_; refine cY c7 ?_
       refine a8 (c9 ?_)
       exact ⟨_,l9 rfl tt c6,⟨(_,p+2),P0 rfl A6 (.old (.val _)),a0K,by dsimp only; omega,by dsimp only; omega⟩⟩
      ·skip
       refine a7 (a6 ?_)
       refine cY j9 ?_; refine cY c7 ?_; refine a8 ?_
       refine b9 tt rfl (fun h6=>?_) (fun h6=>?_)
       ·skip
        refine a7 ?_; refine w8 2 [0,0,3,7,15,31] j6 j6 rfl ?_; refine hY a1h ?_; refine hY b1C ?_; refine B6 ?_
        refine cD (j3 rfl Tryz.call17 ⟨tt,tt,tt⟩ (C3 l nn (p+1) _ 0 rfl b8 hl P8 j4 j4) rfl ?_)
        intro v hv
        have hv8:v.length≤8:=J4 (.inr (.inr (.inr (.inl hv))))
        refine cY R6 ?_; refine cY J5 ?_; refine cY c7 ?_
        refine a8 (c9 ?_)
        exact ⟨_,l9 rfl tt c6,⟨(_,p+2),P0 rfl A6 (.old (.val _)),a0K,by dsimp only; omega,by dsimp only; omega⟩⟩
       ·skip
        refine a7 (a6 ?_)
        refine cY j9 ?_; refine cY c7 ?_; refine a8 ?_
        refine b9 tt rfl (fun h7=>?_) (fun h7=>?_)
        ·skip
         refine a7 ?_; refine w8 2 [0,0,3,7,15,31] j6 j6 rfl ?_; refine hY a1h ?_; refine hY (i8 rfl Tryz.call82 trivial (a5x _) rfl) ?_; refine B6 ?_
         refine cD (j3 rfl Tryz.call17 ⟨tt,tt,tt⟩ (C3 l nn (p+1) _ 0 rfl b8 hl O8 j4 j4) rfl ?_)
         intro v hv
         have hv8:v.length≤8:=J4 (.inr (.inr (.inr (.inr hv))))
         refine cY R6 ?_; refine cY J5 ?_; refine cY c7 ?_
         refine a8 (c9 ?_)
         exact ⟨_,l9 rfl tt c6,⟨(_,p+2),P0 rfl A6 (.old (.val _)),a0K,by dsimp only; omega,by dsimp only; omega⟩⟩
        ·skip
         refine a7 (a6 ?_)
         refine cY j9 ?_; refine cY c7 ?_; refine a8 ?_
         refine b9 tt rfl (fun h8=>?_) (fun h8=>?_)
         ·skip
          refine a7 (a6 ?_)
          refine cY a1h ?_
          refine cD (j3 rfl Tryz.call10 ⟨tt,rfl,rfl,tt⟩ (D3 l nn (p+1) _ 0 rfl b8 hl 1 5 b8) rfl ?_)
          intro _ _; refine a8 ?_
          refine b9 tt rfl (fun h9=>?_) (fun h9=>?_)
          ·skip
           refine a7 (a6 ?_)
           refine cY a1h ?_; refine cY (y9 ([0,1,63].map icv) rfl ⟨rfl,rfl,rfl,tt⟩ Tryz.runUnderlying22 Tryz.sizeOf3 Tryz.zeroValue3 rfl rfl rfl rfl rfl rfl rfl rfl rfl) ?_
           refine cD (j3 rfl Tryz.call43 ⟨tt,tt,tt⟩ (a13 l nn (p+2) _ 0 rfl b8 hl [0,1,63] l7 l7) rfl ?_)
           intro v hv
           obtain ⟨m,hm,hm2⟩:∃ m:Nat,v=(m:Int)∧m < 10^17:=by
            simp only [List.mem_cons,List.not_mem_nil,or_false] at hv
            exact ⟨v.toNat,by omega,by omega⟩
           subst hm
           have hdl:=X7 16 m hm2
           refine cY b11 ?_; refine cY R6 ?_; refine cY J5 ?_; refine cY c7 ?_
           refine a8 (c9 ?_)
           exact ⟨_,l9 rfl tt c6,⟨(_,p+3),P0 rfl A6 (.old (.val _)),a0K,by dsimp only; omega,by dsimp only; omega⟩⟩
          ·skip
           refine c8 ?_
           exact ⟨(p+2),⟨by omega,by omega⟩,⟨⟨tt,rfl⟩,tt⟩,rfl⟩
         ·skip
          refine c8 ?_
          exact ⟨(p+1),⟨by omega,by omega⟩,⟨⟨tt,rfl⟩,tt⟩,rfl⟩
   ·intro p3 E3 ⟨hp3,hp4⟩
    refine a7 (a6 ?_)
    refine cY a1h ?_; refine cY (y9 ([0,1,2,3,10,255,9007199254740992,1073741824].map icv) rfl ⟨rfl,rfl,rfl,rfl,rfl,rfl,rfl,rfl,tt⟩ Tryz.runUnderlying22 Tryz.sizeOf3 Tryz.zeroValue3 rfl rfl rfl rfl rfl rfl rfl rfl rfl) ?_
    refine cD (j3 rfl Tryz.call43 ⟨tt,tt,tt⟩ (a13 l nn (p3) _ 0 rfl b8 hl [0,1,2,3,10,255,9007199254740992,1073741824] l7 l7) rfl ?_)
    intro v hv
    obtain ⟨m,hm,hm2⟩:∃ m:Nat,v=(m:Int)∧m < 10^17:=by
     simp only [List.mem_cons,List.not_mem_nil,or_false] at hv
     exact ⟨v.toNat,by omega,by omega⟩
    subst hm
    have hdl:=X7 16 m hm2
    refine cY b11 ?_; refine cY c7 ?_
    refine a8 (c9 ?_)
    exact ⟨_,l9 rfl tt c6,⟨(_,p3+1),P0 rfl A6 (.old (.val _)),a0K,by dsimp only; omega,by dsimp only; omega⟩⟩
  ·have hd1:1≤d:=hbd (by simpa using h1)
   refine c8 (a7 (a6 ?_))
   refine cY (a42 rfl ⟨tt,tt,tt,tt⟩) ?_; refine cY c7 ?_
   refine a8 (a7 (a7 (a6 ?_)))
   refine cY a1h ?_
   refine cD (j3 rfl Tryz.call18 ⟨tt,rfl,tt⟩ (F9 l nn p _ 0 rfl b8 hl 10 b8) rfl ?_)
   intro _ _
   refine a8 (d4 ?_)
   refine a0d (α:=Bool) (fun b=>[(3,.ptr 1 0),(7,(.clo 151 [.ptr 1 0,.ptr 2 0,.ptr 3 0])),(64,(.val (.int .i64 (I8 l p 10)))),(65,(.val (.bool (b))))]) (fun _=>[o4 l nn (p+1),.box [.ptr 0 0],.box [(.val (.int .i64 ((d:Int))))],.box [(.list (ps.map scv) (gnn ps.length) none)]]) (fun _=>True) ?_ ?_
   ·
    refine a7 (a6 ?_)
    refine cY j9 ?_; refine cY c7 ?_; refine a8 ?_
    refine b9 tt rfl (fun h10=>?_) (fun h10=>?_)
    ·skip
     refine c8 ?_
     exact ⟨_,tt,⟨⟨tt,rfl⟩,⟨tt,rfl⟩,⟨tt,rfl⟩,⟨tt,rfl⟩,tt⟩,rfl⟩
    ·skip
     refine a7 (a6 ?_)
     refine cY j9 ?_; refine cY c7 ?_; refine a8 ?_
     refine b9 tt rfl (fun h11=>?_) (fun h11=>?_)
     ·skip
      refine c8 ?_
      exact ⟨_,tt,⟨⟨tt,rfl⟩,⟨tt,rfl⟩,⟨tt,rfl⟩,⟨tt,rfl⟩,tt⟩,rfl⟩
     ·skip
      refine a6 ?_; refine cY j9 ?_; refine cY c7 ?_; refine a8 ?_
      exact ⟨_,tt,⟨⟨tt,rfl⟩,⟨tt,rfl⟩,⟨tt,rfl⟩,⟨tt,rfl⟩,tt⟩,rfl⟩
   ·intro b4 E4 _
    refine b9 tt rfl (fun h12=>?_) (fun h12=>?_)
    ·skip
     refine a7 ?_; refine a16 [] [3] [0,1,4,2,3,5,6,7] 3 [0,0,3,7,0,23,63,127] [[2],[2],[],[],[]] (hd1l:=[0,1,4]) (tll:=[(2,[2]),(3,[2]),(5,[]),(6,[]),(7,[])]) j6 j6 j6 tt rfl rfl rfl ?_; refine chf rfl b5z ?_; refine chf rfl (k7 rfl b1P) ?_; refine chf rfl x8 ?_; refine y0 ?_
     refine a2L rfl rfl rfl rfl (j3 rfl Tryz.call17 ⟨tt,tt,tt⟩ (C3 l nn (p+1) _ 0 rfl b8 hl C8 j4 j4) rfl ?_)
     intro v hv
     have hv8:v.length≤8:=J4 (.inr (.inl hv))
     refine ⟨⟨A0,tt⟩,?_⟩
     refine a5t rfl rfl (fun _=>k7 rfl J5) ?_
     refine a2L rfl rfl rfl rfl (J8 rfl tt rfl Tryz.call151 trivial (by exact hclo b8 (p+2) b8) rfl ?_)
     intro ⟨s1,p1⟩ ⟨hs1,hq1,hr1⟩
     dsimp only at hs1 hq1 hr1 ⊢
     refine ⟨tt,?_⟩
     refine a2t rfl rfl rfl a8Z ⟨tt,?_⟩
     refine a2t rfl rfl rfl a1e ⟨tt,?_⟩
     refine a4H (a7 (a7 (a6 ?_)))
     refine cY a1h ?_; refine cY (y9 ([0,0,0,1].map icv) rfl ⟨rfl,rfl,rfl,rfl,tt⟩ Tryz.runUnderlying22 Tryz.sizeOf3 Tryz.zeroValue3 rfl rfl rfl rfl rfl rfl rfl rfl rfl) ?_
     refine cD (j3 rfl Tryz.call43 ⟨tt,tt,tt⟩ (a13 l nn (p1) _ 0 rfl b8 hl [0,0,0,1] l7 l7) rfl ?_)
     intro n hn
     have hn01:n=0∨n=1:=by
      simp only [List.mem_cons,List.not_mem_nil,or_false] at hn
      omega
     refine cY c7 ?_
     refine a8 (d4 ?_)
     refine O1 (α:=Str × Nat × Int) (fun x=>[(7,(.clo 151 [.ptr 1 0,.ptr 2 0,.ptr 3 0])),(8,(sv (x.1))),(9,(.val (.int .i64 (x.2.2))))]) (fun x=>[o4 l nn (x.2.1),.box [.ptr 0 0],.box [(.val (.int .i64 ((d:Int))))],.box [(.list (ps.map scv) (gnn ps.length) none)]]) (fun x=>(x.2.2=0∨x.2.2=1)∧(x.2.2=1→x.1.length≤L+9∧x.2.1≤k+4+K)∧x.1.length≤2*L+11∧k≤x.2.1∧x.2.1≤k+4+2*K) (fun x=>x.2.2.toNat) (_,p1+1,n) ⟨hn01,fun _=>⟨by show List.length _≤_; simp only [List.length_append,List.length_cons,List.length_nil]; omega,by dsimp only; omega⟩,by show List.length _≤_; simp only [List.length_append,List.length_cons,List.length_nil]; omega,by dsimp only; omega,by dsimp only; omega⟩ ⟨⟨tt,rfl⟩,⟨tt,rfl⟩,⟨tt,rfl⟩,tt⟩ rfl ?_; intro ⟨s,p5,n5⟩ E5 ⟨hn5,hn6,hs5,hq5,hq6⟩
     dsimp only at hn5 hn6 hs5 hq5 hq6 ⊢
     refine a7 (a7 (a6 ?_))
     refine cY b7 ?_; refine cY j9 ?_; refine a8 ?_
     refine b9 tt rfl (fun h13=>?_) (fun h13=>?_)
     ·have h13':n5=1:=by simp at h13; omega
      obtain ⟨hs6,hq7⟩:=hn6 h13'
      refine c8 (a7 (d4 (a6 ?_)))
      refine cY b7 ?_; refine cY b7 ?_
      refine cD (J8 rfl tt rfl Tryz.call151 trivial (by exact hclo b8 (p5) b8) rfl ?_)
      intro ⟨s2,p2⟩ ⟨hs2,hq2,hr2⟩
      dsimp only at hs2 hq2 hr2 ⊢
      refine cY R6 ?_; refine cY a0C ?_; refine cY c7 ?_
      refine a8 (a6 ?_)
      refine cY b7 ?_; refine cY R7 ?_; refine cY c7 ?_; refine a8 ?_
      exact ⟨(_,p2,n5 - 1),R8,(by exact ⟨by dsimp only; omega,fun h=>by dsimp only at h; omega,by show List.length _≤_; simp only [List.length_append,List.length_cons,List.length_nil]; omega,by dsimp only; omega,by dsimp only; omega⟩),⟨⟨tt,rfl⟩,⟨tt,rfl⟩,⟨tt,rfl⟩,tt⟩,rfl⟩
     ·skip
      refine m4 (a7 (a6 ?_))
      refine cY b7 ?_; refine cY J5 ?_; refine cY c7 ?_
      refine a8 (c9 ?_)
      exact ⟨_,l9 rfl tt c6,⟨(_,p5),P0 rfl A6 (.old (.val _)),a0K,by dsimp only; omega,by dsimp only; omega⟩⟩
    ·skip
     refine a7 (a6 ?_)
     refine cY j9 ?_; refine cY c7 ?_; refine a8 ?_
     refine b9 tt rfl (fun h14=>?_) (fun h14=>?_)
     ·skip
      refine a7 (a6 ?_)
      refine cY b7 ?_
      refine cD (J8 rfl tt rfl Tryz.call151 trivial (by exact hclo b8 (p+1) b8) rfl ?_)
      intro ⟨s1,p1⟩ ⟨hs1,hq1,hr1⟩
      dsimp only at hs1 hq1 hr1 ⊢
      refine cY R6 ?_; refine cY J5 ?_; refine cY b7 ?_
      refine cD (J8 rfl tt rfl Tryz.call151 trivial (by exact hclo b8 (p1) b8) rfl ?_)
      intro ⟨s2,p2⟩ ⟨hs2,hq2,hr2⟩
      dsimp only at hs2 hq2 hr2 ⊢
      refine cY a0C ?_; refine cY J5 ?_; refine cY b7 ?_
      refine cD (J8 rfl tt rfl Tryz.call151 trivial (by exact hclo b8 (p2) b8) rfl ?_)
      intro ⟨s3,p3⟩ ⟨hs3,hq3,hr3⟩
      dsimp only at hs3 hq3 hr3 ⊢
      refine cY a0C ?_; refine cY J5 ?_; refine cY c7 ?_
      refine a8 (c9 ?_)
      exact ⟨_,l9 rfl tt c6,⟨(_,p3),P0 rfl A6 (.old (.val _)),a0K,by dsimp only; omega,by dsimp only; omega⟩⟩
     ·skip
      refine a7 (a6 ?_)
      refine cY j9 ?_; refine cY c7 ?_; refine a8 ?_
      refine b9 tt rfl (fun h15=>?_) (fun h15=>?_)
      ·skip
       refine a7 ?_; refine a16 [] [3,4] [0,1,5,2,3,4,6,7,8,9] 3 [0,0,3,7,15,0,39,127,255,511] [[2],[2],[2],[],[],[],[]] (hd1l:=[0,1,5]) (tll:=[(2,[2]),(3,[2]),(4,[2]),(6,[]),(7,[]),(8,[]),(9,[])]) j6 j6 j6 tt rfl rfl rfl ?_; refine chf rfl b5z ?_; refine chf rfl (k7 rfl b1C) ?_; refine chf rfl x8 ?_; refine y0 ?_
       refine a2L rfl rfl rfl rfl (j3 rfl Tryz.call17 ⟨tt,tt,tt⟩ (C3 l nn (p+1) _ 0 rfl b8 hl P8 j4 j4) rfl ?_)
       intro v hv
       have hv8:v.length≤8:=J4 (.inr (.inr (.inr (.inl hv))))
       refine ⟨⟨A0,tt⟩,?_⟩
       refine a5t rfl rfl (fun _=>k7 rfl R6) ?_; refine a5t rfl rfl (fun _=>k7 rfl J5) ?_
       refine a2L rfl rfl rfl rfl (J8 rfl tt rfl Tryz.call151 trivial (by exact hclo b8 (p+2) b8) rfl ?_)
       intro ⟨s1,p1⟩ ⟨hs1,hq1,hr1⟩
       dsimp only at hs1 hq1 hr1 ⊢
       refine ⟨tt,?_⟩
       refine a2t rfl rfl rfl a8Z ⟨tt,?_⟩
       refine a2t rfl rfl rfl b10 ⟨tt,?_⟩
       refine a2t rfl rfl rfl a1e ⟨tt,?_⟩
       refine a4H (c9 ?_)
       exact ⟨_,l9 rfl tt c6,⟨(_,p1),P0 rfl A6 (.old (.val _)),a0K,by dsimp only; omega,by dsimp only; omega⟩⟩
      ·skip
       refine a7 (a6 ?_)
       refine cY j9 ?_; refine cY c7 ?_; refine a8 ?_
       refine b9 tt rfl (fun h16=>?_) (fun h16=>?_)
       ·skip
        refine a7 (a6 ?_)
        refine cY b7 ?_
        refine cD (J8 rfl tt rfl Tryz.call151 trivial (by exact hclo b8 (p+1) b8) rfl ?_)
        intro ⟨s1,p1⟩ ⟨hs1,hq1,hr1⟩
        dsimp only at hs1 hq1 hr1 ⊢
        refine cY R6 ?_; refine cY J5 ?_; refine cY c7 ?_
        refine a8 (c9 ?_)
        exact ⟨_,l9 rfl tt c6,⟨(_,p1),P0 rfl A6 (.old (.val _)),a0K,by dsimp only; omega,by dsimp only; omega⟩⟩
       ·skip
        refine c8 (a7 ?_)
        refine a16 [] [2,3,7,8] [0,4,5,9,1,2,3,6,7,8,10,11,12,13] 4 [0,1,3,7,0,0,51,127,255,0,627,2047,4095,8191] [[1,2,3],[1,2,3],[1,2,3],[3],[3],[3],[],[],[],[]] (hd1l:=[0,4,5,9]) (tll:=[(1,[1,2,3]),(2,[1,2,3]),(3,[1,2,3]),(6,[3]),(7,[3]),(8,[3]),(10,[]),(11,[]),(12,[]),(13,[])]) j6 j6 j6 tt rfl rfl rfl ?_; refine chf rfl x8 ?_; refine chf rfl b5z ?_; refine chf rfl (k7 rfl b8Z) ?_; refine chf rfl x8 ?_; refine y0 ?_
        refine a2L rfl rfl rfl rfl (J8 rfl tt rfl Tryz.call151 trivial (by exact hclo b8 (p+1) b8) rfl ?_)
        intro ⟨s1,p1⟩ ⟨hs1,hq1,hr1⟩
        dsimp only at hs1 hq1 hr1 ⊢
        refine ⟨⟨(by exact k7 rfl a1h),(by exact k7 rfl b8Z),A0,tt⟩,?_⟩
        refine a5t rfl rfl (fun _=>k7 rfl R6) ?_; refine a5t rfl rfl (fun _=>k7 rfl J5) ?_
        refine a2L rfl rfl rfl rfl (j3 rfl Tryz.call17 ⟨tt,tt,tt⟩ (C3 l nn p1 _ 0 rfl b8 hl ([[43],[45],[42],[47],[37],[60],[61,61]]:List Str) l7 l7) rfl ?_)
        intro v hv
        have hv8:v.length≤2:=by revert v; decide
        refine ⟨⟨A0,tt⟩,?_⟩
        refine a5t rfl rfl (fun _=>k7 rfl a0C) ?_; refine a5t rfl rfl (fun _=>k7 rfl J5) ?_
        refine a2L rfl rfl rfl rfl (J8 rfl tt rfl Tryz.call151 trivial (by exact hclo b8 (p1+1) b8) rfl ?_)
        intro ⟨s2,p2⟩ ⟨hs2,hq2,hr2⟩
        dsimp only at hs2 hq2 hr2 ⊢
        refine ⟨tt,?_⟩
        refine a2t rfl rfl rfl a8Z ⟨tt,?_⟩
        refine a2t rfl rfl rfl b10 ⟨tt,?_⟩
        refine a2t rfl rfl rfl a1e ⟨tt,?_⟩
        refine a4H (c9 ?_)
        exact ⟨_,l9 rfl tt c6,⟨(_,p2),P0 rfl A6 (.old (.val _)),a0K,by dsimp only; omega,by dsimp only; omega⟩⟩
theorem a3k {l:List Int} {nn:Bool} {k:Nat} (hl:l.length≤maxLen) (d:Nat) (hd:d≤10) (ps:List Str) (hps:∀ s∈ps,s.length≤10) (hpl:ps.length≤2) (L K B:Nat) (hL:L≤1000000) (hK:K≤1000) (hat:k+3*K+10≤B) (hB:B≤900000000) (hclo:1≤d→∀ p,p≤B→c4 CC 151 [.ptr 1 0,.ptr 2 0,.ptr 3 0] (eob l nn ps d p) fun r τ=>∃ a:Str × Nat,r = .ret (sv a.1)∧τ=eob l nn ps d a.2∧(a.1.length≤L∧p≤a.2∧a.2≤p+K)) {σ:List c5} {q:Nat} (hq:σ[q]? = some (o4 l nn k)) :
 c4 CC 111 [.ptr q 0,(.val (.int .i64 ((d:Int)))),.list (ps.map scv) (gnn ps.length) none] σ fun r τ=>∃ a:Str × Nat,r = .ret (sv a.1)∧τ=σ.set q (o4 l nn a.2)∧(a.1.length≤3*L+30∧k≤a.2∧a.2≤k+(3*K+5)) :=
 a3n (c:=fun a:Str × Nat=>sv a.1) (S:=fun a=>o4 l nn a.2) hCC (fun a h=>by simp at h; rcases h with rfl | rfl; exact .val _; exact d6 _ _) (fun _=>.val _) (fun _=>B0 _ _ _) (B0 _ _ _) rfl (b4E l nn k hl d hd ps hps hpl L K B hL hK hat hB hclo) σ q hq
theorem a28 (l:List Int) (nn:Bool) (hl:l.length≤maxLen) (ps:List Str) (hps:∀ s∈ps,s.length≤10) (hpl:ps.length≤2):a2K l nn ps 0 30 5 800000000∧a2K l nn ps 1 120 20 799999000∧a2K l nn ps 2 390 65 799998000∧a2K l nn ps 3 1200 200 799997000:=by
 have e0:a2K l nn ps 0 30 5 800000000:=fun k hk σ q hq=>a3k hl 0 b8 ps hps hpl 0 0 900000000 b8 b8 b8 b8 (fun h=>by omega) hq
 have e1:a2K l nn ps 1 120 20 799999000:=fun k hk σ q hq=>a3k hl 1 b8 ps hps hpl 30 5 800000000 b8 b8 b8 b8 (fun _ p hp=>a5u b8 e0 p hp) hq
 have e2:a2K l nn ps 2 390 65 799998000:=fun k hk σ q hq=>a3k hl 2 b8 ps hps hpl 120 20 799999000 b8 b8 b8 b8 (fun _ p hp=>a5u b8 e1 p hp) hq
 have e3:a2K l nn ps 3 1200 200 799997000:=fun k hk σ q hq=>a3k hl 3 b8 ps hps hpl 390 65 799998000 b8 b8 b8 b8 (fun _ p hp=>a5u b8 e2 p hp) hq
 exact ⟨e0,e1,e2,e3⟩
set_option maxRecDepth 10000 in
set_option maxHeartbeats 1600000 in
theorem b4N (l:List Int) (nn:Bool) (k:Nat) (hat:k≤700000000) (hl:l.length≤maxLen):c4 CC 58 [.ptr 0 0] [o4 l nn k] fun r τ=>∃ a:Str × Nat,G8 1 τ r (.ret (sv a.1)) [o4 l nn a.2]∧(a.1.length≤1240∧k≤a.2∧a.2≤k+210):=by
 refine (d5 Tryz.func58 rfl rfl ?_)
 refine a7 (a6 ?_)
 refine cY j1 ?_; refine a8 ?_; refine a0d (α:=Nat) (fun _=>[(0,.ptr 0 0)]) (fun x=>[o4 l nn (x)]) (fun x=>x=k+1) ?_ ?_
 ·
  refine a7 (a6 ?_)
  refine cY b7 ?_
  refine cD (j3 rfl Tryz.call18 ⟨tt,rfl,tt⟩ (F9 l nn k _ 0 rfl b8 hl 8 b8) rfl ?_)
  intro _ _
  refine a8 (d4 ?_)
  refine a0d (α:=Bool) (fun b=>[(0,.ptr 0 0),(2,(sv ([]))),(6,(.val (.int .i64 (I8 l k 8)))),(7,(.val (.bool (b))))]) (fun _=>[o4 l nn (k+1)]) (fun _=>True) ?_ ?_
  ·
   refine a7 (a6 ?_)
   refine cY j9 ?_; refine cY c7 ?_; refine a8 ?_
   refine b9 tt rfl (fun h1=>?_) (fun h1=>?_)
   ·skip
    refine c8 ?_
    exact ⟨_,tt,⟨⟨tt,rfl⟩,⟨tt,rfl⟩,⟨tt,rfl⟩,⟨tt,rfl⟩,tt⟩,rfl⟩
   ·skip
    refine a7 (a6 ?_)
    refine cY j9 ?_; refine cY c7 ?_; refine a8 ?_
    refine b9 tt rfl (fun h2=>?_) (fun h2=>?_)
    ·skip
     refine c8 ?_
     exact ⟨_,tt,⟨⟨tt,rfl⟩,⟨tt,rfl⟩,⟨tt,rfl⟩,⟨tt,rfl⟩,tt⟩,rfl⟩
    ·skip
     refine a6 ?_; refine cY j9 ?_; refine cY c7 ?_; refine a8 ?_
     exact ⟨_,tt,⟨⟨tt,rfl⟩,⟨tt,rfl⟩,⟨tt,rfl⟩,⟨tt,rfl⟩,tt⟩,rfl⟩
  ·intro b E0 _
   refine b9 tt rfl (fun h3=>?_) (fun h3=>?_)
   ·skip
    refine a7 (a6 ?_)
    refine cY b7 ?_; refine cY (i8 rfl Tryz.call80 trivial (b0V _) rfl) ?_
    refine cD (j3 rfl Tryz.call17 ⟨tt,tt,tt⟩ (C3 l nn (k+1) _ 0 rfl b8 hl a0R j4 j4) rfl ?_)
    intro v hv
    have hv8:v.length≤8:=J4 (.inr (.inr (.inl hv)))
    refine cY R6 ?_; refine cY J5 ?_; refine cY b7 ?_
    refine cD (j3 rfl Tryz.call111 ⟨tt,rfl,rfl,tt⟩ (by exact (a28 l nn hl ([]:List Str) j4 j4).2.2.2 (k+2) b8 _ 0 rfl) rfl ?_)
    intro ⟨s1,p1⟩ ⟨hs1,hq1,hr1⟩
    dsimp only at hs1 hq1 hr1 ⊢
    refine cY a0C ?_; refine cY J5 ?_; refine cY c7 ?_
    refine a8 (c9 ?_)
    exact ⟨_,l9 rfl tt c6,⟨(_,p1),P0 rfl A6 (.old (.val _)),a0K,by dsimp only; omega,by dsimp only; omega⟩⟩
   ·skip
    refine a7 (a6 ?_)
    refine cY j9 ?_; refine cY c7 ?_; refine a8 ?_
    refine b9 tt rfl (fun h4=>?_) (fun h4=>?_)
    ·skip
     refine a7 (a6 ?_)
     refine cY b7 ?_; refine cY b1C ?_
     refine cD (j3 rfl Tryz.call17 ⟨tt,tt,tt⟩ (C3 l nn (k+1) _ 0 rfl b8 hl P8 j4 j4) rfl ?_)
     intro v hv
     have hv8:v.length≤8:=J4 (.inr (.inr (.inr (.inl hv))))
     refine cY R6 ?_; refine cY J5 ?_; refine cY b7 ?_
     refine cD (j3 rfl Tryz.call111 ⟨tt,rfl,rfl,tt⟩ (by exact (a28 l nn hl ([]:List Str) j4 j4).2.2.1 (k+2) b8 _ 0 rfl) rfl ?_)
     intro ⟨s1,p1⟩ ⟨hs1,hq1,hr1⟩
     dsimp only at hs1 hq1 hr1 ⊢
     refine cY a0C ?_; refine cY J5 ?_; refine cY c7 ?_
     refine a8 (c9 ?_)
     exact ⟨_,l9 rfl tt c6,⟨(_,p1),P0 rfl A6 (.old (.val _)),a0K,by dsimp only; omega,by dsimp only; omega⟩⟩
    ·skip
     refine c8 ?_
     exact ⟨_,rfl,⟨⟨tt,rfl⟩,tt⟩,rfl⟩
 ·intro p E0 hp; subst hp
  refine a7 (a6 ?_)
  refine cD (b6W rfl rfl rfl rfl Tryz.runUnderlying26 Tryz.sizeOf9 Tryz.zeroValue9 rfl ?_)
  refine cY c7 ?_
  refine a8 (a7 (a7 (a6 ?_)))
  refine cY b7 ?_
  refine cD (j3 rfl Tryz.call10 ⟨tt,rfl,rfl,tt⟩ (D3 l nn (k+1) _ 0 rfl b8 hl 1 5 b8) rfl ?_)
  intro _ _; refine a8 ?_
  refine b9 tt rfl (fun h5=>?_) (fun h5=>?_)
  ·skip
   refine a6 ?_; refine cY b7 ?_; refine cY (y9 [scv [98]] rfl ⟨rfl,tt⟩ Tryz.runUnderlying26 Tryz.sizeOf9 Tryz.zeroValue9 rfl rfl rfl rfl rfl rfl rfl rfl rfl) ?_
   refine cD (H3 rfl tt tt rfl (show 1=List.length _ from rfl) q_3 Tryz.runUnderlying26 Tryz.sizeOf9 Tryz.typeInfo9 Tryz.zeroValue9 rfl (.inr rfl) Y9 a6i K0 (([[97],[98]]:List Str).map scv) 2 rfl rfl ?_)
   refine cY c7 ?_
   refine a8 (a7 (a6 ?_))
   refine cY b7 ?_; refine cY b1P ?_
   refine cD (j3 rfl Tryz.call17 ⟨tt,tt,tt⟩ (C3 l nn (k+2) _ 0 rfl b8 hl C8 j4 j4) rfl ?_)
   intro v hv
   have hv8:v.length≤8:=J4 (.inr (.inl hv))
   refine cY R6 ?_; refine cY J5 ?_; refine cY c7 ?_
   refine a8 (a7 (a7 (a6 ?_)))
   refine cY b7 ?_; refine cY R1 ?_; refine cY j9 ?_; refine a8 ?_
   refine b9 tt rfl (fun h6=>?_) (fun h6=>?_)
   ·skip
    refine a6 ?_; refine cY b7 ?_; refine cY J5 ?_; refine cY c7 ?_
    refine a8 (a7 (a6 ?_))
    refine cY b7 ?_; refine cY J5 ?_; refine cY b7 ?_; refine cY b7 ?_
    refine cD (j3 rfl Tryz.call111 ⟨tt,rfl,tt,tt⟩ (by exact (a28 l nn hl ([[97],[98]]:List Str) j4 j4).2.2.2 (k+3) b8 _ 0 rfl) rfl ?_)
    intro ⟨s1,p1⟩ ⟨hs1,hq1,hr1⟩
    dsimp only at hs1 hq1 hr1 ⊢
    refine cY a0C ?_; refine cY J5 ?_; refine cY c7 ?_
    refine a8 (c9 ?_)
    exact ⟨_,l9 rfl tt c6,⟨(_,p1),P0 rfl A6 (.old (.val _)),a0K,by dsimp only; omega,by dsimp only; omega⟩⟩
   ·exfalso; simp at h6
  ·skip
   refine c8 (a7 (a6 ?_))
   refine cY b7 ?_; refine cY b1P ?_
   refine cD (j3 rfl Tryz.call17 ⟨tt,tt,tt⟩ (C3 l nn (k+2) _ 0 rfl b8 hl C8 j4 j4) rfl ?_)
   intro v hv
   have hv8:v.length≤8:=J4 (.inr (.inl hv))
   refine cY R6 ?_; refine cY J5 ?_; refine cY c7 ?_
   refine a8 (a7 (a7 (a6 ?_)))
   refine cY b7 ?_; refine cY R1 ?_; refine cY j9 ?_; refine a8 ?_
   refine b9 tt rfl (fun h7=>?_) (fun h7=>?_)
   ·exfalso; simp at h7
   ·skip
    refine c8 (a7 (a6 ?_))
    refine cY b7 ?_; refine cY J5 ?_; refine cY b7 ?_; refine cY b7 ?_
    refine cD (j3 rfl Tryz.call111 ⟨tt,rfl,tt,tt⟩ (by exact (a28 l nn hl ([[97]]:List Str) j4 j4).2.2.2 (k+3) b8 _ 0 rfl) rfl ?_)
    intro ⟨s1,p1⟩ ⟨hs1,hq1,hr1⟩
    dsimp only at hs1 hq1 hr1 ⊢
    refine cY a0C ?_; refine cY J5 ?_; refine cY c7 ?_
    refine a8 (c9 ?_)
    exact ⟨_,l9 rfl tt c6,⟨(_,p1),P0 rfl A6 (.old (.val _)),a0K,by dsimp only; omega,by dsimp only; omega⟩⟩
theorem b15 (l:List Int) (nn:Bool) (k:Nat) (hat:k≤700000000) (hl:l.length≤maxLen) (σ:List c5) (q:Nat) (hq:σ[q]? = some (o4 l nn k)):c4 CC 58 [.ptr q 0] σ fun r τ=>∃ a:Str × Nat,r = .ret (sv a.1)∧τ=σ.set q (o4 l nn a.2)∧(a.1.length≤1240∧k≤a.2∧a.2≤k+210) :=
 a3n (c:=fun a:Str × Nat=>sv a.1) (S:=fun a=>o4 l nn a.2) hCC (fun a h=>by simp at h) (fun _=>.val _) (fun _=>B0 _ _ _) (B0 _ _ _) rfl (b4N l nn k hat hl) σ q hq
set_option maxRecDepth 10000 in
set_option maxHeartbeats 3200000 in
theorem b0t (l:List Int) (nn:Bool) (k:Nat) (hat:k≤600000000) (hl:l.length≤maxLen) (pkg:Str) (hpk:pkg.length≤8):c4 CC 56 [.ptr 0 0,(sv (pkg))] [o4 l nn k] fun r τ=>∃ a:Str × Nat,G8 1 τ r (.ret (sv a.1)) [o4 l nn a.2]∧(a.1.length≤6300∧k≤a.2∧a.2≤k+1070):=by
 refine (d5 Tryz.func56 rfl rfl ?_)
 refine a7 (a6 ?_)
 refine cY j1 ?_
 refine a8 (a7 (a6 ?_))
 refine cY b7 ?_; refine cY R6 ?_; refine cY J5 ?_; refine cY c7 ?_; refine a8 ?_; refine a0d (α:=Str × Nat) (fun x=>[(0,.ptr 0 0),(1,(sv (pkg))),(5,(sv (x.1)))]) (fun x=>[o4 l nn (x.2)]) (fun x=>x.1.length≤40∧x.2=k+1) ?_ ?_
 ·
  refine a7 (a6 ?_)
  refine cY b7 ?_
  refine cD (j3 rfl Tryz.call10 ⟨tt,rfl,rfl,tt⟩ (D3 l nn k _ 0 rfl b8 hl 1 8 b8) rfl ?_)
  intro _ _; refine a8 ?_
  refine b9 tt rfl (fun h1=>?_) (fun h1=>?_)
  ·skip
   refine a6 ?_; refine cY b7 ?_; refine cY R6 ?_; refine cY c7 ?_; refine a8 ?_
   exact ⟨(_,k+1),b8i,⟨⟨tt,rfl⟩,⟨tt,rfl⟩,⟨tt,rfl⟩,tt⟩,rfl⟩
  ·skip
   refine c8 ?_
   exact ⟨(_,k+1),b8i,⟨⟨tt,rfl⟩,⟨tt,rfl⟩,⟨tt,rfl⟩,tt⟩,rfl⟩
 ·intro ⟨s,p⟩ E0 ⟨hs,hp⟩
  dsimp only at hs hp ⊢
  subst hp
  refine a7 (a6 ?_)
  refine cY j1 ?_
  refine a8 (a7 (a7 (a6 ?_)))
  refine cY b7 ?_
  refine cD (j3 rfl Tryz.call18 ⟨tt,rfl,tt⟩ (F9 l nn (k+1) _ 0 rfl b8 hl 3 b8) rfl ?_)
  intro _ _
  have hb1:=a0N (l:=l) (k:=k+1) (n:=3) b8
  refine cY c7 ?_
  refine a8 (d4 ?_)
  refine B2 hCC 1 rfl (α:=Str × List Str × Nat × Int) (fun x=>[(0,.ptr 0 0),(1,(sv (pkg))),(5,(sv (x.1))),(6,(.list (x.2.1.map scv) (gnn x.2.1.length) (P3 x.2.1.length 1))),(7,(.val (.int .i64 (x.2.2.2))))]) (fun x=>[o4 l nn x.2.2.1,r6 x.2.1.length]) (fun x=>0≤x.2.2.2∧x.2.2.2≤2∧x.1.length+20*x.2.2.2≤80∧x.2.1.length+x.2.2.2≤2∧k+2≤x.2.2.1∧x.2.2.1+x.2.2.2≤k+4) (fun x=>x.2.2.2.toNat) ⟨(s,[],k+2,I8 l (k+1) 3),[0,9],⟨by dsimp only; omega,by dsimp only; omega,by dsimp only; omega,by dsimp only; simp; omega,by dsimp only; omega,by dsimp only; omega⟩,⟨rfl,rfl⟩,⟨⟨tt,a7r⟩,⟨tt,a7r⟩,⟨tt,a7r⟩,⟨tt,a7r⟩,⟨tt,a7r⟩,tt⟩,⟨.inr ⟨_,rfl,.same rfl A6⟩,.inl rfl,tt⟩⟩ ?_; intro ⟨s,seen,p,n⟩ ⟨hn1,hn2,hs2,hsn,hp1,hp2⟩
  dsimp only at hn1 hn2 hs2 hsn hp1 hp2 ⊢
  refine a7 (a7 (a6 ?_))
  refine cY b7 ?_; refine cY j9 ?_; refine a8 ?_
  refine b9 tt rfl (fun h2=>?_) (fun h2=>?_)
  ·have hn3:1≤n:=by simp at h2; omega
   refine c8 (a7 (d4 (a7 (a6 ?_))))
   refine cY b7 ?_; refine cY (i8 rfl Tryz.call23 trivial (a0k _) rfl) ?_
   refine cD (j3 rfl Tryz.call17 ⟨tt,tt,tt⟩ (C3 l nn (p) _ 0 rfl b8 hl r8 j4 j4) rfl ?_)
   intro v hv
   have hv8:v.length≤8:=J4 (.inl hv)
   refine cY c7 ?_
   refine a8 (a7 (a6 ?_))
   refine cY b7 ?_; refine cY b7 ?_; refine cY a6J ?_; refine cY b7 ?_; refine cG o5 ?_; refine cG o5 ?_; refine cG (fun hg=>i8 rfl Tryz.call110 ⟨hg,hg,tt⟩ (a4U seen _ v b8 _) rfl) ?_; refine cG (fun hg=>a7b rfl hg rfl) ?_; refine cY t8 ?_; refine a8 ?_
   refine b9 tt rfl (fun h3=>?_) (fun h3=>?_)
   ·skip
    refine a7 (a6 ?_)
    refine cY b7 ?_; refine cY b7 ?_; refine cY (y9 [scv v] rfl ⟨tt,tt⟩ Tryz.runUnderlying26 Tryz.sizeOf9 Tryz.zeroValue9 rfl rfl rfl rfl rfl rfl rfl rfl rfl) ?_
    refine cD (H3 rfl tt tt rfl l7 q_3 Tryz.runUnderlying26 Tryz.sizeOf9 Tryz.typeInfo9 Tryz.zeroValue9 rfl (.inr rfl) Y9 a6i K0 ((seen++[v]).map scv) (seen++[v]).length l7 l7 ?_)
    refine cY c7 ?_
    refine a8 (a6 ?_)
    refine cY b7 ?_; refine cY b7 ?_; refine cY R6 ?_; refine cY J5 ?_; refine cY a0C ?_; refine cY c7 ?_
    refine a8 (a6 ?_)
    refine cY b7 ?_; refine cY R7 ?_; refine cY c7 ?_; refine a8 ?_
    exact ⟨(s++((([105,109,112,111,114,116,32]:Str)++v)++[59,10]),seen++[v],p+1,n - 1),[0,2],q_2,⟨rfl,rfl⟩,⟨⟨tt,U1⟩,⟨tt,U1⟩,⟨tt,U1⟩,⟨tt,U1⟩,⟨tt,U1⟩,tt⟩,⟨.inr ⟨_,rfl,.same rfl A6⟩,.inr ⟨_,rfl,.same rfl s8⟩,tt⟩⟩
   ·skip
    refine c8 (a6 ?_)
    refine cY b7 ?_; refine cY R7 ?_; refine cY c7 ?_; refine a8 ?_
    exact ⟨(s,seen,p+1,n - 1),[0,1],⟨by dsimp only; omega,by dsimp only; omega,by dsimp only; omega,by dsimp only; omega,by dsimp only; omega,by dsimp only; omega,by dsimp only; omega⟩,⟨rfl,rfl⟩,⟨⟨tt,U1⟩,⟨tt,U1⟩,⟨tt,U1⟩,⟨tt,U1⟩,⟨tt,U1⟩,tt⟩,⟨.inr ⟨_,rfl,.same rfl A6⟩,.inr ⟨_,rfl,.same rfl s8⟩,tt⟩⟩
  ·have hn3:n=0:=by simp at h2; omega
   subst hn3
   refine m4 (a7 (a6 ?_))
   refine cY j1 ?_
   refine a8 (a7 (a7 (a6 ?_)))
   refine cY b7 ?_
   refine cD (j3 rfl Tryz.call18 ⟨tt,rfl,tt⟩ (F9 l nn p _ 0 rfl b8 hl 5 b8) rfl ?_)
   intro _ _
   have hb2:=a0N (l:=l) (k:=p) (n:=5) b8
   refine cY (b43 rfl rfl tt rfl rfl b8 b8) ?_; refine cY c7 ?_
   refine a8 (d4 ?_)
   refine B2 hCC 2 rfl (α:=Str × List Str × Nat × Int) (fun x=>[(0,.ptr 0 0),(5,(sv (x.1))),(9,(.list (x.2.1.map scv) (gnn x.2.1.length) (P3 x.2.1.length 2))),(10,(.val (.int .i64 (x.2.2.2))))]) (fun x=>[o4 l nn x.2.2.1,r6 seen.length,r6 x.2.1.length]) (fun x=>0≤x.2.2.2∧x.2.2.2≤5∧x.1.length+1240*x.2.2.2≤6280∧x.2.1.length+x.2.2.2≤5∧k+3≤x.2.2.1∧x.2.2.1+211*x.2.2.2≤k+1060) (fun x=>x.2.2.2.toNat) ⟨(s,[],p+1,1+I8 l p 5),[0,1,9],⟨by dsimp only; omega,by dsimp only; omega,by dsimp only; omega,by dsimp only; simp; omega,by dsimp only; omega,by dsimp only; omega⟩,⟨rfl,rfl⟩,⟨⟨tt,a7r⟩,⟨tt,a7r⟩,⟨tt,a7r⟩,⟨tt,a7r⟩,tt⟩,⟨.inr ⟨_,rfl,.same rfl A6⟩,.inr ⟨_,rfl,.same rfl s8⟩,.inl rfl,tt⟩⟩ ?_; intro ⟨s,hds,p2,n⟩ ⟨hn1,hn2,hs3,hhn,hp3,hp4⟩
   dsimp only at hn1 hn2 hs3 hhn hp3 hp4 ⊢
   refine a7 (a7 (a6 ?_))
   refine cY b7 ?_; refine cY j9 ?_; refine a8 ?_
   refine b9 tt rfl (fun h4=>?_) (fun h4=>?_)
   ·have hn3:1≤n:=by simp at h4; omega
    refine c8 (a7 (d4 (a7 (a6 ?_))))
    refine cY b7 ?_
    refine cD (j3 rfl Tryz.call58 ⟨tt,tt⟩ (b15 l nn p2 b8 hl _ 0 rfl) rfl ?_)
    intro ⟨dt,p5⟩ ⟨hdt,hq5,hr5⟩
    dsimp only at hdt hq5 hr5 ⊢
    refine cY c7 ?_
    refine a8 (a7 (a6 ?_))
    refine cY b7 ?_; refine cY c7 ?_
    refine a8 (a7 (a7 (a6 ?_)))
    refine cY j1 ?_
    refine a8 (d4 ?_)
    refine O1 (α:=Nat) (fun i=>[(0,.ptr 0 0),(5,(sv (s))),(9,(.list (hds.map scv) (gnn hds.length) (P3 hds.length 2))),(10,(.val (.int .i64 (n)))),(11,(sv (dt))),(12,(sv (dt))),(13,(.val (.int .i64 ((i:Int)))))]) (fun _=>[o4 l nn p5,r6 seen.length,r6 hds.length]) (fun i=>i≤dt.length) (fun i=>dt.length - i) 0 (Nat.zero_le _) ⟨⟨tt,rfl⟩,⟨tt,rfl⟩,⟨tt,rfl⟩,⟨tt,rfl⟩,⟨tt,rfl⟩,⟨tt,rfl⟩,⟨tt,rfl⟩,tt⟩ rfl ?_; intro i E3 hi
    refine a7 (a7 (a6 ?_))
    refine cY b7 ?_; refine cY b7 ?_; refine cY I3 ?_; refine cY r9 ?_; refine a8 ?_
    refine b9 tt rfl (fun h5=>?_) (fun h5=>?_)
    ·have hlt:i < dt.length:=by simp at h5; omega
     obtain ⟨c,hc⟩:∃ c,dt[i]? = some c:=⟨dt[i]'hlt,by simp⟩
     refine c8 (a7 (d4 (a7 (a6 ?_))))
     refine cY b7 ?_; refine cY b7 ?_; refine cY (M8 rfl tt tt rfl rfl Tryz.runUnderlying9 b8 (by rw [Int.toNat_natCast]; exact hc)) ?_; refine cY j9 ?_; refine cY b7 ?_; refine cG o5 ?_; refine cG o5 ?_; refine cG (fun hg=>M8 rfl hg hg rfl rfl Tryz.runUnderlying9 a4d (by rw [Int.toNat_natCast]; exact hc)) ?_; refine cG C5 ?_; refine cY G5 ?_; refine a8 ?_
     refine b9 tt rfl (fun h6=>?_) (fun h6=>?_)
     ·skip
      refine a7 (a6 ?_)
      refine cY b7 ?_; refine cY b7 ?_; refine cY (J2 (h:=i) rfl tt rfl Tryz.runUnderlying9 rfl ⟨tt,_,_,rfl,by first|omega|(simp at hg; omega),by first|omega|(simp at hg; omega)⟩ a6X a6X) ?_; refine cY c7 ?_
      refine a8 (m4 ?_)
      refine a0d (α:=Bool × Nat) (fun x=>[(0,.ptr 0 0),(5,(sv (s))),(9,(.list (hds.map scv) (gnn hds.length) (P3 hds.length 2))),(10,(.val (.int .i64 (n)))),(11,(sv (dt))),(12,(sv ((dt.take i)))),(84,(.val (.bool (x.1))))]) (fun x=>[o4 l nn x.2,r6 seen.length,r6 hds.length]) (fun x=>p5≤x.2∧x.2≤p5+1) ?_ ?_
      ·
       refine a6 ?_; refine cY b7 ?_; refine cY b7 ?_; refine cY (i8 rfl Tryz.call110 ⟨tt,tt,tt⟩ (a4U hds _ _ b8 _) rfl) ?_; refine cY F6 ?_; refine cY b7 ?_; refine cG o5 ?_
       refine b3V (.val (.bool false)) rfl rfl tt rfl rfl (fun hg=>j3 rfl Tryz.call10 ⟨hg,rfl,rfl,tt⟩ (D3 l nn p5 _ 0 rfl b8 hl 1 40 b8) rfl ?_) (fun hg=>?_)
       ·
        intro _ _; refine cY G5 ?_; refine a8 ?_
        exact ⟨(_,p5+1),⟨by dsimp only; omega,by dsimp only; omega⟩,⟨⟨tt,rfl⟩,⟨tt,rfl⟩,⟨tt,rfl⟩,⟨tt,rfl⟩,⟨tt,rfl⟩,⟨tt,rfl⟩,⟨tt,rfl⟩,tt⟩,rfl⟩
       ·
        refine cY G5 ?_; refine a8 ?_
        exact ⟨(_,p5),⟨by dsimp only; omega,by dsimp only; omega⟩,⟨⟨tt,rfl⟩,⟨tt,rfl⟩,⟨tt,rfl⟩,⟨tt,rfl⟩,⟨tt,rfl⟩,⟨tt,rfl⟩,⟨tt,rfl⟩,tt⟩,rfl⟩
      ·intro ⟨b6,p6⟩ E6 ⟨hq6,hr6⟩
       dsimp only at hq6 hr6 ⊢
       refine b9 tt rfl (fun h7=>?_) (fun h7=>?_)
       ·skip
        refine a7 (a6 ?_)
        refine cY b7 ?_; refine cY b7 ?_; refine cY (y9 [scv (dt.take i)] rfl ⟨tt,tt⟩ Tryz.runUnderlying26 Tryz.sizeOf9 Tryz.zeroValue9 rfl rfl rfl rfl rfl rfl rfl rfl rfl) ?_
        refine cD (H3 rfl tt tt rfl l7 q_3 Tryz.runUnderlying26 Tryz.sizeOf9 Tryz.typeInfo9 Tryz.zeroValue9 rfl (.inr rfl) Y9 a6i K0 ((hds++[(dt.take i)]).map scv) (hds++[(dt.take i)]).length l7 l7 ?_)
        refine cY c7 ?_
        refine a8 (a6 ?_)
        refine cY b7 ?_; refine cY b7 ?_; refine cY a0C ?_; refine cY c7 ?_
        refine a8 (a6 ?_)
        refine cY b7 ?_; refine cY R7 ?_; refine cY c7 ?_; refine a8 ?_
        exact ⟨(s++dt,hds++[(dt.take i)],p6,n - 1),[0,1,3],q_2,⟨rfl,rfl⟩,⟨⟨tt,U1⟩,⟨tt,U1⟩,⟨tt,U1⟩,⟨tt,U1⟩,tt⟩,⟨.inr ⟨_,rfl,.same rfl A6⟩,.inr ⟨_,rfl,.same rfl s8⟩,.inr ⟨_,rfl,.same rfl s8⟩,tt⟩⟩
       ·skip
        refine c8 (a6 ?_)
        refine cY b7 ?_; refine cY R7 ?_; refine cY c7 ?_; refine a8 ?_
        exact ⟨(s,hds,p6,n - 1),[0,1,2],⟨by dsimp only; omega,by dsimp only; omega,by dsimp only; omega,by dsimp only; omega,by dsimp only; omega,by dsimp only; omega,by dsimp only; omega⟩,⟨rfl,rfl⟩,⟨⟨tt,U1⟩,⟨tt,U1⟩,⟨tt,U1⟩,⟨tt,U1⟩,tt⟩,⟨.inr ⟨_,rfl,.same rfl A6⟩,.inr ⟨_,rfl,.same rfl s8⟩,.inr ⟨_,rfl,.same rfl s8⟩,tt⟩⟩
     ·skip
      refine c8 (a6 ?_)
      refine cY b7 ?_; refine cY m9 ?_; refine cY c7 ?_; refine a8 ?_
      exact ⟨(i+1),b8,hlt,⟨⟨tt,rfl⟩,⟨tt,rfl⟩,⟨tt,rfl⟩,⟨tt,rfl⟩,⟨tt,rfl⟩,⟨tt,rfl⟩,⟨tt,rfl⟩,tt⟩,rfl⟩
    ·skip
     refine m4 ?_; refine a0d (α:=Bool × Nat) (fun x=>[(0,.ptr 0 0),(5,(sv (s))),(9,(.list (hds.map scv) (gnn hds.length) (P3 hds.length 2))),(10,(.val (.int .i64 (n)))),(11,(sv (dt))),(12,(sv (dt))),(84,(.val (.bool (x.1))))]) (fun x=>[o4 l nn x.2,r6 seen.length,r6 hds.length]) (fun x=>p5≤x.2∧x.2≤p5+1) ?_ ?_
     ·
      refine a6 ?_; refine cY b7 ?_; refine cY b7 ?_; refine cY (i8 rfl Tryz.call110 ⟨tt,tt,tt⟩ (a4U hds _ _ b8 _) rfl) ?_; refine cY F6 ?_; refine cY b7 ?_; refine cG o5 ?_
      refine b3V (.val (.bool false)) rfl rfl tt rfl rfl (fun hg=>j3 rfl Tryz.call10 ⟨hg,rfl,rfl,tt⟩ (D3 l nn p5 _ 0 rfl b8 hl 1 40 b8) rfl ?_) (fun hg=>?_)
      ·
       intro _ _; refine cY G5 ?_; refine a8 ?_
       exact ⟨(_,p5+1),⟨by dsimp only; omega,by dsimp only; omega⟩,⟨⟨tt,rfl⟩,⟨tt,rfl⟩,⟨tt,rfl⟩,⟨tt,rfl⟩,⟨tt,rfl⟩,⟨tt,rfl⟩,⟨tt,rfl⟩,tt⟩,rfl⟩
      ·
       refine cY G5 ?_; refine a8 ?_
       exact ⟨(_,p5),⟨by dsimp only; omega,by dsimp only; omega⟩,⟨⟨tt,rfl⟩,⟨tt,rfl⟩,⟨tt,rfl⟩,⟨tt,rfl⟩,⟨tt,rfl⟩,⟨tt,rfl⟩,⟨tt,rfl⟩,tt⟩,rfl⟩
     ·intro ⟨b6,p6⟩ E6 ⟨hq6,hr6⟩
      dsimp only at hq6 hr6 ⊢
      refine b9 tt rfl (fun h8=>?_) (fun h8=>?_)
      ·skip
       refine a7 (a6 ?_)
       refine cY b7 ?_; refine cY b7 ?_; refine cY (y9 [scv dt] rfl ⟨tt,tt⟩ Tryz.runUnderlying26 Tryz.sizeOf9 Tryz.zeroValue9 rfl rfl rfl rfl rfl rfl rfl rfl rfl) ?_
       refine cD (H3 rfl tt tt rfl l7 q_3 Tryz.runUnderlying26 Tryz.sizeOf9 Tryz.typeInfo9 Tryz.zeroValue9 rfl (.inr rfl) Y9 a6i K0 ((hds++[dt]).map scv) (hds++[dt]).length l7 l7 ?_)
       refine cY c7 ?_
       refine a8 (a6 ?_)
       refine cY b7 ?_; refine cY b7 ?_; refine cY a0C ?_; refine cY c7 ?_
       refine a8 (a6 ?_)
       refine cY b7 ?_; refine cY R7 ?_; refine cY c7 ?_; refine a8 ?_
       exact ⟨(s++dt,hds++[dt],p6,n - 1),[0,1,3],q_2,⟨rfl,rfl⟩,⟨⟨tt,U1⟩,⟨tt,U1⟩,⟨tt,U1⟩,⟨tt,U1⟩,tt⟩,⟨.inr ⟨_,rfl,.same rfl A6⟩,.inr ⟨_,rfl,.same rfl s8⟩,.inr ⟨_,rfl,.same rfl s8⟩,tt⟩⟩
      ·skip
       refine c8 (a6 ?_)
       refine cY b7 ?_; refine cY R7 ?_; refine cY c7 ?_; refine a8 ?_
       exact ⟨(s,hds,p6,n - 1),[0,1,2],⟨by dsimp only; omega,by dsimp only; omega,by dsimp only; omega,by dsimp only; omega,by dsimp only; omega,by dsimp only; omega,by dsimp only; omega⟩,⟨rfl,rfl⟩,⟨⟨tt,U1⟩,⟨tt,U1⟩,⟨tt,U1⟩,⟨tt,U1⟩,tt⟩,⟨.inr ⟨_,rfl,.same rfl A6⟩,.inr ⟨_,rfl,.same rfl s8⟩,.inr ⟨_,rfl,.same rfl s8⟩,tt⟩⟩
   ·have hn3:n=0:=by simp at h4; omega
    subst hn3
    refine m4 (a7 (a7 (a6 ?_)))
    refine cY b7 ?_
    refine cD (j3 rfl Tryz.call10 ⟨tt,rfl,rfl,tt⟩ (D3 l nn p2 _ 0 rfl b8 hl 1 30 b8) rfl ?_)
    intro _ _; refine a8 ?_
    refine b9 tt rfl (fun h9=>?_) (fun h9=>?_)
    ·skip
     refine a6 ?_; refine cY b7 ?_; refine cY b7 ?_; refine cY (y9 (([[102,117,110,99],[125],[34],[116,101,115,116,32,116,32,61,32,49,59],[120]]:List Str).map scv) rfl ⟨rfl,rfl,rfl,rfl,rfl,tt⟩ Tryz.runUnderlying26 Tryz.sizeOf9 Tryz.zeroValue9 rfl rfl rfl rfl rfl rfl rfl rfl rfl) ?_
     refine cD (j3 rfl Tryz.call17 ⟨tt,tt,tt⟩ (C3 l nn (p2+1) _ 0 rfl b8 hl ([[102,117,110,99],[125],[34],[116,101,115,116,32,116,32,61,32,49,59],[120]]:List Str) l7 l7) rfl ?_)
     intro v hv
     have hv8:v.length≤11:=by revert v; decide
     refine cY a0C ?_; refine cY c7 ?_
     refine a8 (a7 (a6 ?_))
     refine cY b7 ?_; refine cY c7 ?_
     refine a8 (c9 ?_)
     exact ⟨_,l9 rfl tt c6,⟨(_,p2+2),P0 rfl A6 (.old (.val _)),a0K,by dsimp only; omega,by dsimp only; omega⟩⟩
    ·skip
     refine c8 (a7 (a6 ?_))
     refine cY b7 ?_; refine cY c7 ?_
     refine a8 (c9 ?_)
     exact ⟨_,l9 rfl tt c6,⟨(_,p2+1),P0 rfl A6 (.old (.val _)),a0K,by dsimp only; omega,by dsimp only; omega⟩⟩
theorem a3W (l:List Int) (nn:Bool) (k:Nat) (hat:k≤600000000) (hl:l.length≤maxLen) (pkg:Str) (hpk:pkg.length≤8) (σ:List c5) (q:Nat) (hq:σ[q]? = some (o4 l nn k)):c4 CC 56 [.ptr q 0,(sv (pkg))] σ fun r τ=>∃ a:Str × Nat,r = .ret (sv a.1)∧τ=σ.set q (o4 l nn a.2)∧(a.1.length≤6300∧k≤a.2∧a.2≤k+1070) :=
 a3n (c:=fun a:Str × Nat=>sv a.1) (S:=fun a=>o4 l nn a.2) hCC (fun a h=>by simp at h; subst h; exact .val _) (fun _=>.val _) (fun _=>B0 _ _ _) (B0 _ _ _) rfl (b0t l nn k hat hl pkg hpk) σ q hq
def W2:List Str:=([[97,46,100,97,116],[100,47,98,46,100,97,116],[99]]:List Str)
def a0S:List Str:=([[97,46,115,114,99],[98,46,115,114,99],[100,47,99,46,115,114,99],[120,46,115,114,99],[97,46,100,97,116],[100,47,98,46,100,97,116],[99],[122,48,46,115,114,99],[122,49,46,115,114,99],[122,50,46,115,114,99]]:List Str)
structure H5 (B:Nat) (fl:List Fi):Prop where
 srt:b2D fl
 pth:∀ f∈fl,f.p∈a0S
 byt:∀ f∈fl,f.b.length≤B
theorem H5.nil (B:Nat):H5 B []:=⟨.nil,fun f h=>by simp at h,fun f h=>by simp at h⟩
theorem H5.mono {B C:Nat} {fl:List Fi} (h:H5 B fl) (hc:B≤C):H5 C fl:=⟨h.srt,h.pth,fun f hf=>Nat.le_trans (h.byt f hf) hc⟩
theorem H5.len {B:Nat} {fl:List Fi} (h:H5 B fl):fl.length≤10:=by
 have hn:(fl.map Fi.p).Nodup:=by
  rw [List.nodup_iff_pairwise_ne,List.pairwise_map]
  exact h.srt.imp fun {a b} hab he=>by rw [he,a7x] at hab; cases hab
 have hs:∀ x∈fl.map Fi.p,x∈a0S:=fun x hx=>by
  obtain ⟨f,hf,rfl⟩:=List.mem_map.1 hx
  exact h.pth f hf
 have:=List.Nodup.length_le_of_subset hn (fun x hx=>hs x hx)
 rw [List.length_map] at this
 exact this
theorem a6z {f:Fi}:∀ l:List Fi,a3A f true l=l.filter fun x=>!decide (x.p=f.p)
 | []=>rfl
 | x::l=>by
  rw [a3A,Bool.true_or,a6z l,List.filter_cons]
  by_cases h:x.p=f.p <;> simp [h]
theorem a24 {f:Fi} {x:Fi}:∀ {d:Bool} {l:List Fi},x∈a3A f d l→x=f∨x∈l
 | d,[],h=>by
  cases d <;> simp [a3A] at h
  exact .inl h
 | d,y::l,h=>by
  rw [a3A] at h
  rcases List.mem_append.1 h with h | h
  ·split at h <;> simp at h
   exact .inl h
  ·rcases List.mem_append.1 h with h | h
   ·split at h <;> simp at h
    exact .inr (by rw [h]; simp)
   ·rcases a24 h with h | h
    ·exact .inl h
    ·exact .inr (List.mem_cons_of_mem _ h)
theorem a9t {f:Fi}:∀ {l:List Fi},b2D l→b2D (a3A f false l)
 | [],_=>by simp [a3A,b2D]
 | y::l,h=>by
  obtain ⟨h1,h2⟩:=List.pairwise_cons.1 h
  rw [a3A]
  by_cases hle:leF f y=true
  ·simp only [hle,Bool.not_false,Bool.and_self,if_true,Bool.or_true,a6z]
   have hl:b2D (l.filter fun x=>!decide (x.p=f.p)):=h2.filter _
   have hfl:∀ g∈l.filter fun x=>!decide (x.p=f.p),Op.bytesLess f.p g.p=true:=fun g hg=>by
    have hy:=h1 g ((List.mem_filter.1 hg).1)
    unfold leF at hle
    simp only [Bool.or_eq_true,decide_eq_true_eq] at hle
    rcases hle with hle | hle
    ·exact a48 hle hy
    ·rw [hle]; exact hy
   by_cases hyp:y.p=f.p
   ·rw [if_pos hyp,List.nil_append]
    exact List.pairwise_cons.2 ⟨hfl,hl⟩
   ·rw [if_neg hyp]
    have hfy:Op.bytesLess f.p y.p=true:=by
     unfold leF at hle
     simp only [Bool.or_eq_true,decide_eq_true_eq] at hle
     rcases hle with hle | hle
     ·exact hle
     ·exact absurd hle.symm hyp
    refine List.pairwise_cons.2 ⟨fun g hg=>?_,List.pairwise_cons.2 ⟨fun g hg=>h1 g ((List.mem_filter.1 hg).1),hl⟩⟩
    rcases List.mem_cons.1 hg with rfl | hg
    ·exact hfy
    ·exact hfl g hg
  ·have hle':leF f y=false:=by simpa using hle
   have hyp:¬ y.p=f.p:=fun h=>by rw [leF,h] at hle'; simp at hle'
   simp only [hle',Bool.and_false,Bool.or_false,if_neg hyp]
   have:Op.bytesLess y.p f.p=true:=by
    unfold leF at hle'
    simp only [Bool.or_eq_false_iff,decide_eq_false_iff_not] at hle'
    exact b40 hle'.1 hle'.2
   refine List.pairwise_cons.2 ⟨fun g hg=>?_,a9t h2⟩
   rcases a24 hg with rfl | hg
   ·exact this
   ·exact h1 g hg
theorem H5.ins {B:Nat} {fl:List Fi} (h:H5 B fl) {f:Fi} (hp:f.p∈a0S) (hb:f.b.length≤B):H5 B (a1q fl f) :=
 ⟨a9t h.srt,fun g hg=>by
  rcases a24 hg with rfl | hg
  ·exact hp
  ·exact h.pth g hg,fun g hg=>by
  rcases a24 hg with rfl | hg
  ·exact hb
  ·exact h.byt g hg⟩
theorem H5.rem {B:Nat} {fl:List Fi} (h:H5 B fl) (s:Str):H5 B (a1N fl s) :=
 ⟨h.srt.filter _,fun g hg=>h.pth g ((List.mem_filter.1 hg).1),fun g hg=>h.byt g ((List.mem_filter.1 hg).1)⟩
theorem b1z:∀ s∈B7,s∈a0S:=by decide
theorem b09:∀ s∈W2,s∈a0S:=by decide
theorem J0 (fl:List Fi) (nn:Bool):o9 (.agg (w7 fl nn)):=d7 (cs:=w7 _ _) ⟨r7 _ _,tt⟩
theorem X2 {α:Type} {l:List α} {i:Nat} (h:i < l.length):∃ y,l[i]? = some y∧y∈l:=⟨l[i],by simp [h],List.getElem_mem h⟩
set_option maxRecDepth 10000 in
set_option maxHeartbeats 1600000 in
theorem a73 (l:List Int) (nn:Bool) (k:Nat) (hat:k≤500000000) (hl:l.length≤maxLen):c4 CC 28 [.ptr 0 0] [o4 l nn k] fun r τ=>∃ a:List Fi × Nat,G8 1 τ r (.ret (.agg (w7 a.1 (gnn a.1.length)))) [o4 l nn a.2]∧(H5 6300 a.1∧k≤a.2∧a.2≤k+4400):=by
 refine (d5 Tryz.func28 rfl rfl ?_)
 refine a7 (a6 ?_)
 refine cD (l5 rfl Tryz.zeroValue32 rfl j2 ?_)
 refine a8 (a7 (a6 ?_))
 refine cD (l5 rfl Tryz.zeroValue32 rfl j2 ?_)
 refine a8 (a7 (a7 (a6 ?_)))
 refine cY (i8 rfl Tryz.call52 trivial (a2X _) rfl) ?_; refine cY R1 ?_; refine cY A7 ?_
 refine a8 (d4 ?_)
 refine O1 (α:=List Fi × Nat × Nat) (fun x=>[(0,.ptr 0 0),(2,.ptr 1 0),(3,.ptr 2 0),(8,(.list (B7.map scv) true none)),(9,(.val (.int .i64 ((B7.length:Int))))),(10,(.val (.int .i64 ((x.2.2:Int)))))]) (fun x=>[o4 l nn (x.2.1),.box (w7 [] false),.box (w7 x.1 (gnn x.1.length))]) (fun x=>x.2.2≤B7.length∧H5 6300 x.1∧k+0≤x.2.1∧x.2.1≤k+0+x.2.2*1072) (fun x=>B7.length - x.2.2) ([],k,0) ⟨Nat.zero_le _,.nil _,by dsimp only; omega,by dsimp only; omega⟩ ⟨⟨tt,rfl⟩,⟨tt,rfl⟩,⟨tt,rfl⟩,⟨tt,rfl⟩,⟨tt,rfl⟩,⟨tt,rfl⟩,tt⟩ rfl ?_; intro ⟨fl,p,i⟩ E0 ⟨hi,hm,hp1,hp2⟩
 dsimp only at hi hm hp1 hp2 ⊢
 have hL:B7.length=4:=rfl
 have hml:=hm.len
 refine a7 (a6 ?_)
 refine cY r9 ?_
 refine a8 (a7 ?_)
 refine b9 tt rfl (fun h1=>?_) (fun h1=>?_)
 ·have hlt:i < B7.length:=by simp at h1; omega
  obtain ⟨y,hb,hym⟩:=X2 hlt
  refine c8 ?_; refine a0d (α:=List Fi × Nat) (fun x=>[(0,.ptr 0 0),(2,.ptr 1 0),(3,.ptr 2 0),(8,(.list (B7.map scv) true none)),(9,(.val (.int .i64 ((B7.length:Int))))),(10,(.val (.int .i64 ((i:Int)))))]) (fun x=>[o4 l nn (x.2),.box (w7 [] false),.box (w7 x.1 (gnn x.1.length))]) (fun x=>H5 6300 x.1∧p≤x.2∧x.2≤p+1072) ?_ ?_
  ·
   refine d4 (a7 (a6 ?_))
   refine cY a7E ?_; refine cY M7 ?_; refine cY c7 ?_
   refine a8 (a7 (a6 ?_))
   refine cY b7 ?_
   refine cD (j3 rfl Tryz.call10 ⟨tt,rfl,rfl,tt⟩ (D3 l nn p _ 0 rfl b8 hl 3 4 b8) rfl ?_)
   intro _ _; refine a8 ?_
   refine b9 tt rfl (fun h2=>?_) (fun h2=>?_)
   ·skip
    refine v8 [0,1,2,3,4,5,6,7,8,9] 5 [0,0,0,0,0,24,60,126,255,511] [[0,1,2],[0,1],[0],[],[]] (hd1l:=[0,1,2,3,4]) (tll:=[(5,[0,1,2]),(6,[0,1]),(7,[0]),(8,[]),(9,[])]) j6 j6 rfl rfl rfl ?_; refine chf rfl a0F ?_; refine chf rfl x8 ?_; refine chf rfl x8 ?_; refine chf rfl x8 ?_; refine chf rfl b3L ?_; refine y0 ?_
    refine u0 rfl rfl (j3 rfl Tryz.call17 ⟨tt,tt,tt⟩ (C3 l nn (p+1) _ 0 rfl b8 hl r8 j4 j4) rfl ?_)
    intro v hv
    have hv8:v.length≤8:=J4 (.inl hv)
    refine ⟨⟨Q1,A0,A0,tt⟩,?_⟩
    refine u0 rfl rfl (j3 rfl Tryz.call56 ⟨tt,tt,tt⟩ (a3W l nn (p+2) b8 hl v hv8 _ 0 rfl) rfl ?_)
    intro ⟨s,p3⟩ ⟨hs,hq1,hq2⟩
    dsimp only at hs hq1 hq2 ⊢
    refine ⟨⟨Q1,A0,tt⟩,?_⟩
    refine w6 rfl a8U ⟨⟨Q1,tt⟩,?_⟩
    refine w6 rfl (k7 rfl (i8 rfl Tryz.call53 ⟨tt,tt,tt⟩ (N8 fl _ ⟨y,s⟩ b8 _) rfl)) ⟨tt,?_⟩
    refine u0 rfl rfl (i7 rfl tt tt rfl c6 Tryz.sizeOf32 j2 rfl rfl (nb rfl) ?_)
    refine ⟨tt,?_⟩
    refine A8 ?_
    exact ⟨(a1q fl ⟨y,s⟩,p3),⟨hm.ins (b1z _ hym) hs,by dsimp only; omega,by dsimp only; omega⟩,⟨⟨tt,rfl⟩,⟨tt,rfl⟩,⟨tt,rfl⟩,⟨tt,rfl⟩,⟨tt,rfl⟩,⟨tt,rfl⟩,tt⟩,rfl⟩
   ·skip
    refine c8 ?_
    exact ⟨(fl,p+1),⟨hm,by dsimp only; omega,by dsimp only; omega⟩,⟨⟨tt,rfl⟩,⟨tt,rfl⟩,⟨tt,rfl⟩,⟨tt,rfl⟩,⟨tt,rfl⟩,⟨tt,rfl⟩,tt⟩,rfl⟩
  ·intro ⟨fl,p4⟩ E0 ⟨hm,hq1,hq2⟩
   dsimp only at hm hq1 hq2 ⊢
   refine a6 ?_; refine cY m9 ?_; refine cY b7 ?_; refine a8 ?_
   exact ⟨(fl,p4,i+1),R8,⟨by dsimp only; omega,hm,by dsimp only; omega,by dsimp only; omega⟩,⟨⟨tt,rfl⟩,⟨tt,rfl⟩,⟨tt,rfl⟩,⟨tt,rfl⟩,⟨tt,rfl⟩,⟨tt,rfl⟩,tt⟩,rfl⟩
 ·skip
  refine m4 (a7 (a7 (a6 ?_)))
  refine cY b8V ?_; refine cY R1 ?_; refine cY A7 ?_
  refine a8 (d4 ?_)
  refine O1 (α:=List Fi × Nat × Nat) (fun x=>[(0,.ptr 0 0),(2,.ptr 1 0),(3,.ptr 2 0),(26,(.list (W2.map scv) true none)),(27,(.val (.int .i64 ((W2.length:Int))))),(28,(.val (.int .i64 ((x.2.2:Int)))))]) (fun x=>[o4 l nn (x.2.1),.box (w7 [] false),.box (w7 x.1 (gnn x.1.length))]) (fun x=>x.2.2≤W2.length∧H5 6300 x.1∧k+0≤x.2.1∧x.2.1≤k+4288+x.2.2*5) (fun x=>W2.length - x.2.2) (fl,p,0) ⟨Nat.zero_le _,hm,by dsimp only; omega,by dsimp only; omega⟩ ⟨⟨tt,rfl⟩,⟨tt,rfl⟩,⟨tt,rfl⟩,⟨tt,rfl⟩,⟨tt,rfl⟩,⟨tt,rfl⟩,tt⟩ rfl ?_; intro ⟨fl,p,i⟩ E0 ⟨hi,hm,hp1,hp2⟩
  dsimp only at hi hm hp1 hp2 ⊢
  have hL:W2.length=3:=rfl
  have hml:=hm.len
  refine a7 (a6 ?_)
  refine cY r9 ?_
  refine a8 (a7 ?_)
  refine b9 tt rfl (fun h3=>?_) (fun h3=>?_)
  ·have hlt:i < W2.length:=by simp at h3; omega
   obtain ⟨y,hb,hym⟩:=X2 hlt
   refine c8 (a7 (d4 (a7 (a6 ?_))))
   refine cY a7E ?_; refine cY M7 ?_; refine cY c7 ?_
   refine a8 (a7 (a6 ?_))
   refine cY b7 ?_
   refine cD (j3 rfl Tryz.call10 ⟨tt,rfl,rfl,tt⟩ (D3 l nn p _ 0 rfl b8 hl 1 3 b8) rfl ?_)
   intro _ _; refine a8 ?_
   refine b9 tt rfl (fun h4=>?_) (fun h4=>?_)
   ·skip
    refine v8 [0,1,2,3,4,5,6] 3 [0,0,0,4,14,31,63] [[0,1],[0],[],[]] (hd1l:=[0,1,2]) (tll:=[(3,[0,1]),(4,[0]),(5,[]),(6,[])]) j6 j6 rfl rfl rfl ?_; refine chf rfl a0F ?_; refine chf rfl x8 ?_; refine chf rfl x8 ?_; refine y0 ?_
    refine u0 rfl rfl (j3 rfl Tryz.call54 ⟨tt,tt⟩ (b1B l nn (p+1) b8 hl _ 0 rfl) rfl ?_)
    intro ⟨s,p3⟩ ⟨hs,hq1,hq2⟩
    dsimp only at hs hq1 hq2 ⊢
    refine ⟨⟨Q1,A0,tt⟩,?_⟩
    refine w6 rfl a8U ⟨⟨Q1,tt⟩,?_⟩
    refine w6 rfl (k7 rfl (i8 rfl Tryz.call53 ⟨tt,tt,tt⟩ (N8 fl _ ⟨y,s⟩ b8 _) rfl)) ⟨tt,?_⟩
    refine u0 rfl rfl (i7 rfl tt tt rfl c6 Tryz.sizeOf32 j2 rfl rfl (nb rfl) ?_)
    refine ⟨tt,?_⟩
    refine A8 (a6 ?_)
    refine cY m9 ?_; refine cY b7 ?_; refine a8 ?_
    exact ⟨(a1q fl ⟨y,s⟩,p3,i+1),R8,⟨by dsimp only; omega,hm.ins (b09 _ hym) R8,by dsimp only; omega,by dsimp only; omega⟩,⟨⟨tt,rfl⟩,⟨tt,rfl⟩,⟨tt,rfl⟩,⟨tt,rfl⟩,⟨tt,rfl⟩,⟨tt,rfl⟩,tt⟩,rfl⟩
   ·skip
    refine c8 (a6 ?_)
    refine cY m9 ?_; refine cY b7 ?_; refine a8 ?_
    exact ⟨(fl,p+1,i+1),R8,⟨by dsimp only; omega,hm,by dsimp only; omega,by dsimp only; omega⟩,⟨⟨tt,rfl⟩,⟨tt,rfl⟩,⟨tt,rfl⟩,⟨tt,rfl⟩,⟨tt,rfl⟩,⟨tt,rfl⟩,tt⟩,rfl⟩
  ·skip
   refine m4 (a7 (a6 ?_))
   refine cY Q5 ?_
   refine cD (i7 rfl tt tt rfl c6 Tryz.sizeOf32 j2 rfl rfl (nb rfl) ?_)
   refine a8 (c9 ?_)
   exact ⟨_,B5 rfl ⟨tt,_,_,_,rfl,rfl,.inr ⟨_,Tryz.isAgg32,Tryz.sizeOf32,nb rfl,rfl⟩⟩,⟨(fl,p),P0 rfl A6 (.old (J0 _ _).old),hm,by dsimp only; omega,by dsimp only; omega⟩⟩
theorem a9g (l:List Int) (nn:Bool) (k:Nat) (hat:k≤500000000) (hl:l.length≤maxLen) (σ:List c5) (q:Nat) (hq:σ[q]? = some (o4 l nn k)):c4 CC 28 [.ptr q 0] σ fun r τ=>∃ a:List Fi × Nat,r = .ret (.agg (w7 a.1 (gnn a.1.length)))∧τ=σ.set q (o4 l nn a.2)∧(H5 6300 a.1∧k≤a.2∧a.2≤k+4400) :=
 a3n (c:=fun a:List Fi × Nat=>(.agg (w7 a.1 (gnn a.1.length)))) (S:=fun a=>o4 l nn a.2) hCC (fun a h=>by simp at h) (fun _=>J0 _ _) (fun _=>B0 _ _ _) (B0 _ _ _) rfl (a73 l nn k hat hl) σ q hq
noncomputable def a0j (fl:List Fi) (ev:List Va) (k:Ky):Option Str:=(Q0 fl ev [k]).map fun l=>l.getD 0 []
def b0c (o:Option Str):CV:=.tup [sv (o.getD []),.val (.int .i64 (if o.isSome then 0 else 1))]
theorem a6I {fl:List Fi} {ev:List Va} {k:List Ky} {l:List Str} (h:Q0 fl ev k=some l):l=k.map (G9 fl (y7 fl).2.1 (y7 fl).2.2 ev):=by
 unfold Q0 at h
 split at h
 ·injection h with h; exact h.symm
 ·cases h
set_option maxRecDepth 10000 in
theorem a8M (fl:List Fi) (nn:Bool) (hfl:∀ f∈fl,f.p.length≤1000000000) (ev:List Va) (en:Bool) (hev:∀ v∈ev,v.n.length≤1000000000) (hvr:∀ v∈ev,-9223372036854775808≤v.v∧v.v≤9223372036854775807) (hel:ev.length≤1000000000) (k:Ky) (hk:k.a.length≤1000000000∧k.b.length≤1000000000):c4 CC 12 [.agg (w7 fl nn),.agg (H6 ev en),.agg k.cells] [] fun r τ=>∃ _:Unit,a1V 0 τ r (.ret (b0c (a0j fl ev k)))∧True:=by
 refine (d5 Tryz.func12 rfl rfl ?_)
 refine a7 (a6 ?_)
 refine cD (A4 rfl tt c6 j2 ?_)
 refine cD (A4 rfl tt c6 j2 ?_)
 refine cD (A4 rfl tt c6 j2 ?_)
 refine cY j1 ?_; refine cY j1 ?_
 refine a8 (a7 (a6 ?_))
 refine cY Q5 ?_; refine cY a2n ?_; refine cY a8D ?_; refine cY (y9 ([k].map Ky.cv) rfl ⟨tt,tt⟩ Tryz.runUnderlying36 Tryz.sizeOf39 Tryz.zeroValue39 rfl rfl rfl rfl rfl rfl rfl rfl rfl) ?_; refine cY (i8 rfl Tryz.call14 ⟨tt,tt,tt,tt⟩ (by exact a4f fl nn hfl ev en hev hvr hel [k] true l7 (fun k1 h1=>by simp at h1; subst h1; exact hk) _) rfl) ?_; refine cY b7 ?_; refine cY v7 ?_; refine cY v7 ?_; refine cY c7 ?_; refine cY c7 ?_
 refine a8 (a7 (a7 (a6 ?_)))
 refine cY b7 ?_; refine cY j9 ?_; refine a8 ?_
 refine b9 tt rfl (fun h1=>?_) (fun h1=>?_)
 ·have hn:Q0 fl ev [k]=none:=by
   cases h:Q0 fl ev [k] with
   | none=>rfl
   | some l=>rw [h] at h1; simp at h1
  refine a7 (a6 ?_)
  refine cY b7 ?_; refine cY j1 ?_; refine cY c7 ?_
  refine a8 (c9 ?_)
  exact ⟨_,o0 (rs:=[.tmp 6,.tmp 7]) (cs:=[_,_]) rfl ⟨⟨tt,c6⟩,⟨tt,c6⟩,tt⟩ (Nat.ne_of_beq_eq_false rfl),(by rw [a0j,hn]; exact ⟨(),.ret (.old (.tup fun i c hi=>by rcases i with _ | _ | i <;> first|(injection hi with hi; subst hi; exact .val _) | cases hi)),tt⟩)⟩
 ·obtain ⟨s,hs⟩:∃ s,Q0 fl ev [k]=some [s]:=by
   cases h:Q0 fl ev [k] with
   | none=>rw [h] at h1; simp at h1
   | some l=>exact ⟨_,by rw [a6I h]; rfl⟩
  rw [hs]
  refine c8 (a7 (a6 ?_))
  refine cY b7 ?_; refine cY (r5 rfl tt rfl rfl rfl Tryz.runUnderlying26 Tryz.sizeOf9 b8 (m7 (rfl:[s][0]? = some s)) rfl) ?_; refine cY M7 ?_; refine cY c7 ?_; refine cY j1 ?_
  refine a8 (c9 ?_)
  exact ⟨_,o0 (rs:=[.tmp 6,.tmp 7]) (cs:=[_,_]) rfl ⟨⟨tt,c6⟩,⟨tt,c6⟩,tt⟩ (Nat.ne_of_beq_eq_false rfl),(by rw [a0j,hs]; exact ⟨(),.ret (.old (.tup fun i c hi=>by rcases i with _ | _ | i <;> first|(injection hi with hi; subst hi; exact .val _) | cases hi)),tt⟩)⟩
theorem a2H (fl:List Fi) (nn:Bool) (hfl:∀ f∈fl,f.p.length≤1000000000) (ev:List Va) (en:Bool) (hev:∀ v∈ev,v.n.length≤1000000000) (hvr:∀ v∈ev,-9223372036854775808≤v.v∧v.v≤9223372036854775807) (hel:ev.length≤1000000000) (k:Ky) (hk:k.a.length≤1000000000∧k.b.length≤1000000000) (σ:List c5):c4 CC 12 [.agg (w7 fl nn),.agg (H6 ev en),.agg k.cells] σ fun r τ=>r = .ret (b0c (a0j fl ev k))∧τ=σ :=
 (L8 (res:=fun _:Unit=>.ret (b0c (a0j fl ev k))) (P:=fun _=>True) hCC (fun a h=>by simp at h; rcases h with rfl | rfl | rfl; exact d7 (cs:=w7 _ _) ⟨r7 _ _,tt⟩; exact d7 (cs:=H6 _ _) ⟨C0 _ _,tt⟩; exact d7 (cs:=[_,_,_]) ⟨.val _,.val _,.val _,tt⟩) (a8M fl nn hfl ev en hev hvr hel k hk) (fun _ _=>d9 (cs:=[_,_]) ⟨.val _,.val _,tt⟩) σ).mono fun r τ ⟨_,h1,h2,_⟩=>⟨h1,h2⟩
def a4p:List Str→List Str→Int→Int
 | x::l,y::m,i=>if x=y then a4p l m (i+1) else i
 | _,_,_=>-1
noncomputable def a4j (fl:List Fi) (ev:List Va) (k:List Ky) (ts:List Str):Option Int:=match Q0 fl ev k with
 | some l=>if k.length=ts.length then some (a4p l ts 0) else none
 | none=>none
def b5j (o:Option Int):CV:=.tup [.val (.int .i64 (o.getD 0)),.val (.int .i64 (if o.isSome then 0 else 1))]
theorem a95 {l m:List Str} {i:Nat} {x y:Str} (hx:l[i]? = some x) (hy:m[i]? = some y) (j:Int):a4p (l.drop i) (m.drop i) j=if x=y then a4p (l.drop (i+1)) (m.drop (i+1)) (j+1) else j:=by
 obtain ⟨h1,rfl⟩:=List.getElem?_eq_some_iff.1 hx
 obtain ⟨h2,rfl⟩:=List.getElem?_eq_some_iff.1 hy
 rw [List.drop_eq_getElem_cons h1,List.drop_eq_getElem_cons h2,a4p]
set_option maxRecDepth 10000 in
theorem b2e (fl:List Fi) (nn:Bool) (hfl:∀ f∈fl,f.p.length≤1000000000) (ev:List Va) (en:Bool) (hev:∀ v∈ev,v.n.length≤1000000000) (hvr:∀ v∈ev,-9223372036854775808≤v.v∧v.v≤9223372036854775807) (hel:ev.length≤1000000000) (k:List Ky) (nk:Bool) (hl:k.length≤1000000000) (hk:∀ x∈k,x.a.length≤1000000000∧x.b.length≤1000000000) (ts:List Str) (nt:Bool) (htl:ts.length≤4611686018427387904):c4 CC 19 [.agg (w7 fl nn),.agg (H6 ev en),.list (k.map Ky.cv) nk none,.list (ts.map scv) nt none] [] fun r τ=>∃ _:Unit,a1V 0 τ r (.ret (b5j (a4j fl ev k ts)))∧True:=by
 refine (d5 Tryz.func19 rfl rfl ?_)
 refine a7 (a6 ?_)
 refine cD (A4 rfl tt c6 j2 ?_)
 refine cD (A4 rfl tt c6 j2 ?_)
 refine cY j1 ?_; refine cY j1 ?_
 refine a8 (a7 (a6 ?_))
 refine cY Q5 ?_; refine cY a2n ?_; refine cY b7 ?_; refine cY (i8 rfl Tryz.call14 ⟨tt,tt,tt,tt⟩ (a4f fl nn hfl ev en hev hvr hel k nk hl hk _) rfl) ?_; refine cY b7 ?_; refine cY v7 ?_; refine cY v7 ?_; refine cY c7 ?_; refine cY c7 ?_
 refine a8 (a7 (a7 (a6 ?_)))
 refine cY b7 ?_; refine cY j9 ?_; refine cY b7 ?_; refine cG o5 ?_; refine cG (fun hg=>U8 rfl hg rfl Tryz.runUnderlying36 a2s rfl) ?_; refine cG o5 ?_; refine cG (fun hg=>U8 rfl hg rfl Tryz.runUnderlying26 a2s rfl) ?_; refine cG a4Q ?_; refine cY G5 ?_; refine a8 ?_
 refine b9 tt rfl (fun h1=>?_) (fun h1=>?_)
 ·have hn:a4j fl ev k ts=none:=by
   unfold a4j
   cases h:Q0 fl ev k with
   | none=>rfl
   | some l =>
    rw [h] at h1
    have hkt:¬ k.length=ts.length:=by simp at h1; omega
    exact if_neg hkt
  refine a7 (a6 ?_)
  refine cY j1 ?_; refine cY j1 ?_
  refine a8 (c9 ?_)
  exact ⟨_,o0 (rs:=[.tmp 8,.tmp 9]) (cs:=[_,_]) rfl ⟨⟨tt,c6⟩,⟨tt,c6⟩,tt⟩ (Nat.ne_of_beq_eq_false rfl),(by rw [hn]; exact ⟨(),.ret (.old (.tup fun i c hi=>by rcases i with _ | _ | i <;> first|(injection hi with hi; subst hi; exact .val _) | cases hi)),tt⟩)⟩
 ·obtain ⟨l,hs⟩:∃ l,Q0 fl ev k=some l:=by
   cases h:Q0 fl ev k with
   | none=>rw [h] at h1; simp at h1
   | some l=>exact ⟨_,rfl⟩
  rw [hs] at h1 ⊢
  have hkt:k.length=ts.length:=by simp at h1; omega
  have hlk:l.length=k.length:=by rw [a6I hs]; simp
  have hh:a4j fl ev k ts=some (a4p l ts 0):=by unfold a4j; rw [hs]; exact if_pos hkt
  refine c8 (a7 (a7 (a6 ?_)))
  refine cY b7 ?_; refine cY R1 ?_; refine cY A7 ?_
  refine a8 (d4 ?_)
  refine p9 hCC (fun i:Nat=>[(3,(.list (ts.map scv) nt none)),(30,(.list (l.map scv) (gnn l.length) none)),(31,(.val (.int .i64 ((l.length:Int))))),(32,(.val (.int .i64 ((i:Int)))))]) (fun _=>[.box (w7 fl nn),.box (H6 ev en)]) (fun i=>i≤l.length∧a4p l ts 0=a4p (l.drop i) (ts.drop i) i) (fun i=>l.length - i) 0 ⟨Nat.zero_le _,rfl⟩ ⟨⟨tt,rfl⟩,⟨tt,rfl⟩,⟨tt,rfl⟩,⟨tt,rfl⟩,tt⟩ (extra0:=[]) rfl A5 (fun a ha=>by repeat' (first|exact tt|exact .val _|exact .ptr (nb rfl)|exact .map (nb rfl)|exact k8 _ _ _|exact (d7 (cs:=w7 _ _) ⟨r7 _ _,tt⟩).old|exact z7 _ _ _|exact L3 _ _ _ | refine l2 ?_ | refine ⟨?_,?_⟩)) ?_; intro i ⟨hi,hr⟩
  refine a7 (a6 ?_)
  refine cY r9 ?_
  refine a8 (a7 ?_)
  refine b9 tt rfl (fun h2=>?_) (fun h2=>?_)
  ·have hlt:i < l.length:=by simp at h2; omega
   obtain ⟨x,hx,_⟩:=X2 hlt
   obtain ⟨y,hy,_⟩:=X2 (l:=ts) (i:=i) b8
   rw [a95 hx hy] at hr
   refine c8 (a7 (d4 (a7 (a6 ?_))))
   refine cY b7 ?_; refine cY (r5 rfl tt tt rfl rfl Tryz.runUnderlying26 Tryz.sizeOf9 b8 (m7 hx) rfl) ?_; refine cY M7 ?_; refine cY c7 ?_; refine cY c7 ?_
   refine a8 (a7 (a6 ?_))
   refine cY b7 ?_; refine cY b7 ?_; refine cY b7 ?_; refine cY b7d ?_; refine cY M7 ?_; refine cY a6J ?_; refine a8 ?_
   refine b9 tt rfl (fun h3=>?_) (fun h3=>?_)
   ·have hxy:¬ x=y:=by simpa using h3
    rw [if_neg hxy] at hr
    refine a7 (a6 ?_)
    refine cY b7 ?_; refine cY c7 ?_; refine cY j1 ?_
    refine a8 (c9 ?_)
    exact ⟨_,o0 (rs:=[.tmp 8,.tmp 9]) (cs:=[_,_]) rfl ⟨⟨tt,c6⟩,⟨tt,c6⟩,tt⟩ (Nat.ne_of_beq_eq_false rfl),b8y⟩
   ·have hxy:x=y:=by simpa using h3
    rw [if_pos hxy] at hr
    refine c8 (a6 ?_)
    refine cY m9 ?_; refine cY b7 ?_; refine a8 ?_
    exact ⟨(i+1),_,⟨by omega,by omega,hr⟩,⟨⟨tt,rfl⟩,⟨tt,rfl⟩,⟨tt,rfl⟩,⟨tt,rfl⟩,tt⟩,rfl⟩
  ·have hge:l.length≤i:=by simp at h2; omega
   rw [List.drop_eq_nil_of_le hge] at hr
   refine m4 (a7 (a6 ?_))
   refine cY j1 ?_; refine cY j1 ?_
   refine a8 (c9 ?_)
   exact ⟨_,o0 (rs:=[.tmp 8,.tmp 9]) (cs:=[_,_]) rfl ⟨⟨tt,c6⟩,⟨tt,c6⟩,tt⟩ (Nat.ne_of_beq_eq_false rfl),b8y⟩
theorem b5F (fl:List Fi) (nn:Bool) (hfl:∀ f∈fl,f.p.length≤1000000000) (ev:List Va) (en:Bool) (hev:∀ v∈ev,v.n.length≤1000000000) (hvr:∀ v∈ev,-9223372036854775808≤v.v∧v.v≤9223372036854775807) (hel:ev.length≤1000000000) (k:List Ky) (nk:Bool) (hl:k.length≤1000000000) (hk:∀ x∈k,x.a.length≤1000000000∧x.b.length≤1000000000) (ts:List Str) (nt:Bool) (htl:ts.length≤4611686018427387904) (σ:List c5):c4 CC 19 [.agg (w7 fl nn),.agg (H6 ev en),.list (k.map Ky.cv) nk none,.list (ts.map scv) nt none] σ fun r τ=>r = .ret (b5j (a4j fl ev k ts))∧τ=σ :=
 (L8 (res:=fun _:Unit=>.ret (b5j (a4j fl ev k ts))) (P:=fun _=>True) hCC (fun a h=>by simp at h; rcases h with rfl | rfl | rfl | rfl; exact d7 (cs:=w7 _ _) ⟨r7 _ _,tt⟩; exact d7 (cs:=H6 _ _) ⟨C0 _ _,tt⟩; exact o8 _ _; exact d6 _ _) (b2e fl nn hfl ev en hev hvr hel k nk hl hk ts nt htl) (fun _ _=>d9 (cs:=[_,_]) ⟨.val _,.val _,tt⟩) σ).mono fun r τ ⟨_,h1,h2,_⟩=>⟨h1,h2⟩
def awF:List Fi:=[⟨[97,46,100,97,116],[45]⟩,⟨[97,46,115,114,99],[112,97,99,107,97,103,101,32,112,59,32,116,101,115,116,32,116,61,49,59]⟩]
theorem aw1:a0j awF [] ⟨4,[97,46,100,97,116],[]⟩=some [61,45]:=by kernel_rfl
def awS:Src:=⟨[112],[],[⟨2,[116],[],[⟨1,1,0,[],[]⟩]⟩]⟩
def awD:De:=⟨2,[116],[],[⟨1,1,0,[],[]⟩]⟩
theorem b5E {d:De} (h:DeG d) {k u o:Int} {nm:Str} (hb:d.body=[⟨k,u,o,nm,[]⟩]):O0 d=(Tr.n k u o nm []).txt d.params 0:=by
 obtain ⟨t,h1,h2,h3⟩:=a5b h
 rw [h3]
 rw [hb] at h1
 have hl:=Tr.flat_len t 0
 rw [← h1] at hl
 rcases t with ⟨k',u',o',nm',ch⟩
 have hch:ch=[]:=by
  rcases ch with _ | ⟨c,ch⟩
  ·rfl
  ·have:=c.size_pos
   simp only [Tr.size,p8,List.length_cons,List.length_nil] at hl
   omega
 subst hch
 simp only [Tr.flat,E9,o3,List.nil_append,List.cons.injEq,Ex.mk.injEq,and_true] at h1
 obtain ⟨rfl,rfl,rfl,rfl⟩:=h1
 rfl
theorem aw2:a0j awF [] ⟨2,[112],[116]⟩=some [61,112,97,99,107,97,103,101,32,112,59,10,116,101,115,116,32,116,32,61,32,49,59,10]:=by
 have hv:K5 awF=0:=by kernel_rfl
 have hok:=b1c hv
 have hg:glk (y7 awF).2.1 [97,46,115,114,99]=some awS:=by kernel_rfl
 have hx:Q9 true (y7 awF).2.2 2 [112] [116]=⟨[112],[116],2,[97,46,115,114,99],0,1⟩:=by kernel_rfl
 have hd:DeG awD:=(hok.src _ _ hg).dec awD (by simp [awS,awD])
 have hb:O0 awD=[49]:=(b5E hd rfl).trans j6
 have ht:X4 awS awD=[112,97,99,107,97,103,101,32,112,59,10,116,101,115,116,32,116,32,61,32,49,59,10]:=by
  unfold X4
  rw [hb]
  kernel_rfl
 have hc:Q0 awF [] [⟨2,[112],[116]⟩]=some [[61]++X4 awS awD]:=by
  unfold Q0
  rw [if_pos ⟨hv,by kernel_rfl,by kernel_rfl⟩]
  have:G9 awF (y7 awF).2.1 (y7 awF).2.2 [] ⟨2,[112],[116]⟩=[61]++X4 awS awD:=by
   unfold G9
   rw [if_neg j4,if_pos rfl,hx]
   show V5 _ _=_
   unfold V5
   rw [if_neg j4,if_pos rfl]
   unfold a8z
   rw [hg]
   rfl
  rw [List.map_cons,this]
  rfl
 unfold a0j
 rw [hc,ht]
 rfl
theorem aw3:a4j awF [] [⟨4,[99],[]⟩] [[45]]=some (-1):=by kernel_rfl
def a3y (f:Fi):Option Src:=if a4l f.p=true then T1 f.b else none
def deK (x:Src) (d:De):Nm:=C6 d.k x.pkg d.name
def b0H (q:Nm) (f:Fi):List (Src × De):=match a3y f with
 | none=>[]
 | some x=>(x.decls.filter fun d=>decide (deK x d=q)).map fun d=>(x,d)
def occ (q:Nm) (fl:List Fi):List (Src × De):=fl.flatMap (b0H q)
noncomputable def b81:List (Src × De)→Str
 | []=>[45]
 | [(x,d)]=>[61]++X4 x d
 | _=>[63]
def a26 (ms:SM) (o:Option En):List (Src × De)→Prop
 | []=>o=none
 | (x,d)::t=>∃ e,o=some e∧e.ct=1+(t.length:Int)∧glk ms e.pl=some x∧0≤e.ix∧x.decls[e.ix.toNat]? = some d
theorem a26.add {ms:SM} {me:EM} {O:Nm→List (Src × De)} (h:∀ q,a26 ms (glk me q) (O q)) {path:Str} {x:Src} {d:De} {i:Nat} (hg:glk ms path=some x) (hd:x.decls[i]? = some d) (q:Nm):a26 ms (glk (a1F me ⟨x.pkg,d.name,d.k,path,(i:Int),1⟩) q) (O q++if deK x d=q then [(x,d)] else []):=by
 rw [a1F,H7]
 show a26 ms (if q=C6 d.k x.pkg d.name then _ else _) _
 by_cases hq:deK x d=q
 ·rw [if_pos hq]
  subst hq
  have h1:=h (deK x d)
  rw [if_pos (show deK x d=C6 d.k x.pkg d.name from rfl)]
  cases hO:O (deK x d) with
  | nil =>
   rw [hO] at h1
   have h1:glk me (C6 d.k x.pkg d.name)=none:=h1
   simp only [h1]
   exact ⟨_,rfl,rfl,hg,Int.natCast_nonneg _,by simpa using hd⟩
  | cons y t =>
   obtain ⟨y,z⟩:=y
   rw [hO] at h1
   obtain ⟨e,h2,h3,h4,h5,h6⟩:=h1
   have h2:glk me (C6 d.k x.pkg d.name)=some e:=h2
   simp only [h2]
   refine ⟨_,rfl,?_,h4,h5,h6⟩
   show e.ct+1=1+((t++[(x,d)]).length:Int)
   rw [h3,List.length_append]
   simp only [List.length_cons,List.length_nil]
   omega
 ·rw [if_neg hq,List.append_nil]
  rw [if_neg (fun e=>hq e.symm)]
  exact h q
theorem a26.addDs {ms:SM} {path:Str} {x:Src} (hg:glk ms path=some x):∀ (n k:Nat) (me:EM) (O:Nm→List (Src × De)),x.decls.length - k=n→(∀ q,a26 ms (glk me q) (O q))→∀ q,a26 ms (glk (addDs me path x.pkg (x.decls.drop k) k) q) (O q++(((x.decls.drop k).filter fun d=>decide (deK x d=q)).map fun d=>(x,d)))
 | 0,k,me,O,hn,h,q=>by
  rw [List.drop_eq_nil_of_le b8,Go.Proofs.YtoblbdedgjfeaaaGreatDoor.addDs]
  simpa using h q
 | n+1,k,me,O,hn,h,q=>by
  obtain ⟨d,hd⟩:∃ d,x.decls[k]? = some d:=⟨x.decls[k]'b8,by simp⟩
  rw [a2B hd]
  have h1:=a26.addDs hg n (k+1) _ _ b8 (fun q=>a26.add h hg hd q) q
  have hdr:x.decls.drop k=d::x.decls.drop (k+1):=by
   obtain ⟨hlt,rfl⟩:=List.getElem?_eq_some_iff.1 hd
   exact List.drop_eq_getElem_cons hlt
  rw [hdr,List.filter_cons]
  by_cases hq:deK x d=q
  ·rw [if_pos (by simpa using hq),List.map_cons]
   rw [if_pos hq,List.append_assoc] at h1
   exact h1
  ·rw [if_neg (by simpa using hq)]
   rw [if_neg hq,List.append_nil] at h1
   exact h1
theorem a26.put {ms:SM} {o:Option En} {l:List (Src × De)} {path:Str} {x:Src} (h:a26 ms o l) (hp:glk ms path=none):a26 (O3 ms path x) o l:=by
 rcases l with _ | ⟨⟨y,d⟩,t⟩
 ·exact h
 ·obtain ⟨e,h1,h2,h3,h4⟩:=h
  refine ⟨e,h1,h2,?_,h4⟩
  rw [H7,if_neg]
  ·exact h3
  ·intro he; rw [he,hp] at h3; cases h3
structure WRd (dn:List Fi) (ms:SM) (me:EM):Prop where
 src:∀ f∈dn,glk ms f.p=a3y f
 non:∀ p,(∀ f∈dn,f.p≠p)→glk ms p=none
 ent:∀ q,a26 ms (glk me q) (occ q dn)
theorem WRd.step {dn:List Fi} {s:WS} {f:Fi} (h:WRd dn s.2.1 s.2.2) (hf:∀ g∈dn,g.p≠f.p):WRd (dn++[f]) (V6 s f).2.1 (V6 s f).2.2:=by
 have hnone:=h.non f.p hf
 have hocc:∀ q,occ q (dn++[f])=occ q dn++b0H q f:=fun q=>by simp [occ]
 cases hs:a3y f with
 | none =>
  have hw:(V6 s f).2=s.2:=by
   unfold V6
   unfold a3y at hs
   split
   ·rename_i h1
    rw [if_pos h1] at hs
    rw [hs]
   ·rfl
  have e1:(V6 s f).2.1=s.2.1:=by rw [hw]
  have e2:(V6 s f).2.2=s.2.2:=by rw [hw]
  rw [e1,e2]
  refine ⟨fun g hg=>?_,fun p hp=>h.non p fun g hg=>hp g (by simp [hg]),fun q=>?_⟩
  ·rcases List.mem_append.1 hg with hg | hg
   ·exact h.src g hg
   ·rw [List.mem_singleton.1 hg,hs]; exact hnone
  ·rw [hocc,b0H,hs,List.append_nil]; exact h.ent q
 | some x =>
  have hw:(V6 s f).2=(O3 s.2.1 f.p x,addDs s.2.2 f.p x.pkg x.decls 0):=by
   unfold V6
   unfold a3y at hs
   split at hs
   ·rename_i h1
    rw [if_pos h1,hs]
   ·cases hs
  have e1:(V6 s f).2.1=O3 s.2.1 f.p x:=by rw [hw]
  have e2:(V6 s f).2.2=addDs s.2.2 f.p x.pkg x.decls 0:=by rw [hw]
  rw [e1,e2]
  refine ⟨fun g hg=>?_,fun p hp=>?_,fun q=>?_⟩
  ·rw [H7]
   rcases List.mem_append.1 hg with hg | hg
   ·rw [if_neg (hf g hg)]; exact h.src g hg
   ·rw [List.mem_singleton.1 hg,if_pos rfl,hs]
  ·rw [H7,if_neg (fun e=>hp f l7 e.symm)]
   exact h.non p fun g hg=>hp g (by simp [hg])
  ·rw [hocc,b0H,hs]
   have hg:glk (O3 s.2.1 f.p x) f.p=some x:=by rw [H7,if_pos rfl]
   have:=a26.addDs hg _ 0 s.2.2 (fun q=>occ q dn) rfl (fun q=>(h.ent q).put hnone) q
   simpa using this
theorem WRd.all:∀ {l dn:List Fi} {s:WS},WRd dn s.2.1 s.2.2→(l.Pairwise fun a b=>a.p≠b.p)→(∀ g∈dn,∀ f∈l,g.p≠f.p)→WRd (dn++l) (a4y l s).2.1 (a4y l s).2.2
 | [],dn,s,h,_,_=>by simpa [a4y] using h
 | f::l,dn,s,h,hp,hd=>by
  have h1:=h.step (f:=f) fun g hg=>hd g hg f l7
  obtain ⟨hp1,hp2⟩:=List.pairwise_cons.1 hp
  have:=WRd.all (l:=l) h1 hp2 (fun g hg e he=>by
   rcases List.mem_append.1 hg with hg | hg
   ·exact hd g hg e (by simp [he])
   ·rw [List.mem_singleton.1 hg]; exact hp1 e he)
  rw [List.append_assoc] at this
  exact this
theorem b8I {fl:List Fi} (h:K5 fl=0):fl.Pairwise fun a b=>a.p≠b.p:=by
 have h0:rvE none fl=0:=by
  unfold K5 at h
  split at h
  ·cases h
  ·exact h
 exact (b0s h0).2.imp fun {a b} hab he=>by rw [he] at hab; exact List.lt_irrefl _ hab
theorem b12 {fl:List Fi} (h:K5 fl=0):WRd fl (y7 fl).2.1 (y7 fl).2.2:=by
 have:=WRd.all (l:=fl) (dn:=[]) (s:=([],[],[])) ⟨fun f hf=>by simp at hf,fun p _=>rfl,fun q=>rfl⟩ (b8I h) (fun g hg=>by simp at hg)
 rw [y7,if_pos h]
 simpa using this
theorem b18 {me:EM} {k:Int} {p o:Str} (h:glk me (C6 k p o)=none):(Q9 true me k p o).ct=0:=by
 unfold Q9
 rw [if_pos rfl,h]
theorem a66 {fl:List Fi} (h:K5 fl=0) (k:Int) (p o:Str):V5 (y7 fl).2.1 (Q9 true (y7 fl).2.2 k p o)=b81 (occ (C6 k p o) fl):=by
 have h1:=(b12 h).ent (C6 k p o)
 cases hO:occ (C6 k p o) fl with
 | nil =>
  rw [hO] at h1
  unfold V5
  rw [if_pos (b18 h1)]
  rfl
 | cons y t =>
  obtain ⟨x,d⟩:=y
  rw [hO] at h1
  obtain ⟨e,h2,h3,h4,h5,h6⟩:=h1
  have he:Q9 true (y7 fl).2.2 k p o=e:=by
   unfold Q9
   rw [if_pos rfl,h2]
  rw [he]
  unfold V5
  rw [if_neg b8]
  cases t with
  | nil =>
   rw [if_pos (by simpa using h3)]
   unfold a8z
   rw [h4]
   simp only [Option.bind_some,h6,Option.map_some,Option.getD_some]
   rfl
  | cons z t =>
   rw [if_neg (by rw [h3,List.length_cons]; omega)]
   rfl
theorem b04 {fl:List Fi} (h:K5 fl=0) (pkg:Str):r4 (y7 fl).2.1 fl pkg=fl.filter fun f=>decide ((a3y f).map Src.pkg=some pkg):=by
 unfold r4
 refine List.filter_congr fun f hf=>?_
 rw [(b12 h).src f hf]
 cases a3y f <;> simp
theorem b2o {fl:List Fi} (h:K5 fl=0) {k:Int} (hk:k≠3) (pkg o:Str):occ (C6 k pkg o) fl=occ (C6 k pkg o) (r4 (y7 fl).2.1 fl pkg):=by
 rw [b04 h]
 clear h
 induction fl with
 | nil=>rfl
 | cons f fl ih =>
  rw [List.filter_cons]
  have e1:occ (C6 k pkg o) (f::fl)=b0H (C6 k pkg o) f++occ (C6 k pkg o) fl:=by simp [occ]
  by_cases hp:(a3y f).map Src.pkg=some pkg
  ·rw [if_pos (by simpa using hp),e1,ih]
   simp [occ]
  ·rw [if_neg (by simpa using hp),e1,ih]
   have:b0H (C6 k pkg o) f=[]:=by
    unfold b0H
    cases hs:a3y f with
    | none=>rfl
    | some x =>
     have hxp:x.pkg≠pkg:=fun e=>hp (by rw [hs,Option.map_some,e])
     simp only [List.map_eq_nil_iff,List.filter_eq_nil_iff,decide_eq_true_eq]
     intro d _ he
     simp only [deK,C6,Nm.mk.injEq] at he
     obtain ⟨e1,e2,e3⟩:=he
     rw [e1,if_neg hk] at e2
     exact hxp (by simpa [hk] using e2)
   rw [this,List.nil_append]
theorem a2d {n m:Nat} (hn:n < 256) (hm:m < 256) (h:UInt8.ofNat n=UInt8.ofNat m):n=m:=by
 have:=congrArg UInt8.toNat h
 rw [UInt8.toNat_ofNat',UInt8.toNat_ofNat'] at this
 have e1:n%2^8=n:=Nat.mod_eq_of_lt b8
 have e2:m%2^8=m:=Nat.mod_eq_of_lt b8
 omega
theorem b4y:∀ (n m:Nat) (r t:Str),V8 n++r=V8 m++t→n=m∧r=t:=fun n=>by
 induction n using Nat.strongRecOn with
 | ind n ih =>
  intro m r t h
  rw [S9 n,S9 m] at h
  split at h
  ·rename_i hn
   split at h
   ·rename_i hm
    simp only [List.cons_append,List.nil_append,List.cons.injEq] at h
    exact ⟨a2d b8 b8 h.1,h.2⟩
   ·rename_i hm
    simp only [List.cons_append,List.nil_append,List.cons.injEq] at h
    have:=a2d b8 b8 h.1
    omega
  ·rename_i hn
   split at h
   ·rename_i hm
    simp only [List.cons_append,List.nil_append,List.cons.injEq] at h
    have:=a2d b8 b8 h.1
    omega
   ·rename_i hm
    simp only [List.cons_append,List.cons.injEq] at h
    have h1:=a2d b8 b8 h.1
    obtain ⟨h2,h3⟩:=ih (n / 128) b8 (m / 128) r t h.2
    exact ⟨by omega,h3⟩
theorem b6N (n:Nat):V8 n≠[]:=by
 rw [S9]
 split <;> simp
def a1o (s:Str):Str:=V8 s.length++s
theorem a2R (l s:Str):P1 l s=l++a1o s:=by unfold P1 a1o; rw [List.append_assoc]
theorem a2I {s s' r r':Str} (h:a1o s++r=a1o s'++r'):s=s'∧r=r':=by
 unfold a1o at h
 rw [List.append_assoc,List.append_assoc] at h
 obtain ⟨h1,h2⟩:=b4y _ _ _ _ h
 exact List.append_inj h2 h1
theorem a4J (s:Str):a1o s≠[]:=fun h=>b6N _ (List.append_eq_nil_iff.1 h).1
theorem a5e:∀ (fs:List Fi) (l:Str),a3Q l fs=l++fs.flatMap fun f=>a1o f.p++a1o f.b
 | [],l=>by simp [a3Q]
 | f::fs,l=>by
  have:a3Q l (f::fs)=a3Q (P1 (P1 l f.p) f.b) fs:=rfl
  rw [this,a5e fs,a2R,a2R,List.flatMap_cons]
  simp
theorem a85:∀ {l m:List Fi},(l.flatMap fun f=>a1o f.p++a1o f.b)=(m.flatMap fun f=>a1o f.p++a1o f.b)→l=m
 | [],[],_=>rfl
 | [],f::m,h=>by
  rw [List.flatMap_cons,List.append_assoc] at h
  exact absurd (List.append_eq_nil_iff.1 h.symm).1 (a4J _)
 | f::l,[],h=>by
  rw [List.flatMap_cons,List.append_assoc] at h
  exact absurd (List.append_eq_nil_iff.1 h).1 (a4J _)
 | f::l,g::m,h=>by
  rw [List.flatMap_cons,List.flatMap_cons,List.append_assoc,List.append_assoc] at h
  obtain ⟨h1,h2⟩:=a2I h
  obtain ⟨h3,h4⟩:=a2I h2
  rw [a85 h4]
  congr 1
  cases f; cases g
  simp only at h1 h3
  rw [h1,h3]
theorem b0K {ms ms':SM} {fl fs:List Fi} {p:Str} (h:I2 ms fl p=I2 ms' fs p):r4 ms fl p=r4 ms' fs p:=by
 unfold I2 at h
 rw [a5e,a5e,List.nil_append,List.nil_append] at h
 exact a85 (List.append_cancel_left h)
theorem a5C (ms:SM) (fl:List Fi):∀ (N:List Str) (l:Str),a6h ms fl l N=l++N.flatMap fun s=>a1o s++a1o (I2 ms fl s)
 | [],l=>by simp [a6h]
 | s::N,l=>by
  have:a6h ms fl l (s::N)=a6h ms fl (P1 (P1 l s) (I2 ms fl s)) N:=rfl
  rw [this,a5C ms fl N,a2R,a2R,List.flatMap_cons]
  simp
theorem a8Q {g g':Str→Str}:∀ {l m:List Str},(l.flatMap fun s=>a1o s++a1o (g s))=(m.flatMap fun s=>a1o s++a1o (g' s))→l=m∧∀ s∈l,g s=g' s
 | [],[],_=>⟨rfl,fun s hs=>by simp at hs⟩
 | [],f::m,h=>by
  rw [List.flatMap_cons,List.append_assoc] at h
  exact absurd (List.append_eq_nil_iff.1 h.symm).1 (a4J _)
 | f::l,[],h=>by
  rw [List.flatMap_cons,List.append_assoc] at h
  exact absurd (List.append_eq_nil_iff.1 h).1 (a4J _)
 | x::l,y::m,h=>by
  rw [List.flatMap_cons,List.flatMap_cons,List.append_assoc,List.append_assoc] at h
  obtain ⟨h1,h2⟩:=a2I h
  obtain ⟨h3,h4⟩:=a2I h2
  obtain ⟨h5,h6⟩:=a8Q h4
  subst h1 h5
  exact ⟨rfl,fun s hs=>by
   rcases List.mem_cons.1 hs with rfl | hs
   ·exact h3
   ·exact h6 s hs⟩
theorem a9o (P:Str→Prop):∀ l:List Str,∃ N:List Str,N.Nodup∧∀ n,n∈N↔n∈l∧P n
 | []=>⟨[],by simp,fun n=>by simp⟩
 | x::l=>by
  obtain ⟨N,h1,h2⟩:=a9o P l
  by_cases hx:P x∧x∉N
  ·refine ⟨x::N,List.nodup_cons.2 ⟨hx.2,h1⟩,fun n=>?_⟩
   simp only [List.mem_cons,h2]
   constructor
   ·rintro (rfl | ⟨a,b⟩)
    ·exact ⟨.inl rfl,hx.1⟩
    ·exact ⟨.inr a,b⟩
   ·rintro ⟨rfl | a,b⟩
    ·exact .inl rfl
    ·exact .inr ⟨a,b⟩
  ·refine ⟨N,h1,fun n=>?_⟩
   rw [h2,List.mem_cons]
   constructor
   ·rintro ⟨a,b⟩
    exact ⟨.inr a,b⟩
   ·rintro ⟨rfl | a,b⟩
    ·exact (h2 n).1 (Classical.byContradiction fun h=>hx ⟨b,h⟩)
    ·exact ⟨a,b⟩
theorem a94 (ms:SM) (fl:List Fi) (pkg n:Str):n∈a2x ms fl pkg↔Reach ms fl pkg n:=by
 obtain ⟨N,h1,h2⟩:=a9o (Reach ms fl pkg) (pkg::allI ms fl)
 have h3:∀ n,n∈N↔Reach ms fl pkg n:=fun n=>(h2 n).trans ⟨fun h=>h.2,fun h=>⟨a8C h,h⟩⟩
 rw [a7f h1 h3,← h3]
 exact (List.mergeSort_perm N _).mem_iff
theorem b3g {ms ms':SM} {fl fs:List Fi} {p:Str} (h:a32 ms fl p=a32 ms' fs p):a2x ms fl p=a2x ms' fs p∧∀ s∈a2x ms fl p,I2 ms fl s=I2 ms' fs s:=by
 unfold a32 at h
 rw [a5C,a5C,List.nil_append,List.nil_append] at h
 exact a8Q (List.append_cancel_left h)
theorem b5w:∀ {l:List Fi} {pv:Option Fi},(∀ f∈l,J6 f.p=true∧f.b.length≤16384)→b2D l→(∀ g,pv=some g→∀ f∈l,Op.bytesLess g.p f.p=true)→rvE pv l=0
 | [],_,_,_,_=>rfl
 | f::l,pv,h,hs,hp=>by
  obtain ⟨h1,h2⟩:=List.pairwise_cons.1 hs
  have hf:=h f l7
  have e0:K6 pv f=0:=by
   unfold K6
   rw [if_neg (by rw [hf.1]; simp)]
   cases pv with
   | none =>
    rw [if_neg l7,if_neg l7,if_neg b8]
   | some g =>
    have hg:=hp g rfl f l7
    have hne:¬ f.p=g.p:=fun e=>by rw [e,a7x] at hg; cases hg
    have hnl:¬ Op.bytesLess f.p g.p=true:=fun e=>by
     have:=a48 hg e
     rw [a7x] at this; cases this
    rw [if_neg (by simpa using hne),if_neg (by simpa using hnl),if_neg b8]
  rw [rvE,if_pos e0]
  exact b5w (fun g hg=>h g (by simp [hg])) h2 fun g hg=>by injection hg with hg; subst hg; exact h1
theorem a9U:∀ s∈a0S,J6 s=true∧s.length≤1000:=by decide
theorem H5.valid {B:Nat} {fl:List Fi} (h:H5 B fl) (hB:B≤16384):K5 fl=0:=by
 have hl:=h.len
 unfold K5
 rw [if_neg b8]
 exact b5w (fun f hf=>⟨(a9U _ (h.pth f hf)).1,Nat.le_trans (h.byt f hf) hB⟩) h.srt fun g hg=>by cases hg
theorem H5.plen {B:Nat} {fl:List Fi} (h:H5 B fl):∀ f∈fl,f.p.length≤1000000000:=fun f hf=>by
 have:=(a9U _ (h.pth f hf)).2
 omega
theorem b0v {fl:List Fi} {ev:List Va} (h:K5 fl=0) (he:a3r ev=true) {k:Ky} (hk:N4 k=true):a0j fl ev k=some (G9 fl (y7 fl).2.1 (y7 fl).2.2 ev k):=by
 unfold a0j Q0
 rw [if_pos ⟨h,he,by simp [hk]⟩]
 rfl
theorem a9j {fl fs:List Fi} {ev:List Va} {p:Str} (h:G9 fl (y7 fl).2.1 (y7 fl).2.2 ev ⟨7,p,[]⟩=G9 fs (y7 fs).2.1 (y7 fs).2.2 ev ⟨7,p,[]⟩):G9 fl (y7 fl).2.1 (y7 fl).2.2 ev ⟨6,p,[]⟩=G9 fs (y7 fs).2.1 (y7 fs).2.2 ev ⟨6,p,[]⟩ :=
 (b3g h).2 p ((a94 _ _ _ _).2 .base)
theorem a9E {fl fs:List Fi} (hr:K5 fl=0) (hs:K5 fs=0) {ev:List Va} {p o:Str} {k:Int} (hk:k=1∨k=2) (h:G9 fl (y7 fl).2.1 (y7 fl).2.2 ev ⟨6,p,[]⟩=G9 fs (y7 fs).2.1 (y7 fs).2.2 ev ⟨6,p,[]⟩) :
 G9 fl (y7 fl).2.1 (y7 fl).2.2 ev ⟨k,p,o⟩=G9 fs (y7 fs).2.1 (y7 fs).2.2 ev ⟨k,p,o⟩:=by
 have h1:=b0K (show I2 _ _ _=I2 _ _ _ from h)
 have h2:∀ {f:List Fi},K5 f=0→G9 f (y7 f).2.1 (y7 f).2.2 ev ⟨k,p,o⟩=b81 (occ (C6 k p o) (r4 (y7 f).2.1 f p)):=fun {f} hf=>by
  rw [← b2o hf b8]
  rcases hk with rfl | rfl
  ·exact a66 hf 1 p o
  ·exact a66 hf 2 p o
 rw [h2 hr,h2 hs,h1]
theorem b7K:∀ f∈awF,f.p.length≤1000000000:=by decide
theorem b8s (σ:List c5):c4 CC 12 [.agg (w7 awF true),.agg (H6 [] false),CV.agg (Ky.cells ⟨4,[97,46,100,97,116],[]⟩)] σ fun r τ=>r = .ret (.tup [sv [61,45],.val (.int .i64 0)])∧τ=σ:=by
 have h:=a2H awF true b7K [] false l7 l7 l7 ⟨4,[97,46,100,97,116],[]⟩ ⟨by decide,by decide⟩ σ
 rw [aw1] at h; exact h
theorem b8M (σ:List c5):c4 CC 12 [.agg (w7 awF true),.agg (H6 [] false),CV.agg (Ky.cells ⟨2,[112],[116]⟩)] σ fun r τ=>r = .ret (.tup [sv [61,112,97,99,107,97,103,101,32,112,59,10,116,101,115,116,32,116,32,61,32,49,59,10],.val (.int .i64 0)])∧τ=σ:=by
 have h:=a2H awF true b7K [] false l7 l7 l7 ⟨2,[112],[116]⟩ ⟨by decide,by decide⟩ σ
 rw [aw2] at h; exact h
theorem b8o (σ:List c5):c4 CC 19 [.agg (w7 awF true),.agg (H6 [] false),.list ([(⟨4,[99],[]⟩:Ky)].map Ky.cv) true none,.list ([([45]:Str)].map scv) true none] σ fun r τ=>r = .ret (.tup [.val (.int .i64 (-1)),.val (.int .i64 0)])∧τ=σ:=by
 have h:=b5F awF true b7K [] false l7 l7 l7 [⟨4,[99],[]⟩] true l7 (fun x h=>by simp at h; subst h; exact ⟨by decide,by decide⟩) [[45]] true l7 σ
 rw [aw3] at h; exact h
set_option maxRecDepth 10000 in
theorem b5N  : c4 CC 21 [] [] fun r σ'=>r = .ret (.val (.bool (true)))∧σ'=[]:=by
 refine j8 (d5 Tryz.func21 rfl rfl ?_)
 refine a7 (a6 ?_)
 refine cY j1 ?_
 refine a8 (a7 (a6 ?_))
 refine cY b8O ?_; refine cY b8O ?_; refine cY (y9 (awF.map Fi.cv) rfl ⟨tt,tt,tt⟩ Tryz.runUnderlying30 Tryz.sizeOf57 Tryz.zeroValue57 rfl rfl rfl rfl rfl rfl rfl rfl rfl) ?_; refine cY (t6 #[(0,1)] rfl ⟨tt,tt⟩ Tryz.runUnderlying32 Tryz.zeroValue32 rfl ⟨_,rfl⟩ (fun w=>by kernel_rfl) rfl rfl) ?_
 refine cD (l5 rfl Tryz.zeroValue32 rfl j2 ?_)
 refine cD (i7 rfl tt tt rfl c6 Tryz.sizeOf32 j2 rfl rfl (nb rfl) ?_)
 refine a8 (a7 (a6 ?_))
 refine cY Q5 ?_; refine cY b7S ?_; refine cY b85 ?_; refine cY (i8 rfl Tryz.call12 ⟨tt,tt,tt,tt⟩ (by exact b8s _) rfl) ?_; refine cY b7 ?_; refine cY v7 ?_; refine cY v7 ?_; refine cY c7 ?_; refine cY c7 ?_
 refine a8 (a7 (a6 ?_))
 refine cY Q5 ?_; refine cY b7S ?_; refine cY (t6 #[(0,1),(1,1),(2,1)] rfl ⟨rfl,rfl,rfl,tt⟩ Tryz.runUnderlying39 Tryz.zeroValue39 rfl ⟨_,rfl⟩ (fun w=>by kernel_rfl) rfl rfl) ?_; refine cY (i8 rfl Tryz.call12 ⟨tt,tt,tt,tt⟩ (by exact b8M _) rfl) ?_; refine cY b7 ?_; refine cY v7 ?_; refine cY v7 ?_; refine cY c7 ?_; refine cY c7 ?_
 refine a8 (a7 (a6 ?_))
 refine cY Q5 ?_; refine cY b7S ?_; refine cY b85 ?_; refine cY (y9 ([(⟨4,[99],[]⟩:Ky)].map Ky.cv) rfl ⟨tt,tt⟩ Tryz.runUnderlying36 Tryz.sizeOf39 Tryz.zeroValue39 rfl rfl rfl rfl rfl rfl rfl rfl rfl) ?_; refine cY (y9 ([([45]:Str)].map scv) rfl ⟨rfl,tt⟩ Tryz.runUnderlying26 Tryz.sizeOf9 Tryz.zeroValue9 rfl rfl rfl rfl rfl rfl rfl rfl rfl) ?_; refine cY (i8 rfl Tryz.call19 ⟨tt,tt,tt,tt,tt⟩ (by exact b8o _) rfl) ?_; refine cY b7 ?_; refine cY v7 ?_; refine cY v7 ?_; refine cY c7 ?_; refine cY c7 ?_
 refine a8 (a7 (a6 ?_))
 refine cY b7 ?_; refine cY j9 ?_; refine cY b7 ?_; refine cG o5 ?_; refine cG C5 ?_; refine cY t8 ?_; refine cY b7 ?_; refine cG o5 ?_; refine cG C5 ?_; refine cY t8 ?_; refine cY b7 ?_; refine cG o5 ?_; refine cG a6S ?_; refine cY t8 ?_; refine cY b7 ?_; refine cG o5 ?_; refine cG a6S ?_; refine cY t8 ?_; refine cY b7 ?_; refine cG o5 ?_; refine cG C5 ?_; refine cY t8 ?_; refine cY c7 ?_
 refine a8 (c9 ?_)
 exact ⟨_,l9 rfl tt c6,_,_,rfl,rfl,m5 (by rfl)⟩
theorem b0w  (σ:List c5):c4 CC 21 [] σ fun r σ'=>r = .ret (.val (.bool (true)))∧σ'=σ :=
 c4.anyw hCC (by repeat' (first|exact .val _|exact d8 _ _|exact d6 _ _|exact r7 _ _|exact tt | refine d7 ?_ | refine d9 ?_ | refine ⟨?_,?_⟩)) (by repeat' (first|exact .val _|exact d8 _ _|exact d6 _ _|exact r7 _ _|exact tt | refine d7 ?_ | refine d9 ?_ | refine ⟨?_,?_⟩)) (b5N) σ
theorem b8v:∀ m:Nat,m < 3→([122]++a1n m++[46,115,114,99]:Str)∈a0S:=fun m hm=>by
 have h3:m=0∨m=1∨m=2:=by omega
 rcases h3 with rfl | rfl | rfl <;> rw [a2Y b8] <;> decide
set_option maxRecDepth 10000 in
set_option maxHeartbeats 3200000 in
theorem b4R (l:List Int) (nn:Bool) (k:Nat) (hat:k≤500000000) (hl:l.length≤maxLen) (B:Nat) (hB:6300≤B∧B≤1000000) (fl:List Fi) (hm:H5 B fl):c4 CC 22 [.ptr 0 0,(.agg (w7 fl (gnn fl.length)))] [o4 l nn k] fun r τ=>∃ a:List Fi × Nat,G8 1 τ r (.ret (.agg (w7 a.1 (gnn a.1.length)))) [o4 l nn a.2]∧(H5 (B+1240) a.1∧k≤a.2∧a.2≤k+1080):=by
 refine (d5 Tryz.func22 rfl rfl ?_)
 refine a7 (a6 ?_)
 refine cD (A4 rfl tt c6 j2 ?_)
 refine cD (l5 rfl Tryz.zeroValue32 rfl j2 ?_)
 refine a8 (a7 (a6 ?_))
 refine cY b7 ?_; refine cY (i8 rfl Tryz.call52 trivial (a2X _) rfl) ?_
 refine cD (j3 rfl Tryz.call17 ⟨tt,tt,tt⟩ (C3 l nn (k) _ 0 rfl b8 hl B7 j4 j4) rfl ?_)
 intro sp hsp
 have hspa:=b1z _ hsp
 have hml:=hm.len
 refine cY c7 ?_; refine a8 ?_; refine T5 hCC (α:=Nat) (fun _=>[(0,.ptr 0 0),(3,.ptr 1 0),(4,.ptr 2 0),(5,(sv (sp)))]) (fun p=>[o4 l nn (p),.box (w7 fl (gnn fl.length)),.box (w7 [] false)]) (fun p=>p=k+2) A5 (fun a ha=>by repeat' (first|exact tt|exact .val _|exact .ptr (nb rfl)|exact .map (nb rfl)|exact z7 _ _ _|exact N3 _ _ _ _|exact k8 _ _ _ | refine l2 ?_ | refine ⟨?_,?_⟩)) ?_ ?_
 ·
  refine a7 (a6 ?_)
  refine cY b7 ?_
  refine cD (j3 rfl Tryz.call18 ⟨tt,rfl,tt⟩ (F9 l nn (k+1) _ 0 rfl b8 hl 9 b8) rfl ?_)
  intro _ _
  refine a8 (d4 (a7 (a6 ?_)))
  refine cY j9 ?_; refine cY c7 ?_; refine a8 ?_
  refine b9 tt rfl (fun h1=>?_) (fun h1=>?_)
  ·skip
   refine a7 ?_; refine v8 [0,1,2,4,3,5,6,7,8] 4 [0,0,0,6,0,30,62,127,255] [[0,3],[0],[0],[],[]] (hd1l:=[0,1,2,4]) (tll:=[(3,[0,3]),(5,[0]),(6,[0]),(7,[]),(8,[])]) j6 j6 rfl rfl rfl ?_; refine chf rfl a0F ?_; refine chf rfl x8 ?_; refine chf rfl (k7 rfl b8V) ?_; refine chf rfl x8 ?_; refine y0 ?_
   refine u0 rfl rfl (j3 rfl Tryz.call17 ⟨tt,tt,tt⟩ (C3 l nn (k+2) _ 0 rfl b8 hl W2 j4 j4) rfl ?_)
   intro v hv
   refine ⟨⟨Q1,A0,tt⟩,?_⟩
   refine u0 rfl rfl (j3 rfl Tryz.call54 ⟨tt,tt⟩ (b1B l nn (k+3) b8 hl _ 0 rfl) rfl ?_)
   intro ⟨s,p4⟩ ⟨hs,hq1,hq2⟩
   dsimp only at hs hq1 hq2 ⊢
   refine ⟨⟨Q1,tt⟩,?_⟩
   refine w6 rfl a8U ⟨⟨Q1,tt⟩,?_⟩
   refine w6 rfl (k7 rfl (i8 rfl Tryz.call53 ⟨tt,tt,tt⟩ (N8 fl _ ⟨v,s⟩ b8 _) rfl)) ⟨tt,?_⟩
   refine u0 rfl rfl (i7 rfl tt tt rfl c6 Tryz.sizeOf32 j2 rfl rfl (nb rfl) ?_)
   refine ⟨tt,?_⟩
   refine A8 (c9 ?_)
   exact ⟨_,B5 rfl ⟨tt,_,_,_,rfl,rfl,.inr ⟨_,Tryz.isAgg32,Tryz.sizeOf32,nb rfl,rfl⟩⟩,⟨(a1q fl ⟨v,s⟩,p4),P0 rfl A6 (.old (J0 _ _).old),(hm.mono b8).ins (b09 _ hv) R8,by dsimp only; omega,by dsimp only; omega⟩⟩
  ·skip
   refine a7 (a6 ?_)
   refine cY j9 ?_; refine cY c7 ?_; refine a8 ?_
   refine b9 tt rfl (fun h2=>?_) (fun h2=>?_)
   ·skip
    refine a7 ?_; refine v8 [0,1,2,3,4,5] 3 [0,0,0,6,15,31] [[0],[],[]] (hd1l:=[0,1,2]) (tll:=[(3,[0]),(4,[]),(5,[])]) j6 j6 rfl rfl rfl ?_; refine chf rfl a0F ?_; refine chf rfl x8 ?_; refine chf rfl (k7 rfl (y9 (([[97,46,100,97,116],[100,47,98,46,100,97,116],[99],[97,46,115,114,99],[98,46,115,114,99]]:List Str).map scv) rfl ⟨rfl,rfl,rfl,rfl,rfl,tt⟩ Tryz.runUnderlying26 Tryz.sizeOf9 Tryz.zeroValue9 rfl rfl rfl rfl rfl rfl rfl rfl rfl)) ?_; refine y0 ?_
    refine u0 rfl rfl (j3 rfl Tryz.call17 ⟨tt,tt,tt⟩ (C3 l nn (k+2) _ 0 rfl b8 hl ([[97,46,100,97,116],[100,47,98,46,100,97,116],[99],[97,46,115,114,99],[98,46,115,114,99]]:List Str) j4 j4) rfl ?_)
    intro v hv
    refine ⟨⟨Q1,tt⟩,?_⟩
    refine w6 rfl (k7 rfl (i8 rfl Tryz.call55 ⟨tt,tt,tt⟩ (a6P fl _ v b8 _) rfl)) ⟨tt,?_⟩
    refine u0 rfl rfl (i7 rfl tt tt rfl c6 Tryz.sizeOf32 j2 rfl rfl (nb rfl) ?_)
    refine ⟨tt,?_⟩
    refine A8 (c9 ?_)
    exact ⟨_,B5 rfl ⟨tt,_,_,_,rfl,rfl,.inr ⟨_,Tryz.isAgg32,Tryz.sizeOf32,nb rfl,rfl⟩⟩,⟨(a1N fl v,k+3),P0 rfl A6 (.old (J0 _ _).old),(hm.mono b8).rem v,by dsimp only; omega,by dsimp only; omega⟩⟩
   ·skip
    refine a7 (a6 ?_)
    refine cY j9 ?_; refine cY c7 ?_; refine a8 ?_
    refine b9 tt rfl (fun h3=>?_) (fun h3=>?_)
    ·skip
     refine a7 ?_; refine v8 [0,1,2,3,4,5,6,7,8,9] 5 [0,0,0,0,0,24,60,126,255,511] [[0,1,2],[0,1],[0],[],[]] (hd1l:=[0,1,2,3,4]) (tll:=[(5,[0,1,2]),(6,[0,1]),(7,[0]),(8,[]),(9,[])]) j6 j6 rfl rfl rfl ?_; refine chf rfl a0F ?_; refine chf rfl x8 ?_; refine chf rfl x8 ?_; refine chf rfl x8 ?_; refine chf rfl b3L ?_; refine y0 ?_
     refine u0 rfl rfl (j3 rfl Tryz.call17 ⟨tt,tt,tt⟩ (C3 l nn (k+2) _ 0 rfl b8 hl r8 j4 j4) rfl ?_)
     intro v hv
     have hv8:v.length≤8:=J4 (.inl hv)
     refine ⟨⟨Q1,A0,A0,tt⟩,?_⟩
     refine u0 rfl rfl (j3 rfl Tryz.call56 ⟨tt,tt,tt⟩ (a3W l nn (k+3) b8 hl v hv8 _ 0 rfl) rfl ?_)
     intro ⟨s,p4⟩ ⟨hs,hq1,hq2⟩
     dsimp only at hs hq1 hq2 ⊢
     refine ⟨⟨Q1,A0,tt⟩,?_⟩
     refine w6 rfl a8U ⟨⟨Q1,tt⟩,?_⟩
     refine w6 rfl (k7 rfl (i8 rfl Tryz.call53 ⟨tt,tt,tt⟩ (N8 fl _ ⟨sp,s⟩ b8 _) rfl)) ⟨tt,?_⟩
     refine u0 rfl rfl (i7 rfl tt tt rfl c6 Tryz.sizeOf32 j2 rfl rfl (nb rfl) ?_)
     refine ⟨tt,?_⟩
     refine A8 (c9 ?_)
     exact ⟨_,B5 rfl ⟨tt,_,_,_,rfl,rfl,.inr ⟨_,Tryz.isAgg32,Tryz.sizeOf32,nb rfl,rfl⟩⟩,⟨(a1q fl ⟨sp,s⟩,p4),P0 rfl A6 (.old (J0 _ _).old),(hm.mono b8).ins (hspa) R8,by dsimp only; omega,by dsimp only; omega⟩⟩
    ·skip
     refine a7 (a6 ?_)
     refine cY j9 ?_; refine cY c7 ?_; refine a8 ?_
     refine b9 tt rfl (fun h4=>?_) (fun h4=>?_)
     ·skip
      refine a7 (a6 ?_)
      refine cY O4 ?_; refine cY V7 ?_; refine cY a3I ?_; refine cY A7 ?_
      refine a8 (d4 ?_)
      refine p9 hCC (fun i:Nat=>[(0,.ptr 0 0),(3,.ptr 1 0),(4,.ptr 2 0),(5,(sv (sp))),(50,(.list (fl.map Fi.cv) (gnn fl.length) none)),(51,(.val (.int .i64 ((fl.length:Int))))),(52,(.val (.int .i64 ((i:Int)))))]) (fun _=>[o4 l nn (k+2),.box (w7 fl (gnn fl.length)),.box (w7 [] false)]) (fun i=>i≤fl.length) (fun i=>fl.length - i) 0 (Nat.zero_le _) ⟨⟨tt,rfl⟩,⟨tt,rfl⟩,⟨tt,rfl⟩,⟨tt,rfl⟩,⟨tt,rfl⟩,⟨tt,rfl⟩,⟨tt,rfl⟩,tt⟩ (extra0:=[]) rfl A5 (fun a ha=>by repeat' (first|exact tt|exact .val _|exact .ptr (nb rfl)|exact .map (nb rfl)|exact z7 _ _ _|exact N3 _ _ _ _|exact k8 _ _ _ | refine l2 ?_ | refine ⟨?_,?_⟩)) ?_; intro i hi
      refine a7 (a6 ?_)
      refine cY r9 ?_
      refine a8 (a7 ?_)
      refine b9 tt rfl (fun h5=>?_) (fun h5=>?_)
      ·have hlt:i < fl.length:=by simp at h5; omega
       obtain ⟨y,hb,hym⟩:=X2 hlt
       have hyb:=hm.byt y hym
       refine c8 (a7 (d4 (a7 (a6 ?_))))
       refine cY a5l ?_; refine cY a1c ?_
       refine cD (l5 rfl Tryz.zeroValue57 rfl j2 ?_)
       refine cD (i7 rfl tt tt rfl c6 Tryz.sizeOf57 j2 rfl rfl (nb rfl) ?_)
       refine a8 (a7 (a6 ?_))
       refine cY O5 ?_; refine cY s7 ?_; refine cY b7 ?_; refine cY a3e ?_; refine a8 ?_
       refine b9 tt rfl (fun h6=>?_) (fun h6=>?_)
       ·have hrl:(a1N fl sp).length≤fl.length:=List.length_filter_le _ _
        have hb3:=a0N (l:=l) (k:=k+2) (n:=3) b8
        obtain ⟨m,hmm⟩:∃ m:Nat,I8 l (k+2) 3=(m:Int):=⟨(I8 l (k+2) 3).toNat,by omega⟩
        have hm3:m < 3:=by omega
        have hzp:=b8v m hm3
        have hdl:=X7 0 m b8
        refine a7 ?_; refine v8 [0,1,2,3,8,9,4,5,6,7,10,11,12] 6 [0,0,3,0,15,31,63,127,0,256,1023,2047,4095] [[4,5],[4,5],[4,5],[4,5],[],[],[]] (hd1l:=[0,1,2,3,8,9]) (tll:=[(4,[4,5]),(5,[4,5]),(6,[4,5]),(7,[4,5]),(10,[]),(11,[]),(12,[])]) j6 j6 rfl rfl rfl ?_; refine chf rfl a0F ?_; refine chf rfl x8 ?_; refine chf rfl (k7 rfl (i8 rfl Tryz.call55 ⟨tt,tt,tt⟩ (a6P fl _ sp b8 _) rfl)) ?_; refine chf rfl x8 ?_; refine chf rfl b4J ?_; refine chf rfl a6n ?_; refine y0 ?_
        refine u0 rfl rfl (j3 rfl Tryz.call18 ⟨tt,rfl,tt⟩ (F9 l nn (k+2) _ 0 rfl b8 hl 3 b8) rfl ?_)
        intro _ _
        rw [hmm]
        refine ⟨⟨a6a,a1x,tt⟩,?_⟩
        refine w6 rfl (k7 rfl b11) ⟨⟨a6a,a1x,tt⟩,?_⟩
        refine w6 rfl (k7 rfl R6) ⟨⟨a6a,a1x,tt⟩,?_⟩
        refine w6 rfl b10 ⟨⟨a6a,a1x,tt⟩,?_⟩
        refine w6 rfl a8U ⟨tt,?_⟩
        refine w6 rfl (k7 rfl (i8 rfl Tryz.call53 ⟨tt,tt,tt⟩ (N8 (a1N fl sp) _ ⟨[122]++a1n m++[46,115,114,99],y.b⟩ b8 _) rfl)) ⟨tt,?_⟩
        refine u0 rfl rfl (i7 rfl tt tt rfl c6 Tryz.sizeOf32 j2 rfl rfl (nb rfl) ?_)
        refine ⟨tt,?_⟩
        refine A8 (c9 ?_)
        exact ⟨_,B5 rfl ⟨tt,_,_,_,rfl,rfl,.inr ⟨_,Tryz.isAgg32,Tryz.sizeOf32,nb rfl,rfl⟩⟩,⟨(a1q (a1N fl sp) ⟨[122]++a1n m++[46,115,114,99],y.b⟩,k+3),P0 rfl A6 (.old (J0 _ _).old),((hm.mono b8).rem sp).ins hzp R8,by dsimp only; omega,by dsimp only; omega⟩⟩
       ·skip
        refine c8 (a6 ?_)
        refine cY m9 ?_; refine cY b7 ?_; refine a8 ?_
        exact ⟨(i+1),_,⟨by omega,by omega⟩,⟨⟨tt,rfl⟩,⟨tt,rfl⟩,⟨tt,rfl⟩,⟨tt,rfl⟩,⟨tt,rfl⟩,⟨tt,rfl⟩,⟨tt,rfl⟩,tt⟩,rfl⟩
      ·skip
       refine m4 ?_
       exact ⟨(k+2),_,rfl,⟨⟨tt,rfl⟩,⟨tt,rfl⟩,⟨tt,rfl⟩,⟨tt,rfl⟩,tt⟩,rfl⟩
     ·skip
      refine a7 (a6 ?_)
      refine cY j9 ?_; refine cY c7 ?_; refine a8 ?_
      refine b9 tt rfl (fun h7=>?_) (fun h7=>?_)
      ·skip
       refine a7 (a6 ?_)
       refine cY O4 ?_; refine cY V7 ?_; refine cY a3I ?_; refine cY A7 ?_
       refine a8 (d4 ?_)
       refine p9 hCC (fun i:Nat=>[(0,.ptr 0 0),(3,.ptr 1 0),(4,.ptr 2 0),(5,(sv (sp))),(76,(.list (fl.map Fi.cv) (gnn fl.length) none)),(77,(.val (.int .i64 ((fl.length:Int))))),(78,(.val (.int .i64 ((i:Int)))))]) (fun _=>[o4 l nn (k+2),.box (w7 fl (gnn fl.length)),.box (w7 [] false)]) (fun i=>i≤fl.length) (fun i=>fl.length - i) 0 (Nat.zero_le _) ⟨⟨tt,rfl⟩,⟨tt,rfl⟩,⟨tt,rfl⟩,⟨tt,rfl⟩,⟨tt,rfl⟩,⟨tt,rfl⟩,⟨tt,rfl⟩,tt⟩ (extra0:=[]) rfl A5 (fun a ha=>by repeat' (first|exact tt|exact .val _|exact .ptr (nb rfl)|exact .map (nb rfl)|exact z7 _ _ _|exact N3 _ _ _ _|exact k8 _ _ _ | refine l2 ?_ | refine ⟨?_,?_⟩)) ?_; intro i hi
       refine a7 (a6 ?_)
       refine cY r9 ?_
       refine a8 (a7 ?_)
       refine b9 tt rfl (fun h8=>?_) (fun h8=>?_)
       ·have hlt:i < fl.length:=by simp at h8; omega
        obtain ⟨y,hb,hym⟩:=X2 hlt
        have hyb:=hm.byt y hym
        refine c8 (a7 (d4 (a7 (a6 ?_))))
        refine cY a5l ?_; refine cY a1c ?_
        refine cD (l5 rfl Tryz.zeroValue57 rfl j2 ?_)
        refine cD (i7 rfl tt tt rfl c6 Tryz.sizeOf57 j2 rfl rfl (nb rfl) ?_)
        refine a8 (a7 (a6 ?_))
        refine cY O5 ?_; refine cY s7 ?_; refine cY b7 ?_; refine cY a3e ?_; refine a8 ?_
        refine b9 tt rfl (fun h9=>?_) (fun h9=>?_)
        ·have hb3:=a0N (l:=l) (k:=k+2) (n:=100) b8
         obtain ⟨m,hmm⟩:∃ m:Nat,I8 l (k+2) 100=(m:Int):=⟨(I8 l (k+2) 100).toNat,by omega⟩
         have hm3:m < 100:=by omega
         have hdl:=X7 1 m b8
         refine a7 ?_; refine v8 [0,1,2,7,8,3,4,5,6,9,10,11,12] 5 [0,0,0,4,12,28,60,0,128,508,1022,2047,4095] [[0,1,3,4],[0,1,3,4],[0,1,3,4],[0,1,3,4],[0,1],[0],[],[]] (hd1l:=[0,1,2,7,8]) (tll:=[(3,[0,1,3,4]),(4,[0,1,3,4]),(5,[0,1,3,4]),(6,[0,1,3,4]),(9,[0,1]),(10,[0]),(11,[]),(12,[])]) j6 j6 rfl rfl rfl ?_; refine chf rfl a0F ?_; refine chf rfl x8 ?_; refine chf rfl x8 ?_; refine chf rfl b4J ?_; refine chf rfl a6n ?_; refine y0 ?_
         refine u0 rfl rfl (j3 rfl Tryz.call18 ⟨tt,rfl,tt⟩ (F9 l nn (k+2) _ 0 rfl b8 hl 100 b8) rfl ?_)
         intro _ _
         rw [hmm]
         refine ⟨⟨Q1,A0,a6a,a1x,tt⟩,?_⟩
         refine w6 rfl (k7 rfl b11) ⟨⟨Q1,A0,a6a,a1x,tt⟩,?_⟩
         refine w6 rfl (k7 rfl R6) ⟨⟨Q1,A0,a6a,a1x,tt⟩,?_⟩
         refine w6 rfl b10 ⟨⟨Q1,A0,a6a,a1x,tt⟩,?_⟩
         refine w6 rfl a8Z ⟨⟨Q1,A0,tt⟩,?_⟩
         refine w6 rfl a8U ⟨⟨Q1,tt⟩,?_⟩
         refine w6 rfl (k7 rfl (i8 rfl Tryz.call53 ⟨tt,tt,tt⟩ (N8 fl _ ⟨sp,[35,32]++a1n m++[10,32,32]++y.b⟩ b8 _) rfl)) ⟨tt,?_⟩
         refine u0 rfl rfl (i7 rfl tt tt rfl c6 Tryz.sizeOf32 j2 rfl rfl (nb rfl) ?_)
         refine ⟨tt,?_⟩
         refine A8 (c9 ?_)
         exact ⟨_,B5 rfl ⟨tt,_,_,_,rfl,rfl,.inr ⟨_,Tryz.isAgg32,Tryz.sizeOf32,nb rfl,rfl⟩⟩,⟨(a1q fl ⟨sp,[35,32]++a1n m++[10,32,32]++y.b⟩,k+3),P0 rfl A6 (.old (J0 _ _).old),(hm.mono b8).ins (hspa) a0K,by dsimp only; omega,by dsimp only; omega⟩⟩
        ·skip
         refine c8 (a6 ?_)
         refine cY m9 ?_; refine cY b7 ?_; refine a8 ?_
         exact ⟨(i+1),_,⟨by omega,by omega⟩,⟨⟨tt,rfl⟩,⟨tt,rfl⟩,⟨tt,rfl⟩,⟨tt,rfl⟩,⟨tt,rfl⟩,⟨tt,rfl⟩,⟨tt,rfl⟩,tt⟩,rfl⟩
       ·skip
        refine m4 ?_
        exact ⟨(k+2),_,rfl,⟨⟨tt,rfl⟩,⟨tt,rfl⟩,⟨tt,rfl⟩,⟨tt,rfl⟩,tt⟩,rfl⟩
      ·skip
       refine a7 (a6 ?_)
       refine cY j9 ?_; refine cY c7 ?_; refine a8 ?_
       refine b9 tt rfl (fun h10=>?_) (fun h10=>?_)
       ·skip
        refine a7 (a6 ?_)
        refine cY O4 ?_; refine cY V7 ?_; refine cY a3I ?_; refine cY A7 ?_
        refine a8 (d4 ?_)
        refine p9 hCC (fun i:Nat=>[(0,.ptr 0 0),(3,.ptr 1 0),(4,.ptr 2 0),(5,(sv (sp))),(102,(.list (fl.map Fi.cv) (gnn fl.length) none)),(103,(.val (.int .i64 ((fl.length:Int))))),(104,(.val (.int .i64 ((i:Int)))))]) (fun _=>[o4 l nn (k+2),.box (w7 fl (gnn fl.length)),.box (w7 [] false)]) (fun i=>i≤fl.length) (fun i=>fl.length - i) 0 (Nat.zero_le _) ⟨⟨tt,rfl⟩,⟨tt,rfl⟩,⟨tt,rfl⟩,⟨tt,rfl⟩,⟨tt,rfl⟩,⟨tt,rfl⟩,⟨tt,rfl⟩,tt⟩ (extra0:=[]) rfl A5 (fun a ha=>by repeat' (first|exact tt|exact .val _|exact .ptr (nb rfl)|exact .map (nb rfl)|exact z7 _ _ _|exact N3 _ _ _ _|exact k8 _ _ _ | refine l2 ?_ | refine ⟨?_,?_⟩)) ?_; intro i hi
        refine a7 (a6 ?_)
        refine cY r9 ?_
        refine a8 (a7 ?_)
        refine b9 tt rfl (fun h11=>?_) (fun h11=>?_)
        ·have hlt:i < fl.length:=by simp at h11; omega
         obtain ⟨y,hb,hym⟩:=X2 hlt
         have hyb:=hm.byt y hym
         refine c8 (a7 (d4 (a7 (a6 ?_))))
         refine cY a5l ?_; refine cY a1c ?_
         refine cD (l5 rfl Tryz.zeroValue57 rfl j2 ?_)
         refine cD (i7 rfl tt tt rfl c6 Tryz.sizeOf57 j2 rfl rfl (nb rfl) ?_)
         refine a8 (a7 (a6 ?_))
         refine cY O5 ?_; refine cY s7 ?_; refine cY b7 ?_; refine cY a3e ?_; refine a8 ?_
         refine b9 tt rfl (fun h12=>?_) (fun h12=>?_)
         ·skip
          refine a7 (a6 ?_)
          refine cY Q5 ?_; refine cY b7 ?_; refine cY O5 ?_; refine cY s7 ?_; refine cY J5 ?_; refine cY (t6 #[(0,1),(1,1)] rfl ⟨tt,tt,tt⟩ Tryz.runUnderlying57 Tryz.zeroValue57 rfl ⟨_,rfl⟩ (fun w=>by kernel_rfl) rfl rfl) ?_; refine cY (i8 rfl Tryz.call53 ⟨tt,tt,tt⟩ (N8 fl _ ⟨sp,y.b++[102,117,110,99]⟩ b8 _) rfl) ?_
          refine cD (i7 rfl tt tt rfl c6 Tryz.sizeOf32 j2 rfl rfl (nb rfl) ?_)
          refine a8 (c9 ?_)
          exact ⟨_,B5 rfl ⟨tt,_,_,_,rfl,rfl,.inr ⟨_,Tryz.isAgg32,Tryz.sizeOf32,nb rfl,rfl⟩⟩,⟨(a1q fl ⟨sp,y.b++[102,117,110,99]⟩,k+2),P0 rfl A6 (.old (J0 _ _).old),(hm.mono b8).ins (hspa) a0K,by dsimp only; omega,by dsimp only; omega⟩⟩
         ·skip
          refine c8 (a6 ?_)
          refine cY m9 ?_; refine cY b7 ?_; refine a8 ?_
          exact ⟨(i+1),_,⟨by omega,by omega⟩,⟨⟨tt,rfl⟩,⟨tt,rfl⟩,⟨tt,rfl⟩,⟨tt,rfl⟩,⟨tt,rfl⟩,⟨tt,rfl⟩,⟨tt,rfl⟩,tt⟩,rfl⟩
        ·skip
         refine m4 ?_
         exact ⟨(k+2),_,rfl,⟨⟨tt,rfl⟩,⟨tt,rfl⟩,⟨tt,rfl⟩,⟨tt,rfl⟩,tt⟩,rfl⟩
       ·skip
        refine c8 ?_
        exact ⟨(k+2),_,rfl,⟨⟨tt,rfl⟩,⟨tt,rfl⟩,⟨tt,rfl⟩,⟨tt,rfl⟩,tt⟩,rfl⟩
 ·intro p hp; subst hp; refine T5 hCC (α:=Nat) (fun _=>[(0,.ptr 0 0),(3,.ptr 1 0),(4,.ptr 2 0),(5,(sv (sp)))]) (fun p=>[o4 l nn (p),.box (w7 fl (gnn fl.length)),.box (w7 [] false)]) (fun p=>p=k+2) A5 (fun a ha=>by repeat' (first|exact tt|exact .val _|exact .ptr (nb rfl)|exact .map (nb rfl)|exact z7 _ _ _|exact N3 _ _ _ _|exact k8 _ _ _ | refine l2 ?_ | refine ⟨?_,?_⟩)) ?_ ?_
  ·
   refine a7 (a6 ?_)
   refine cY O4 ?_; refine cY V7 ?_; refine cY a3I ?_; refine cY A7 ?_
   refine a8 (d4 ?_)
   refine p9 hCC (fun i:Nat=>[(0,.ptr 0 0),(3,.ptr 1 0),(4,.ptr 2 0),(5,(sv (sp))),(121,(.list (fl.map Fi.cv) (gnn fl.length) none)),(122,(.val (.int .i64 ((fl.length:Int))))),(123,(.val (.int .i64 ((i:Int)))))]) (fun _=>[o4 l nn (k+2),.box (w7 fl (gnn fl.length)),.box (w7 [] false)]) (fun i=>i≤fl.length) (fun i=>fl.length - i) 0 (Nat.zero_le _) ⟨⟨tt,rfl⟩,⟨tt,rfl⟩,⟨tt,rfl⟩,⟨tt,rfl⟩,⟨tt,rfl⟩,⟨tt,rfl⟩,⟨tt,rfl⟩,tt⟩ (extra0:=[]) rfl A5 (fun a ha=>by repeat' (first|exact tt|exact .val _|exact .ptr (nb rfl)|exact .map (nb rfl)|exact z7 _ _ _|exact N3 _ _ _ _|exact k8 _ _ _ | refine l2 ?_ | refine ⟨?_,?_⟩)) ?_; intro i hi
   refine a7 (a6 ?_)
   refine cY r9 ?_
   refine a8 (a7 ?_)
   refine b9 tt rfl (fun h13=>?_) (fun h13=>?_)
   ·have hlt:i < fl.length:=by simp at h13; omega
    obtain ⟨y,hb,hym⟩:=X2 hlt
    have hyb:=hm.byt y hym
    refine c8 (a7 (d4 (a7 (a6 ?_))))
    refine cY a5l ?_; refine cY a1c ?_
    refine cD (l5 rfl Tryz.zeroValue57 rfl j2 ?_)
    refine cD (i7 rfl tt tt rfl c6 Tryz.sizeOf57 j2 rfl rfl (nb rfl) ?_)
    refine a8 (a7 (a6 ?_))
    refine cY O5 ?_; refine cY s7 ?_; refine cY b7 ?_; refine cY a3e ?_; refine a8 ?_
    refine b9 tt rfl (fun h14=>?_) (fun h14=>?_)
    ·skip
     refine a7 ?_; refine v8 [0,1,2,3,4,5,6,7,8,9] 5 [0,0,0,4,0,16,60,126,255,511] [[0,1,2,3],[0,1],[0],[],[]] (hd1l:=[0,1,2,3,4]) (tll:=[(5,[0,1,2,3]),(6,[0,1]),(7,[0]),(8,[]),(9,[])]) j6 j6 rfl rfl rfl ?_; refine chf rfl a0F ?_; refine chf rfl x8 ?_; refine chf rfl b4J ?_; refine chf rfl a6n ?_; refine chf rfl x8 ?_; refine y0 ?_
     refine u0 rfl rfl (j3 rfl Tryz.call58 ⟨tt,tt⟩ (b15 l nn (k+2) b8 hl _ 0 rfl) rfl ?_)
     intro ⟨s,p4⟩ ⟨hs,hq1,hq2⟩
     dsimp only at hs hq1 hq2 ⊢
     refine ⟨⟨Q1,A0,a6a,a1x,tt⟩,?_⟩
     refine w6 rfl a8Z ⟨⟨Q1,A0,tt⟩,?_⟩
     refine w6 rfl a8U ⟨⟨Q1,tt⟩,?_⟩
     refine w6 rfl (k7 rfl (i8 rfl Tryz.call53 ⟨tt,tt,tt⟩ (N8 fl _ ⟨sp,y.b++s⟩ b8 _) rfl)) ⟨tt,?_⟩
     refine u0 rfl rfl (i7 rfl tt tt rfl c6 Tryz.sizeOf32 j2 rfl rfl (nb rfl) ?_)
     refine ⟨tt,?_⟩
     refine A8 (c9 ?_)
     exact ⟨_,B5 rfl ⟨tt,_,_,_,rfl,rfl,.inr ⟨_,Tryz.isAgg32,Tryz.sizeOf32,nb rfl,rfl⟩⟩,⟨(a1q fl ⟨sp,y.b++s⟩,p4),P0 rfl A6 (.old (J0 _ _).old),(hm.mono b8).ins (hspa) a0K,by dsimp only; omega,by dsimp only; omega⟩⟩
    ·skip
     refine c8 (a6 ?_)
     refine cY m9 ?_; refine cY b7 ?_; refine a8 ?_
     exact ⟨(i+1),_,⟨by omega,by omega⟩,⟨⟨tt,rfl⟩,⟨tt,rfl⟩,⟨tt,rfl⟩,⟨tt,rfl⟩,⟨tt,rfl⟩,⟨tt,rfl⟩,⟨tt,rfl⟩,tt⟩,rfl⟩
   ·skip
    refine m4 ?_
    exact ⟨(k+2),_,rfl,⟨⟨tt,rfl⟩,⟨tt,rfl⟩,⟨tt,rfl⟩,⟨tt,rfl⟩,tt⟩,rfl⟩
  ·intro p hp; subst hp; refine a7 ?_; refine v8 [0,1,2,3,4,5,6,7,8,9] 5 [0,0,0,0,0,24,60,126,255,511] [[0,1,2],[0,1],[0],[],[]] (hd1l:=[0,1,2,3,4]) (tll:=[(5,[0,1,2]),(6,[0,1]),(7,[0]),(8,[]),(9,[])]) j6 j6 rfl rfl rfl ?_; refine chf rfl a0F ?_; refine chf rfl x8 ?_; refine chf rfl x8 ?_; refine chf rfl x8 ?_; refine chf rfl b3L ?_; refine y0 ?_
   refine u0 rfl rfl (j3 rfl Tryz.call17 ⟨tt,tt,tt⟩ (C3 l nn (k+2) _ 0 rfl b8 hl r8 j4 j4) rfl ?_)
   intro v hv
   have hv8:v.length≤8:=J4 (.inl hv)
   refine ⟨⟨Q1,A0,A0,tt⟩,?_⟩
   refine u0 rfl rfl (j3 rfl Tryz.call56 ⟨tt,tt,tt⟩ (a3W l nn (k+3) b8 hl v hv8 _ 0 rfl) rfl ?_)
   intro ⟨s,p4⟩ ⟨hs,hq1,hq2⟩
   dsimp only at hs hq1 hq2 ⊢
   refine ⟨⟨Q1,A0,tt⟩,?_⟩
   refine w6 rfl a8U ⟨⟨Q1,tt⟩,?_⟩
   refine w6 rfl (k7 rfl (i8 rfl Tryz.call53 ⟨tt,tt,tt⟩ (N8 fl _ ⟨sp,s⟩ b8 _) rfl)) ⟨tt,?_⟩
   refine u0 rfl rfl (i7 rfl tt tt rfl c6 Tryz.sizeOf32 j2 rfl rfl (nb rfl) ?_)
   refine ⟨tt,?_⟩
   refine A8 (c9 ?_)
   exact ⟨_,B5 rfl ⟨tt,_,_,_,rfl,rfl,.inr ⟨_,Tryz.isAgg32,Tryz.sizeOf32,nb rfl,rfl⟩⟩,⟨(a1q fl ⟨sp,s⟩,p4),P0 rfl A6 (.old (J0 _ _).old),(hm.mono b8).ins (hspa) R8,by dsimp only; omega,by dsimp only; omega⟩⟩
theorem b1L (l:List Int) (nn:Bool) (k:Nat) (hat:k≤500000000) (hl:l.length≤maxLen) (B:Nat) (hB:6300≤B∧B≤1000000) (fl:List Fi) (hm:H5 B fl) (σ:List c5) (q:Nat) (hq:σ[q]? = some (o4 l nn k)):c4 CC 22 [.ptr q 0,(.agg (w7 fl (gnn fl.length)))] σ fun r τ=>∃ a:List Fi × Nat,r = .ret (.agg (w7 a.1 (gnn a.1.length)))∧τ=σ.set q (o4 l nn a.2)∧(H5 (B+1240) a.1∧k≤a.2∧a.2≤k+1080) :=
 a3n (c:=fun a:List Fi × Nat=>(.agg (w7 a.1 (gnn a.1.length)))) (S:=fun a=>o4 l nn a.2) hCC (fun a h=>by simp at h; subst h; exact J0 _ _) (fun _=>J0 _ _) (fun _=>B0 _ _ _) (B0 _ _ _) rfl (b4R l nn k hat hl B hB fl hm) σ q hq
end Go.Proofs.YtoblbdedgjfeaaaGreatDoor
