/- Part 7 of what the claim needs: values without addresses, and what the program's functions do with them. -/
import Derived.Test.YtoblbdedgjfeaaaGreatDoorRows
import Derived.Test.YtoblbdedgjfeaaaGreatDoorTie
import Derived.Test.YtoblbdedgjfeaaaGreatDoorCards
import Derived.SevenTiedAt
import Derived.Lay
import Derived.Lib.LaidTab
import Derived.Deep.DeepHandedRow
import Derived.Deep.Strs
import Derived.Test.YtoblbdedgjfeaaaGreatDoorZ6
namespace Go.Proofs.YtoblbdedgjfeaaaGreatDoor
open Go Go.Cl Go.ChangeShapes Go.WideShapes Go.RowKit Go.ChangeAt Go.ChangeMaps Go.Joins Go.Deep
theorem b9H:ownKnob Tryz.prog.godebug=none:=by kernel_rfl
theorem b2U:laidOutB Tryz.prog=true:=by kernel_rfl
abbrev a3t : List (String × DataW Unit) := [("math/bits.deBruijn32tab", Rows.laid_math_bits_deBruijn32tab), ("math/bits.deBruijn64tab", Rows.laid_math_bits_deBruijn64tab), ("internal/strconv.uint64pow10", Rows.laid_internal_strconv_uint64pow10), ("unicode/utf8.acceptRanges", Rows.laid_unicode_utf8_acceptRanges), ("unicode/utf8.first", Rows.laid_unicode_utf8_first)]
theorem b0X : Tryz.prog.globalNamed "internal/strconv.uint64pow10" = some 1 := by kernel_rfl
def b0v:List Int:=[1,10,100,1000,10000,100000,1000000,10000000,100000000,1000000000,10000000000,100000000000,1000000000000,10000000000000,100000000000000,1000000000000000,10000000000000000,100000000000000000,1000000000000000000,10000000000000000000]
theorem b8Y:(Rows.laid_internal_strconv_uint64pow10:DataW Unit)=Lib.tabData .u64 b0v:=by kernel_rfl
theorem a97:b0T=b0v.map fun z=>CV.val (.int .u64 z):=by rfl
theorem b8U:∃ t e n,(Tryz.prog.globals[1]?).map (·.type)=some t∧Tryz.prog.underlying t=some (.array n e)∧Tryz.prog.underlying e=some (.int .u64)∧Tryz.prog.cellsOf e=1∧Tryz.prog.cellsOf t=n:=⟨305,77,20,by kernel_rfl,by kernel_rfl,by kernel_rfl,by kernel_rfl,by kernel_rfl⟩
theorem b8F {W:World} (h:laidMetH Tryz.prog a3t W):∀ g cells,CC.glob g=some cells→GV (whole W) W cells g:=by
 rw [MakeChecks.laidMetH_plain _ _ _ j6] at h
 obtain ⟨ps,⟨_,_,_,_,_,_,_,_,_,_,⟨_,_,_,_,_,_,_,_,_,_,⟨g',t',cs,fuel,p,q,hg',ht',hvar,hd,_,_⟩,_⟩,_⟩,_⟩:=h
 obtain ⟨t,e,n,k1,k2,k3,k4,k5⟩:=b8U
 obtain rfl:=Option.some.inj (b0X.symm.trans hg')
 obtain rfl:=Option.some.inj (k1.symm.trans ht')
 rw [b8Y] at hd
 have hcs:=Lib.cells_of_tab k2 k3 k4 k5 hd
 intro g cells hgc
 have hgc':g=1∧cells=b0T:=by
  simp only [CC] at hgc
  split at hgc
  ·exact ⟨rfl,(Option.some.inj hgc).symm⟩
  ·cases hgc
 obtain ⟨rfl,rfl⟩:=hgc'
 have hheap:∃ ty fr,W.heap[1]? = some (.cells cs ty fr):=by
  simp only [World.var?,b0X,Option.bind_some] at hvar
  split at hvar
  ·rename_i c ty fr hh
   injection hvar with hvar
   subst hvar
   exact ⟨ty,fr,hh⟩
  ·cases hvar
 obtain ⟨ty,fr,hh⟩:=hheap
 have hsz:cs.size=b0T.length:=by
  rw [← Array.length_toList,hcs,a97]; simp
 have hcell:∀ j:Nat,j < 20→W.cell? ⟨1,j,none⟩=some (.int .u64 (b0v.getD j 0)):=fun j hj=>by
  rw [World.var?_cell b0X hvar j,← Array.getElem?_toList,hcs,List.getElem?_map]
  have hl:b0v.length=20:=rfl
  obtain ⟨z,hz⟩:∃ z,b0v[j]? = some z:=⟨b0v[j]'c4,by simp⟩
  rw [hz,List.getD_eq_getElem?_getD,hz]; rfl
 have hlt:1 < W.heap.size:=by
  rcases Nat.lt_or_ge 1 W.heap.size with h | h
  ·exact h
  ·rw [Array.getElem?_eq_none h] at hh; cases hh
 refine ⟨.cptr (fun j=>.int .u64 (b0v.getD j 0)) (fun c hc=>?_) (fun j c hj=>?_) (fun j c hj=>?_),hlt,cs,ty,fr,hh,hsz⟩
 ·rw [a97] at hc
  obtain ⟨z,_,rfl⟩:=List.mem_map.1 hc
  rfl
 ·have hj2:j < 20:=by
   have:=(List.getElem?_eq_some_iff.1 hj).1
   exact this
  rw [Nat.zero_add]
  exact ⟨.inl hlt,hcell j hj2⟩
 ·rw [a97,List.getElem?_map,Option.map_eq_some_iff] at hj
  obtain ⟨z,hz,rfl⟩:=hj
  rw [List.getD_eq_getElem?_getD,hz]
  exact .val _
theorem b8L (os:Os):(World.holding Tryz.prog os ⟨#[],#[],[]⟩).layFits Tryz.prog a3t []=true:=by kernel_rfl
theorem b58 (os:Os):(World.holding Tryz.prog os ⟨#[],#[],[]⟩).layIfaces Tryz.prog a3t (World.laidAll Tryz.prog os a3t)=true:=by kernel_rfl
set_option maxRecDepth 100000 in
theorem b8D (os:Os) (args:Array Value):laidMetH Tryz.prog a3t ((World.laidAll Tryz.prog os a3t).forCall (fun _ _=>0) ⟨#[],args,[]⟩).memory:=by
 rw [MakeChecks.laidMetH_plain _ _ _ j6]
 exact laidMet_laidAll _ (b8L os) (b58 os)
section
variable {H:Type} {enc:TypeId × Value→H} {w:World} {r:Go.Reach} {b0:Nat}
abbrev TrA (enc:TypeId × Value→H) (w:World) (t:TypeId) (v:Value) (d:DataW H) (p:List MemPlace):Prop:=DataW.Trod enc Tryz.prog w 0 (fun _=>true) true t v d p
set_option maxRecDepth 100000 in
theorem b8M {v:Value} {d:DataW H} {p:List MemPlace} (hv:Value.okWide Tryz.prog w r b0 22 v) (h:TrA enc w 22 v d p):∃ (l:List Int) (nn:Bool),RV (whole w) w (.list (l.map icv) nn none) v∧l.length≤maxLen∧∀ a∈l,-9223372036854775808≤a∧a≤9223372036854775807:=by
 obtain ⟨a,len,cap,rfl⟩:=okWide_slice Tryz.underlying22 hv
 obtain ⟨fuel,h⟩:=h
 obtain ⟨l,nn,v',e,h1,h2,h3,-⟩:=b5e (α:=Int) icv (fun a=>-9223372036854775808≤a∧a≤9223372036854775807) Tryz.underlying22 (s:=1) j6 j5 (fun n cs y hy=>by
  obtain ⟨z,rfl,-,hw⟩:=DataW.trod_int Tryz.underlying3 hy
  simp [Lit.wf,IntKind.min,IntKind.max,IntKind.bits,IntKind.signed] at hw
  exact ⟨z,by omega,RCs.val rfl .nil⟩) h
 simp [Value.cells] at e
 subst e
 exact ⟨l,nn,h1,h2,h3⟩
end
theorem c0c {w:World} {v0 v1:Value} {c0 c1:CV} (h0:RV (whole w) w c0 v0) (h1:RV (whole w) w c1 v1):∀ (i:Nat) (c:CV),[c0,c1][i]? = some c→RV (whole w) w c ((#[v0,v1]:Array Value).getD i undef):=fun i c hi=>by
 rcases i with _ | _ | i
 ·simp at hi; subst hi; exact h0
 ·simp at hi; subst hi; exact h1
 ·simp at hi
end Go.Proofs.YtoblbdedgjfeaaaGreatDoor
namespace Go.Cl
open Go Go.ChangeShapes Go.WideShapes Go.RowKit Go.ChangeAt
section
variable {H:Type} {enc:TypeId × Value→H} {P:Program} {w:World} {base:Nat} {spare:Nat→Bool} {held:Bool}
theorem b2g {α:Type} [Inhabited α] (f:α→List CV) (Q:α→Prop) (B:DataW H→Prop) {t e:TypeId} {fuel:Nat} {cs:List Value} {x:DataW H × List MemPlace} (ht:P.underlying t=some (.slice e)) {s:Nat} (hs:P.cellsOf e=s) (h0:0 < s)
 (hB:∀ es rs,x.1 = .slice es rs→∀ d∈es,B d)
 (hel:∀ (n:Nat) (cs:List Value) (y:DataW H × List MemPlace),B y.1→DataW.trod enc P w base spare held n e cs=some y→∃ a,Q a∧RCs w (f a) cs)
 (h:DataW.trod enc P w base spare held fuel t cs=some x) :
 ∃ (l:List α) (nn:Bool) (v:Value),cs=[v]∧RV (whole w) w (.list (l.map f) nn none) v∧l.length≤maxLen∧(∀ a∈l,Q a)∧(nn=false→l=[]):=by
 rcases DataW.trod_slice ht h with ⟨rfl,-⟩ | ⟨a,len,cap,elems,rest,n,-,rfl,hxe,hb,hl,hm,hlen,hE,-,-⟩
 ·exact ⟨[],false,_,rfl,.list (b:=0) (off:=0) (s:=s) (fun _ _=>undef) (Nat.le_refl _) (Nat.zero_le _) rfl (fun _=>rfl) (fun h=>by simp at h) (fun r hr=>by simp at hr) (fun r hr=>by simp at hr) (fun i j r c hi=>by simp at hi) (fun i j r c hi=>by simp at hi) (fun k hk=>by cases hk),Nat.zero_le _,fun a ha=>by simp at ha,fun _=>rfl⟩
 ·have key:∀ i:Nat,i < len→∃ (a':α) (cs':List Value),Q a'∧RCs w (f a') cs'∧cs'.length=s∧∀ j,j < s→w.cell? (a.add (i*s+j))=some (cs'.getD j undef):=by
   intro i hi
   have h1:=hE i hi
   have h2:elems[i]? = some (elems[i]'c4):=List.getElem?_eq_getElem c4
   rw [h2,Option.bind_eq_some_iff] at h1
   obtain ⟨cs',hc,hy⟩:=h1
   obtain ⟨a',hQ,hR⟩:=hel _ _ _ (hB _ _ (by rw [hxe]) _ (List.mem_map.2 ⟨_,List.getElem_mem _,rfl⟩)) hy
   obtain ⟨-,hcl,hat⟩:=World.cells?_some hc
   rw [hs] at hcl hat
   refine ⟨a',cs',hQ,hR,hcl,fun j hj=>?_⟩
   have:=hat j hj
   rw [List.getElem?_eq_getElem c4] at this
   rw [List.getD_eq_getElem?_getD,List.getElem?_eq_getElem c4]
   rw [← Go.Deep.add_add,this]; rfl
  have hch:∃ F:Nat→α,∃ G:Nat→List Value,∀ i,i < len→Q (F i)∧RCs w (f (F i)) (G i)∧(G i).length=s∧∀ j,j < s→w.cell? (a.add (i*s+j))=some ((G i).getD j undef):=by
   classical
   by_cases hlz:len=0
   ·subst hlz
    exact ⟨fun _=>default,fun _=>[],fun i hi=>absurd hi (Nat.not_lt_zero _)⟩
   ·obtain ⟨a0,-⟩:=key 0 c4
    have:∀ i:Nat,∃ p:α × List Value,i < len→Q p.1∧RCs w (f p.1) p.2∧p.2.length=s∧∀ j,j < s→w.cell? (a.add (i*s+j))=some (p.2.getD j undef):=fun i=>by
     by_cases hi:i < len
     ·obtain ⟨a',cs',h⟩:=key i hi
      exact ⟨(a',cs'),fun _=>h⟩
     ·exact ⟨(a0,[]),fun h=>absurd h hi⟩
    exact ⟨fun i=>(Classical.choose (this i)).1,fun i=>(Classical.choose (this i)).2,fun i hi=>Classical.choose_spec (this i) hi⟩
  obtain ⟨F,G,hF⟩:=hch
  have hrow:∀ (i:Nat) (r:List CV),(((List.range len).map F).map f)[i]? = some r→i < len∧r=f (F i):=fun i r hi=>by
   rw [List.map_map,List.getElem?_map] at hi
   rcases Nat.lt_or_ge i len with h | h
   ·rw [List.getElem?_range h] at hi
    exact ⟨h,(Option.some.inj hi).symm⟩
   ·rw [List.getElem?_eq_none a16] at hi
    cases hi
  have hmem:∀ r∈((List.range len).map F).map f,∃ i,i < len∧r=f (F i):=fun r hr=>by
   obtain ⟨i,hi⟩:=List.mem_iff_getElem?.1 hr
   exact ⟨i,hrow i r hi⟩
  have hlen':(((List.range len).map F).map f).length=len:=by simp
  refine ⟨(List.range len).map F,true,_,rfl,?_,by simp; omega,fun x hx=>?_,fun h=>by cases h⟩
  ·have:=RV.list (M:=whole w) (w:=w) (rows:=((List.range len).map F).map f) (nn:=true) (tok:=none) (a:=some a) (cap:=cap) (b:=a.block) (off:=a.off) (s:=s) (fun i j=>(G i).getD j undef)
    (by rw [hlen']; exact hl) hm rfl (fun h=>by cases h) (fun hne=>?_) (fun r hr=>?_) (fun r hr=>?_) (fun i j r c hi hj=>?_) (fun i j r c hi hj=>?_) (fun k hk=>by cases hk)
   ·rw [hlen'] at this; exact this
   ·rcases Nat.eq_zero_or_pos len with hz | hz
    ·subst hz; exact absurd rfl hne
    ·have:=(hF 0 hz).2.2.2 0 h0
     have:=X4 this
     simpa [Addr.add] using this
   ·obtain ⟨i,hi,rfl⟩:=hmem r hr
    rw [(hF i hi).2.1.len,(hF i hi).2.2.1]
   ·obtain ⟨i,hi,rfl⟩:=hmem r hr
    exact (hF i hi).2.1.one
   ·obtain ⟨hi',rfl⟩:=hrow i r hi
    have hjs:j < s:=by
     have:=(List.getElem?_eq_some_iff.1 hj).1
     rw [(hF i hi').2.1.len,(hF i hi').2.2.1] at this
     exact this
    have hc:=(hF i hi').2.2.2 j hjs
    rw [X4 hc,← Nat.add_assoc] at hc
    exact ⟨a8i hc _,hc⟩
   ·obtain ⟨hi',rfl⟩:=hrow i r hi
    exact (hF i hi').2.1.rv j c hj
  ·obtain ⟨i,hi,rfl⟩:=List.mem_map.1 hx
   exact (hF i (by simpa using hi)).1
end
theorem b4w {C:Checked} {os:Os} {f:FuncId} {fn:Func} {s:ChangeSpec} {S:OpenSpec} {k:(H:Type)→List (DataW H)→Bool} {CX:Ctx} {laid:List (String × DataW Unit)} {H:Type} {enc:TypeId × Value→H} {F:Stop.Interp} {fresh handsOn again:Bool} {tb:TypeId} (hSe:S={ OpenSpec.ofChange s with cond:=some k})
 (hP:CX.P=C.prog) (own:ownKnob C.prog.godebug=none) (started:os.Started) (noInit:C.prog.inits.idxOf? f=none) (hfn:C.prog.funcs[f]? = some fn)
 (hl:laidOutB C.prog=true) (hread:∀ t∈fn.params.toList,C.prog.readableRec t=true∧t < C.prog.types.size) (hv:s.vars=[])
 (hs:∀ ds:List (DataW H),ds.length=fn.params.size→s.fn H ds={ results:=[.lit (.bool true)],args:=ds})
 (hrt:fn.resultTypes = #[tb]) (htb:C.prog.underlying tb=some .bool)
 (hg:∀ W,laidMetH C.prog laid W→∀ g cells,CX.glob g=some cells→GV (whole W) W cells g)
 (wit:∃ (w:World) (tape:Tape) (i:Input),w.os=os∧(w.forCall tape i).Shaped C.prog∧i.vars=[]∧Input.okWide C.prog (w.forCall tape i) .any w.heap.size f i∧S.preRow enc C.prog fn [] false laid (w.forCall tape i).memory i.args∧({}:Assume).holds C.prog (lone (Frame.enter C.prog f i.args .normal) [] (w.forCall tape i)))
 (walk:∀ (W:World) (base:Nat) (args:Array Value) (ds:List (DataW H)) (ps:List MemPlace),k H ds=true→(∀ (j:Nat) t v,fn.params[j]? = some t→args[j]? = some v→Value.okWide C.prog W .any base t v) →
  DataW.TrodAll enc C.prog W 0 (fun _=>true) true fn.params.toList args.toList ds ps →
  ∃ cvs:List CV,args.size=cvs.length∧(∀ (i:Nat) (c:CV),cvs[i]? = some c→RV (whole W) W c (args.getD i undef))∧b8 CX f cvs [] fun r σ'=>r = .ret (.val (.bool true))∧σ'=[]) :
 ReturnsInHanded {} C os f .any (S.preRow enc C.prog fn [] false laid) ((S.at F).post enc C.prog fn false fresh handsOn again):=by
 subst hSe; refine returnsInHanded_of_row (C:=C) (s:={ OpenSpec.ofChange s with cond:=some k}) own started noInit hfn wit ?_; intro W base args ds gs before hval hW _ hcond _ hL _ _
 have hk:k H (ds++gs)=true:=hcond _ rfl
 have hW':DataW.Whole enc C.prog fn.params.toList s.vars false W args.toList ds gs before:=hW
 obtain ⟨p,q,hA,hV,rfl,-,-⟩:=hW
 rw [show ({ OpenSpec.ofChange s with cond:=some k}:OpenSpec).vars=[] from hv] at hV
 have hgs:gs=[]∧q=[]:=by
  cases gs with
  | nil=>exact ⟨rfl,hV⟩
  | cons g r=>exact hV.elim
 obtain ⟨rfl,rfl⟩:=hgs
 rw [List.append_nil] at hk
 obtain ⟨cvs,h1,h2,h3⟩:=walk W base args ds p hk hval hA
 have hdl:ds.length=fn.params.size:=by
  have:∀ {ts:List TypeId} {vs:List Value} {ds:List (DataW H)} {ps:List MemPlace},DataW.TrodAll enc C.prog W 0 (fun _=>true) true ts vs ds ps→ds.length=ts.length:=by
   intro ts
   induction ts with
   | nil=>intro vs ds ps h; obtain ⟨-,rfl,-⟩:=trodAll_nil h; rfl
   | cons t ts ih=>intro vs ds ps h; obtain ⟨v,vs1,d,ds1,a,b,-,rfl,-,-,h2⟩:=trodAll_cons h; simp [ih h2]
  simpa using this hA
 have hsd:=hs (ds++[]) (by simpa using hdl)
 have hc:=a3Q (hg W hL) h1 h2 h3
 rw [hP] at hc
 refine hc.mono fun e W' ⟨he,hb⟩=>⟨_,he,?_⟩
 show s.post enc C.prog fn false fresh handsOn again W args _ W'
 refine b01 (pa:=p) (pv:=[]) hW' (fun b sp hd=>?_) (fun sp hsp=>?_) (fun sp _=>?_) rfl hb ?_
 ·rw [hsd,hrt]; exact trodAll_mk1 (shut_bool htb _)
 ·rw [hsd]
  have hlt:∀ x∈p,x.block < W.heap.size:=fun x hx=>hW'.lt x (by simp [hx])
  simpa using a11 hl hb hread hA hlt fun x hx=>hsp x (by simp [hx])
 ·rw [hsd,hv]; rfl
 ·exact ok_one hrt rfl (okWide_bool_mk htb _)
end Go.Cl
namespace Go.Proofs.YtoblbdedgjfeaaaGreatDoor
open Go Go.Cl Go.ChangeShapes Go.WideShapes Go.RowKit Go.ChangeAt Go.ChangeMaps Go.Joins
theorem b6D {H:Type} {d:DataW H} {l:List (DataW H)} (h:d∈l):Rows.uptoBulk d≤Rows.uptoBulkAll l:=by
 induction l with
 | nil=>cases h
 | cons x r ih =>
  simp only [Rows.uptoBulkAll]
  rcases List.mem_cons.1 h with e | e
  ·subst e; omega
  ·have:=ih e; omega
theorem a8B (s:ByteArray):str s.data.toList=s:=by cases s; simp [str]
section
variable {H:Type} {enc:TypeId × Value→H} {w:World} {r:Go.Reach} {b0:Nat}
set_option maxRecDepth 100000 in
theorem b77 {v:Value} {d:DataW H} {p:List MemPlace} (hv:Value.okWide Tryz.prog w r b0 36 v) (h:TrA enc w 36 v d p) (hb:Rows.uptoBulk d≤1048576):∃ (l:List Ky) (nn:Bool),RV (whole w) w (.list (l.map Ky.cv) nn none) v∧l.length≤maxLen∧∀ x∈l,b2u x:=by
 obtain ⟨a,len,cap,rfl⟩:=okWide_slice Tryz.underlying36 hv
 obtain ⟨fuel,h⟩:=h
 have hK:Tryz.prog.cellsOf 39=3:=by kernel_rfl
 have hI:Tryz.prog.cellsOf 3=1:=by kernel_rfl
 have hS:Tryz.prog.cellsOf 9=1:=by kernel_rfl
 obtain ⟨l,nn,v',e,h1,h2,h3,-⟩:=b2g (α:=Ky) Ky.cv b2u (fun d=>Rows.uptoBulk d≤1048576) Tryz.underlying36 (s:=3) hK j5 (fun es rs hx d hd=>by
  have e:_=DataW.slice es rs:=hx
  dsimp only at e
  subst e
  simp only [Rows.uptoBulk] at hb
  have:=b6D hd
  omega) (fun n cs y hy hr=>by
  obtain ⟨y0,y1,y2,m,hyx,hl,q0,q1,q2⟩:=Go.Deep.trod_struct3 Tryz.underlying39 hr
  rw [hK] at hl
  match cs,hl with
  | [a0,a1,a2],_ =>
   simp only [hI,hS] at q0 q1 q2
   simp at q0 q1 q2
   obtain ⟨m0,f0,-,-⟩:=DataW.trod_int Tryz.underlying3 q0
   obtain ⟨s1,f1,g1,-⟩:=DataW.trod_string Tryz.underlying9 q1
   obtain ⟨s2,f2,g2,-⟩:=DataW.trod_string Tryz.underlying9 q2
   simp at f0 f1 f2
   subst f0; subst f1; subst f2; subst hyx
   subst g1; subst g2
   simp only [Rows.uptoBulk,Rows.uptoBulkAll] at hy
   refine ⟨⟨m0,s1.data.toList,s2.data.toList⟩,⟨by show s1.data.toList.length≤_; omega,by show s2.data.toList.length≤_; omega⟩,?_⟩
   show RCs w [.val (.int .i64 m0),.val (.string (str s1.data.toList)),.val (.string (str s2.data.toList))] _
   rw [a8B,a8B]
   exact RCs.val rfl (RCs.val rfl (RCs.val rfl .nil))) h
 simp [Value.cells] at e
 subst e
 exact ⟨l,nn,h1,h2,h3⟩
end
theorem a9x (l:List Int) (nn:Bool) (hl:l.length≤maxLen) (raw:List Ky) (rnn:Bool) (hrl:raw.length≤maxLen) (hlr:∀ x∈raw,b2u x):b8 CC 7 [.list (l.map icv) nn none,.list (raw.map Ky.cv) rnn none] [] fun r τ=>r = .ret (.val (.bool true))∧τ=[] :=
 (J6 (res:=fun _:Unit=>.ret (.val (.bool true))) (P:=fun _=>True) hCC (fun a h=>by
  simp at h; rcases h with rfl | rfl
  ·exact d4 _ _
  ·exact j9 _ _) (a7Y l nn hl raw rnn hrl hlr) (fun _ _=>.val _) []).mono fun r τ ⟨_,h1,h2,_⟩=>⟨h1,h2⟩
theorem b6q (os:Os) {H:Type} (enc:TypeId × Value→H):∃ places,DataW.whole enc Tryz.prog ((World.laidAll Tryz.prog os a3t).forCall (fun _ _=>0) ⟨#[],#[.slice none 0 0,.slice none 0 0],[]⟩).memory Tryz.f7.params.toList Rows.factKeysSpec.vars false #[Value.slice none 0 0,Value.slice none 0 0].toList 8=some ([.nil,.nil],[],places) :=
 ⟨[],by kernel_rfl⟩
set_option maxRecDepth 100000 in
theorem a3P (os:Os) (started:os.Started) (H:Type) (enc:TypeId × Value→H) (F:Stop.Interp) :
 ReturnsInHanded {} Tryz.checked os 7 .any ((Rows.OpenSpec.upto Rows.factKeysSpec).preRow enc Tryz.prog Tryz.f7 Rows.factKeysUptoRow.domain false Rows.factKeysUptoRow.laid) (((Rows.OpenSpec.upto Rows.factKeysSpec).at F).post enc Tryz.prog Tryz.f7 false true false false):=by
 obtain ⟨places,hx⟩:=b6q os enc
 refine b4w (s:=Rows.factKeysSpec) (k:=Rows.uptoSmall) (CX:=CC) (tb:=4) rfl rfl b9H started j6 Tryz.func7 b2U
  (b4l j6) rfl (fun ds hd=>?_) j6 Tryz.underlying4 (fun W h=>b8F h)
  (witness_row_at (enc:=enc) (C:=Tryz.checked) false (World.laidAll Tryz.prog os a3t) #[.slice none 0 0,.slice none 0 0] (World.laidAll_os _ _ _) j6 j6 j6
   (OpenSpec.preRow_of_cond 8 hx j6 (fun k hk=>by cases hk; kernel_rfl) j6 (b8D os _))) ?_
 ·rw [show Tryz.f7.params.size=2 by kernel_rfl] at hd
  match ds,hd with
  | [_,_],_=>rfl
 ·intro W base args ds ps hk hval hA
  rw [Tryz.params7] at hA hval
  obtain ⟨v0,vs0,d0,ds0,p0,q0,hargs,rfl,rfl,h0,r0⟩:=trodAll_cons hA
  obtain ⟨v1,vs1,d1,ds1,p1,q1,rfl,rfl,rfl,h1,r1⟩:=trodAll_cons r0
  obtain ⟨rfl,rfl,rfl⟩:=trodAll_nil r1
  obtain rfl:args = #[v0,v1]:=by cases args; simp_all
  have hk2:=of_decide_eq_true hk
  simp only [Rows.uptoBulkAll] at hk2
  obtain ⟨l0,nn0,rv0,len0,fit0⟩:=b8M (hval 0 _ _ rfl rfl) h0
  obtain ⟨l1,nn1,rv1,len1,fit1⟩:=b77 (hval 1 _ _ rfl rfl) h1 c4
  exact ⟨_,rfl,c0c rv0 rv1,a9x l0 nn0 len0 l1 nn1 len1 fit1⟩
end Go.Proofs.YtoblbdedgjfeaaaGreatDoor
namespace Go.Proofs.YtoblbdedgjfeaaaGreatDoor
open Go Go.Cl Go.ChangeShapes Go.WideShapes Go.RowKit Go.ChangeAt Go.ChangeMaps Go.Joins
theorem b2m:(Rows.factKeysUptoRow.inPlace == Tryz.pinned.checked.prog.inPlace 7)=true:=by kernel_rfl
theorem a62:(Rows.factKeysUptoRow.unfollowed == Tryz.pinned.checked.prog.unfollowed 7)=true:=by kernel_rfl
theorem a91:(Rows.factKeysUptoRow.recurses == Tryz.pinned.checked.prog.recurses 7)=true:=by kernel_rfl
theorem b6V:(Rows.factKeysUptoRow.named == Tryz.pinned.checked.prog.varsNamed 7)=true:=by kernel_rfl
theorem b3U:joinedFacts Tryz.pinned.checked.prog 7 Tryz.f7 (Rows.OpenSpec.upto Rows.factKeysSpec).bare Rows.factKeysUptoRow=true:=by
 unfold joinedFacts
 rw [b2m,a62,a91,b6V]
 kernel_rfl
end Go.Proofs.YtoblbdedgjfeaaaGreatDoor
