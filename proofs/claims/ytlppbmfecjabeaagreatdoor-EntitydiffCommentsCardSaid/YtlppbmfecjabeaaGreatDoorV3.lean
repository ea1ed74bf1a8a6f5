/- Part 3 of what the claim needs: values without addresses, and what the program's functions do with them. -/
import Derived.Shelf.SlSortCmp.NoneTotal
import Derived.Test.YtlppbmfecjabeaaGreatDoorProg
import Derived.Test.YtlppbmfecjabeaaGreatDoorV2
set_option maxRecDepth 100000
set_option maxHeartbeats 4000000
namespace Go.Cl
open Go.Sort Go.Proofs
variable {α:Type} {w W:World} {C:Ctx} {enc:α->List Value} {s b:Nat}
theorem put_row_any [Inhabited α] {enc:α->Value} {arr:Array Value} {ty:TypeId} {fr:Nat × Nat} {d:Array α} (h:w.heap[b]? = some (.cells arr ty fr)):putRow enc w b 0 d=World.putObj w b (.cells (putCells enc 0 d arr) ty fr):=by
 have hb:b < w.heap.size:=(n_16.1 h).1;have hg:w.heap[b] = .cells arr ty fr:=(n_16.1 h).2;unfold putRow mapBlock World.putObj
 congr 1
 apply n_78;intro i;rw [n_85,n_135];by_cases hi:b=i
 ·subst hi;simp [hb,hg,onCells]
 ·simp [hi]
theorem put_id_get {F:Array Value} {arr:Array Value} {i:Nat} (hi:i < F.size) (ha:i < arr.size):(putCells id 0 F arr).getD i undef=F[i]!:=by
 unfold putCells;rw [n_21,Array.getElem?_mapIdx,n_24 ha];simp [hi]
theorem grow_of_ext {W':World} {M':Plan} (h:Ext (whole W) W M' W'):∃ q os',W'=grow (W.drewN q) os':=by
 refine ⟨W'.drawn - W.drawn,W'.heap.extract W.heap.size W'.heap.size,?_⟩;have hd:W.drawn+(W'.drawn - W.drawn)=W'.drawn:=by have:=h.drew; omega
 have hh:W'.heap=W.heap++W'.heap.extract W.heap.size W'.heap.size:=by
  apply n_78;intro i;rw [n_100]
  split
  ·rename_i hi;exact h.same i hi
  ·rename_i hi;rw [Array.getElem?_extract];have hs:=h.size
   split
   ·congr 1; omega
   ·rename_i h2;rw [n_43]; omega
 have h1:=h.os; have h2:=h.tape; have h3:=h.output;show W'=⟨_,_,_,_,_⟩;cases W';simp only at hd hh h1 h2 h3 ⊢;subst h1 h2 h3;simp only [World.drewN,World.mk.injEq,true_and,and_true];exact ⟨hh,hd.symm⟩
theorem calls_grow {f:FuncId} {cvs:List CV} {args:Array Value} {u:Value}
 (hg:∀ g cells,C.glob g=some cells->GV (whole W) W cells g)
 (hn:args.size=cvs.length) (ha:∀ (i:Nat) (c:CV),cvs[i]? = some c->RV (whole W) W c (args.getD i undef))
 (h:CCalls C f cvs [] fun r σ'=>r = .ret (.val u)/\σ'=[]):Calls C.P f args W fun e W'=>e = .returned u/\∃ q os',W'=grow (W.drewN q) os':=by
 refine (h (whole W) W args (whole_rel hg) hn ha).mono fun e W' he=>?_;cases e with
 | returned v =>
  obtain ⟨c,σ',M',h1,h2,h3,h4,h5⟩:=he;cases h4;cases h3;exact ⟨rfl,grow_of_ext h1⟩
 | panicked ch =>
  obtain ⟨c,v,σ',M',-,-,-,-,h4,-⟩:=he;cases h4
 | outgrown=>exact he.elim
theorem glob_kept {M:Plan} {σ:List CObj} (hv:∀ g cells,C.glob g=some cells->∀ c∈cells,∃ v,c=CV.val v) (hr:Rel C M σ w) (hb:¬ M.full b) (hs:w.heap.size<=W.heap.size)
 (hh:∀ x,x < w.heap.size->x≠b->W.heap[x]? = w.heap[x]?) (g:Nat) (cells:List CV) (hg:C.glob g=some cells):GV (whole W) W cells g:=by
 obtain ⟨rv,full,sz⟩:=hr.glob g cells hg;have hlt:g < w.heap.size:=hr.blk g 0 (.inl full);have hne:g≠b:=fun e=>hb (e ▸ full);have hs1:=hh g hlt hne;cases rv with
 | cptr vals a1 a2 a3 =>
  refine ⟨.cptr vals a1 (fun j c hj=>⟨.inl (n_54 hlt hs),?_⟩) (fun j c hj=>?_),n_54 hlt hs,?_⟩
  ·rw [cell?_of_same hs1];exact (a2 j c hj).2
  ·obtain ⟨v,rfl⟩:=hv g cells hg c (n_0 hj);have:=a3 j _ hj;cases this;exact .val _
  ·rw [hs1]; exact sz
theorem sort_heap [Inhabited α] {m:Nat} {dk:Array α} {os:Array Obj}:w.heap.size<=(sortWorldK enc s w b 0 m dk os).heap.size/\∀ x,x < w.heap.size->x≠b->(sortWorldK enc s w b 0 m dk os).heap[x]? = w.heap[x]?:=by
 refine ⟨by unfold sortWorldK; rw [size_grow,size_putRowK]; exact Nat.le_add_right _ _,fun x hx hne=>?_⟩;unfold sortWorldK grow putRowK putRow mapBlock;show (Array.modify w.heap b _++os)[x]? = _;rw [n_106 (by simpa using hx),n_85,if_neg (fun e=>hne e.symm)]
theorem rv_vals {M:Plan} {l:List Value} (h1:∀ v∈l,v.oneCell'=true):RV M w (.agg (l.map .val)) (.agg l.toArray):=by
 refine .agg si_ (fun c hc=>?_) (fun i c hi=>?_)
 ·obtain ⟨v,hv,rfl⟩:=n_9.1 hc;exact h1 v hv
 ·rw [n_14,n_26] at hi;obtain ⟨v,hv,rfl⟩:=hi;have:l.toArray.getD i undef=v:=by rw [n_21,List.getElem?_toArray,hv]; rfl
  rw [this];exact .val _
theorem cmp_lays {g:FuncId} [Inhabited α] {cf:α->α->Int} (h1:∀ x,∀ v∈enc x,v.oneCell'=true) (hcmp:∀ x y:α,CCalls C g [.agg ((enc x).map .val),.agg ((enc y).map .val)] [] fun r τ=>r = .ret (.val (.int .i64 (cf x y)))/\τ=[])
 (hv:∀ g cells,C.glob g=some cells->∀ c∈cells,∃ v,c=CV.val v) {M:Plan} {σ:List CObj} {w:World} {b size:Nat} (hr:Rel C M σ w) (hb:¬ M.full b):CmpLays C.P g #[] enc s cf b 0 size w:=fun m os dk hs x y=>by
 refine calls_grow (glob_kept hv hr hb sort_heap.1 sort_heap.2) rfl (fun i c hi=>?_) (hcmp x y)
 rcases i with _ | _ | i
 ·injection hi with hi; subst hi; exact rv_vals (h1 x)
 ·injection hi with hi; subst hi; exact rv_vals (h1 y)
 ·cases hi
theorem flatk_get [Inhabited α] {l:List α} {i j:Nat} {x:α} (hx:l[i]? = some x) (hj:j < s) (hk:(enc x).length=s):(flatK enc s l.toArray)[i*s+j]! = (enc x)[j]!/\i*s+j < l.length*s:=by
 have hi:=(n_1.1 hx).1;have lt:i*s+j < l.length*s:=by
  have:=n_19 s (show i+1<=l.length from hi); rw [n_20,Nat.one_mul] at this; omega
 have e1:(i*s+j) / s=i:=(blk_iff s i _ om_).1 ⟨om_,om_⟩;have e2:(i*s+j)%s=j:=by rw [Nat.mod_eq_sub_div_mul,e1]; omega
 refine ⟨?_,lt⟩;rw [get_flatK _ _ _ _ (by simpa using lt),e1,e2];have:l.toArray[i]! = x:=by simp [hi,(n_1.1 hx).2]
 rw [this]
def srtF {α:Type} (cf:α->α->Int) (l:List α):List α:=l.mergeSort fun x y=>!(ltOf cf) y x
theorem sortf_vec {f g:FuncId} [Inhabited α] {cf:α->α->Int} (hs0:0 < s) (hk0:∀ x,(enc x).length=s) (h1:∀ x,∀ v∈enc x,v.oneCell'=true)
 (hcall:∀ (blk off cap:Nat) (d:Array α) (w:World),CmpLays C.P g #[] enc s cf blk off d.size w->HoldsK enc s w blk off d->blk < w.heap.size->d.size < 4611686018427387904 ->
  Calls C.P f #[.slice (some ⟨blk,off,none⟩) d.size cap,.func (.func g) #[] #[]] w fun e w'=>e = .returned (.tuple #[])/\∃ n os,w'=sortWorldK enc s w blk off n (d.toList.mergeSort fun x y=>!(ltOf cf) y x).toArray os)
 (hcmp:∀ x y:α,CCalls C g [.agg ((enc x).map .val),.agg ((enc y).map .val)] [] fun r τ=>r = .ret (.val (.int .i64 (cf x y)))/\τ=[])
 (hv:∀ g cells,C.glob g=some cells->∀ c∈cells,∃ v,c=CV.val v)
 {σ:List CObj} {k:Nat} {l:List α} (hne:l≠[]) (hlen:l.length < 4611686018427387904) (hk:σ[k]? = some (.vec s (l.map fun x=>(enc x).map .val))) :
 CCalls C f [.vec k 0 l.length,.val (.func (.func g) #[] #[])] σ fun r τ=>r = .ret (.tup [])/\τ=σ.set k (.vec s ((srtF cf l).map fun x=>(enc x).map .val)):=fun M w vs hr hn hx=>by
 have hl:0 < l.length:=n_69.2 hne;have hs:vs.size=2:=hn;obtain ⟨v,v2,rfl⟩:∃ v v2,vs = #[v,v2]:=⟨vs[0]'om_,vs[1]'om_,Array.ext (by simp [hs]) fun i h1 h2=>by
  have:i=0\/i=1:=by omega
  rcases this with rfl | rfl <;> simp⟩
 have h0:RV M w (.vec k 0 l.length) v:=hx 0 _ rfl;have h2:RV M w (.val (.func (.func g) #[] #[])) v2:=hx 1 _ rfl;cases h2;cases h0 with
 | vec hp g1 g2 g3 =>
  rename_i p a;obtain ⟨⟨e0,e1,e2,e3,e4,arr,ty,e5,e6,e7⟩,hf,hcl⟩:=hr.obj k p _ hp hk;rw [n_17] at e1;rw [e0] at e6;have ha:=g3 om_;rw [Nat.zero_mul] at ha;subst ha;have hb:p.block < w.heap.size:=(n_16.1 e5).1;have hcs:l.length*s<=arr.size:=by rw [e6]; exact n_19 s e1
  have hget:∀ t,t < l.length*s->arr.getD t undef=(flatK enc s l.toArray)[t]!:=fun t ht=>by
   have hd:t / s < l.length:=(Nat.div_lt_iff_lt_mul hs0).2 ht;have hm:t%s < s:=n_53 _ hs0;have ht2:t / s*s+t%s=t:=by rw [n_105]; exact Nat.div_add_mod t s
   have hx:l[t / s]? = some l[t / s]:=n_35 hd;have hkk:=hk0 l[t / s];have h3:=(flatk_get (enc:=enc) hx hm hkk).1;rw [ht2] at h3;rw [h3];have h4:(l.map fun x=>(enc x).map CV.val)[t / s]? = some ((enc l[t / s]).map .val):=by rw [n_14,hx]; rfl
   have h5:((enc l[t / s]).map CV.val)[t%s]? = some (.val (enc l[t / s])[t%s]!):=by
    rw [n_14,n_35 om_];simp [hkk,hm]
   have:=rv_val (e7 _ _ _ _ h4 h5);rw [e0,ht2] at this;exact this
  have hH:HoldsK enc s w p.block 0 l.toArray:=fun j hj=>by
   have hj':j < l.length*s:=by simpa using hj
   have hja:j < arr.size:=by omega
   refine ⟨?_,by simp [World.frozen?,e5]⟩;have:=hget j hj';rw [n_21,n_24 hja] at this;simp only [n_44] at this;rw [n_10];simp [World.cell?,e5,hja,this]
  have hC:=cmp_lays (s:=s) (size:=l.toArray.size) h1 hcmp hv hr hf;have hcc:=hcall p.block 0 (p.cap - 0) l.toArray w hC hH hb (by simpa using hlen);rw [show l.toArray.size=l.length by simp,show l.toArray.toList=l by simp] at hcc;refine hcc.mono fun e w' ⟨he,n,os,hw⟩=>?_; subst he hw;obtain ⟨hx1,hr1⟩:=grow_ext hr n #[];have ew:grow (w.drewN n) #[]=Sort.ahead w n:=by simp [grow,World.drewN,Sort.ahead]
  rw [ew] at hx1 hr1;have e5':(Sort.ahead w n).heap[p.block]? = some (.cells arr ty (0,0)):=e5;unfold sortWorldK putRowK;rw [put_row_any e5'];have hperm:(srtF cf l).length=l.length:=n_119 _;change After C M w _ _ (grow (World.putObj (Sort.ahead w n) p.block (.cells (putCells id 0 (flatK enc s (srtF cf l).toArray) arr) ty (0,0))) os);generalize hF:flatK enc s (srtF cf l).toArray=F;have hFs:F.size=l.length*s:=by rw [<- hF,size_flatK]; simp [hperm]
  have hasz:(putCells id 0 F arr).size=arr.size:=by simp [putCells]
  have hx2:=Ext.putObj (w:=Sort.ahead w n) (.cells (putCells id 0 F arr) ty (0,0)) (hr1.nk k p _ hp hk rfl) hf hcl;have hr2:=hr1.putObj (ob:=.vec s ((srtF cf l).map fun x=>(enc x).map .val)) hp hk rfl hf hcl (.cells (putCells id 0 F arr) ty (0,0)) ⟨e0,by rw [n_17,hperm]; exact e1,e2,fun r hr=>by
   obtain ⟨x,_,rfl⟩:=n_9.1 hr;rw [e0,n_17]; exact hk0 x,fun r hr c hc=>by
   obtain ⟨x,_,rfl⟩:=n_9.1 hr;obtain ⟨v,hv,rfl⟩:=n_9.1 hc;exact h1 x v hv,_,ty,World.putObj_same _ _ (by exact hb),by rw [hasz,e0]; exact e6,fun i j r c hi hj=>by
   rw [n_14,n_26] at hi;obtain ⟨x,hs',rfl⟩:=hi;rw [n_14,n_26] at hj;obtain ⟨v,hj',rfl⟩:=hj;have hjs:j < s:=by have:=(n_1.1 hj').1; rw [hk0] at this; exact this
   obtain ⟨h3,h4⟩:=flatk_get (enc:=enc) hs' hjs (hk0 x);rw [hF] at h3;rw [hperm] at h4;rw [e0,put_id_get om_ om_,h3,List.getElem!_eq_getElem?_getD,hj'];exact .val _⟩
  obtain ⟨hx3,hr3⟩:=grow_ext hr2 0 os;have ew2:∀ u:World,u.drewN 0=u:=fun u=>rfl;rw [ew2] at hx3 hr3;exact ⟨_,_,_,(hx1.trans hx2).trans hx3,hr3,.tup rfl (fun i c h=>by simp at h),rfl,rfl⟩
end Go.Cl
namespace Go.Cl
variable {o:Oper} {l:List Oper} {c:CV}
section
variable {C:Ctx} {n:Nat} {ops:Array Oper} {Q:CExit->Env->List CObj->Prop} {E:Env} {σ:List CObj}
theorem cY (hy:Yields C σ E o c) (h:COps C n ops Q l (E.put o.dst c True) σ) (hg:o.guard=none:=by rfl) (hd:(match o.dst with | some d=>Nat.blt d n | none=>true)=true:=by rfl):COps C n ops Q (o::l) E σ:=co_y hg hd hy h
theorem cD (h:Does C σ E o fun r σ'=>match r with | .ret c=>COps C n ops Q l (E.put o.dst c True) σ' | .pan c=>Q (.pan c) E σ') (hg:o.guard=none:=by rfl) (hd:(match o.dst with | some d=>Nat.blt d n | none=>true)=true:=by rfl):COps C n ops Q (o::l) E σ:=co_d hg hd h
theorem cG {j t:Nat} {want b:Bool} (hy:b=want->Yields C σ E o c) (h:COps C n ops Q l (E.put o.dst c (b=want)) σ) (hg:o.guard=some (j,want):=by rfl) (ht:(ops[j]?).bind (·.dst)=some t:=by rfl) (hv:E.ok t:=by exact tt) (hb:E.f t = .val (.bool b):=by rfl)
 (hd:(match o.dst with | some d=>Nat.blt d n | none=>true)=true:=by rfl):COps C n ops Q (o::l) E σ:=co_g hg ht hv hb hd hy h
theorem cC {c:Operand} {x y:Code} {b:Bool} (ht:b=true->CWp C n x Q E σ) (hf':b=false->CWp C n y Q E σ) (hv:E.valid c:=by first|exact tt|exact rfl) (hc:E.val C c = .val (.bool b):=by exact rfl):CWp C n (.cond c x y) Q E σ:=cw_cond hv hc ht hf'
theorem hY {K:Env->Prop} (k:Yields C σ E o c) (h:CHead C σ ops K l (E.put o.dst c True)) (hg:o.guard=none:=by rfl):CHead C σ ops K (o::l) E:=ch_y hg k h
end
end Go.Cl
namespace Go.Proofs.YtlppbmfecjabeaaGreatDoor
open Go Go.Cl
variable {s u:Str} {σ τ rest:List CObj} {i q f m long parts L e i1 j q1 q2:Nat} {α β:Type} {c c':CV} {ks:List Int} {x y va:Bool} {br d:List Str} {vc:β->CV} {P:α->Prop} {R:Nat->Nat->Prop} {N:α->Nat} {bad:Prop} {sel:List Nat} {lv:Int}
def tabP:List CV:=[1,10,100,1000,10000,100000,1000000,10000000,100000000,1000000000,10000000000,100000000000,1000000000000,10000000000000,100000000000000,1000000000000000,10000000000000000,100000000000000000,1000000000000000000,10000000000000000000].map fun z:Int=>.val (.int .u64 z)
noncomputable def CC:Ctx:={ P:=Tryz.prog,glob:=fun g=>match g with | 1=>some tabP | _=>none}
theorem hCC:CC.plain:=fun g cells h=>by
 have:cells=tabP:=by
  simp only [CC] at h;split at h
  ·exact (Option.some.inj h).symm
  ·cases h
 subst this; intro c hc;obtain ⟨z,_,rfl⟩:=n_9.1 hc;exact .val _
def icv (x:Int):List CV:=[.val (.int .i64 x)]
def scv (x:Str):List CV:=[sv x]
theorem pure_ints (l:List Int) (nn:Bool):Pure (.list (l.map icv) nn none):=pure_rows (f:=icv) (fun _=>⟨.val _,tt⟩) l nn
theorem pure_strs (l:List Str) (nn:Bool):Pure (.list (l.map scv) nn none):=pure_rows (f:=scv) (fun _=>⟨.val _,tt⟩) l nn
theorem old_ints (n:Nat) (l:List Int) (nn:Bool):Old n (.list (l.map icv) nn none):=(pure_ints l nn).old
theorem old_strs (n:Nat) (l:List Str) (nn:Bool):Old n (.list (l.map scv) nn none):=(pure_strs l nn).old
def Letters:Str:=[97,98,99,100,101,102,103,104,105,106,107,108,109,110,111,112,113,114,115,116,117,118,119,120,121,122]
def Digs:Str:=[48,49,50,51,52,53,54,55,56,57]
def Signs:Str:=[59,44,40,41,43,45,42,47,37,60,61]
def M0:List (Int × Str):=[(1,Letters),(2,Digs),(3,[95]),(4,[46]),(5,[9,10,13,32]),(6,[35]),(7,[34]),(8,Signs)]
def kindOf (c:Int):Int :=
 if 97<=c/\c<=122 then 1 else if 48<=c/\c<=57 then 2 else if c=95 then 3 else if c=46 then 4 else if c=9\/c=10\/c=13\/c=32 then 5 else if c=35 then 6 else if c=34 then 7
 else if c=59\/c=44\/c=40\/c=41\/c=43\/c=45\/c=42\/c=47\/c=37\/c=60\/c=61 then 8 else 0
abbrev kb (a:Int):CV:=.val (.int .u8 a)
abbrev kv (a:Int):CV:=.val (.int .i64 a)
theorem key8:KeyFind (α:=Int) CC.P 5 kb (fun a=>.int .u8 a):=keyInt .u8 t_51
theorem keyI:KeyFind (α:=Int) CC.P 3 kv (fun a=>.int .i64 a):=keyInt .i64 t_114
theorem keyS:KeyFind (α:=Str) CC.P 9 sv (fun a=>.string (str a)):=keyStr t_6
def KM (m:List (Int × Int)):Prop:=∀ c,(glk m c).getD 0=kindOf c
theorem old_km (n:Nat) (m:List (Int × Int)):OldObj n (.map (gm kb kv m)):=fun x hx=>by
 obtain ⟨y,_,rfl⟩:=n_9.1 hx;exact ⟨.val _,.val _⟩
theorem old_it (n:Nat) (a b:List (Int × Str)):OldObj n (.iter (gm kv sv a) (gm kv sv b)):=⟨fun x hx=>by
 obtain ⟨y,_,rfl⟩:=n_9.1 hx;exact ⟨.val _,.val _⟩,fun x hx=>by
 obtain ⟨y,_,rfl⟩:=n_9.1 hx;exact ⟨.val _,.val _⟩⟩
theorem nr_km (m:List (Int × Int)):NoRefO (.map (gm kb kv m)):=fun x hx=>by
 obtain ⟨y,_,rfl⟩:=n_9.1 hx;exact ⟨.val _,.val _⟩
def InB (s:Str) (c:Int):Prop:=∃ b∈s,(b.toNat:Int)=c
instance (s:Str) (c:Int):Decidable (InB s c):=by unfold InB; exact inferInstance
def KL (m:List (Int × Int)) (left:List (Int × Str)):Prop:=left.Nodup/\(∀ x∈left,x∈M0)/\∀ c,(glk m c).getD 0=if ∃ x∈left,InB x.2 c then 0 else kindOf c
theorem M0_kind:∀ x∈M0,∀ b∈x.2,kindOf (b.toNat:Int)=x.1:=by decide
theorem M0_apart:∀ x∈M0,∀ y∈M0,x≠y->∀ b∈x.2,b∉y.2:=by decide
theorem M0_nodup:M0.Nodup:=by decide
theorem M0_all:∀ c:Fin 256,kindOf (c.val:Int)≠0->∃ x∈M0,∃ b∈x.2,(b.toNat:Int)=(c.val:Int):=by decide
theorem kind_in {c:Int} (h:kindOf c≠0):∃ x∈M0,∃ b∈x.2,(b.toNat:Int)=c:=by
 have hr:0<=c/\c < 256:=by
  unfold kindOf at h;split at h; · omega
  split at h; · omega
  split at h; · omega
  split at h; · omega
  split at h; · omega
  split at h; · omega
  split at h; · omega
  split at h
  ·omega
  ·exact absurd rfl h
 obtain ⟨n,rfl⟩:∃ n:Nat,c=n:=⟨c.toNat,om_⟩;exact M0_all ⟨n,om_⟩ h
theorem KL.start:KL [] M0:=by
 refine ⟨M0_nodup,fun x h=>h,fun c=>?_⟩
 split
 ·rfl
 ·rename_i hno;have:kindOf c=0:=by
   rcases Int.decEq (kindOf c) 0 with h | h
   ·exact absurd (kind_in h) hno
   ·exact h
  rw [this]; rfl
theorem KL.done {m:List (Int × Int)} (h:KL m []):KM m:=fun c=>by
 rw [h.2.2 c,if_neg si_]
theorem KL.step {m m':List (Int × Int)} {left:List (Int × Str)} {x:Int × Str} (h:KL m left) (hx:left[i]? = some x) (hm:∀ c,(glk m' c).getD 0=if InB x.2 c then x.1 else (glk m c).getD 0):KL m' (left.eraseIdx i):=by
 obtain ⟨h1,h2,h3⟩:=h;have hxm:=h2 x (n_0 hx);have hsub:∀ y,y∈left.eraseIdx i↔y∈left/\y≠x:=fun y=>by
  have hlt:=(n_1.1 hx).1;have hxe:=(n_1.1 hx).2;constructor
  ·intro hy;obtain ⟨j,hj,hji⟩:=n_136.1 hy;refine ⟨n_0 hji,fun e=>?_⟩;subst e;exact hj ((List.getElem?_inj (n_1.1 hji).1 h1).1 (by rw [hji,hx]))
  ·rintro ⟨hy,hne⟩;obtain ⟨j,hj⟩:=n_11.1 hy;refine n_136.2 ⟨j,fun e=>?_,hj⟩;subst e;rw [hx] at hj;exact hne (Option.some.inj hj).symm
 refine ⟨h1.sublist (List.eraseIdx_sublist _ _),fun y hy=>h2 y ((hsub y).1 hy).1,fun c=>?_⟩;rw [hm c,h3 c];by_cases hc:InB x.2 c
 ·rw [if_pos hc,if_neg]
  ·obtain ⟨b,hb,rfl⟩:=hc;exact (M0_kind x hxm b hb).symm
  ·rintro ⟨y,hy,b',hb',he⟩;obtain ⟨b,hb,hbc⟩:=hc;obtain ⟨hyl,hne⟩:=(hsub y).1 hy;have:b'=b:=n_120.1 om_;subst this;exact M0_apart y (h2 y hyl) x hxm hne b' hb' hb
 ·rw [if_neg hc];have hiff:(∃ y∈left,InB y.2 c)↔∃ y∈left.eraseIdx i,InB y.2 c:=by
   constructor
   ·rintro ⟨y,hy,hb⟩;exact ⟨y,(hsub y).2 ⟨hy,fun e=>hc (e ▸ hb)⟩,hb⟩
   ·rintro ⟨y,hy,hb⟩;exact ⟨y,((hsub y).1 hy).1,hb⟩
  by_cases hh:∃ y∈left,InB y.2 c
  ·rw [if_pos hh,if_pos (hiff.1 hh)]
  ·rw [if_neg hh,if_neg (fun h=>hh (hiff.2 h))]
theorem gm_erase {kc:α->CV} (l:List (α × β)) (i:Nat):(gm kc vc l).eraseIdx i=gm kc vc (l.eraseIdx i):=by
 induction l generalizing i with
 | nil=>rfl
 | cons x l ih =>
  cases i with
  | zero=>rfl
  | succ i=>exact congrArg _ (ih i)
theorem gm_get {kc:α->CV} {l:List (α × β)} {x:CV × CV} (h:(gm kc vc l)[i]? = some x):∃ y,l[i]? = some y/\x=(kc y.1,vc y.2):=by
 unfold gm at h;rw [n_14,n_26] at h;obtain ⟨y,h1,h2⟩:=h;exact ⟨y,h1,h2.symm⟩
theorem pure_bytes (l:Str) (nn:Bool):Pure (.list (l.map bcv) nn none):=pure_rows (f:=bcv) (fun _=>⟨.val _,tt⟩) l nn
theorem old_bytes (n:Nat) (l:Str) (nn:Bool):Old n (.list (l.map bcv) nn none):=(pure_bytes l nn).old
theorem M0_len:∀ x∈M0,x.2.length<=26:=by decide
theorem kl_inner {m m1:List (Int × Int)} {b:UInt8} {k:Int} (hb:s[j]? = some b) (h:∀ c,(glk m1 c).getD 0=if InB (s.take j) c then k else (glk m c).getD 0) :
 ∀ c,(glk (gput m1 (b.toNat:Int) k) c).getD 0=if InB (s.take (j+1)) c then k else (glk m c).getD 0:=fun c=>by
 have ht:s.take (j+1)=s.take j++[b]:=by
  obtain ⟨hlt,rfl⟩:=n_1.1 hb;exact (n_121 hlt).symm
 rw [glk_gput,ht];by_cases hc:c=(b.toNat:Int)
 ·rw [if_pos hc,if_pos ⟨b,si_,hc.symm⟩]; rfl
 ·rw [if_neg hc,h c];have hiff:InB (s.take j) c↔InB (s.take j++[b]) c:=by
   constructor
   ·rintro ⟨y,hy,e⟩; exact ⟨y,by simp [hy],e⟩
   ·rintro ⟨y,hy,e⟩
    rcases n_18.1 hy with hy | hy
    ·exact ⟨y,hy,e⟩
    ·rw [n_96.1 hy] at e; exact absurd e.symm hc
  by_cases hh:InB (s.take j) c
  ·rw [if_pos hh,if_pos (hiff.1 hh)]
  ·rw [if_neg hh,if_neg (fun h=>hh (hiff.2 h))]
theorem lx_kinds0:CCalls CC 123 [] [] fun r τ=>∃ m:List (Int × Int),ClsR [CObj.map (gm kb kv m)].length τ r (.ret (.map 0))/\ClOs [CObj.map (gm kb kv m)].length τ τ [.map (gm kb kv m)]/\([]:List CObj).length<=[CObj.map (gm kb kv m)].length/\KM m:=by
 refine (ccalls_of Tryz.func123 rfl rfl ?_);refine z_144 ?_;refine cD (d_makeMap rfl ?_);refine z_1 ?_; refine z_42 ?_;refine cD (d_makeMap rfl ?_);refine cD (d_mapUpdate_g (vc:=sv) (l:=M0.take 0) keyI (.inr rfl) tt rfl rfl rfl rfl rfl t_12 rfl ?_);refine cD (d_mapUpdate_g (vc:=sv) (l:=M0.take 1) keyI (.inr rfl) tt rfl rfl rfl rfl rfl t_12 rfl ?_);refine cD (d_mapUpdate_g (vc:=sv) (l:=M0.take 2) keyI (.inr rfl) tt rfl rfl rfl rfl rfl t_12 rfl ?_);refine cD (d_mapUpdate_g (vc:=sv) (l:=M0.take 3) keyI (.inr rfl) tt rfl rfl rfl rfl rfl t_12 rfl ?_);refine cD (d_mapUpdate_g (vc:=sv) (l:=M0.take 4) keyI (.inr rfl) tt rfl rfl rfl rfl rfl t_12 rfl ?_);refine cD (d_mapUpdate_g (vc:=sv) (l:=M0.take 5) keyI (.inr rfl) tt rfl rfl rfl rfl rfl t_12 rfl ?_);refine cD (d_mapUpdate_g (vc:=sv) (l:=M0.take 6) keyI (.inr rfl) tt rfl rfl rfl rfl rfl t_12 rfl ?_);refine cD (d_mapUpdate_g (vc:=sv) (l:=M0.take 7) keyI (.inr rfl) tt rfl rfl rfl rfl rfl t_12 rfl ?_);refine cY q_246 ?_;refine cD (d_range rfl tt rfl t_12 rfl ?_);refine z_13 ?_; refine cw_loopd hCC (α:=List (Int × Int) × List (Int × Str) × List (Int × Str)) (fun _=>[(1,.map 0),(9,.ptr 2 0)]) (fun x=>[.map (gm kb kv x.1),.dead,.iter (gm kv sv x.2.1) (gm kv sv x.2.2)]) (fun x=>KL x.1 x.2.2) (fun x=>x.2.2.length) ([],[],M0) KL.start tu_ (extra0:=[]) rfl q_273 uz_ ?_; intro ⟨m,cur,left⟩ hkl;dsimp only at hkl ⊢;refine z_0 ?_;refine cD (d_next rfl tt rfl rfl (fun hz=>?_) (fun i x hx=>?_))
 ·
  have hl0:left=[]:=by
   cases left with
   | nil=>rfl
   | cons y l=>cases hz
  subst hl0; refine z_177 ?_; refine cC (fun h1=>?_) fun h1=>?_
  ·cases h1
  ·refine z_170 ?_;exact ⟨_,res1 rfl tt q_269,⟨m,.ret (.old (.map (Nat.zero_lt_one))),⟨.same (old_km _ _),tt⟩,n_3 _,hkl.done⟩⟩
 ·
  obtain ⟨⟨k,s⟩,hy,rfl⟩:=gm_get hx;rw [gm_erase];have hks:=hkl.2.1 _ (n_0 hy);have hsl:s.length<=26:=M0_len _ hks;refine z_177 ?_; refine cC (fun h3=>?_) fun h3=>?_
  ·refine z_128 ?_; refine z_212 ?_; refine z_40 ?_; refine cY q_236 ?_; refine z_38 ?_; refine cY (y_s2b rfl tt rfl t_6 t_8 t_51 do_) ?_; refine cY q_99 ?_; refine z_24 ?_; refine cw_loopd hCC (α:=List (Int × Int) × Nat) (fun x=>[(1,.map 0),(2,(.val (.int .i64 k))),(9,.ptr 2 0),(16,(.list (s.map bcv) true none)),(17,(.val (.int .i64 (s.length:Int)))),(18,(.val (.int .i64 (x.2:Int))))]) (fun x=>[.map (gm kb kv x.1),.dead,.iter (gm kv sv [(k,s)]) (gm kv sv (left.eraseIdx i))]) (fun x=>x.2<=s.length/\∀ c,(glk x.1 c).getD 0=if InB (s.take x.2) c then k else (glk m c).getD 0) (fun x=>s.length - x.2) (m,0) ⟨n_3 _,fun c=>by rw [if_neg (by simp [InB])]⟩ tu_ (extra0:=[]) rfl q_273 uz_ ?_; intro ⟨m1,j⟩ ⟨hj,hm1⟩;dsimp only at hj hm1 ⊢;refine z_28 ?_; refine cC (fun h4=>?_) fun h4=>?_
   ·have hjl:(j:Int) < s.length:=by simpa using h4
    obtain ⟨b,hb⟩:∃ b,s[j]? = some b:=⟨s[j]'om_,si_⟩;refine z_41 ?_; refine cY (y_index rfl tt tt rfl rfl t_8 t_15 om_ (rows_get hb) rfl) ?_; refine cY (y_load_c1 rfl tt rfl t_66 rfl) ?_; refine z_257 ?_; refine cY q_246 ?_;refine cD (d_mapUpdate_g (vc:=kv) (l:=m1) (a:=(b.toNat:Int)) (b:=k) key8 (.inl rfl) tt tt trivial rfl rfl rfl t_90 rfl ?_);refine z_89 ?_;exact ⟨(gput m1 (b.toNat:Int) k,j+1),_,⟨do_,do_,kl_inner hb hm1⟩,tu_,rfl⟩
   ·have hjl:s.length<=j:=by
     have:¬ (j:Int) < s.length:=by simpa using h4
     omega
    rw [n_28 hjl] at hm1;refine cw_exit ?_;exact ⟨(m1,[(k,s)],left.eraseIdx i),_,⟨by dsimp only; rw [n_129 (n_1.1 hy).1]; have:=(n_1.1 hy).1; omega,hkl.step hy hm1⟩,tu_,rfl⟩
  ·cases h3
theorem lx_kinds (σ:List CObj):CCalls CC 123 [] σ fun r τ=>∃ m:List (Int × Int),r = .ret (.map σ.length)/\τ=σ++[.map (gm kb kv m)]/\KM m :=
 ccalls_frameN (α:=List (Int × Int)) (obs:=[]) (args:=[]) (res:=fun _=>.ret (.map 0)) (res':=fun _=>.ret (.map σ.length)) (S:=fun _=>[]) (N:=fun m=>[.map (gm kb kv m)]) (P:=KM) [] hCC rfl (fun i j k h=>by simp at h) (fun i k h=>by simp at h) (fun ob h=>by cases h) ⟨rfl,fun i c c' h=>by simp at h⟩
  (ccalls_closeN (res:=fun _=>.ret (.map 0)) (S:=fun m=>[.map (gm kb kv m)]) (P:=KM) hCC lx_kinds0) (fun m _=>⟨rfl,fun ob h=>by simp at h; subst h; exact nr_km m⟩) (fun m _=>.ret (.map (.inr ⟨n_3 _,rfl⟩)))
def inK (ks:List Int) (b:UInt8):Bool:=ks.any fun k=>decide (kindOf b.toNat=k)
def spanS (s:Str) (a:Nat) (ks:List Int):Nat:=a+((s.drop a).takeWhile (inK ks)).length
theorem spanS_end {a:Nat} (h:s.length<=a):spanS s a ks=a:=by
 unfold spanS;rw [n_34 h]; rfl
theorem spanS_step {a:Nat} {b:UInt8} (h:s[a]? = some b):spanS s a ks=if inK ks b=true then spanS s (a+1) ks else a:=by
 obtain ⟨hlt,rfl⟩:=n_1.1 h;unfold spanS;rw [n_25 hlt,n_79]
 split
 ·rw [n_7]; omega
 ·rfl
theorem spanS_le {a:Nat} (h:a<=s.length):a<=spanS s a ks/\spanS s a ks<=s.length:=by
 unfold spanS;have:=(List.takeWhile_sublist (inK ks) (l:=s.drop a)).length_le;rw [n_72] at this;omega
theorem any_take {k:Int} (h:ks[j]? = some k) (p:Int->Bool):(ks.take (j+1)).any p=((ks.take j).any p || p k):=by
 obtain ⟨hlt,rfl⟩:=n_1.1 h;rw [<- n_121 hlt,List.any_append];simp
theorem lx_span0 (s:Str) (at_:Nat) (ks:List Int) (nn:Bool) (m:List (Int × Int)) (hm:KM m) (ha:at_<=s.length) (hs:s.length<=1000000000000) (hkl:ks.length<=1000000000000):CCalls CC 124 [(sv s),(.val (.int .i64 (at_:Int))),.map 0,(.list (ks.map icv) nn none)] [CObj.map (gm kb kv m)] fun r τ=>∃ _:Unit,ClsR [CObj.map (gm kb kv m)].length τ r (.ret (.val (.int .i64 (spanS s at_ ks:Int))))/\ClOs [CObj.map (gm kb kv m)].length τ τ [CObj.map (gm kb kv m)]/\[CObj.map (gm kb kv m)].length<=[CObj.map (gm kb kv m)].length/\True:=by
 refine (ccalls_of Tryz.func124 rfl rfl ?_);refine z_4 ?_; refine z_148 ?_; refine cw_loopd hCC (α:=Nat) (fun i=>[(0,(sv s)),(1,(.val (.int .i64 (i:Int)))),(2,.map 0),(3,(.list (ks.map icv) nn none))]) (fun _=>[CObj.map (gm kb kv m)]) (fun i=>i<=s.length/\spanS s at_ ks=spanS s i ks) (fun i=>s.length - i) at_ ⟨ha,rfl⟩ tu_ (extra0:=[]) rfl q_273 uz_ ?_; intro i ⟨hi,hsp⟩; refine z_77 ?_; refine cY q_242 ?_; refine z_64 ?_; refine cC (fun h1=>?_) fun h1=>?_
 ·have hil:(i:Int) < s.length:=by simpa using h1
  obtain ⟨b,hb⟩:∃ b,s[i]? = some b:=⟨s[i]'om_,si_⟩;rw [spanS_step hb] at hsp;refine z_128 ?_; refine z_54 ?_; refine cY q_103 ?_; refine z_24 ?_; refine cw_loopd hCC (α:=Nat) (fun j=>[(0,(sv s)),(1,(.val (.int .i64 (i:Int)))),(2,.map 0),(3,(.list (ks.map icv) nn none)),(9,(.val (.bool ((ks.take j).any fun k=>decide (kindOf b.toNat=k))))),(16,(.list (ks.map icv) nn none)),(17,(.val (.int .i64 (ks.length:Int)))),(18,(.val (.int .i64 (j:Int))))]) (fun _=>[CObj.map (gm kb kv m)]) (fun j=>j<=ks.length) (fun j=>ks.length - j) 0 (n_3 _) tu_ (extra0:=[]) rfl q_273 uz_ ?_; intro j hj; refine z_28 ?_; refine cC (fun h2=>?_) fun h2=>?_
  ·have hjl:(j:Int) < ks.length:=by simpa using h2
   obtain ⟨k,hk⟩:∃ k,ks[j]? = some k:=⟨ks[j]'om_,si_⟩;refine z_41 ?_; refine cY (y_index rfl tt tt rfl rfl t_7 t_1 om_ (rows_get hk) rfl) ?_; refine cY q_248 ?_; refine z_227 ?_; refine z_94 ?_; refine cG q_212 ?_; refine cG q_72 ?_; refine cG (fun hg=>y_lookup_g (vc:=kv) (l:=m) (a:=(b.toNat:Int)) key8 rfl hg hg rfl rfl t_90 t_9 rfl rfl (lk_int _ _)) ?_; refine cG q_212 ?_; refine cG q_244 ?_; refine cY q_199 ?_; refine z_111 ?_;exact ⟨(j+1),_,⟨om_,om_⟩,⟨q_297,q_297,q_297,q_297,⟨tt,(by rw [any_take hk,<- hm]; rfl)⟩,q_297,q_297,q_297,tt⟩,rfl⟩
  ·have hjl:ks.length<=j:=by
    have:¬ (j:Int) < ks.length:=by simpa using h2
    omega
   refine z_241 ?_; refine z_32 ?_; refine cC (fun h3=>?_) fun h3=>?_
   ·have hno:inK ks b=false:=by
     have:((ks.take j).any fun k=>decide (kindOf b.toNat=k))=false:=by simpa using h3
     rwa [n_28 hjl] at this
    rw [hno] at hsp;refine z_170 ?_;exact ⟨_,res1 rfl tt q_269,⟨(),.ret (cls_int (by rw [hsp]; rfl)),⟨.same (old_km _ _),tt⟩,n_5 _,tt⟩⟩
   ·have hyes:inK ks b=true:=by
     have:((ks.take j).any fun k=>decide (kindOf b.toNat=k))=true:=by simpa using h3
     rwa [n_28 hjl] at this
    rw [hyes] at hsp;refine z_164 ?_;exact ⟨(i+1),_,⟨om_,om_,hsp⟩,tu_,rfl⟩
 ·have hge:s.length<=i:=by
   have:¬ (i:Int) < s.length:=by simpa using h1
   omega
  rw [spanS_end hge] at hsp;refine z_170 ?_;exact ⟨_,res1 rfl tt q_269,⟨(),.ret (cls_int (by rw [hsp])),⟨.same (old_km _ _),tt⟩,n_5 _,tt⟩⟩
theorem lx_span {at_:Nat} {nn:Bool} {m:List (Int × Int)} (hm:KM m) (ha:at_<=s.length) (hs:s.length<=1000000000000) (hkl:ks.length<=1000000000000) (hq:σ[q]? = some (.map (gm kb kv m))):CCalls CC 124 [(sv s),(.val (.int .i64 (at_:Int))),.map q,(.list (ks.map icv) nn none)] σ fun r τ=>r = .ret (.val (.int .i64 (spanS s at_ ks:Int)))/\τ=σ :=
 ccalls_ro1 hCC (nr_km m) (.val _) hq (.cons (.val _) (.cons (.val _) (.cons (.map rfl) (.cons (.pure (pure_ints _ _)) .nil)))) (lx_span0 s at_ ks nn m hm ha hs hkl)
def nameB (s:Str):Bool:=match s with
 | []=>false
 | b::_=>decide (s.length<=24) && decide (kindOf b.toNat=1) && s.all (inK [1,2,3])
theorem span_all:spanS s 0 ks=s.length↔s.all (inK ks)=true:=by
 unfold spanS;rw [n_70,n_10];generalize inK ks=p
 induction s with
 | nil=>simp
 | cons b s ih =>
  rw [n_79,List.all_cons];cases hp:p b with
  | false=>simp
  | true =>
   simp only [if_true,n_7,Nat.add_right_cancel_iff,n_97];exact ih
theorem head_get (h:1<=s.length):s[(0:Int).toNat]? = some (s.headD 0):=by
 cases s with
 | nil=>simp at h
 | cons b s=>rfl
theorem name_eq (s:Str) {m:List (Int × Int)} (hm:KM m) {z w:Bool} (h1:x=decide ((s.length:Int)>=1)) (h2:y=decide ((s.length:Int)<=24)) (h3:z=((glk m ((s.headD 0).toNat:Int)).getD 0 == 1)) (h4:w=((spanS s 0 [1,2,3]:Int) == (s.length:Int))):(((x && y) && z) && w)=nameB s:=by
 subst h1 h2 h3 h4;rw [hm];have h5:((spanS s 0 [1,2,3]:Int) == (s.length:Int))=s.all (inK [1,2,3]):=by
  cases h:s.all (inK [1,2,3]) with
  | true=>exact n_40 (by have:=span_all.2 h; omega)
  | false =>
   refine n_57 fun e=>?_;have:=span_all.1 (show spanS s 0 [1,2,3]=s.length by omega);rw [h] at this; cases this
 rw [h5];cases s with
 | nil=>rfl
 | cons b s =>
  have h6:decide (((b::s).length:Int)>=1)=true:=by simp; omega
  have h7:decide (((b::s).length:Int)<=24)=decide ((b::s).length<=24):=decide_eq_decide.2 om_;rw [h6,h7];rfl
theorem lx_Name_s (s:Str) (hs:s.length<=1000000000000) (σ:List CObj):CCalls CC 74 [(sv s)] σ fun r σ'=>r = .ret (.val (.bool (nameB s)))/\σ'=σ:=by
 refine CCalls.anyw hCC pu_ pu_ ?_ σ;refine ccalls_val (ccalls_of Tryz.func74 rfl rfl ?_);refine z_144 ?_;refine cD (d_callv rfl t_115 trivial (lx_kinds _) rfl ?_);intro m hm; refine z_38 ?_; refine cY q_242 ?_; refine z_130 ?_; refine cG q_210 ?_; refine z_31 ?_; refine z_94 ?_; refine cG (fun hg=>y_sindex rfl hg rfl rfl rfl t_6 q_240 (b:=s.headD 0) (head_get (by simp at hg; omega))) ?_;refine cG (fun hg=>y_lookup_g (vc:=kv) (l:=m) (a:=((s.headD 0).toNat:Int)) key8 rfl hg hg rfl rfl t_90 t_9 rfl rfl (lk_int _ _)) ?_; refine z_31 ?_; refine z_94 ?_; refine cG (fun hg=>y_lit ([1,2,3].map icv) rfl ⟨rfl,rfl,rfl,tt⟩ t_7 t_1 t_9 rfl rfl rfl rfl rfl rfl rfl rfl rfl) ?_; refine cG (fun hg=>y_callf rfl t_67 ⟨hg,rfl,hg,hg,tt⟩ (lx_span hm (n_3 _) hs de_ rfl) rfl) ?_; refine cG q_212 ?_; refine cG q_210 ?_; refine cG q_244 ?_; refine z_72 ?_;exact ⟨_,res1 rfl tt q_269,_,_,rfl,rfl,cls_bool (name_eq s hm rfl rfl rfl rfl)⟩
theorem sl_IndexByte_s (s:Str) (c:UInt8) (σ:List CObj):CCalls CC 233 [(sv s),(.val (.int .u8 (c.toNat:Int)))] σ fun r σ'=>r = .ret (.val (.int .i64 (Go.Lib.indexByte s c)))/\σ'=σ:=by
 refine CCalls.anyw hCC pu_ pu_ ?_ σ;refine ccalls_val (ccalls_of Tryz.func233 rfl rfl ?_);refine z_127 ?_; refine cY (y_ext2 (e:=Extern.BytealgIndexByte.indexByte) rfl Tryz.func274 rfl rfl rfl rfl tt tt rfl rfl (fun w=>ext_index s c w)) ?_;exact z_56
theorem strings_IndexByte_s (s:Str) (c:UInt8) (σ:List CObj):CCalls CC 189 [(sv s),(.val (.int .u8 (c.toNat:Int)))] σ fun r σ'=>r = .ret (.val (.int .i64 (Go.Lib.indexByte s c)))/\σ'=σ:=by
 refine CCalls.anyw hCC pu_ pu_ ?_ σ;refine ccalls_val (ccalls_of Tryz.func189 rfl rfl ?_);refine z_127 ?_;exact z_240
theorem sl_Index1_s (s:Str) (c:UInt8) (σ:List CObj):CCalls CC 298 [(sv s),(sv ([c]))] σ fun r σ'=>r = .ret (.val (.int .i64 (Go.Lib.indexByte s c)))/\σ'=σ:=by
 refine CCalls.anyw hCC pu_ pu_ ?_ σ;refine ccalls_val (ccalls_of Tryz.func298 rfl rfl ?_);refine z_66 ?_; refine cY q_242 ?_; refine z_1 ?_; refine z_148 ?_; refine z_2 ?_; refine cY q_255 ?_; refine z_94 ?_; refine cG q_204 ?_; refine cY q_199 ?_; refine z_1 ?_; refine cC (fun h1=>?_) fun h1=>?_
 ·have hs:s=[c]:=by simp at h1; exact h1.symm
  subst hs; refine z_19 ?_;exact ⟨_,res1 rfl tt q_269,_,_,rfl,rfl,cls_int (by simp [Go.Lib.indexByte])⟩
 ·refine z_2 ?_; refine z_18 ?_; refine cC (fun h2=>?_) fun h2=>?_
  ·refine z_6 ?_; refine cY (y_sindex rfl tt rfl rfl rfl t_6 om_ rfl) ?_;exact z_240
  ·simp at h2
theorem strings_Index1_s (s:Str) (c:UInt8) (σ:List CObj):CCalls CC 263 [(sv s),(sv ([c]))] σ fun r σ'=>r = .ret (.val (.int .i64 (Go.Lib.indexByte s c)))/\σ'=σ:=by
 refine CCalls.anyw hCC pu_ pu_ ?_ σ;refine ccalls_val (ccalls_of Tryz.func263 rfl rfl ?_);refine z_127 ?_; refine cY (y_callf rfl Tryz.call298 q_296 (sl_Index1_s s c _) rfl) ?_;exact z_56
theorem strings_Count1_s (s:Str) (c:UInt8) (σ:List CObj):CCalls CC 262 [(sv s),(sv ([c]))] σ fun r σ'=>r = .ret (.val (.int .i64 (s.count c:Nat)))/\σ'=σ:=by
 refine CCalls.anyw hCC pu_ pu_ ?_ σ;refine ccalls_val (ccalls_of Tryz.func262 rfl rfl ?_);refine z_54 ?_; refine z_228 ?_; refine cC (fun h1=>?_) fun h1=>?_
 ·simp at h1
 ·refine z_145 ?_; refine z_228 ?_; refine cC (fun h2=>?_) fun h2=>?_
  ·refine z_6 ?_; refine cY (y_sindex rfl tt rfl rfl rfl t_6 om_ rfl) ?_; refine cY (y_ext2 (e:=Extern.BytealgCount.count) rfl Tryz.func297 rfl rfl rfl rfl tt tt rfl rfl (fun w=>ext_count s c w)) ?_;exact z_56
  ·simp at h2
def splitL (c:UInt8):Str->List Str
 | []=>[[]]
 | b::l=>if b=c then []::splitL c l else match splitL c l with
  | x::xs=>(b::x)::xs
  | []=>[[b]]
theorem splitL_ne (c:UInt8) (s:Str):splitL c s≠[]:=by
 cases s with
 | nil=>simp [splitL]
 | cons b l =>
  rw [splitL]
  split
  ·simp
  ·split <;> simp
theorem splitL_length (c:UInt8) (s:Str):(splitL c s).length=s.count c+1:=by
 induction s with
 | nil=>rfl
 | cons b l ih =>
  rw [splitL,List.count_cons];by_cases h:b=c
  ·rw [if_pos h,n_7,ih,if_pos q_282]
  ·rw [if_neg h,if_neg q_282];cases hs:splitL c l with
   | nil=>exact absurd hs (splitL_ne c l)
   | cons x xs=>rw [hs] at ih; simpa using ih
theorem splitL_none {c:UInt8}:∀ {s:Str},Go.Lib.indexByte s c = -1->splitL c s=[s]
 | [],_=>rfl
 | b::l,h=>by
  rw [Go.Lib.indexByte] at h;by_cases hb:b=c
  ·rw [if_pos (by simpa using hb)] at h; omega
  ·rw [if_neg (by simpa using hb)] at h;have hl:Go.Lib.indexByte l c = -1:=by
    have:=Go.Lib.indexByte_ge l c;split at h
    ·rename_i e; simpa using e
    ·omega
   rw [splitL,if_neg hb,splitL_none hl]
theorem splitL_some {c:UInt8}:∀ {s:Str} {m:Nat},Go.Lib.indexByte s c=m->m < s.length/\splitL c s=s.take m::splitL c (s.drop (m+1))
 | [],m,h=>by rw [Go.Lib.indexByte] at h; omega
 | b::l,m,h=>by
  rw [Go.Lib.indexByte] at h;by_cases hb:b=c
  ·rw [if_pos (by simpa using hb)] at h;have hm:m=0:=by omega
   subst hm;exact ⟨si_,by rw [splitL,if_pos hb]; rfl⟩
  ·rw [if_neg (by simpa using hb)] at h;have hg:=Go.Lib.indexByte_ge l c;split at h
   ·omega
   ·rename_i e;have e':Go.Lib.indexByte l c≠-1:=by simpa using e
    obtain ⟨k,hk⟩:∃ k:Nat,Go.Lib.indexByte l c=k:=⟨(Go.Lib.indexByte l c).toNat,om_⟩;have hmk:m=k+1:=by omega
    subst hmk;obtain ⟨h1,h2⟩:=splitL_some hk;refine ⟨by simp; omega,?_⟩;rw [splitL,if_neg hb,h2];rfl
theorem old_svec (n:Nat) {k:Nat}:OldObj n (.vec 1 (d.map scv++List.replicate k (scv []))):=fun r hr c hc=>by
 rcases n_18.1 hr with hr | hr
 ·obtain ⟨x,_,rfl⟩:=n_9.1 hr;simp [scv] at hc; subst hc; exact .val _
 ·have:=List.eq_of_mem_replicate hr;subst this;simp [scv] at hc; subst hc; exact .val _
theorem sv_get {k:Nat} (hk:0 < k):(d.map scv++List.replicate k (scv []))[0+((d.length:Int)).toNat]? = some (scv []):=by
 rw [n_10,n_63,n_27 si_];simp [hk]
theorem sv_set {n:Nat} {x:Str} (hk:d.length < n):(d.map scv++List.replicate (n - d.length) (scv [])).set (0+((d.length:Int)).toNat) (scv x)=(d++[x]).map scv++List.replicate (n - (d++[x]).length) (scv []):=by
 rw [n_10,n_63,List.set_append,if_neg si_];obtain ⟨j,hj⟩:∃ j,n - d.length=j+1:=⟨n - d.length - 1,om_⟩;have h2:n - (d++[x]).length=j:=by simp; omega
 rw [hj,h2];simp [List.replicate_succ]
theorem strings_genSplit1_s (s:Str) (c:UInt8) (hs:s.length<=1000000000) (σ:List CObj):CCalls CC 207 [(sv s),(sv ([c])),(.val (.int .i64 (0))),(.val (.int .i64 (-1)))] σ fun r σ'=>r = .ret (.list ((splitL c s).map scv) true none)/\σ'=σ:=by
 refine CCalls.anyw hCC pu_ pu_ ?_ σ;have hcnt:=s.count_le_length (a:=c);have hc1:([c]:Str).length=1:=rfl;refine ccalls_val (ccalls_of Tryz.func207 rfl rfl ?_);refine z_54 ?_; refine z_12 ?_; refine cC (fun h1=>?_) fun h1=>?_
 ·simp at h1
 ·refine z_145 ?_; refine cY q_218 ?_; refine co_nil ?_; refine cC (fun h2=>?_) fun h2=>?_
  ·simp at h2
  ·refine cw_skip ?_; refine cw_cutd hCC (α:=Unit) (fun _=>[(0,(sv s)),(1,(sv ([c]))),(2,(.val (.int .i64 (0)))),(3,(.val (.int .i64 (((s.count c:Nat):Int)+1))))]) (fun _=>[]) (fun _=>True) q_273 uz_ ?_ ?_
   ·
    refine z_2 ?_; refine z_12 ?_; refine cC (fun h3=>?_) fun h3=>?_
    ·refine z_45 ?_; refine cY (y_callf rfl Tryz.call262 q_296 (strings_Count1_s s c _) rfl) ?_; refine cY q_251 ?_; refine z_1 ?_;exact ⟨(),_,tt,tu_,rfl⟩
    ·simp at h3
   ·intro _ _; refine z_6 ?_; refine cY q_242 ?_; refine cY q_251 ?_; refine cY (y_min rfl tt tt rfl rfl) ?_; refine z_38 ?_;refine cD (d_make rfl tt tt rfl rfl (n:=(s.count c+1)) (c:=(s.count c+1)) om_ om_ t_2 t_0 t_24 t_3 rfl (oneB_or rfl) rfl om_ q_226 q_81 ?_);refine z_38 ?_; refine z_131 ?_; refine z_4 ?_; refine z_148 ?_; refine cw_loopd hCC (α:=List Str × Str) (fun x=>[(0,(sv x.2)),(1,(sv ([c]))),(2,(.val (.int .i64 (0)))),(3,(.val (.int .i64 ((s.count c:Nat):Int)))),(9,.vec 0 0 (s.count c+1)),(10,(.val (.int .i64 (x.1.length:Int))))]) (fun x=>[.vec 1 (x.1.map scv++List.replicate (s.count c+1 - x.1.length) (scv []))]) (fun x=>x.1.length<=s.count c/\splitL c s=x.1++splitL c x.2/\x.2.length<=s.length) (fun x=>s.count c+1 - x.1.length) ([],s) ⟨n_3 _,rfl,n_5 _⟩ ⟨q_297,q_297,q_297,⟨tt,congrArg (fun z:Int=>(CV.val (.int .i64 z))) om_⟩,q_297,q_297,tt⟩ (extra0:=[]) rfl q_273 uz_ ?_; intro ⟨d,u⟩ ⟨hd,hsp,hul⟩;dsimp only at hd hsp hul ⊢;have hlen:=splitL_length c s;rw [hsp,n_4,splitL_length c u] at hlen;refine z_77 ?_; refine z_64 ?_; refine cC (fun h4=>?_) fun h4=>?_
    ·have hdl:d.length < s.count c:=by simp at h4; omega
     refine z_128 ?_; refine z_6 ?_; refine cY (y_callf rfl Tryz.call263 q_296 (strings_Index1_s u c _) rfl) ?_; refine z_118 ?_; refine cC (fun h5=>?_) fun h5=>?_
     ·exfalso;have hneg:Go.Lib.indexByte u c = -1:=by
       have:=Go.Lib.indexByte_ge u c;have h5':Go.Lib.indexByte u c < 0:=by simpa using h5
       omega
      have h6:=splitL_length c u;rw [splitL_none hneg] at h6;simp at h6;omega
     ·have hm0:¬ Go.Lib.indexByte u c < 0:=by simpa using h5
      obtain ⟨m,hm⟩:∃ m:Nat,Go.Lib.indexByte u c=m:=⟨(Go.Lib.indexByte u c).toNat,om_⟩;obtain ⟨hml,hsu⟩:=splitL_some hm;rw [hm];refine z_149 ?_; refine z_86 ?_; refine cY q_254 ?_; refine cY (y_sslice (h:=m) rfl tt rfl t_6 rfl q_267 q_268 q_268) ?_; refine cY (y_index_v rfl tt tt rfl rfl t_2 t_0 rfl om_ om_) ?_;refine cD (d_store_e' ((d++[u.take m]).map scv++List.replicate (s.count c+1 - (d++[u.take m]).length) (scv [])) rfl tt tt rfl q_269 t_0 (.inl rfl) rfl (sv_get (d:=d) (k:=s.count c+1 - d.length) om_) rfl (nb rfl) (by exact sv_set (d:=d) (x:=u.take m) (n:=s.count c+1) om_) rfl ?_);refine co_nil ?_; refine z_49 ?_; refine cY q_242 ?_; refine cY q_254 ?_; refine cY (y_sslice (a:=(m+1)) rfl tt rfl t_6 q_267 rfl q_268 q_268) ?_; refine z_1 ?_; refine z_116 ?_;exact ⟨(d++[u.take m],u.drop (m+1)),_,⟨by simp; omega,by simp; omega,by rw [hsp,hsu]; simp,by simp; omega⟩,⟨⟨tt,(congrArg sv (show (u.take u.length).drop (m+1)=u.drop (m+1) by rw [n_55]))⟩,q_297,q_297,q_297,q_297,⟨tt,congrArg (fun z:Int=>(CV.val (.int .i64 z))) si_⟩,tt⟩,rfl⟩
    ·have hdl:d.length=s.count c:=by
      have:¬ (d.length:Int) < ((s.count c:Nat):Int):=by simpa using h4
      omega
     have hu1:splitL c u=[u]:=by
      apply splitL_none;have h6:=splitL_length c u;have hg:=Go.Lib.indexByte_ge u c
      rcases Int.lt_or_le (Go.Lib.indexByte u c) 0 with h | h
      ·omega
      ·obtain ⟨m,hm⟩:∃ m:Nat,Go.Lib.indexByte u c=m:=⟨(Go.Lib.indexByte u c).toNat,om_⟩;obtain ⟨_,h7⟩:=splitL_some hm;have h8:=congrArg List.length h7;have h9:=splitL_ne c (u.drop (m+1));have h10:=n_69.2 h9;simp only [n_7] at h8;omega
     rw [hu1] at hsp;refine cw_exit ?_; refine z_49 ?_; refine cY (y_index_v rfl tt tt rfl rfl t_2 t_0 rfl om_ om_) ?_;refine cD (d_store_e' ((d++[u]).map scv++List.replicate (s.count c+1 - (d++[u]).length) (scv [])) rfl tt tt rfl q_269 t_0 (.inl rfl) rfl (sv_get (d:=d) (k:=s.count c+1 - d.length) om_) rfl (nb rfl) (by exact sv_set (d:=d) (x:=u) (n:=s.count c+1) om_) rfl ?_);refine z_146 ?_; refine cY q_251 ?_; refine cY (y_slice_v (h:=(d.length+1)) rfl tt rfl t_2 t_0 rfl rfl q_267 q_211 (by first|(simp; done)|(simp; omega))) ?_; refine z_5 ?_;exact ⟨_,res1 rfl tt q_269,_,_,rfl,rfl,.vecs (n_3 _) rfl (by first|(simp; done)|(simp; omega)) (by rw [hsp,n_70]; exact List.take_left' si_) (fun r hr c hc=>(rows_pure (f:=scv) (fun _=>Pures.all ⟨.val _,tt⟩) _) r hr c hc)⟩
theorem strings_Split1_s (s:Str) (c:UInt8) (hs:s.length<=1000000000) (σ:List CObj):CCalls CC 162 [(sv s),(sv ([c]))] σ fun r σ'=>r = .ret (.list ((splitL c s).map scv) true none)/\σ'=σ:=by
 refine CCalls.anyw hCC pu_ pu_ ?_ σ;refine ccalls_val (ccalls_of Tryz.func162 rfl rfl ?_);refine z_127 ?_; refine cY (y_callf rfl Tryz.call207 ⟨tt,tt,rfl,rfl,tt⟩ (strings_genSplit1_s s c hs _) rfl) ?_; refine z_5 ?_;exact ⟨_,res1 rfl tt q_269,_,_,rfl,rfl,(cls_eq rfl (pure_strs _ _))⟩
def partB (p:Str):Bool:=decide (1<=p.length) && decide (p.length<=24) && p.all (inK [1,2,3,4])
def pathB (s:Str):Bool:=decide (s.length<=80) && decide ((splitL 47 s).length<=8) && (splitL 47 s).all partB
theorem splitL_le {c:UInt8}:∀ p∈splitL c s,p.length<=s.length:=by
 induction s with
 | nil=>intro p hp; simp [splitL] at hp; subst hp; simp
 | cons b l ih =>
  intro p hp;rw [splitL] at hp;by_cases h:b=c
  ·rw [if_pos h] at hp
   rcases n_13.1 hp with rfl | hp
   ·simp
   ·have:=ih p hp; simp; omega
  ·rw [if_neg h] at hp;cases hs:splitL c l with
   | nil=>exact absurd hs (splitL_ne c l)
   | cons x xs =>
    rw [hs] at hp ih
    rcases n_13.1 hp with rfl | hp
    ·have:=ih x si_; simp; omega
    ·have:=ih p (by simp [hp]); simp; omega
theorem part_eq (p:Str) {z:Bool} (h1:x=decide ((p.length:Int) < 1)) (h2:y=decide ((p.length:Int) > 24)) (h3:z = !((spanS p 0 [1,2,3,4]:Int) == (p.length:Int))):((x || y) || z) = !partB p:=by
 subst h1 h2 h3;have h5:((spanS p 0 [1,2,3,4]:Int) == (p.length:Int))=p.all (inK [1,2,3,4]):=by
  cases h:p.all (inK [1,2,3,4]) with
  | true=>exact n_40 (by have:=span_all.2 h; omega)
  | false =>
   refine n_57 fun e=>?_;have:=span_all.1 (show spanS p 0 [1,2,3,4]=p.length by omega);rw [h] at this; cases this
 rw [h5,partB];have h6:decide ((p.length:Int) < 1) = !decide (1<=p.length):=by by_cases h:1<=p.length <;> simp [h] <;> omega
 have h7:decide ((p.length:Int) > 24) = !decide (p.length<=24):=by by_cases h:p.length<=24 <;> simp [h] <;> omega
 rw [h6,h7];simp [Bool.not_and]
theorem lx_Path_s (s:Str) (hs:s.length<=1000000000) (σ:List CObj):CCalls CC 118 [(sv s)] σ fun r σ'=>r = .ret (.val (.bool (pathB s)))/\σ'=σ:=by
 refine CCalls.anyw hCC pu_ pu_ ?_ σ;refine ccalls_val (ccalls_of Tryz.func118 rfl rfl ?_);refine z_66 ?_; refine cY (y_callf rfl Tryz.call162 q_293 (strings_Split1_s s 47 hs _) rfl) ?_; refine z_62 ?_; refine cY q_242 ?_; refine z_130 ?_; refine cG (fun hg=>y_len rfl hg rfl t_2 q_250 rfl) ?_; refine z_189 ?_; refine cC (fun h1=>?_) fun h1=>?_
 ·have hno:pathB s=false:=by
   unfold pathB;have h1':(decide ((s.length:Int) > 80) || decide (((splitL 47 s).length:Int) > 8))=true:=h1;by_cases h:s.length<=80
   ·have h2:¬ (splitL 47 s).length<=8:=by
     intro h2;have e1:decide ((s.length:Int) > 80)=false:=n_57 om_;have e2:decide (((splitL 47 s).length:Int) > 8)=false:=n_57 om_;rw [e1,e2] at h1'; cases h1'
    simp [h2]
   ·simp [h]
  exact z_242
 ·have hok:s.length<=80/\(splitL 47 s).length<=8:=by
   have h1':(decide ((s.length:Int) > 80) || decide (((splitL 47 s).length:Int) > 8))=false:=h1;simp only [Bool.or_eq_false_iff,decide_eq_false_iff_not] at h1';omega
  refine z_46 ?_;refine cD (d_callv rfl t_115 trivial (lx_kinds _) rfl ?_);intro m hm; refine z_62 ?_; refine z_107 ?_; refine cw_loopd hCC (α:=Nat) (fun i=>[(4,.map 0),(18,(.list ((splitL 47 s).map scv) true none)),(19,(.val (.int .i64 ((splitL 47 s).length:Int)))),(20,(.val (.int .i64 (i:Int))))]) (fun _=>[.map (gm kb kv m)]) (fun i=>i<=(splitL 47 s).length/\((splitL 47 s).take i).all partB=true) (fun i=>(splitL 47 s).length - i) 0 ⟨n_3 _,rfl⟩ tu_ (extra0:=[]) rfl q_273 uz_ ?_; intro i ⟨hi,hall⟩; refine z_28 ?_; refine cC (fun h2=>?_) fun h2=>?_
  ·have hil:(i:Int) < (splitL 47 s).length:=by simpa using h2
   obtain ⟨p,hp⟩:∃ p,(splitL 47 s)[i]? = some p:=⟨(splitL 47 s)[i]'om_,si_⟩;have hpl:=splitL_le p (n_0 hp);refine z_41 ?_; refine cY (y_index rfl tt tt rfl rfl t_2 t_0 om_ (rows_get hp) rfl) ?_; refine cY q_247 ?_; refine z_38 ?_; refine cY q_242 ?_; refine z_130 ?_; refine cG q_210 ?_; refine z_243 ?_; refine z_94 ?_; refine cG (fun hg=>y_lit ([1,2,3,4].map icv) rfl ⟨rfl,rfl,rfl,rfl,tt⟩ t_7 t_1 t_9 rfl rfl rfl rfl rfl rfl rfl rfl rfl) ?_; refine cG (fun hg=>y_callf rfl t_67 ⟨hg,rfl,hg,hg,tt⟩ (lx_span hm (n_3 _) om_ de_ rfl) rfl) ?_; refine cG q_212 ?_; refine cG q_210 ?_; refine cG q_244 ?_; refine z_61 ?_; refine cC (fun h3=>?_) fun h3=>?_
   ·have hbad:partB p=false:=by
     have h3':true = !partB p:=Eq.trans (Eq.symm h3) (part_eq p rfl rfl rfl);simpa using h3'.symm
    have hno:pathB s=false:=by
     unfold pathB;have:(splitL 47 s).all partB=false:=by
      rw [n_73];intro hh;have:=n_22.1 hh p (n_0 hp);rw [hbad] at this; cases this
     rw [this]; simp
    exact z_242
   ·have hgood:partB p=true:=by
     have h3':false = !partB p:=Eq.trans (Eq.symm h3) (part_eq p rfl rfl rfl);simpa using h3'.symm
    refine z_51 ?_;exact ⟨(i+1),_,⟨om_,om_,by
     obtain ⟨hlt,he⟩:=n_1.1 hp;rw [<- n_121 hlt,List.all_append,hall,he];simp [hgood]⟩,tu_,rfl⟩
  ·have hge:(splitL 47 s).length<=i:=by
    have:¬ (i:Int) < (splitL 47 s).length:=by simpa using h2
    omega
   rw [n_28 hge] at hall;refine z_178 ?_;exact ⟨_,res1 rfl tt q_269,_,_,rfl,rfl,cls_bool (by rw [pathB,hall]; simp [hok.1,hok.2])⟩
theorem k_letter (c:Int):(decide (c>=97) && decide (c<=122))=decide (kindOf c=1):=by
 by_cases h:97<=c/\c<=122
 ·have e:kindOf c=1:=by unfold kindOf; rw [if_pos h]
  simp [e,h.1,h.2]
 ·have e:kindOf c≠1:=by
   unfold kindOf;rw [if_neg h]
   repeat' split
   all_goals omega
  have e2:¬ (c>=97/\c<=122):=h;simp only [n_57 e];by_cases h1:c>=97
  ·have h2:¬ c<=122:=fun h2=>h ⟨h1,h2⟩;simp [h2]
  ·simp [h1]
theorem k_inner (b:UInt8) {z:Bool} (hx:x=decide (kindOf b.toNat=1)) (hy:y=(decide ((b.toNat:Int)>=48) && decide ((b.toNat:Int)<=57))) (hz:z=((b.toNat:Int) == 95)):((x || y) || z)=inK [1,2,3] b:=by
 subst hx hy hz;unfold inK;generalize (b.toNat:Int)=c;have h2:(decide (c>=48) && decide (c<=57))=decide (kindOf c=2):=by
  by_cases h:48<=c/\c<=57
  ·have e:kindOf c=2:=by unfold kindOf; rw [if_neg om_,if_pos h]
   simp [e,h.1,h.2]
  ·have e:kindOf c≠2:=by
    unfold kindOf
    repeat' split
    all_goals omega
   simp only [n_57 e];by_cases h1:c>=48
   ·have h2:¬ c<=57:=fun h2=>h ⟨h1,h2⟩;simp [h2]
   ·simp [h1]
 have h3:(c == 95)=decide (kindOf c=3):=by
  by_cases h:c=95
  ·subst h; rfl
  ·have e:kindOf c≠3:=by
    unfold kindOf
    repeat' split
    all_goals omega
   rw [n_57 e];simp [h]
 rw [h2,h3];simp [Bool.or_assoc]
theorem r4_letter_s (b:UInt8) (σ:List CObj):CCalls CC 131 [(.val (.int .u8 (b.toNat:Int)))] σ fun r σ'=>r = .ret (.val (.bool (decide (kindOf b.toNat=1))))/\σ'=σ:=by
 refine CCalls.anyw hCC pu_ pu_ ?_ σ;refine ccalls_val (ccalls_of Tryz.func131 rfl rfl ?_);refine z_66 ?_; refine z_130 ?_; refine z_217 ?_;exact ⟨_,res1 rfl tt q_269,_,_,rfl,rfl,cls_bool (k_letter _)⟩
theorem r4_inner_s (b:UInt8) (σ:List CObj):CCalls CC 119 [(.val (.int .u8 (b.toNat:Int)))] σ fun r σ'=>r = .ret (.val (.bool (inK [1,2,3] b)))/\σ'=σ:=by
 refine CCalls.anyw hCC pu_ pu_ ?_ σ;refine ccalls_val (ccalls_of Tryz.func119 rfl rfl ?_);refine z_66 ?_; refine cY (y_callf rfl Tryz.call131 ⟨tt,tt⟩ (r4_letter_s b _) rfl) ?_; refine z_22 ?_; refine cG q_239 ?_; refine cG (fun hg=>y_move rfl hg q_269) ?_; refine co_g2 rfl rfl (fun h=>h) rfl rfl (fun hk hg=>y_move rfl tt q_269) ?_; refine co_g2 rfl rfl (fun h=>h) rfl rfl (fun hk hg=>y_int rfl ⟨hk,hg⟩ rfl rfl rfl rfl) ?_; refine cG (fun hg=>y_pick_and rfl hg rfl (fun hp=>⟨hg,hp⟩) q_291) ?_; refine cY q_199 ?_; refine z_22 ?_; refine z_243 ?_; refine z_5 ?_;exact ⟨_,res1 rfl tt q_269,_,_,rfl,rfl,cls_bool (k_inner b rfl rfl rfl)⟩
theorem k_dot (b:UInt8) (hx:x=inK [1,2,3] b) (hy:y=((b.toNat:Int) == 46)):(x || y)=inK [1,2,3,4] b:=by
 subst hx hy;unfold inK;generalize (b.toNat:Int)=c;have h4:(c == 46)=decide (kindOf c=4):=by
  by_cases h:c=46
  ·subst h; rfl
  ·have e:kindOf c≠4:=by
    unfold kindOf
    repeat' split
    all_goals omega
   rw [n_57 e];simp [h]
 rw [h4];simp [Bool.or_assoc]
def restB (long parts:Nat) (u:Str):Bool:=match splitL 47 u with
 | []=>false
 | p::ps=>decide (1<=long+p.length) && decide (long+p.length<=24) && p.all (inK [1,2,3,4]) && ps.all partB && decide (parts+ps.length<=8)
theorem rest_start (h:s.length<=80):pathB s=restB 0 1 s:=by
 unfold pathB restB;cases hs:splitL 47 s with
 | nil=>exact absurd hs (splitL_ne 47 s)
 | cons p ps =>
  have e1:decide ((p::ps).length<=8)=decide (1+ps.length<=8):=by rw [n_7,n_102]
  rw [e1,n_40 h];simp only [List.all_cons,partB,n_10,n_97];cases decide (1+ps.length<=8) <;> simp
theorem rest_end:restB long parts []=(decide (1<=long) && decide (long<=24) && decide (parts<=8)):=by
 simp [restB,splitL]
theorem rest_slash (h:long<=24):restB long parts (47::u)=(decide (1<=long) && restB 0 (parts+1) u):=by
 unfold restB;rw [splitL,if_pos rfl];cases hs:splitL 47 u with
 | nil=>exact absurd hs (splitL_ne 47 u)
 | cons p ps =>
  have e:decide (parts+(p::ps).length<=8)=decide (parts+1+ps.length<=8):=decide_eq_decide.2 q_287;simp only [e,List.all_cons,partB,n_10,n_12,n_38,n_40 h,List.all_nil,Bool.and_true,Bool.and_assoc]
theorem rest_in {b:UInt8} (hb:b≠47) (hk:inK [1,2,3,4] b=true):restB long parts (b::u)=restB (long+1) parts u:=by
 unfold restB;rw [splitL,if_neg hb];cases hs:splitL 47 u with
 | nil=>exact absurd hs (splitL_ne 47 u)
 | cons p ps =>
  have e:long+(b::p).length=long+1+p.length:=by simp; omega
  simp only [e,List.all_cons,hk,n_97]
theorem rest_out {b:UInt8} (hb:b≠47) (hk:inK [1,2,3,4] b=false):restB long parts (b::u)=false:=by
 unfold restB;rw [splitL,if_neg hb];cases hs:splitL 47 u with
 | nil=>exact absurd hs (splitL_ne 47 u)
 | cons p ps=>simp [hk]
theorem rest_long (h:24 < long):restB long parts u=false:=by
 unfold restB
 split
 ·rfl
 ·rename_i p ps _;have:¬ long+p.length<=24:=by omega
  simp [this]
theorem drop_get {b:UInt8} (h:s[i]? = some b):s.drop i=b::s.drop (i+1):=by
 obtain ⟨hlt,rfl⟩:=n_1.1 h;exact n_25 hlt
theorem rest_fin:(decide ((long:Int) > 0) && decide ((parts:Int)<=8))=(decide (1<=long) && decide (parts<=8)):=by
 have e1:decide ((long:Int) > 0)=decide (1<=long):=decide_eq_decide.2 om_;have e2:decide ((parts:Int)<=8)=decide (parts<=8):=decide_eq_decide.2 om_;rw [e1,e2]
theorem r4_Path_s (s:Str) (σ:List CObj):CCalls CC 61 [(sv s)] σ fun r σ'=>r = .ret (.val (.bool (pathB s)))/\σ'=σ:=by
 refine CCalls.anyw hCC pu_ pu_ ?_ σ;refine ccalls_val (ccalls_of Tryz.func61 rfl rfl ?_);refine z_144 ?_; refine z_83 ?_; refine z_16 ?_; refine z_228 ?_; refine cC (fun h1=>?_) fun h1=>?_
 ·have h80:¬ s.length<=80:=by
   have:(s.length:Int) > 80:=by simpa using h1
   omega
  refine z_19 ?_;exact ⟨_,res1 rfl tt q_269,_,_,rfl,rfl,cls_bool (by simp [pathB,h80])⟩
 ·have h80:s.length<=80:=by
   have:¬ (s.length:Int) > 80:=by simpa using h1
   omega
  refine z_9 ?_; refine z_203 ?_; refine cw_loopd hCC (α:=Nat × Nat × Nat) (fun x=>[(0,(sv s)),(3,(.val (.int .i64 (x.2.1:Int)))),(4,(.val (.int .i64 (x.2.2:Int)))),(5,(.val (.int .i64 (x.1:Int))))]) (fun _=>[]) (fun x=>x.1<=s.length/\x.2.2<=24/\x.2.1<=x.1+1/\pathB s=restB x.2.2 x.2.1 (s.drop x.1)) (fun x=>s.length - x.1) (0,1,0) ⟨n_3 _,de_,de_,rest_start h80⟩ tu_ (extra0:=[]) rfl q_273 uz_ ?_; intro ⟨i,parts,long⟩ ⟨hi,hlo,hpa,hrest⟩;dsimp only at hi hlo hpa hrest ⊢;refine z_77 ?_; refine cY q_242 ?_; refine z_64 ?_; refine cC (fun h2=>?_) fun h2=>?_
  ·have hil:(i:Int) < s.length:=by simpa using h2
   obtain ⟨b,hb⟩:∃ b,s[i]? = some b:=⟨s[i]'om_,si_⟩;rw [drop_get hb] at hrest;refine z_20 ?_; refine z_148 ?_; refine z_6 ?_; refine cY q_195 ?_; refine z_18 ?_; refine cC (fun h3=>?_) fun h3=>?_
   ·have hb47:b=47:=by
     have h47:(b.toNat:Int)=47:=by simpa using h3
     have h48:(47:UInt8).toNat=47:=rfl;exact n_120.1 om_
    subst hb47;rw [rest_slash hlo] at hrest;refine z_183 ?_; refine cC (fun h4=>?_) fun h4=>?_
    ·have hl0:long=0:=by
      have:(long:Int)=0:=by simpa using h4
      omega
     subst hl0; refine z_19 ?_;exact ⟨_,res1 rfl tt q_269,_,_,rfl,rfl,cls_bool (show false=pathB s by rw [hrest]; rfl)⟩
    ·have hl0:1<=long:=by
      have:¬ (long:Int)=0:=by simpa using h4
      omega
     rw [n_40 hl0,n_97] at hrest;refine cw_skip ?_; refine z_76 ?_; refine cY q_236 ?_; refine z_3 ?_; refine z_2 ?_; refine z_12 ?_; refine cC (fun h5=>?_) fun h5=>?_
     ·exfalso;simp at h5
     ·refine z_164 ?_;exact ⟨(i+1,parts+1,0),_,⟨do_,do_,do_,do_,hrest⟩,tu_,rfl⟩
   ·have hb47:b≠47:=by
     intro e; subst e;simp at h3
    refine z_6 ?_; refine cY q_195 ?_; refine cY (y_callf rfl Tryz.call119 ⟨tt,tt⟩ (r4_inner_s b _) rfl) ?_; refine z_94 ?_; refine cG q_72 ?_; refine z_243 ?_; refine z_1 ?_; refine cC (fun h6=>?_) fun h6=>?_
    ·have hin:inK [1,2,3,4] b=true:=Eq.trans (Eq.symm (k_dot b rfl rfl)) h6;rw [rest_in hb47 hin] at hrest;refine z_76 ?_; refine z_208 ?_; refine cC (fun h7=>?_) fun h7=>?_
     ·have hbig:24 < long+1:=by
       have:((long:Int)+1) > 24:=by simpa using h7
       omega
      refine z_19 ?_;exact ⟨_,res1 rfl tt q_269,_,_,rfl,rfl,cls_bool (show false=pathB s by rw [hrest,rest_long hbig])⟩
     ·have hbig:long+1<=24:=by
       have:¬ ((long:Int)+1) > 24:=by simpa using h7
       omega
      refine z_164 ?_;exact ⟨(i+1,parts,long+1),_,⟨do_,do_,hbig,do_,hrest⟩,tu_,rfl⟩
    ·have hin:inK [1,2,3,4] b=false:=Eq.trans (Eq.symm (k_dot b rfl rfl)) h6;rw [rest_out hb47 hin] at hrest;refine z_19 ?_;exact ⟨_,res1 rfl tt q_269,_,_,rfl,rfl,cls_bool (show false=pathB s from hrest.symm)⟩
  ·have hge:s.length<=i:=by
    have:¬ (i:Int) < s.length:=by simpa using h2
    omega
   rw [n_34 hge,rest_end,n_40 hlo,Bool.and_true] at hrest;refine z_65 ?_; refine z_130 ?_; refine z_217 ?_;exact ⟨_,res1 rfl tt q_269,_,_,rfl,rfl,cls_bool (Eq.trans rest_fin hrest.symm)⟩
structure Ky where
 k:Int
 a:Str
 b:Str
deriving DecidableEq
variable {a:Nat}
abbrev Ky.cells (x:Ky):List CV:=[.val (.int .i64 x.k),sv x.a,sv x.b]
def Ky.cv (x:Ky):List CV:=x.cells
theorem pure_keys (l:List Ky) (nn:Bool):Pure (.list (l.map Ky.cv) nn none):=pure_rows (f:=Ky.cv) (fun _=>⟨.val _,.val _,.val _,tt⟩) l nn
theorem old_keys (n:Nat) (l:List Ky) (nn:Bool):Old n (.list (l.map Ky.cv) nn none):=(pure_keys l nn).old
theorem old_key (n:Nat) (x:Ky):OldObj n (.box x.cells):=old_box ⟨.val _,.val _,.val _,tt⟩
def keyB (x:Ky):Bool :=
 if (x.k == 1 || x.k == 2)=true then nameB x.a && nameB x.b else if (x.k == 3 || x.k == 4)=true then pathB x.a && decide (x.b=[]) else if (x.k == 5 || x.k == 6 || x.k == 7)=true then nameB x.a && decide (x.b=[]) else false
theorem fa_Check_s (x:Ky) (ha:x.a.length<=1000000000) (hb0:x.b.length<=1000000000) (σ:List CObj):CCalls CC 59 [.agg x.cells] σ fun r σ'=>r = .ret (.val (.bool (keyB x)))/\σ'=σ:=by
 refine CCalls.anyw hCC pu_ pu_ ?_ σ;refine ccalls_val (ccalls_of Tryz.func59 rfl rfl ?_);refine z_209 ?_; refine cY q_168 ?_; refine z_165 ?_; refine cw_cutd hCC (α:=Bool) (fun b=>[(1,.ptr 0 0),(4,(.val (.int .i64 x.k))),(5,(.val (.bool b)))]) (fun _=>[.box x.cells]) (fun b=>b=(x.k == 1 || x.k == 2)) q_273 uz_ ?_ ?_
 ·
  refine z_27 ?_; refine cC (fun h1=>?_) fun h1=>?_
  ·refine cw_skip ?_;exact ⟨(x.k == 1),_,(by simp_all),tu_,rfl⟩
  ·refine z_126 ?_;exact ⟨(x.k == 2),_,(by simp_all),tu_,rfl⟩
 ·intro b hb; refine cC (fun h2=>?_) fun h2=>?_
  ·refine z_0 ?_; refine z_192 ?_; refine cY q_178 ?_; refine z_272 ?_; refine cG (fun hg=>y_callf rfl t_59 ⟨hg,tt⟩ (lx_Name_s x.b om_ _) rfl) ?_; refine z_72 ?_;exact ⟨_,res1 rfl tt q_269,_,_,rfl,rfl,cls_bool (show (nameB x.a && nameB x.b)=keyB x by simp_all [keyB])⟩
  ·refine cw_cutd hCC (α:=Bool) (fun b=>[(1,.ptr 0 0),(4,(.val (.int .i64 x.k))),(16,(.val (.bool b)))]) (fun _=>[.box x.cells]) (fun b=>b=(x.k == 3 || x.k == 4)) q_273 uz_ ?_ ?_
   ·
    refine z_27 ?_; refine cC (fun h3=>?_) fun h3=>?_
    ·refine cw_skip ?_;exact ⟨(x.k == 3),_,(by simp_all),tu_,rfl⟩
    ·refine z_126 ?_;exact ⟨(x.k == 4),_,(by simp_all),tu_,rfl⟩
   ·intro b2 hb2; refine cC (fun h4=>?_) fun h4=>?_
    ·refine z_0 ?_; refine z_192 ?_; refine cY (y_callf rfl t_60 ⟨tt,tt⟩ (lx_Path_s x.a om_ _) rfl) ?_; refine z_272 ?_; refine cG q_201 ?_; refine z_72 ?_;exact ⟨_,res1 rfl tt q_269,_,_,rfl,rfl,cls_bool (show (pathB x.a && decide (x.b=[]))=keyB x by simp_all [keyB])⟩
    ·refine cw_seq ?_; refine z_27 ?_; refine cC (fun h5=>?_) fun h5=>?_
     ·refine cw_skip ?_; refine cC (fun h6=>?_) fun h6=>?_
      ·refine z_0 ?_; refine z_192 ?_; refine cY q_178 ?_; refine z_272 ?_; refine cG q_201 ?_;exact z_81
      ·refine z_245 ?_;exact ⟨_,res1 rfl tt q_269,_,_,rfl,rfl,cls_bool (show false=keyB x by simp_all)⟩
     ·refine z_27 ?_; refine cC (fun h7=>?_) fun h7=>?_
      ·refine cw_skip ?_; refine cC (fun h8=>?_) fun h8=>?_
       ·refine z_0 ?_; refine z_192 ?_; refine cY q_178 ?_; refine z_272 ?_; refine cG q_201 ?_;exact z_81
       ·refine z_245 ?_;exact ⟨_,res1 rfl tt q_269,_,_,rfl,rfl,cls_bool (show false=keyB x by simp_all)⟩
      ·refine z_126 ?_; refine cC (fun h9=>?_) fun h9=>?_
       ·refine z_0 ?_; refine z_192 ?_; refine cY q_178 ?_; refine z_272 ?_; refine cG q_201 ?_;exact z_81
       ·refine cw_skip ?_;exact z_105
theorem ext_compare {P:Program} (a b:Str) (w:World):(Extern.BytealgCompare.compare #[.string (str a),.string (str b)]).run P w = .ok (.int .i64 (Go.Lib.compareBytes a b)) w:=by
 have:=Go.Lib.run_compareString (P:=P) (str a) (str b) w;rw [this];simp [str]
def cmpI (a b:Int):Int:=if a < b then -1 else if b < a then 1 else 0
def cmpK (x y:Ky):Int:=if cmpI x.k y.k≠0 then cmpI x.k y.k else if Go.Lib.compareBytes x.a y.a≠0 then Go.Lib.compareBytes x.a y.a else Go.Lib.compareBytes x.b y.b
theorem cb_lt:∀ (a b:Str),Op.bytesLess a b=decide (Go.Lib.compareBytes a b = -1)
 | [],[]=>rfl
 | [],_::_=>rfl
 | _::_,[]=>by simp [Op.bytesLess,Go.Lib.compareBytes]
 | x::a,y::b=>by
  rw [Op.bytesLess,Go.Lib.compareBytes,cb_lt a b];by_cases h:x < y
  ·simp [h]
  ·by_cases h':y < x
   ·have:¬ x=y:=fun e=>h (by rw [e] at h'; exact absurd h' si_);simp [h,h',this]
   ·have:x=y:=by
     apply n_120.1;rw [n_122] at h h';omega
    subst this;simp
theorem cb_eq:∀ (a b:Str),Go.Lib.compareBytes a b=0↔a=b
 | [],[]=>by simp [Go.Lib.compareBytes]
 | [],_::_=>by simp [Go.Lib.compareBytes]
 | _::_,[]=>by simp [Go.Lib.compareBytes]
 | x::a,y::b=>by
  rw [Go.Lib.compareBytes];by_cases h:x < y
  ·have:¬ x=y:=fun e=>by rw [e] at h; exact absurd h si_
   simp [h,this]
  ·by_cases h':y < x
   ·have:¬ x=y:=fun e=>by rw [e] at h'; exact absurd h' si_
    simp [h,h',this]
   ·have:x=y:=by
     apply n_120.1;rw [n_122] at h h';omega
    subst this;simp [cb_eq a b]
theorem cb_anti:∀ (a b:Str),Go.Lib.compareBytes b a = - Go.Lib.compareBytes a b
 | [],[]=>rfl
 | [],_::_=>rfl
 | _::_,[]=>rfl
 | x::a,y::b=>by
  rw [Go.Lib.compareBytes,Go.Lib.compareBytes,cb_anti a b];by_cases h:x < y
  ·have:¬ y < x:=fun h'=>by
    rw [n_122] at h h';omega
   simp [h,this]
  ·by_cases h':y < x <;> simp [h,h']
theorem cb_val:∀ (a b:Str),Go.Lib.compareBytes a b = -1\/Go.Lib.compareBytes a b=0\/Go.Lib.compareBytes a b=1
 | [],[]=>.inr (.inl rfl)
 | [],_::_=>.inl rfl
 | _::_,[]=>.inr (.inr rfl)
 | x::a,y::b=>by
  rw [Go.Lib.compareBytes]
  split
  ·exact .inl rfl
  ·split
   ·exact .inr (.inr rfl)
   ·exact cb_val a b
theorem cmpI_eq (a b:Int):cmpI a b=0↔a=b:=by unfold cmpI; split <;> (try split) <;> omega
theorem cmpK_eq (x y:Ky):cmpK x y=0↔x=y:=by
 obtain ⟨k,a,b⟩:=x;obtain ⟨k',a',b'⟩:=y;unfold cmpK;simp only [Ky.mk.injEq];have h1:=cmpI_eq k k';have h2:=cb_eq a a';have h3:=cb_eq b b'
 split
 ·rename_i h;exact ⟨fun e=>absurd e h,fun ⟨e,_⟩=>h1.2 e⟩
 ·rename_i h;have hk:k=k':=h1.1 q_282
  split
  ·rename_i h;exact ⟨fun e=>absurd e h,fun ⟨_,e,_⟩=>h2.2 e⟩
  ·rename_i h;have ha:a=a':=h2.1 q_282;rw [h3];exact ⟨fun e=>⟨hk,ha,e⟩,fun ⟨_,_,e⟩=>e⟩
theorem cmpK_anti (x y:Ky):cmpK y x = - cmpK x y:=by
 unfold cmpK;have h1:cmpI y.k x.k = - cmpI x.k y.k:=by unfold cmpI; split <;> split <;> (try split) <;> omega
 rw [h1,cb_anti x.a y.a,cb_anti x.b y.b];by_cases h:cmpI x.k y.k=0
 ·by_cases h':Go.Lib.compareBytes x.a y.a=0 <;> simp [h,h']
 ·simp [h]
theorem cmpK_val (x y:Ky):cmpK x y = -1\/cmpK x y=0\/cmpK x y=1:=by
 unfold cmpK
 split
 ·unfold cmpI
  split
  ·exact .inl rfl
  ·split
   ·exact .inr (.inr rfl)
   ·exact .inr (.inl rfl)
 ·split
  ·exact cb_val _ _
  ·exact cb_val _ _
theorem eq_ky (x y:Ky):∀ w,(Op.equal 39 (.agg [.int .i64 x.k,.string (str x.a),.string (str x.b)].toArray) (.agg [.int .i64 y.k,.string (str y.a),.string (str y.b)].toArray)).run CC.P w = .ok (decide (x=y)) w:=fun w=>by
 show (Op.equal _ _ _).run Tryz.prog w=_;simp [Op.equal,Op.maxDepth,go_sem,str_toList];obtain ⟨a,b,c⟩:=x;obtain ⟨a',b',c'⟩:=y;by_cases h1:a=a' <;> by_cases h2:b=b' <;> by_cases h3:c=c' <;> simp [h1,h2,h3]
theorem cmp_isNaN_s (a:Int) (σ:List CObj):CCalls CC 218 [(.val (.int .i64 a))] σ fun r σ'=>r = .ret (.val (.bool false))/\σ'=σ:=by
 refine CCalls.anyw hCC pu_ pu_ ?_ σ;refine ccalls_val (ccalls_of Tryz.func218 rfl rfl ?_);refine z_127 ?_; refine cY q_260 ?_; refine z_5 ?_;exact ⟨_,res1 rfl tt q_269,_,_,rfl,rfl,cls_bool si_⟩
theorem cmp_Compare_s (a b:Int) (σ:List CObj):CCalls CC 168 [(.val (.int .i64 a)),(.val (.int .i64 b))] σ fun r σ'=>r = .ret (.val (.int .i64 (cmpI a b)))/\σ'=σ:=by
 refine CCalls.anyw hCC pu_ pu_ ?_ σ;refine ccalls_val (ccalls_of Tryz.func168 rfl rfl ?_);refine z_66 ?_; refine cY (y_callf rfl Tryz.call218 ⟨tt,tt⟩ (cmp_isNaN_s a _) rfl) ?_; refine z_38 ?_; refine cY (y_callf rfl Tryz.call218 ⟨tt,tt⟩ (cmp_isNaN_s b _) rfl) ?_; refine z_62 ?_; refine co_nil ?_; refine cC (fun h1=>?_) fun h1=>?_
 ·cases h1
 ·refine z_145 ?_; refine co_nil ?_; refine cC (fun h3=>?_) fun h3=>?_
  ·cases h3
  ·refine z_9 ?_; refine z_6 ?_; refine z_64 ?_; refine cC (fun h4=>?_) fun h4=>?_
   ·have hlt:a < b:=by simpa using h4
    refine z_19 ?_;exact ⟨_,res1 rfl tt q_269,_,_,rfl,rfl,cls_int (show (-1:Int)=cmpI a b by rw [cmpI,if_pos hlt])⟩
   ·have hge:¬ a < b:=by simpa using h4
    refine z_9 ?_; refine z_6 ?_; refine z_64 ?_; refine cC (fun h5=>?_) fun h5=>?_
    ·have hlt:b < a:=by simpa using h5
     refine z_19 ?_;exact ⟨_,res1 rfl tt q_269,_,_,rfl,rfl,cls_int (show (1:Int)=cmpI a b by rw [cmpI,if_neg hge,if_pos hlt])⟩
    ·have hge2:¬ b < a:=by simpa using h5
     refine z_245 ?_;exact ⟨_,res1 rfl tt q_269,_,_,rfl,rfl,cls_int (show (0:Int)=cmpI a b by rw [cmpI,if_neg hge,if_neg hge2])⟩
theorem or_here {l:List Int} {x:Int} (hx:l[i]? = some x) (hz:∀ y∈l.take i,y=0) (h:x≠0):x=(l.find? fun x=>decide (x≠0)).getD 0:=by
 obtain ⟨hlt,rfl⟩:=n_1.1 hx;have:l.find? (fun x=>decide (x≠0))=some l[i]:=by
  rw [List.find?_eq_some_iff_getElem];refine ⟨by simpa using h,i,hlt,rfl,fun j hj=>?_⟩;have:=hz l[j] (n_0 (i:=j) (by rw [n_31,if_pos hj]; simp));simp [this]
 rw [this]; rfl
theorem or_step {l:List Int} {x:Int} (hx:l[i]? = some x) (hz:∀ y∈l.take i,y=0) (h:x=0):∀ y∈l.take (i+1),y=0:=by
 obtain ⟨hlt,rfl⟩:=n_1.1 hx;rw [<- n_121 hlt];intro y hy
 rcases n_18.1 hy with hy | hy
 ·exact hz y hy
 ·rw [n_96.1 hy]; exact h
theorem or_none {l:List Int} (hz:∀ y∈l,y=0):(0:Int)=(l.find? fun x=>decide (x≠0)).getD 0:=by
 have:l.find? (fun x=>decide (x≠0))=none:=n_98.2 fun x hx=>by simp [hz x hx]
 rw [this]; rfl
theorem cmp_Or_s (l:List Int) (hl:l.length<=1000000) (σ:List CObj):CCalls CC 167 [(.list (l.map icv) true none)] σ fun r σ'=>r = .ret (.val (.int .i64 ((l.find? fun x=>decide (x≠0)).getD 0)))/\σ'=σ:=by
 refine CCalls.anyw hCC pu_ pu_ ?_ σ;refine ccalls_val (ccalls_of Tryz.func167 rfl rfl ?_);refine z_4 ?_; refine z_54 ?_; refine cY q_103 ?_; refine z_24 ?_; refine cw_loopd hCC (α:=Nat) (fun i=>[(3,(.val (.int .i64 (0)))),(6,(.list (l.map icv) true none)),(7,(.val (.int .i64 (l.length:Int)))),(8,(.val (.int .i64 (i:Int))))]) (fun _=>[]) (fun i=>i<=l.length/\∀ x∈l.take i,x=0) (fun i=>l.length - i) 0 ⟨n_3 _,si_⟩ tu_ (extra0:=[]) rfl q_273 uz_ ?_; intro i ⟨hi,hz⟩; refine z_28 ?_; refine cC (fun h1=>?_) fun h1=>?_
 ·have hil:(i:Int) < l.length:=by simpa using h1
  obtain ⟨x,hx⟩:∃ x,l[i]? = some x:=⟨l[i]'om_,si_⟩;refine z_41 ?_; refine cY (y_index rfl tt tt rfl rfl t_7 t_1 om_ (rows_get hx) rfl) ?_; refine cY q_248 ?_; refine z_1 ?_; refine z_6 ?_; refine z_64 ?_; refine cC (fun h2=>?_) fun h2=>?_
  ·have hx0:x≠0:=by simpa using h2
   refine z_204 ?_;exact ⟨_,res1 rfl tt q_269,_,_,rfl,rfl,cls_int (or_here hx hz hx0)⟩
  ·have hx0:x=0:=by simpa using h2
   refine z_51 ?_;exact ⟨(i+1),_,⟨om_,om_,or_step hx hz hx0⟩,tu_,rfl⟩
 ·have hge:l.length<=i:=by
   have:¬ (i:Int) < l.length:=by simpa using h1
   omega
  rw [n_28 hge] at hz;refine z_170 ?_;exact ⟨_,res1 rfl tt q_269,_,_,rfl,rfl,cls_int (or_none hz)⟩
theorem ba_CompareString_s (a b:Str) (σ:List CObj):CCalls CC 219 [(sv a),(sv b)] σ fun r σ'=>r = .ret (.val (.int .i64 (Go.Lib.compareBytes a b)))/\σ'=σ:=by
 refine CCalls.anyw hCC pu_ pu_ ?_ σ;refine ccalls_val (ccalls_of Tryz.func219 rfl rfl ?_);refine z_127 ?_; refine cY (y_ext2 (e:=Extern.BytealgCompare.compare) rfl Tryz.func269 rfl rfl rfl rfl tt tt rfl rfl (fun w=>ext_compare a b w)) ?_;exact z_56
theorem strings_Compare_s (a b:Str) (σ:List CObj):CCalls CC 169 [(sv a),(sv b)] σ fun r σ'=>r = .ret (.val (.int .i64 (Go.Lib.compareBytes a b)))/\σ'=σ:=by
 refine CCalls.anyw hCC pu_ pu_ ?_ σ;refine ccalls_val (ccalls_of Tryz.func169 rfl rfl ?_);refine z_127 ?_; refine cY (y_callf rfl Tryz.call219 q_296 (ba_CompareString_s a b _) rfl) ?_;exact z_56
theorem or_cmp (x y:Ky):(([cmpI x.k y.k,Go.Lib.compareBytes x.a y.a,Go.Lib.compareBytes x.b y.b].find? fun x=>decide (x≠0)).getD 0)=cmpK x y:=by
 unfold cmpK;by_cases h1:cmpI x.k y.k=0
 ·by_cases h2:Go.Lib.compareBytes x.a y.a=0
  ·by_cases h3:Go.Lib.compareBytes x.b y.b=0 <;> simp [h1,h2,h3]
  ·simp [h1,h2]
 ·simp [h1]
theorem fa_Compare (x y:Ky):CCalls CC 128 [.agg x.cells,.agg y.cells] [] fun r σ'=>r = .ret (.val (.int .i64 (cmpK x y)))/\σ'=[]:=by
 refine ccalls_val (ccalls_of Tryz.func128 rfl rfl ?_);refine z_63 ?_; refine z_3 ?_; refine z_42 ?_; refine cY q_187 ?_; refine cY q_187 ?_; refine cY (y_eqs rfl tt tt (xs:=[.int .i64 x.k,.string (str x.a),.string (str x.b)]) (ys:=[.int .i64 y.k,.string (str y.a),.string (str y.b)]) rfl rfl t_91 (eq_ky x y)) ?_; refine co_nil ?_; refine cC (fun h1=>?_) fun h1=>?_
 ·have hxy:x=y:=by simpa using h1
  subst hxy; refine z_19 ?_;exact ⟨_,res1 rfl tt q_269,_,_,rfl,rfl,cls_int (show (0:Int)=cmpK x x from ((cmpK_eq x x).2 rfl).symm)⟩
 ·refine z_9 ?_; refine cw_draw 18 [0,1,0,4,15,0,32,0,128,511,0,1024,0,4096,16383,32767,65535,131071] q_289 q_289 rfl ?_; refine hY q_168 ?_; refine hY q_238 ?_; refine hY q_168 ?_; refine hY q_238 ?_; refine hY (y_callf rfl Tryz.call168 q_296 (cmp_Compare_s x.k y.k _) rfl) ?_; refine hY q_162 ?_; refine hY q_237 ?_; refine hY q_162 ?_; refine hY q_237 ?_; refine hY (y_callf rfl Tryz.call169 q_296 (strings_Compare_s x.a y.a _) rfl) ?_; refine hY q_162 ?_; refine hY q_237 ?_; refine hY q_162 ?_; refine hY q_237 ?_; refine hY (y_callf rfl Tryz.call169 q_296 (strings_Compare_s x.b y.b _) rfl) ?_; refine hY (y_lit ([cmpI x.k y.k,Go.Lib.compareBytes x.a y.a,Go.Lib.compareBytes x.b y.b].map icv) rfl q_286 t_7 t_1 t_9 rfl rfl rfl rfl rfl rfl rfl rfl rfl) ?_; refine hY (y_callf rfl Tryz.call167 ⟨tt,tt⟩ (cmp_Or_s _ si_ _) rfl) ?_; refine hY q_236 ?_; refine z_79 ?_; refine cw_ret ?_;exact ⟨_,res1 rfl tt q_269,_,_,rfl,rfl,cls_int (or_cmp x y)⟩
def ltK (x y:Ky):Bool:=decide (cmpK x y = -1)
theorem ltK_swap (x y:Ky):ltK y x=decide (cmpK x y=1):=by
 rw [ltK,cmpK_anti]
 rcases cmpK_val x y with h | h | h <;> simp [h]
def fold (v n:Int):Int:=if n<=1 then 0 else v%n
theorem fold_lt {v n:Int} (hn:1<=n):0<=fold v n/\fold v n < n:=by
 unfold fold
 split
 ·omega
 ·exact ⟨Int.emod_nonneg _ om_,Int.emod_lt_of_pos _ om_⟩
def tapeV (l:List Int) (at_:Nat):Int:=(l[at_]?).getD ((at_:Int)*7%11)
def tapeN (l:List Int) (at_:Nat) (n:Int):Int:=fold (tapeV l at_) n
abbrev tapeC (l:List Int) (nn:Bool) (at_:Nat):CObj:=.box [.list (l.map icv) nn none,.val (.int .i64 at_)]
theorem pure_tape (l:List Int) (nn:Bool) (k:Nat):PureO (tapeC l nn k):=Pures.all ⟨pure_ints _ _,.val _,tt⟩
theorem mk_Fold_s (v n:Int) (hn:n<=4611686018427387904) (σ:List CObj):CCalls CC 60 [(.val (.int .i64 v)),(.val (.int .i64 n))] σ fun r σ'=>r = .ret (.val (.int .i64 (fold v n)))/\σ'=σ:=by
 refine CCalls.anyw hCC pu_ pu_ ?_ σ;refine ccalls_val (ccalls_of Tryz.func60 rfl rfl ?_);refine z_54 ?_; refine z_12 ?_; refine cC (fun h1=>?_) fun h1=>?_
 ·have hn1:n<=1:=by simpa using h1
  refine z_19 ?_;exact ⟨_,res1 rfl tt q_269,_,_,rfl,rfl,cls_int (by rw [fold,if_pos hn1])⟩
 ·have hn1:¬ n<=1:=by simpa using h1
  have ht:v.tmod n=v%n\/v.tmod n+n=v%n/\v.tmod n < 0:=by
   rcases Int.le_total 0 v with hv | hv
   ·exact .inl (Int.tmod_eq_emod_of_nonneg hv)
   ·rw [Int.tmod_eq_emod]; split
    ·exact .inl om_
    ·right; have:=Int.emod_lt_of_pos v (show 0 < n by omega); have h5:(n.natAbs:Int)=n:=by omega
     omega
  have hm1:=Int.emod_nonneg v (show n≠0 by omega);have hm2:=Int.emod_lt_of_pos v (show 0 < n by omega);have hm3:=Int.tmod_lt_of_pos v (show 0 < n by omega);have hm4 : -n<=v.tmod n:=by omega
  refine cw_skip ?_; refine z_6 ?_; refine cY (y_int rfl tt tt rfl rfl (cq_rem om_)) ?_; refine z_118 ?_; refine cC (fun h2=>?_) fun h2=>?_
  ·have hlt:v.tmod n < 0:=by simpa using h2
   refine z_45 ?_; refine cY q_254 ?_; refine z_38 ?_; refine z_5 ?_;exact ⟨_,res1 rfl tt q_269,_,_,rfl,rfl,cls_int (by rw [fold,if_neg hn1]; omega)⟩
  ·have hlt:¬ v.tmod n < 0:=by simpa using h2
   refine z_71 ?_; refine z_5 ?_;exact ⟨_,res1 rfl tt q_269,_,_,rfl,rfl,cls_int (by rw [fold,if_neg hn1]; omega)⟩
theorem tape_next (l:List Int) (nn:Bool) (k:Nat) (σ:List CObj) (q:Nat) (hk:σ[q]? = some (tapeC l nn k)) (hat:k<=1000000000) (hl:l.length<=maxLen) (n:Int) (hn:n<=4611686018427387904):CCalls CC 20 [.ptr q 0,.val (.int .i64 n)] σ fun r σ'=>∃ _:Unit,r = .ret (.val (.int .i64 (tapeN l k n)))/\σ'=σ.set q (tapeC l nn (k+1))/\True:=by
 have hl1:=hl;unfold maxLen at hl1;unfold tapeC at hk;have hq:q < σ.length:=(n_1.1 hk).1;refine (ccalls_of Tryz.func20 rfl rfl ?_);refine z_66 ?_; refine z_246 ?_; refine cY q_245 ?_; refine cY (y_mul rfl tt rfl rfl rfl om_ om_) ?_; refine cY (y_int rfl tt rfl rfl rfl (cq_rem_pos om_ om_)) ?_; refine z_1 ?_;refine cw_seq (cw_seq ?_);refine cw_draw 10 [0,1,3,7,0,16,48,112,240,511] q_289 q_289 rfl ?_; refine z_36 ?_; refine hY q_165 ?_; refine hY q_245 ?_; refine z_36 ?_; refine z_210 ?_; refine hY q_103 ?_; refine hY q_260 ?_; refine z_79 ?_; refine cC (fun h1=>?_) fun h1=>?_
 ·have hlt:(k:Int) < l.length:=by simpa using h1
  obtain ⟨v,hv⟩:∃ v,l[k]? = some v:=⟨l[k]'om_,si_⟩;refine cw_draw 11 [0,1,3,7,0,16,48,112,255,511,1023] q_289 q_289 rfl ?_; refine z_36 ?_; refine z_210 ?_; refine z_36 ?_; refine hY q_165 ?_; refine hY q_245 ?_; refine hY (y_index rfl tt tt rfl rfl t_7 t_1 om_ (rows_get hv) rfl) ?_; refine hY q_248 ?_; refine z_263 ?_; refine z_33 ?_; refine z_246 ?_; refine cY q_245 ?_; refine cY q_251 ?_; refine z_276 ?_; refine z_146 ?_; refine cY (y_callf rfl Tryz.call60 q_296 (mk_Fold_s v n hn _) rfl) ?_; refine z_5 ?_;exact ⟨_,res1 rfl tt q_269,⟨(),by rw [tapeN,tapeV,hv]; rfl,rfl,tt⟩⟩
 ·have hge:¬ (k:Int) < l.length:=by simpa using h1
  have hv:l[k]? = none:=n_84 om_;refine z_71 ?_; refine z_246 ?_; refine cY q_245 ?_; refine cY q_251 ?_; refine z_276 ?_; refine z_146 ?_; refine cY (y_callf rfl Tryz.call60 q_296 (mk_Fold_s _ n hn _) rfl) ?_; refine z_5 ?_;exact ⟨_,res1 rfl tt q_269,⟨(),by rw [tapeN,tapeV,hv]; rfl,rfl,tt⟩⟩
theorem tape_chance (l:List Int) (nn:Bool) (k:Nat) (σ:List CObj) (q:Nat) (hk:σ[q]? = some (tapeC l nn k)) (hat:k<=1000000000) (hl:l.length<=maxLen) (n m:Int) (hn:m<=4611686018427387904):CCalls CC 12 [.ptr q 0,.val (.int .i64 n),.val (.int .i64 m)] σ fun r σ'=>∃ _:Unit,r = .ret (.val (.bool (decide (tapeN l k m < n))))/\σ'=σ.set q (tapeC l nn (k+1))/\True:=by
 refine (ccalls_of Tryz.func12 rfl rfl ?_);refine z_127 ?_;refine cD (d_callv rfl t_31 q_296 (tape_next l nn k σ q hk hat hl m hn) rfl ?_);intro _ _; refine cY q_246 ?_; refine cY q_260 ?_;exact z_273
theorem tape_pick (l:List Int) (nn:Bool) (k:Nat) (σ:List CObj) (q:Nat) (hk:σ[q]? = some (tapeC l nn k)) (hat:k<=1000000000) (hl:l.length<=maxLen) (ls:List Int) (hls:ls≠[]) (hln:ls.length<=1000):CCalls CC 51 [.ptr q 0,.list (ls.map icv) true none] σ fun r σ'=>∃ v:Int,r = .ret (.val (.int .i64 v))/\σ'=σ.set q (tapeC l nn (k+1))/\v∈ls:=by
 have hpos:=n_69.2 hls;have hb:=fold_lt (v:=tapeV l k) (n:=(ls.length:Int)) om_;obtain ⟨v,hv⟩:∃ v,ls[(tapeN l k (ls.length:Int)).toNat]? = some v:=⟨ls[(tapeN l k (ls.length:Int)).toNat]'(by unfold tapeN; omega),si_⟩;have hb':0<=tapeN l k (ls.length:Int):=hb.1;refine (ccalls_of Tryz.func51 rfl rfl ?_);refine z_54 ?_; refine cY q_103 ?_; refine z_12 ?_; refine cC (fun h1=>?_) fun h1=>?_
 ·exfalso;simp at h1;exact hls h1
 ·refine z_149 ?_; refine cY q_103 ?_;refine cD (d_callv rfl t_31 q_296 (tape_next l nn k σ q hk hat hl (ls.length:Int) om_) rfl ?_);intro _ _; refine cY (y_index rfl tt tt rfl rfl t_7 t_1 om_ (rows_get hv) rfl) ?_; refine cY q_248 ?_;exact z_224
theorem tape_one (l:List Int) (nn:Bool) (k:Nat) (σ:List CObj) (q:Nat) (hk:σ[q]? = some (tapeC l nn k)) (hat:k<=1000000000) (hl:l.length<=maxLen) (ls:List Str) (hls:ls≠[]) (hln:ls.length<=1000):CCalls CC 19 [.ptr q 0,.list (ls.map scv) true none] σ fun r σ'=>∃ v:Str,r = .ret (sv v)/\σ'=σ.set q (tapeC l nn (k+1))/\v∈ls:=by
 have hpos:=n_69.2 hls;have hb:=fold_lt (v:=tapeV l k) (n:=(ls.length:Int)) om_;obtain ⟨v,hv⟩:∃ v,ls[(tapeN l k (ls.length:Int)).toNat]? = some v:=⟨ls[(tapeN l k (ls.length:Int)).toNat]'(by unfold tapeN; omega),si_⟩;have hb':0<=tapeN l k (ls.length:Int):=hb.1;refine (ccalls_of Tryz.func19 rfl rfl ?_);refine z_54 ?_; refine z_229 ?_; refine cC (fun h1=>?_) fun h1=>?_
 ·exfalso;simp at h1;exact hls h1
 ·refine z_149 ?_; refine cY q_100 ?_;refine cD (d_callv rfl t_31 q_296 (tape_next l nn k σ q hk hat hl (ls.length:Int) om_) rfl ?_);intro _ _; refine cY (y_index rfl tt tt rfl rfl t_2 t_0 om_ (rows_get hv) rfl) ?_; refine cY q_247 ?_;exact z_224
def madePackages:List Str:=([[112],[113],[115]]:List Str)
theorem mk_Packages_s  (σ:List CObj):CCalls CC 69 [] σ fun r σ'=>r = .ret (.list (madePackages.map scv) true none)/\σ'=σ:=by
 refine CCalls.anyw hCC pu_ pu_ ?_ σ;refine ccalls_val (ccalls_of Tryz.func69 rfl rfl ?_);refine z_144 ?_; refine cY (y_lit (madePackages.map scv) rfl ⟨rfl,rfl,rfl,tt⟩ t_2 t_0 t_3 rfl rfl rfl rfl rfl rfl rfl rfl rfl) ?_;exact z_34
def madeFunctions:List Str:=([[102],[103],[104],[107]]:List Str)
theorem mk_Functions_s  (σ:List CObj):CCalls CC 29 [] σ fun r σ'=>r = .ret (.list (madeFunctions.map scv) true none)/\σ'=σ:=by
 refine CCalls.anyw hCC pu_ pu_ ?_ σ;refine ccalls_val (ccalls_of Tryz.func29 rfl rfl ?_);refine z_144 ?_; refine cY (y_lit (madeFunctions.map scv) rfl ⟨rfl,rfl,rfl,rfl,tt⟩ t_2 t_0 t_3 rfl rfl rfl rfl rfl rfl rfl rfl rfl) ?_;exact z_34
def madeTests:List Str:=([[116],[117],[118]]:List Str)
theorem mk_Tests_s  (σ:List CObj):CCalls CC 82 [] σ fun r σ'=>r = .ret (.list (madeTests.map scv) true none)/\σ'=σ:=by
 refine CCalls.anyw hCC pu_ pu_ ?_ σ;refine ccalls_val (ccalls_of Tryz.func82 rfl rfl ?_);refine z_144 ?_; refine cY (y_lit (madeTests.map scv) rfl ⟨rfl,rfl,rfl,tt⟩ t_2 t_0 t_3 rfl rfl rfl rfl rfl rfl rfl rfl rfl) ?_;exact z_34
def madePaths:List Str:=([[97,46,100,97,116],[100,47,98,46,100,97,116],[99],[97,46,115,114,99],[120,46,115,114,99]]:List Str)
theorem mk_Paths_s  (σ:List CObj):CCalls CC 83 [] σ fun r σ'=>r = .ret (.list (madePaths.map scv) true none)/\σ'=σ:=by
 refine CCalls.anyw hCC pu_ pu_ ?_ σ;refine ccalls_val (ccalls_of Tryz.func83 rfl rfl ?_);refine z_144 ?_; refine cY (y_lit (madePaths.map scv) rfl ⟨rfl,rfl,rfl,rfl,rfl,tt⟩ t_2 t_0 t_3 rfl rfl rfl rfl rfl rfl rfl rfl rfl) ?_;exact z_34
def madeVariables:List Str:=([[110],[109]]:List Str)
theorem mk_Variables_s  (σ:List CObj):CCalls CC 84 [] σ fun r σ'=>r = .ret (.list (madeVariables.map scv) true none)/\σ'=σ:=by
 refine CCalls.anyw hCC pu_ pu_ ?_ σ;refine ccalls_val (ccalls_of Tryz.func84 rfl rfl ?_);refine z_144 ?_; refine cY (y_lit (madeVariables.map scv) rfl ⟨rfl,rfl,tt⟩ t_2 t_0 t_3 rfl rfl rfl rfl rfl rfl rfl rfl rfl) ?_;exact z_34
theorem len_made {v:Str} (h:v∈madePackages\/v∈madeFunctions\/v∈madeTests\/v∈madePaths\/v∈madeVariables):v.length<=8:=by
 rcases h with h | h | h | h | h <;> revert v <;> decide
def sub (s:Str) (a e:Nat):Str:=(s.take e).drop a
theorem len_sub (h:e<=s.length):(sub s a e).length=e - a:=by simp [sub]; omega
def preB (p s:Str):Bool:=p.isPrefixOf s
def sufB (p s:Str):Bool:=decide (p.length<=s.length) && decide (s.drop (s.length - p.length)=p)
theorem pre_eq (s p:Str) (hx:x=decide ((s.length:Int)>=p.length)) (hy:x=true->y=decide ((s.take p.length).drop 0=p)):(x && y)=preB p s:=by
 subst hx;by_cases h:(s.length:Int)>=p.length
 ·rw [hy (n_40 h),n_40 h,n_97,n_70,preB];by_cases h2:s.take p.length=p
  ·have:p.isPrefixOf s=true:=by rw [n_130]; exact ⟨s.drop p.length,by rw [show p++s.drop p.length=s.take p.length++s.drop p.length by rw [h2]]; exact List.take_append_drop _ _⟩
   simp [h2,this]
  ·have:p.isPrefixOf s=false:=by
    cases hq:p.isPrefixOf s with
    | false=>rfl
    | true =>
     rw [n_130] at hq;obtain ⟨t,rfl⟩:=hq;exact absurd (List.take_left' rfl) h2
   simp [h2,this]
 ·have:p.isPrefixOf s=false:=by
   cases hq:p.isPrefixOf s with
   | false=>rfl
   | true =>
    rw [n_130] at hq;obtain ⟨t,rfl⟩:=hq;exfalso; apply h; simp; omega
  rw [preB,this,n_57 h]; rfl
theorem suf_eq (s p:Str) (hx:x=decide ((s.length:Int)>=p.length)) (hy:x=true->y=decide ((s.take s.length).drop (s.length - p.length)=p)):(x && y)=sufB p s:=by
 subst hx;unfold sufB;by_cases h:(s.length:Int)>=p.length
 ·rw [hy (n_40 h),n_40 h,n_55,n_40 (show p.length<=s.length by omega)]
 ·rw [n_57 h,n_57 (show ¬ p.length<=s.length by omega)]; rfl
theorem sl_HasPrefix_s (s p:Str) (σ:List CObj):CCalls CC 275 [(sv s),(sv p)] σ fun r σ'=>r = .ret (.val (.bool (preB p s)))/\σ'=σ:=by
 refine CCalls.anyw hCC pu_ pu_ ?_ σ;refine ccalls_val (ccalls_of Tryz.func275 rfl rfl ?_);refine z_66 ?_; refine z_193 ?_; refine cY q_242 ?_; refine cY q_260 ?_; refine z_94 ?_; refine cG q_210 ?_; refine cG (fun hg=>y_sslice (h:=p.length) rfl hg rfl t_6 rfl ⟨hg,_,_,rfl,by first|omega|(simp at hg; omega),by first|omega|(simp at hg; omega)⟩ om_ (by simp at hg; omega)) ?_; refine z_247 ?_; refine z_72 ?_;exact ⟨_,res1 rfl tt q_269,_,_,rfl,rfl,cls_bool (pre_eq s p rfl fun _=>rfl)⟩
theorem strings_HasPrefix_s (s p:Str) (σ:List CObj):CCalls CC 234 [(sv s),(sv p)] σ fun r σ'=>r = .ret (.val (.bool (preB p s)))/\σ'=σ:=by
 refine CCalls.anyw hCC pu_ pu_ ?_ σ;refine ccalls_val (ccalls_of Tryz.func234 rfl rfl ?_);refine z_127 ?_; refine cY (y_callf rfl Tryz.call275 q_296 (sl_HasPrefix_s s p _) rfl) ?_;exact z_147
theorem sl_HasSuffix_s (s p:Str) (hs:s.length<=1000000000000) (hp:p.length<=1000000000000) (σ:List CObj):CCalls CC 188 [(sv s),(sv p)] σ fun r σ'=>r = .ret (.val (.bool (sufB p s)))/\σ'=σ:=by
 refine CCalls.anyw hCC pu_ pu_ ?_ σ;refine ccalls_val (ccalls_of Tryz.func188 rfl rfl ?_);refine z_66 ?_; refine z_193 ?_; refine cY q_242 ?_; refine cY q_260 ?_; refine z_94 ?_; refine cG q_210 ?_; refine cG q_212 ?_; refine cG q_210 ?_; refine cG (fun hg=>y_sub rfl hg hg rfl rfl q_240 q_240) ?_; refine cG (fun hg=>y_sslice (a:=(s.length - p.length)) rfl hg rfl t_6 ⟨hg,_,_,rfl,by first|omega|(simp at hg; omega),by first|omega|(simp at hg; omega)⟩ rfl (by simp at hg; omega) (n_5 _)) ?_; refine z_247 ?_; refine z_72 ?_;exact ⟨_,res1 rfl tt q_269,_,_,rfl,rfl,cls_bool (suf_eq s p rfl fun _=>rfl)⟩
theorem strings_HasSuffix_s (s p:Str) (hs:s.length<=1000000000000) (hp:p.length<=1000000000000) (σ:List CObj):CCalls CC 152 [(sv s),(sv p)] σ fun r σ'=>r = .ret (.val (.bool (sufB p s)))/\σ'=σ:=by
 refine CCalls.anyw hCC pu_ pu_ ?_ σ;refine ccalls_val (ccalls_of Tryz.func152 rfl rfl ?_);refine z_127 ?_; refine cY (y_callf rfl Tryz.call188 q_296 (sl_HasSuffix_s s p hs hp _) rfl) ?_;exact z_147
theorem at_get (h:e < s.length):s[e]? = some (s[e]?.getD 0):=by simp [h]
theorem pre_len {p:Str} (h:preB p s=true):p.length<=s.length:=by
 unfold preB at h;rw [n_130] at h;exact h.length_le
structure Tok where
 k:Int
 t:Str
 n:Int
 at_:Int
variable {T:List Tok} {t:Tok}
abbrev Tok.cells (x:Tok):List CV:=[.val (.int .i64 x.k),sv x.t,.val (.int .i64 x.n),.val (.int .i64 x.at_)]
def Tok.cv (x:Tok):List CV:=x.cells
theorem pure_toks (l:List Tok) (nn:Bool):Pure (.list (l.map Tok.cv) nn none):=pure_rows (f:=Tok.cv) (fun _=>⟨.val _,.val _,.val _,.val _,tt⟩) l nn
theorem old_toks (n:Nat) (l:List Tok) (nn:Bool):Old n (.list (l.map Tok.cv) nn none):=(pure_toks l nn).old
def numS (l:Str):Int:=l.foldl (fun n b=>min (10*n+((b.toNat:Int) - 48)) 9007199254740993) 0
def endL:Str->Option Nat
 | []=>none
 | b::l=>if 32<=b.toNat/\b.toNat<=126 then (if b.toNat=34 then some 0 else (endL l).map (· + 1)) else none
def tokX (s:Str) (a:Nat) (b:UInt8):Tok × Int × Int :=
 if kindOf b.toNat=1 then
  (if 24 < spanS s a [1,2,3] - a then (⟨0,[],0,0⟩,0,2) else (⟨1,sub s a (spanS s a [1,2,3]),0,0⟩,spanS s a [1,2,3],0))
 else if kindOf b.toNat=2 then
  (if 9007199254740992 < numS (sub s a (spanS s a [2])) then (⟨0,[],0,0⟩,0,3) else (⟨2,[],numS (sub s a (spanS s a [2])),0⟩,spanS s a [2],0))
 else if kindOf b.toNat=7 then
  (match endL (s.drop (a+1)) with
   | none=>(⟨0,[],0,0⟩,0,9)
   | some n=>(⟨3,sub s (a+1) (a+1+n),0,0⟩,a+1+n+1,0))
 else if kindOf b.toNat=8 then
  (if preB [61,61] (s.drop a)=true then (⟨4,sub s a (a+2),0,0⟩,a+2,0) else (⟨4,sub s a (a+1),0,0⟩,a+1,0))
 else (⟨0,[],0,0⟩,0,9)
theorem endL_step {b:UInt8} (h:s[e]? = some b):endL (s.drop e)=if 32<=b.toNat/\b.toNat<=126 then (if b.toNat=34 then some 0 else (endL (s.drop (e+1))).map (· + 1)) else none:=by
 obtain ⟨hlt,rfl⟩:=n_1.1 h;rw [n_25 hlt]; rfl
theorem endL_none (h:s.length<=e):endL (s.drop e)=none:=by rw [n_34 h]; rfl
theorem numS_snoc {l:Str} {b:UInt8} (h:l[j]? = some b):numS (l.take (j+1))=min (10*numS (l.take j)+((b.toNat:Int) - 48)) 9007199254740993:=by
 obtain ⟨hlt,rfl⟩:=n_1.1 h;rw [<- n_121 hlt,numS,List.foldl_append];rfl
theorem numS_digs {l:Str} (h:∀ b∈l,48<=b.toNat/\b.toNat<=57):0<=numS l/\numS l<=9007199254740993:=by
 unfold numS
 suffices ∀ (l:Str) (n:Int),0<=n->n<=9007199254740993->(∀ b∈l,48<=b.toNat/\b.toNat<=57)->0<=l.foldl (fun n b=>min (10*n+((b.toNat:Int) - 48)) 9007199254740993) n/\l.foldl (fun n b=>min (10*n+((b.toNat:Int) - 48)) 9007199254740993) n<=9007199254740993 from this l 0 om_ om_ h
 intro l
 induction l with
 | nil=>intro n h0 h1 _; exact ⟨h0,h1⟩
 | cons b l ih =>
  intro n h0 h1 h;have hb:=h b si_;exact ih (min (10*n+((b.toNat:Int) - 48)) 9007199254740993) om_ om_ fun c hc=>h c (by simp [hc])
theorem kind_dig {b:UInt8}:kindOf b.toNat=2↔48<=b.toNat/\b.toNat<=57:=by
 unfold kindOf;constructor
 ·intro h;split at h
  ·omega
  ·split at h
   ·omega
   ·exfalso; revert h; repeat' split
    all_goals omega
 ·intro h;rw [if_neg om_,if_pos om_]
theorem wrap8 {c:Nat} (h:48<=c/\c<=57):IntKind.i64.wrap (IntKind.u8.wrap ((c:Int) - 48))=(c:Int) - 48:=by
 obtain ⟨h1,h2⟩:=h;simp [IntKind.wrap,IntKind.bits,IntKind.signed];omega
theorem take_while_mem {p:UInt8->Bool} {b:UInt8}:∀ {l:Str},b∈l.takeWhile p->p b=true
 | [],h=>by simp at h
 | c::l,h=>by
  rw [n_79] at h;split at h
  ·rename_i hc
   rcases n_13.1 h with rfl | h
   ·exact hc
   ·exact take_while_mem h
  ·simp at h
theorem span_digs:∀ b∈sub s a (spanS s a [2]),48<=b.toNat/\b.toNat<=57:=by
 intro b hb;have e:sub s a (spanS s a [2])=(s.drop a).takeWhile (inK [2]):=by
  unfold sub spanS;rw [List.drop_take,n_137];have h:=List.takeWhile_prefix (inK [2]) (l:=s.drop a);exact (List.prefix_iff_eq_take.1 h).symm
 rw [e] at hb;have:=take_while_mem hb;simp [inK] at this;exact kind_dig.1 this
theorem lx_token0 (s:Str) (a:Nat) (b:UInt8) (hb:s[a]? = some b) (m:List (Int × Int)) (hm:KM m) (hs:s.length<=1000000000000):CCalls CC 190 [(sv s),(.val (.int .i64 (a:Int))),.map 0] [CObj.map (gm kb kv m)] fun r τ=>∃ _:Unit,ClsR [CObj.map (gm kb kv m)].length τ r (.ret (.tup [.agg (tokX s a b).1.cells,(.val (.int .i64 ((tokX s a b).2.1))),(.val (.int .i64 ((tokX s a b).2.2)))]))/\ClOs [CObj.map (gm kb kv m)].length τ τ [CObj.map (gm kb kv m)]/\[CObj.map (gm kb kv m)].length<=[CObj.map (gm kb kv m)].length/\True:=by
 have hal:=(n_1.1 hb).1;refine (ccalls_of Tryz.func190 rfl rfl ?_);refine z_112 ?_; refine z_83 ?_; refine cw_seq ?_; refine z_49 ?_; refine cY q_195 ?_; refine cY q_49 ?_; refine z_13 ?_; refine z_27 ?_; refine cC (fun h1=>?_) fun h1=>?_
 ·have hk1:kindOf b.toNat=1:=by rw [<- hm]; simpa using h1
  have hsp:=spanS_le (ks:=[1,2,3]) (show a<=s.length by omega);refine z_49 ?_; refine cY (y_lit ([1,2,3].map icv) rfl ⟨rfl,rfl,rfl,tt⟩ t_7 t_1 t_9 rfl rfl rfl rfl rfl rfl rfl rfl rfl) ?_; refine cY (y_callf rfl t_67 q_272 (lx_span hm om_ hs de_ rfl) rfl) ?_; refine z_1 ?_; refine z_77 ?_; refine cY (y_sub rfl tt tt rfl rfl om_ om_) ?_; refine z_12 ?_; refine cC (fun h2=>?_) fun h2=>?_
  ·have hn:24 < spanS s a [1,2,3] - a:=by simp at h2; omega
   refine z_0 ?_; refine cY q_48 ?_; refine z_92 ?_; refine z_39 ?_;exact ⟨_,res_all (rs:=[.cell 6 231,.tmp 7,.tmp 8]) (cs:=[_,_,_]) rfl q_38 (n_2 rfl),⟨(),.ret (cls_eq (by rw [tokX,if_pos hk1,if_pos hn]; rfl) pu_),⟨.same (old_km _ _),tt⟩,n_5 _,tt⟩⟩
  ·have hn:¬ 24 < spanS s a [1,2,3] - a:=by simp at h2; omega
   refine z_149 ?_; refine cY (y_sslice (a:=a) (h:=(spanS s a [1,2,3])) rfl tt rfl t_6 q_80 q_80 om_ om_) ?_; refine cY q_34 ?_; refine cY q_246 ?_; refine z_69 ?_; refine z_39 ?_;exact ⟨_,res_all (rs:=[.cell 6 231,.tmp 7,.tmp 8]) (cs:=[_,_,_]) rfl q_38 (n_2 rfl),⟨(),.ret (cls_eq (by rw [tokX,if_pos hk1,if_neg hn]; rfl) pu_),⟨.same (old_km _ _),tt⟩,n_5 _,tt⟩⟩
 ·have hk1:¬ kindOf b.toNat=1:=by rw [<- hm]; simpa using h1
  refine z_27 ?_; refine cC (fun h3=>?_) fun h3=>?_
  ·have hk2:kindOf b.toNat=2:=by rw [<- hm]; simpa using h3
   have hsp:=spanS_le (ks:=[2]) (show a<=s.length by omega);have hdg:=span_digs (s:=s) (a:=a);have hln:=len_sub (a:=a) hsp.2;generalize hl:sub s a (spanS s a [2])=ds at hdg hln;refine z_49 ?_; refine cY (y_lit ([2].map icv) rfl ⟨rfl,tt⟩ t_7 t_1 t_9 rfl rfl rfl rfl rfl rfl rfl rfl rfl) ?_; refine cY (y_callf rfl t_67 q_272 (lx_span hm om_ hs de_ rfl) rfl) ?_; refine z_1 ?_; refine z_4 ?_; refine cw_seq ?_; refine z_49 ?_; refine cY (y_sslice (a:=a) (h:=(spanS s a [2])) rfl tt rfl t_6 q_80 q_80 om_ om_) ?_; refine cY (y_s2b rfl tt rfl t_6 t_8 t_51 (by have:=len_sub (a:=a) hsp.2; unfold sub at this; omega)) ?_; refine cY q_99 ?_; refine z_24 ?_; refine cw_loopd hCC (α:=Nat) (fun j=>[(6,.ptr 1 0),(10,(.val (.int .i64 (spanS s a [2]:Int)))),(11,(.val (.int .i64 (numS (ds.take j))))),(50,(.list (ds.map bcv) true none)),(51,(.val (.int .i64 (ds.length:Int)))),(52,(.val (.int .i64 (j:Int))))]) (fun _=>[CObj.map (gm kb kv m),.box (Tok.cells ⟨0,[],0,0⟩)]) (fun j=>j<=ds.length) (fun j=>ds.length - j) 0 (n_3 _) ⟨q_297,q_297,q_297,⟨tt,(by rw [<- hl]; rfl)⟩,⟨tt,(by rw [<- hl]; rfl)⟩,q_297,tt⟩ (extra0:=[]) rfl q_273 uz_ ?_; intro j hj; refine z_28 ?_; refine cC (fun h4=>?_) fun h4=>?_
   ·have hjl:(j:Int) < ds.length:=by simpa using h4
    obtain ⟨c,hc⟩:∃ c,ds[j]? = some c:=⟨ds[j]'om_,si_⟩;have hcd:=hdg c (n_0 hc);have hnb:=numS_digs (l:=ds.take j) fun c hc=>hdg c (n_60 hc);refine z_41 ?_; refine cY (y_index rfl tt tt rfl rfl t_8 t_15 om_ (rows_get hc) rfl) ?_; refine cY (y_load_c1 rfl tt rfl t_66 rfl) ?_; refine z_227 ?_; refine cY (y_mul rfl rfl tt rfl rfl om_ om_) ?_; refine cY q_246 ?_; refine cY q_255 ?_; refine cY (y_conv rfl tt rfl t_51 t_114 (show IntKind.i64.wrap (IntKind.u8.wrap ((c.toNat:Int) - 48))=(c.toNat:Int) - 48 from wrap8 hcd)) ?_; refine cY q_254 ?_; refine cY (y_min rfl tt rfl rfl rfl) ?_; refine z_111 ?_;exact ⟨(j+1),_,⟨om_,om_⟩,⟨q_297,q_297,⟨tt,(congrArg (fun z:Int=>CV.val (.int .i64 z)) (numS_snoc hc).symm)⟩,q_297,q_297,q_297,tt⟩,rfl⟩
   ·have hjl:ds.length<=j:=by
     have:¬ (j:Int) < ds.length:=by simpa using h4
     omega
    rw [n_28 hjl] at *;refine cw_exit ?_; refine z_183 ?_; refine cC (fun h5=>?_) fun h5=>?_
    ·have hn:9007199254740992 < numS (sub s a (spanS s a [2])):=by rw [hl]; simpa using h5
     refine z_0 ?_; refine cY q_48 ?_; refine z_92 ?_; refine z_39 ?_;exact ⟨_,res_all (rs:=[.cell 6 231,.tmp 7,.tmp 8]) (cs:=[_,_,_]) rfl q_38 (n_2 rfl),⟨(),.ret (cls_eq (by rw [tokX,if_neg hk1,if_pos hk2,if_pos hn]; rfl) pu_),⟨.same (old_km _ _),tt⟩,n_5 _,tt⟩⟩
    ·have hn:¬ 9007199254740992 < numS (sub s a (spanS s a [2])):=by rw [hl]; simpa using h5
     refine z_71 ?_; refine cY q_34 ?_; refine cY q_246 ?_; refine z_69 ?_; refine z_39 ?_;exact ⟨_,res_all (rs:=[.cell 6 231,.tmp 7,.tmp 8]) (cs:=[_,_,_]) rfl q_38 (n_2 rfl),⟨(),.ret (cls_eq (by rw [tokX,if_neg hk1,if_pos hk2,if_neg hn,hl]; rfl) pu_),⟨.same (old_km _ _),tt⟩,n_5 _,tt⟩⟩
  ·have hk2:¬ kindOf b.toNat=2:=by rw [<- hm]; simpa using h3
   refine z_27 ?_; refine cC (fun h6=>?_) fun h6=>?_
   ·have hk7:kindOf b.toNat=7:=by rw [<- hm]; simpa using h6
    refine z_16 ?_; refine cY q_251 ?_; refine z_1 ?_; refine cw_block ?_; refine cw_loopd hCC (α:=Nat) (fun e=>[(0,(sv s)),(1,(.val (.int .i64 (a:Int)))),(6,.ptr 1 0),(14,(.val (.int .i64 (e:Int))))]) (fun _=>[CObj.map (gm kb kv m),.box (Tok.cells ⟨0,[],0,0⟩)]) (fun e=>a+1<=e/\e<=s.length/\endL (s.drop (a+1))=(endL (s.drop e)).map (· + (e - (a+1)))) (fun e=>s.length - e) (a+1) ⟨n_5 _,om_,by cases endL (s.drop (a+1)) <;> simp⟩ tu_ (extra0:=[]) rfl q_273 uz_ ?_; intro e ⟨he1,he2,he⟩; refine z_77 ?_; refine cY q_242 ?_; refine cY q_260 ?_; refine z_94 ?_; refine cG q_32 ?_; refine z_31 ?_; refine z_94 ?_; refine cG q_32 ?_; refine z_31 ?_; refine co_nil ?_; refine cC (fun h7=>?_) fun h7=>?_
    ·have hel:e < s.length/\32<=(s[e]?.getD 0).toNat/\(s[e]?.getD 0).toNat<=126:=by simp at h7; omega
     obtain ⟨c,hc,hcd⟩:∃ c,s[e]? = some c/\s[e]?.getD 0=c:=⟨s[e]?.getD 0,at_get hel.1,rfl⟩;rw [hcd] at hel;rw [endL_step hc,if_pos hel.2] at he;refine z_20 ?_; refine z_6 ?_; refine cY (y_sindex rfl tt tt rfl rfl t_6 om_ hc) ?_; refine z_12 ?_; refine cC (fun h8=>?_) fun h8=>?_
     ·have h34:c.toNat=34:=by simp at h8; omega
      rw [if_pos h34] at he;obtain ⟨n,rfl⟩:∃ n,e=a+1+n:=⟨e - (a+1),om_⟩;have he':endL (s.drop (a+1))=some n:=by rw [he]; simp
      refine z_6 ?_; refine z_11 ?_; refine cY (y_sslice (a:=(a+1)) (h:=(a+1+n)) rfl tt rfl t_6 q_80 q_80 om_ om_) ?_; refine cY q_34 ?_; refine z_248 ?_; refine z_69 ?_; refine z_39 ?_;exact ⟨_,res_all (rs:=[.cell 6 231,.tmp 7,.tmp 8]) (cs:=[_,_,_]) rfl q_38 (n_2 rfl),⟨(),.ret (cls_eq (by rw [tokX,if_neg hk1,if_neg hk2,if_pos hk7,he']; rfl) pu_),⟨.same (old_km _ _),tt⟩,n_5 _,tt⟩⟩
     ·have h34:¬ c.toNat=34:=by simp at h8; omega
      rw [if_neg h34] at he;refine z_164 ?_;exact ⟨(e+1),_,⟨om_,om_,om_,by rw [he]; cases endL (s.drop (e+1)) <;> simp; omega⟩,tu_,rfl⟩
    ·have hno:endL (s.drop e)=none:=by
      rcases n_23 e s.length with h | h
      ·rw [endL_step (at_get h),if_neg];intro hh;simp at h7;omega
      ·exact endL_none h
     rw [hno] at he;refine z_90 ?_; refine cY q_48 ?_; refine z_92 ?_; refine z_39 ?_;exact ⟨_,res_all (rs:=[.cell 6 231,.tmp 7,.tmp 8]) (cs:=[_,_,_]) rfl q_38 (n_2 rfl),⟨(),.ret (cls_eq (by rw [tokX,if_neg hk1,if_neg hk2,if_pos hk7,he]; rfl) pu_),⟨.same (old_km _ _),tt⟩,n_5 _,tt⟩⟩
   ·have hk7:¬ kindOf b.toNat=7:=by rw [<- hm]; simpa using h6
    refine z_27 ?_; refine cC (fun h9=>?_) fun h9=>?_
    ·have hk8:kindOf b.toNat=8:=by rw [<- hm]; simpa using h9
     refine z_2 ?_; refine cY q_251 ?_; refine z_1 ?_; refine z_77 ?_; refine cY (y_sslice (a:=a) rfl tt rfl t_6 q_80 rfl om_ (n_5 _)) ?_; refine cY (y_callf rfl Tryz.call234 q_293 (strings_HasPrefix_s ((s.take s.length).drop a) [61,61] _) rfl) ?_; refine co_nil ?_; refine cC (fun h10=>?_) fun h10=>?_
     ·rw [n_55] at h10;have hp2:=pre_len h10;rw [n_72] at hp2;have hp2:2<=s.length - a:=hp2;refine z_116 ?_; refine z_49 ?_; refine cY (y_sslice (a:=a) (h:=(a+2)) rfl tt rfl t_6 q_80 q_80 om_ om_) ?_; refine cY q_34 ?_; refine cY q_246 ?_; refine z_69 ?_; refine z_39 ?_;exact ⟨_,res_all (rs:=[.cell 6 231,.tmp 7,.tmp 8]) (cs:=[_,_,_]) rfl q_38 (n_2 rfl),⟨(),.ret (cls_eq (by rw [tokX,if_neg hk1,if_neg hk2,if_neg hk7,if_pos hk8,if_pos h10]; rfl) pu_),⟨.same (old_km _ _),tt⟩,n_5 _,tt⟩⟩
     ·rw [n_55] at h10;have hp0:¬ preB [61,61] (s.drop a)=true:=by rw [h10]; decide
      refine z_149 ?_; refine cY (y_sslice (a:=a) (h:=(a+1)) rfl tt rfl t_6 q_80 q_80 om_ om_) ?_; refine cY q_34 ?_; refine cY q_246 ?_; refine z_69 ?_; refine z_39 ?_;exact ⟨_,res_all (rs:=[.cell 6 231,.tmp 7,.tmp 8]) (cs:=[_,_,_]) rfl q_38 (n_2 rfl),⟨(),.ret (cls_eq (by rw [tokX,if_neg hk1,if_neg hk2,if_neg hk7,if_pos hk8,if_neg hp0]; rfl) pu_),⟨.same (old_km _ _),tt⟩,n_5 _,tt⟩⟩
    ·have hk8:¬ kindOf b.toNat=8:=by rw [<- hm]; simpa using h9
     refine z_46 ?_; refine cY q_48 ?_; refine z_92 ?_; refine z_39 ?_;exact ⟨_,res_all (rs:=[.cell 6 231,.tmp 7,.tmp 8]) (cs:=[_,_,_]) rfl q_38 (n_2 rfl),⟨(),.ret (cls_eq (by rw [tokX,if_neg hk1,if_neg hk2,if_neg hk7,if_neg hk8]; rfl) pu_),⟨.same (old_km _ _),tt⟩,n_5 _,tt⟩⟩
theorem lx_token {b:UInt8} (hb:s[a]? = some b) {m:List (Int × Int)} (hm:KM m) (hs:s.length<=1000000000000) (hq:σ[q]? = some (.map (gm kb kv m))):CCalls CC 190 [(sv s),(.val (.int .i64 (a:Int))),.map q] σ fun r τ=>r = .ret (.tup [.agg (tokX s a b).1.cells,(.val (.int .i64 ((tokX s a b).2.1))),(.val (.int .i64 ((tokX s a b).2.2)))])/\τ=σ :=
 ccalls_ro1 hCC (nr_km m) pu_ hq (.cons (.val _) (.cons (.val _) (.cons (.map rfl) .nil))) (lx_token0 s a b hb m hm hs)
def lineE (s:Str) (a:Nat):Nat:=a+((s.drop a).takeWhile (· != 10)).length
theorem ib_line:∀ (l:Str),(Go.Lib.indexByte l 10 < 0->(l.takeWhile (· != 10)).length=l.length)/\(0<=Go.Lib.indexByte l 10->Go.Lib.indexByte l 10=((l.takeWhile (· != 10)).length:Nat))
 | []=>⟨fun _=>rfl,fun h=>by rw [Go.Lib.indexByte] at h; omega⟩
 | b::l=>by
  have ih:=ib_line l;rw [Go.Lib.indexByte,n_79];by_cases hb:b=10
  ·subst hb;exact ⟨fun h=>by simp at h,fun h=>by simp⟩
  ·have h1:(b != 10)=true:=by simpa using hb
   have h2:(b == 10)=false:=by simpa using hb
   rw [h1,h2];have hg:=Go.Lib.indexByte_ge l 10;simp only [if_true,if_false,n_7,n_74];by_cases h3:Go.Lib.indexByte l 10 = -1
   ·rw [h3];have:=ih.1 om_;exact ⟨fun _=>by simp; omega,fun h=>by simp at h⟩
   ·rw [if_neg (by simpa using h3)];have:=ih.2 om_;exact ⟨fun h=>by omega,fun _=>by omega⟩
theorem lineE_le (h:a<=s.length):lineE s a<=s.length:=by
 unfold lineE;have:=(List.takeWhile_sublist (· != 10) (l:=s.drop a)).length_le;rw [n_72] at this;omega
theorem lineE_lt {b:UInt8} (h:s[a]? = some b) (hb:kindOf b.toNat=6):a < lineE s a:=by
 obtain ⟨hlt,rfl⟩:=n_1.1 h;unfold lineE;rw [n_25 hlt,n_79];have:(s[a] != 10)=true:=by
  cases hq:(s[a] != 10) with
  | true=>rfl
  | false =>
   have:s[a]=10:=by simpa using hq
   rw [this] at hb;revert hb; decide
 rw [this];simp
def lexF:Nat->Str->Nat->Option (List Tok)
 | 0,_,_=>none
 | f+1,s,i=>match s[spanS s i [5]]? with
  | none=>some [⟨5,[],0,(spanS s i [5]:Nat)⟩]
  | some b=>if kindOf b.toNat=6 then lexF f s (lineE s (spanS s i [5]))
   else if (tokX s (spanS s i [5]) b).2.2≠0 then none
   else (lexF f s (tokX s (spanS s i [5]) b).2.1.toNat).map (({ (tokX s (spanS s i [5]) b).1 with at_:=(spanS s i [5]:Nat)}:Tok)::·)
def lexS (s:Str):Option (List Tok):=if 16384 < s.length then none else lexF (s.length+1) s 0
theorem lexF_end (h:i1=spanS s i [5]) (h2:s.length<=i1):lexF (f+1) s i=some [⟨5,[],0,(i1:Nat)⟩]:=by
 subst h;rw [lexF,n_84 h2]
theorem lexF_com {b:UInt8} (h:i1=spanS s i [5]) (h2:s[i1]? = some b) (h3:kindOf b.toNat=6):lexF (f+1) s i=lexF f s (lineE s i1):=by
 subst h;rw [lexF,h2];simp only;rw [if_pos h3]
theorem lexF_err {b:UInt8} (h:i1=spanS s i [5]) (h2:s[i1]? = some b) (h3:¬ kindOf b.toNat=6) (h4:(tokX s i1 b).2.2≠0):lexF (f+1) s i=none:=by
 subst h;rw [lexF,h2];simp only;rw [if_neg h3,if_pos h4]
theorem lexF_tok {b:UInt8} (h:i1=spanS s i [5]) (h2:s[i1]? = some b) (h3:¬ kindOf b.toNat=6) (h4:¬ (tokX s i1 b).2.2≠0):lexF (f+1) s i=(lexF f s (tokX s i1 b).2.1.toNat).map (({ (tokX s i1 b).1 with at_:=(i1:Nat)}:Tok)::·):=by
 subst h;rw [lexF,h2];simp only;rw [if_neg h3,if_neg h4]
theorem endL_lt:∀ {l:Str} {n:Nat},endL l=some n->n < l.length
 | [],n,h=>by cases h
 | b::l,n,h=>by
  rw [endL] at h;split at h
  ·split at h
   ·injection h with h; subst h; simp
   ·cases hq:endL l with
    | none=>rw [hq] at h; cases h
    | some k=>rw [hq] at h; injection h with h; subst h; have:=endL_lt hq; simp; omega
  ·cases h
theorem spanS_gt {b:UInt8} (h:s[a]? = some b) (hk:inK ks b=true):a < spanS s a ks:=by
 rw [spanS_step h,if_pos hk];have:=(spanS_le (s:=s) (a:=a+1) (ks:=ks) (n_1.1 h).1).1;omega
theorem tokX_next {b:UInt8} (h:s[a]? = some b) (h4:¬ (tokX s a b).2.2≠0):∃ e:Nat,(tokX s a b).2.1=e/\a < e/\e<=s.length:=by
 have hlt:=(n_1.1 h).1;unfold tokX at h4 ⊢;split at h4
 ·rename_i hk;rw [if_pos hk];split at h4
  ·simp at h4
  ·rename_i hn;rw [if_neg hn];exact ⟨_,rfl,spanS_gt h (by simp [inK,hk]),(spanS_le om_).2⟩
 ·rename_i hk;rw [if_neg hk];split at h4
  ·rename_i hk2;rw [if_pos hk2];split at h4
   ·simp at h4
   ·rename_i hn;rw [if_neg hn];exact ⟨_,rfl,spanS_gt h (by simp [inK,hk2]),(spanS_le om_).2⟩
  ·rename_i hk2;rw [if_neg hk2];split at h4
   ·rename_i hk7;rw [if_pos hk7];cases hq:endL (s.drop (a+1)) with
    | none=>rw [hq] at h4; simp at h4
    | some n =>
     have:=endL_lt hq;rw [n_72] at this;exact ⟨a+1+n+1,rfl,om_,om_⟩
   ·rename_i hk7;rw [if_neg hk7];split at h4
    ·rename_i hk8;rw [if_pos hk8]
     split
     ·rename_i hp;have:=pre_len hp;rw [n_72] at this;have:2<=s.length - a:=this;exact ⟨a+2,rfl,om_,om_⟩
     ·exact ⟨a+1,rfl,om_,om_⟩
    ·simp at h4
abbrev LexR:=List Tok × Bool × Int × Int
def LexP (s:Str) (x:LexR):Prop:=(lexS s=some x.1/\x.2.1=true/\x.2.2.1=0/\x.2.2.2=0)\/(lexS s=none/\x.1=[]/\x.2.1=false/\x.2.2.2≠0)
abbrev lexC (x:LexR):CV:=.tup [.list (x.1.map Tok.cv) x.2.1 none,.val (.int .i64 x.2.2.1),.val (.int .i64 x.2.2.2)]
theorem lx_Tokens0 (s:Str) (hs:s.length<=1000000000000):CCalls CC 153 [(sv s)] [] fun r τ=>∃ x:LexR,ClsR 0 τ r (.ret (lexC x))/\LexP s x:=by
 refine (ccalls_of Tryz.func153 rfl rfl ?_);refine z_0 ?_; refine cY q_225 ?_; refine z_83 ?_;refine cw_scope 0 (fun _ _ _=>False) rfl ?_ (fun _ _ _ h=>h.elim);refine z_16 ?_; refine z_228 ?_; refine cC (fun h1=>?_) fun h1=>?_
 ·have hl:16384 < s.length:=by simp at h1; omega
  refine z_0 ?_; refine cY q_225 ?_; refine z_166 ?_;exact ⟨_,res_all (rs:=[.tmp 2,.tmp 3,.tmp 4]) (cs:=[_,_,_]) rfl q_84 (n_2 rfl),⟨([],false,0,2),by exact .ret (.tups ⟨.old (old_toks _ [] false),.old (.val _),.old (.val _),tt⟩),.inr ⟨by rw [lexS,if_pos hl],rfl,rfl,de_⟩⟩⟩
 ·have hl:¬ 16384 < s.length:=by simp at h1; omega
  refine z_46 ?_;refine cD (d_callv rfl t_115 trivial (lx_kinds _) rfl ?_);intro m hm; refine z_1 ?_; refine z_4 ?_; refine cw_seq ?_; refine cw_label ?_; refine cw_block ?_; refine cw_loopr hCC 1 rfl (α:=List Tok × Nat) (fun x=>[(0,(sv s)),(2,(.list (x.1.map Tok.cv) (gnn x.1.length) (gtok x.1.length 1))),(5,.map 0),(6,(.val (.int .i64 (x.2:Int))))]) (fun x=>[.map (gm kb kv m),gobj x.1.length]) (fun x=>x.2<=s.length/\x.1.length<=x.2/\∃ f,s.length - x.2 < f/\lexS s=(lexF f s x.2).map (x.1++·)) (fun x=>s.length - x.2) ⟨([],0),[0,7],⟨n_3 _,n_5 _,s.length+1,si_,by rw [lexS,if_neg hl]; simp⟩,⟨rfl,rfl⟩,q_7,(by repeat' (first|exact tt|exact .inl rfl|exact .inr ⟨_,rfl,.same rfl q_292⟩|exact .inr ⟨_,rfl,.same (gobj_snoc _ _ _) q_292⟩|exact .inr ⟨_,rfl,.same rfl (by repeat' (first|exact tt|exact .val _|exact .ptr (nb rfl)|exact .map (nb rfl)|exact q_54 | refine old_box ?_ | refine ⟨?_,?_⟩))⟩|exact .inr ⟨_,rfl,.box (by repeat' (first|exact tt|exact .same rfl uo_|exact .ptr rfl|exact .map rfl|exact .vec rfl|exact RenV.grow (f:=Tok.cv) (fun _=>⟨.val _,.val _,.val _,.val _,tt⟩) rfl | refine ⟨?_,?_⟩))⟩ | refine ⟨?_,?_⟩))⟩ ?_;intro ⟨acc,i⟩ ⟨hi,ha,f,hf,hlx⟩;dsimp only at hi ha hf hlx ⊢;obtain ⟨f,rfl⟩:∃ f',f=f'+1:=⟨f - 1,om_⟩;obtain ⟨i1,hi1⟩:∃ i1,i1=spanS s i [5]:=⟨_,rfl⟩;have hsp:=spanS_le (ks:=[5]) hi;rw [<- hi1] at hsp;refine cw_block ?_; refine z_49 ?_; refine cY (y_lit ([5].map icv) rfl ⟨rfl,tt⟩ t_7 t_1 t_9 rfl rfl rfl rfl rfl rfl rfl rfl rfl) ?_; refine cY (y_callf rfl t_67 q_272 ((by have:=lx_span (ks:=[5]) (nn:=true) hm hi om_ de_ (σ:=[.map (gm kb kv m),gobj acc.length]) (q:=0) rfl; rw [<- hi1] at this; exact this)) rfl) ?_; refine z_1 ?_; refine z_148 ?_; refine z_6 ?_; refine cY q_242 ?_; refine cY q_260 ?_; refine z_1 ?_; refine cC (fun h2=>?_) fun h2=>?_
  ·have hend:i1=s.length:=by simp at h2; omega
   rw [lexF_end hi1 om_] at hlx;refine z_6 ?_; refine cY q_34 ?_; refine cY (y_lit [Tok.cv ⟨5,[],0,(i1:Nat)⟩] rfl ⟨tt,tt⟩ t_68 t_20 t_42 rfl rfl rfl rfl rfl rfl rfl rfl rfl) ?_;refine cD (d_appu rfl tt tt rfl si_ q_19 t_68 t_20 Tryz.typeInfo231 t_42 rfl (.inr rfl) q_21 (by have hb:Tryz.t231.bytes=40:=rfl; rw [hb]; first|omega|(simp; done)|(simp; omega)) q_226 ((acc++[(⟨5,[],0,(i1:Nat)⟩:Tok)]).map Tok.cv) (acc++[(⟨5,[],0,(i1:Nat)⟩:Tok)]).length si_ si_ ?_);refine cY q_236 ?_; refine z_166 ?_;exact ⟨_,res_all (rs:=[.tmp 2,.tmp 3,.tmp 4]) (cs:=[_,_,_]) rfl q_84 (n_2 rfl),⟨(acc++[(⟨5,[],0,(i1:Nat)⟩:Tok)],gnn (acc++[(⟨5,[],0,(i1:Nat)⟩:Tok)]).length,0,0),by exact .ret (.tups ⟨.tok (fun r hr c hc=>(rows_pure (f:=Tok.cv) (fun _=>Pures.all ⟨.val _,.val _,.val _,.val _,tt⟩) _) r hr c hc),.old (.val _),.old (.val _),tt⟩),.inl ⟨hlx,by rw [n_4]; rfl,rfl,rfl⟩⟩⟩
  ·have hend:i1 < s.length:=by
    have:¬ (i1:Int)=s.length:=by simpa using h2
    omega
   obtain ⟨b,hb⟩:∃ b,s[i1]? = some b:=⟨s[i1]'om_,si_⟩;refine z_49 ?_; refine cY q_195 ?_; refine cY q_49 ?_; refine z_18 ?_; refine cC (fun h3=>?_) fun h3=>?_
   ·have hk:kindOf b.toNat=6:=by rw [<- hm]; simpa using h3
    rw [lexF_com hi1 hb hk] at hlx;have hl1:=lineE_lt hb hk;have hl2:=lineE_le (s:=s) (a:=i1) om_;have hib:=ib_line ((s.take s.length).drop i1);have hdl:((s.take s.length).drop i1).length=s.length - i1:=by simp
    have hle:lineE s i1=i1+(((s.take s.length).drop i1).takeWhile (· != 10)).length:=by rw [lineE,n_55]
    have hig:=Go.Lib.indexByte_ge ((s.take s.length).drop i1) 10;refine z_6 ?_; refine cY (y_sslice (a:=i1) rfl tt rfl t_6 q_80 rfl om_ (n_5 _)) ?_; refine cY (y_callf rfl Tryz.call189 q_293 (strings_IndexByte_s ((s.take s.length).drop i1) 10 _) rfl) ?_; refine z_118 ?_; refine cC (fun h4=>?_) fun h4=>?_
    ·have hneg:Go.Lib.indexByte ((s.take s.length).drop i1) 10 < 0:=by simpa using h4
     have:=hib.1 hneg;have hle2:lineE s i1=s.length:=by omega
     refine z_7 ?_; refine z_193 ?_; refine cY (y_sub rfl tt tt rfl rfl om_ om_) ?_; refine z_1 ?_; refine z_6 ?_; refine cY q_254 ?_; refine z_1 ?_; refine cw_exit ?_;exact ⟨(acc,lineE s i1),[0,1],⟨om_,om_,by show acc.length<=lineE s i1; omega,f,by show s.length - lineE s i1 < f; omega,hlx⟩,⟨rfl,rfl⟩,q_3,(by repeat' (first|exact tt|exact .inl rfl|exact .inr ⟨_,rfl,.same rfl q_292⟩|exact .inr ⟨_,rfl,.same (gobj_snoc _ _ _) q_292⟩|exact .inr ⟨_,rfl,.same rfl (by repeat' (first|exact tt|exact .val _|exact .ptr (nb rfl)|exact .map (nb rfl)|exact q_54 | refine old_box ?_ | refine ⟨?_,?_⟩))⟩|exact .inr ⟨_,rfl,.box (by repeat' (first|exact tt|exact .same rfl uo_|exact .ptr rfl|exact .map rfl|exact .vec rfl|exact RenV.grow (f:=Tok.cv) (fun _=>⟨.val _,.val _,.val _,.val _,tt⟩) rfl | refine ⟨?_,?_⟩))⟩ | refine ⟨?_,?_⟩))⟩
    ·have hneg:¬ Go.Lib.indexByte ((s.take s.length).drop i1) 10 < 0:=by simpa using h4
     have:=hib.2 om_;rw [this];refine cw_skip ?_; refine z_6 ?_; refine cY q_254 ?_; refine z_1 ?_; refine cw_exit ?_;exact ⟨(acc,lineE s i1),[0,1],⟨om_,om_,by show acc.length<=lineE s i1; omega,f,by show s.length - lineE s i1 < f; omega,hlx⟩,⟨rfl,rfl⟩,q_3,(by repeat' (first|exact tt|exact .inl rfl|exact .inr ⟨_,rfl,.same rfl q_292⟩|exact .inr ⟨_,rfl,.same (gobj_snoc _ _ _) q_292⟩|exact .inr ⟨_,rfl,.same rfl (by repeat' (first|exact tt|exact .val _|exact .ptr (nb rfl)|exact .map (nb rfl)|exact q_54 | refine old_box ?_ | refine ⟨?_,?_⟩))⟩|exact .inr ⟨_,rfl,.box (by repeat' (first|exact tt|exact .same rfl uo_|exact .ptr rfl|exact .map rfl|exact .vec rfl|exact RenV.grow (f:=Tok.cv) (fun _=>⟨.val _,.val _,.val _,.val _,tt⟩) rfl | refine ⟨?_,?_⟩))⟩ | refine ⟨?_,?_⟩))⟩
   ·have hk:¬ kindOf b.toNat=6:=by rw [<- hm]; simpa using h3
    refine z_149 ?_; refine cY (y_callf rfl Tryz.call190 q_286 (lx_token hb hm om_ rfl) rfl) ?_; refine z_58 ?_; refine cY q_266 ?_; refine z_14 ?_; refine cY q_236 ?_; refine z_118 ?_; refine cC (fun h5=>?_) fun h5=>?_
    ·have he:(tokX s i1 b).2.2≠0:=by simpa using h5
     rw [lexF_err hi1 hb hk he] at hlx;refine z_6 ?_; refine cY q_225 ?_; refine cY q_236 ?_; refine z_5 ?_;exact ⟨_,res_all (rs:=[.tmp 2,.tmp 3,.tmp 4]) (cs:=[_,_,_]) rfl q_84 (n_2 rfl),⟨([],false,i1,(tokX s i1 b).2.2),by exact .ret (.tups ⟨.old (old_toks _ [] false),.old (.val _),.old (.val _),tt⟩),.inr ⟨hlx,rfl,rfl,he⟩⟩⟩
    ·have he:¬ (tokX s i1 b).2.2≠0:=by simpa using h5
     rw [lexF_tok hi1 hb hk he] at hlx;obtain ⟨e,he1,he2,he3⟩:=tokX_next hb he;rw [he1] at hlx ⊢;refine z_71 ?_; refine cY q_149 ?_; refine z_25 ?_; refine z_7 ?_; refine cY q_172 ?_; refine cY (y_lit [Tok.cv ({ (tokX s i1 b).1 with at_:=(i1:Nat)}:Tok)] rfl ⟨tt,tt⟩ t_68 t_20 t_42 rfl rfl rfl rfl rfl rfl rfl rfl rfl) ?_;refine cD (d_appu rfl tt tt rfl si_ q_19 t_68 t_20 Tryz.typeInfo231 t_42 rfl (.inr rfl) q_21 (by have hb:Tryz.t231.bytes=40:=rfl; rw [hb]; first|omega|(simp; done)|(simp; omega)) q_226 ((acc++[({ (tokX s i1 b).1 with at_:=(i1:Nat)}:Tok)]).map Tok.cv) (acc++[({ (tokX s i1 b).1 with at_:=(i1:Nat)}:Tok)]).length si_ si_ ?_);refine cY q_246 ?_; refine cY q_236 ?_; refine z_1 ?_;exact ⟨(acc++[({ (tokX s i1 b).1 with at_:=(i1:Nat)}:Tok)],e),[0,3],⟨by show s.length - e < s.length - i; omega,he3,by simp; omega,f,by show s.length - e < f; omega,by rw [hlx]; simp [Function.comp_def]⟩,⟨rfl,rfl⟩,q_7,(by repeat' (first|exact tt|exact .inl rfl|exact .inr ⟨_,rfl,.same rfl q_292⟩|exact .inr ⟨_,rfl,.same (gobj_snoc _ _ _) q_292⟩|exact .inr ⟨_,rfl,.same rfl (by repeat' (first|exact tt|exact .val _|exact .ptr (nb rfl)|exact .map (nb rfl)|exact q_54 | refine old_box ?_ | refine ⟨?_,?_⟩))⟩|exact .inr ⟨_,rfl,.box (by repeat' (first|exact tt|exact .same rfl uo_|exact .ptr rfl|exact .map rfl|exact .vec rfl|exact RenV.grow (f:=Tok.cv) (fun _=>⟨.val _,.val _,.val _,.val _,tt⟩) rfl | refine ⟨?_,?_⟩))⟩ | refine ⟨?_,?_⟩))⟩
theorem lx_Tokens (s:Str) (hs:s.length<=1000000000000) (σ:List CObj):CCalls CC 153 [(sv s)] σ fun r τ=>∃ x:LexR,r = .ret (lexC x)/\τ=σ/\LexP s x :=
 ccalls_any (res:=fun x=>.ret (lexC x)) hCC (fun c hc=>by simp at hc; subst hc; exact .val _) (lx_Tokens0 s hs) (fun _ _=>pu_) σ
structure Ex where
 k:Int
 num:Int
 op:Int
 name:Str
 args:List Int
deriving DecidableEq
variable {args:List CV} {B:α->List Ex}
abbrev Ex.cells (x:Ex):List CV:=[.val (.int .i64 x.k),.val (.int .i64 x.num),.val (.int .i64 x.op),sv x.name,.list (x.args.map icv) (gnn x.args.length) none]
def Ex.cv (x:Ex):List CV:=x.cells
theorem Ex.pure (x:Ex):Pures x.cells:=⟨.val _,.val _,.val _,.val _,pure_ints _ _,tt⟩
theorem pure_exs (l:List Ex) (nn:Bool):Pure (.list (l.map Ex.cv) nn none):=pure_rows (f:=Ex.cv) Ex.pure l nn
theorem old_exs (n:Nat) (l:List Ex) (nn:Bool):Old n (.list (l.map Ex.cv) nn none):=(pure_exs l nn).old
structure De where
 k:Int
 name:Str
 params:List Str
 body:List Ex
deriving DecidableEq
abbrev De.cells (x:De):List CV:=[.val (.int .i64 x.k),sv x.name,.list (x.params.map scv) (gnn x.params.length) none,.list (x.body.map Ex.cv) (gnn x.body.length) none]
def De.cv (x:De):List CV:=x.cells
theorem De.pure (x:De):Pures x.cells:=⟨.val _,.val _,pure_strs _ _,pure_exs _ _,tt⟩
theorem pure_des (l:List De) (nn:Bool):Pure (.list (l.map De.cv) nn none):=pure_rows (f:=De.cv) De.pure l nn
theorem old_des (n:Nat) (l:List De) (nn:Bool):Old n (.list (l.map De.cv) nn none):=(pure_des l nn).old
structure Src where
 pkg:Str
 imports:List Str
 decls:List De
deriving DecidableEq
abbrev Src.cells (x:Src):List CV:=[sv x.pkg,.list (x.imports.map scv) (gnn x.imports.length) none,.list (x.decls.map De.cv) (gnn x.decls.length) none]
theorem Src.pure (x:Src):Pures x.cells:=⟨.val _,pure_strs _ _,pure_des _ _,tt⟩
abbrev pbx (T:List Tok) (n:Nat) (ps:List Str) (b:List Ex) (s:Nat):CObj:=.box [.list (T.map Tok.cv) true none,.val (.int .i64 (n:Int)),.list (ps.map scv) (gnn ps.length) none,.list (b.map Ex.cv) (gnn b.length) (gtok b.length s)]
abbrev pst (T:List Tok) (n:Nat) (ps:List Str) (b:List Ex):List CObj:=[pbx T n ps b 1,gobj b.length]
abbrev pst2 (T:List Tok) (n:Nat) (ps:List Str) (b:List Ex):List CObj:=[pbx T n ps b 2,.dead,gobj b.length]
theorem ren_pbx {n:Nat} {ps:List Str} {b:List Ex} {s s':Nat} (h:R s s'):RenRO R (pbx T n ps b s) (pbx T n ps b s') :=
 .box (.cons (.pure (pure_toks _ _)) (.cons (.pure (.val _)) (.cons (.pure (pure_strs _ _)) (.cons (by
  refine .list rfl (fun i r r' h1 h2=>by rw [h1] at h2; injection h2 with h2; rw [h2]) (fun i j r r' c c' h1 h2 h3 h4=>?_) ?_
  ·rw [h1] at h2; injection h2 with h2; subst h2; rw [h3] at h4; injection h4 with h4; subst h4
   exact .pure (rows_pure (f:=Ex.cv) (fun a=>(Ex.pure a).all) _ r (n_0 h1) c (n_0 h3))
  ·cases hb:b.length with
   | zero=>exact .inl ⟨rfl,rfl⟩
   | succ m=>exact .inr ⟨s,s',rfl,rfl,h⟩) .nil))))
theorem ren_gobj (m:Nat):RenRO R (gobj m) (gobj m):=by
 cases m with
 | zero=>exact .dead
 | succ m=>exact .tip _
def PAt (σ:List CObj) (q s:Nat) (T:List Tok) (n:Nat) (ps:List Str) (b:List Ex):Prop:=σ[q]? = some (pbx T n ps b s)/\σ[s]? = some (gobj b.length)/\q≠s
abbrev faultV (at_ e:Int):CV:=.val (.iface 195 (.agg #[.int .i64 at_,.int .i64 e]))
def ParR {α:Type} (c:α->CV) (S:α->List CObj) (P:α->Prop) (bad:Prop) (r:CRes) (τ:List CObj):Prop :=
 (∃ a,FinR 2 τ r (.ret (c a)) (S a)/\P a)\/∃ x:Int × Int,FinR 2 τ r (.pan (faultV x.1 x.2)) [.dead,.dead]/\(bad/\x.2≠0)
def ParG {α:Type} (c:α->CV) (S:α->List CObj) (P:α->Prop) (σ:List CObj) (q s:Nat) (bad:Prop) (r:CRes) (τ:List CObj):Prop :=
 (∃ a,r = .ret (c a)/\τ=S a/\P a)\/∃ x:Int × Int,r = .pan (faultV x.1 x.2)/\τ=(σ.set q .dead).set s .dead/\(bad/\x.2≠0)
theorem fin_pan {x y:Int}:FinR 2 τ (.pan (faultV x y)) (.pan (faultV x y)) [.dead,.dead]:=⟨[0,1],rfl,rfl,.pan (.old (.val _)),.inl rfl,.inl rfl,tt⟩
theorem par_lift {f:FuncId} {c:α->CV} {Z:α->List Str} {g:α->Bool} {n:Nat} {ps:List Str} {b:List Ex} (hargs:∀ a∈args,Pure a) (hc:∀ a,Pure (c a))
 (h:CCalls CC f (.ptr 0 0::args) (pst T n ps b) (ParR c (fun a=>if g a=true then pst2 T (N a) (Z a) (B a) else pst T (N a) (Z a) (B a)) P bad)) {σ:List CObj} {q s:Nat} (hσ:PAt σ q s T n ps b) :
 CCalls CC f (.ptr q 0::args) σ (ParG c (fun a=>if g a=true then (σ.set q (pbx T (N a) (Z a) (B a) σ.length)).set s .dead++[gobj (B a).length] else (σ.set q (pbx T (N a) (Z a) (B a) s)).set s (gobj (B a).length)) P σ q s bad):=by
 obtain ⟨h1,h2,h3⟩:=hσ;have hq:=(n_1.1 h1).1;have hs:=(n_1.1 h2).1;have h':CCalls CC f (.ptr 0 0::args) (pst T n ps b) fun r τ=>(∃ a,r = .ret (c a)/\τ=(if g a=true then pst2 T (N a) (Z a) (B a) else pst T (N a) (Z a) (B a))/\P a)\/∃ x:Int × Int,r = .pan (faultV x.1 x.2)/\τ=[.dead,.dead]/\(bad/\x.2≠0):=by
  refine ccalls_ren hCC (h.mono fun r τ hh=>?_)
  rcases hh with ⟨a,k1,k2⟩ | ⟨x,k1,k2⟩
  ·exact ⟨_,_,k1,.inl ⟨a,rfl,rfl,k2⟩⟩
  ·exact ⟨_,_,k1,.inr ⟨x,rfl,rfl,k2⟩⟩
 refine ccalls_frameR [q,s] hCC rfl (fun i j k g1 g2=>?_) (fun i k ob g1 g2=>?_) (.cons (.ptr rfl) (renL_pure hargs)) h' fun r τ hk=>?_
 ·rcases i with _ | _ | i <;> rcases j with _ | _ | j <;> simp at g1 g2 <;> first|rfl|(exfalso; exact h3 (g1.trans g2.symm))|(exfalso; exact h3 (g2.trans g1.symm))
 ·rcases i with _ | _ | i
  ·simp at g1 g2;subst g1 g2;exact ⟨_,h1,ren_pbx rfl⟩
  ·simp at g1 g2;subst g1 g2;exact ⟨_,h2,ren_gobj _⟩
  ·simp at g1
 ·rcases hk with ⟨a,rfl,rfl,hp⟩ | ⟨x,rfl,rfl,hp⟩
  ·refine ⟨by split <;> simp,.ret (c a),(if g a=true then (σ.set q (pbx T (N a) (Z a) (B a) σ.length)).set s .dead++[gobj (B a).length] else (σ.set q (pbx T (N a) (Z a) (B a) s)).set s (gobj (B a).length)),.ret (.pure (hc a)),by split <;> simp,fun k hk hks=>?_,fun i k x ha hx=>?_,.inl ⟨a,rfl,rfl,hp⟩⟩
   ·have n1:q≠k:=fun e=>hks (by simp [e]);have n2:s≠k:=fun e=>hks (by simp [e])
    split
    ·rw [n_15 q_277];simp [n1,n2]
    ·simp [n1,n2]
   ·split at hx <;> rename_i hg
    ·rcases ha with ha | ⟨ha,rfl⟩
     ·rcases i with _ | _ | i
      ·simp at ha hx;subst ha hx;refine ⟨pbx T (N a) (Z a) (B a) σ.length,?_,ren_pbx (.inr ⟨si_,si_⟩)⟩;rw [if_pos hg,n_15 (by simpa using hq),n_42 h3.symm];simp [hq]
      ·simp at ha hx;subst ha hx;refine ⟨.dead,?_,.dead⟩;rw [if_pos hg,n_15 (by simpa using hs)];simp [hs]
      ·simp at ha
     ·rcases i with _ | _ | _ | i
      ·simp at ha
      ·simp at ha
      ·simp at hx;subst hx;refine ⟨gobj (B a).length,?_,ren_gobj _⟩;rw [if_pos hg,n_27 si_];simp
      ·simp at hx
    ·rcases ha with ha | ⟨ha,rfl⟩
     ·rcases i with _ | _ | i
      ·simp at ha hx;subst ha hx;refine ⟨pbx T (N a) (Z a) (B a) s,?_,ren_pbx (.inl rfl)⟩;rw [if_neg hg,n_42 h3.symm];simp [hq]
      ·simp at ha hx;subst ha hx;refine ⟨gobj (B a).length,?_,ren_gobj _⟩;rw [if_neg hg];simp [hs]
      ·simp at ha
     ·rcases i with _ | _ | i
      ·simp at ha
      ·simp at ha
      ·simp at hx
  ·refine ⟨n_5 _,.pan (faultV x.1 x.2),(σ.set q .dead).set s .dead,.pan (.pure (.val _)),si_,fun k hk hks=>?_,fun i k y ha hx=>?_,.inr ⟨x,rfl,rfl,hp⟩⟩
   ·have n1:q≠k:=fun e=>hks (by simp [e]);have n2:s≠k:=fun e=>hks (by simp [e]);simp [n1,n2]
   ·rcases ha with ha | ⟨ha,rfl⟩
    ·rcases i with _ | _ | i
     ·simp at ha hx;subst ha hx;refine ⟨.dead,?_,.dead⟩;rw [n_42 h3.symm];simp [hq]
     ·simp at ha hx;subst ha hx;refine ⟨.dead,?_,.dead⟩;simp [hs]
     ·simp at ha
    ·rcases i with _ | _ | i
     ·simp at ha
     ·simp at ha
     ·simp at hx
theorem old_pbx {n:Nat} {ps:List Str} {b:List Ex} {s:Nat} (h:s < L):OldObj L (pbx T n ps b s):=old_box ⟨old_toks _ _ _,.val _,old_strs _ _ _,.list (fun i j r c h1 h2=>(rows_pure (f:=Ex.cv) (fun a=>(Ex.pure a).all) _ r (n_0 h1) c (n_0 h2)).old) (fun k hk=>by
 cases hb:b.length with
 | zero=>rw [hb] at hk; cases hk
 | succ m=>rw [hb] at hk; injection hk with hk; omega),tt⟩
theorem fin_st {n:Nat} {ps:List Str} {b:List Ex} (hτ:τ=pbx T n ps b 1::gobj b.length::rest) (hc:Old 2 c):FinR 2 τ (.ret c) (.ret c) (pst T n ps b):=by
 subst hτ;exact ⟨[0,1],rfl,rfl,.ret (.old hc),.inr ⟨_,rfl,.same rfl (old_pbx de_)⟩,.inr ⟨_,rfl,.same rfl q_292⟩,tt⟩
theorem renL_old {L:Nat} {sel:List Nat}:∀ {l:List CV},OldL L l->RenL L sel l l
 | [],_=>trivial
 | _::_,⟨h,t⟩=>⟨.old h,renL_old t⟩
theorem fin_gr {n k:Nat} {ps:List Str} {b:List Ex} (h0:τ[0]? = some (pbx T n ps b k)) (hk:τ[k]? = some (gobj b.length)) (h2:2<=k) (hc:Old 2 c):FinR 2 τ (.ret c) (.ret c) (pst2 T n ps b):=by
 have k1:keepB 2 [0,1,k]=true:=rfl;have k2:nodupB [0,1,k]=true:=by
  have e0:(k == 0)=false:=by simp; omega
  have e1:(k == 1)=false:=by simp; omega
  have e2:(0 == k)=false:=by simp; omega
  have e3:(1 == k)=false:=by simp; omega
  simp [nodupB];omega
 refine ⟨[0,1,k],k1,k2,.ret (.old hc),.inr ⟨_,h0,.box ?_⟩,.inl rfl,.inr ⟨_,hk,.same rfl q_292⟩,tt⟩;refine ⟨.old (old_toks _ _ _),.old (.val _),.old (old_strs _ _ _),.list (fun r hr c hc=>(rows_pure (f:=Ex.cv) (fun a=>(Ex.pure a).all) _ r hr c hc).old) ?_,tt⟩;intro j hj;cases hb:b.length with
 | zero=>rw [hb] at hj; cases hj
 | succ m=>rw [hb] at hj; injection hj with hj; subst hj; exact ⟨k,rfl,rfl⟩
theorem set_self {l:List α} {x:α} (h:l[i]? = some x):l.set i x=l:=by
 apply n_93 fun j=>?_;have hi:=(n_1.1 h).1;by_cases hj:i=j
 ·subst hj; rw [n_76 hi,h]
 ·rw [n_42 hj]
theorem par_ro {f:FuncId} {n:Nat} {ps:List Str} {b:List Ex} (hargs:∀ a∈args,Pure a) (hc:Pure c)
 (h:CCalls CC f (.ptr 0 0::args) (pst T n ps b) fun r τ=>FinR 2 τ r (.ret c) (pst T n ps b)) {σ:List CObj} {q s:Nat} (hσ:PAt σ q s T n ps b):CCalls CC f (.ptr q 0::args) σ fun r τ=>r = .ret c/\τ=σ:=by
 refine (par_lift (α:=Unit) (c:=fun _=>c) (N:=fun _=>n) (B:=fun _=>b) (Z:=fun _=>ps) (g:=fun _=>false) (P:=fun _=>True) (bad:=False) hargs (fun _=>hc) (h.mono fun r τ hh=>.inl ⟨(),hh,tt⟩) hσ).mono fun r τ hh=>?_
 rcases hh with ⟨_,h1,h2,_⟩ | ⟨_,_,_,h3,_⟩
 ·refine ⟨h1,h2.trans ?_⟩;show (σ.set q _).set s _=σ;rw [set_self hσ.1,set_self hσ.2.1]
 ·exact h3.elim
theorem par_lift0 {f:FuncId} {c:α->CV} {n:Nat} {ps:List Str} {b:List Ex} (hargs:∀ a∈args,Pure a) (hc:∀ a,Pure (c a))
 (h:CCalls CC f (.ptr 0 0::args) (pst T n ps b) (ParR c (fun a=>pst T (N a) ps b) P bad)) {σ:List CObj} {q s:Nat} (hσ:PAt σ q s T n ps b) :
 CCalls CC f (.ptr q 0::args) σ (ParG c (fun a=>σ.set q (pbx T (N a) ps b s)) P σ q s bad):=by
 refine (par_lift (c:=c) (N:=N) (B:=fun _=>b) (Z:=fun _=>ps) (g:=fun _=>false) (P:=P) (bad:=bad) hargs hc (h.mono fun r τ hh=>?_) hσ).mono fun r τ hh=>?_
 ·rcases hh with ⟨a,h1,h2⟩ | h
  ·exact .inl ⟨a,h1,h2⟩
  ·exact .inr h
 ·rcases hh with ⟨a,h1,h2,h3⟩ | h
  ·refine .inl ⟨a,h1,h2.trans ?_,h3⟩;refine set_self ?_;rw [n_42 hσ.2.2];exact hσ.2.1
  ·exact .inr h
theorem par_lift1 {f:FuncId} {c:α->CV} {n:Nat} {ps:List Str} {b:List Ex} (hargs:∀ a∈args,Pure a) (hc:∀ a,Pure (c a))
 (h:CCalls CC f (.ptr 0 0::args) (pst T n ps b) (ParR c (fun a=>pst2 T (N a) ps (B a)) P bad)) {σ:List CObj} {q s:Nat} (hσ:PAt σ q s T n ps b) :
 CCalls CC f (.ptr q 0::args) σ (ParG c (fun a=>(σ.set q (pbx T (N a) ps (B a) σ.length)).set s .dead++[gobj (B a).length]) P σ q s bad):=by
 refine (par_lift (c:=c) (N:=N) (B:=B) (Z:=fun _=>ps) (g:=fun _=>true) (P:=P) (bad:=bad) hargs hc (h.mono fun r τ hh=>?_) hσ).mono fun r τ hh=>?_
 ·rcases hh with ⟨a,h1,h2⟩ | h
  ·exact .inl ⟨a,h1,h2⟩
  ·exact .inr h
 ·rcases hh with ⟨a,h1,h2,h3⟩ | h
  ·exact .inl ⟨a,h1,h2,h3⟩
  ·exact .inr h
theorem pure_tok (x:Tok):Pure (.agg x.cells):=pure_agg ⟨.val _,.val _,.val _,.val _,tt⟩
theorem old_tok (n:Nat) (x:Tok):Old n (.agg x.cells):=(pure_tok x).old
def tk (T:List Tok) (n:Nat):Tok:=(T[n]?).getD ⟨5,[],0,0⟩
theorem tk_get {n:Nat} (h:n < T.length):T[n]? = some (tk T n):=by simp [tk,h]
def TokW (T:List Tok):Prop:=∀ n,n < T.length->(tk T n).k≠5->n+1 < T.length
def isT (t:Tok) (k:Int) (s:Str):Bool:=(t.k == k) && decide (t.t=s)
theorem isT_ne {n:Nat} {k:Int} (h:isT (tk T n) k s=true) (hk:k≠5):(tk T n).k≠5:=by
 simp [isT] at h;omega
def pTake (T:List Tok) (n:Nat) (k:Int):Option (Tok × Nat):=if (tk T n).k=k then some (tk T n,if k=5 then n else n+1) else none
def pIs (T:List Tok) (n:Nat) (k:Int) (s:Str):Option Nat:=if isT (tk T n) k s=true then some (n+1) else none
theorem so_fail0 (t:Tok) (e:Int):CCalls CC 195 [.agg t.cells,(.val (.int .i64 e))] [] fun r τ=>∃ _:Unit,ClsR 0 τ r (.pan (faultV t.at_ e))/\True:=by
 refine (ccalls_of Tryz.func195 rfl rfl ?_);refine z_10 ?_;refine co_nil (cw_region ?_);refine z_110 ?_; refine cY q_246 ?_; refine cY (y_build' #[(0,1),(1,1)] rfl q_296 t_61 Tryz.zeroValue195 rfl ⟨_,rfl⟩ (fun w=>by kernel_rfl) rfl rfl) ?_; refine cY (y_mkiface (xs:=[.int .i64 t.at_,.int .i64 e]) rfl tt rfl (mkiface_ok t_61 rfl)) ?_;exact co_d rfl rfl (d_panic rfl tt rfl (fun M w v h=>⟨_,_,rv_val h⟩) ⟨(),.pan (.old (.val _)),tt⟩)
theorem so_fail (t:Tok) (e:Int) (σ:List CObj):CCalls CC 195 [.agg t.cells,(.val (.int .i64 e))] σ fun r τ=>∃ _:Unit,r = .pan (faultV t.at_ e)/\τ=σ/\True :=
 ccalls_any (res:=fun _=>.pan (faultV t.at_ e)) hCC (fun c hc=>by
  simp at hc
  rcases hc with rfl | rfl
  ·exact pure_tok _
  ·exact .val _) (so_fail0 t e) (fun _ _=>.val _) σ
theorem so_token0 (T:List Tok) (n:Nat) (ps:List Str) (b:List Ex) (_:T.length<=1000000) (hn:n < T.length):CCalls CC 196 [.ptr 0 0] (pst T n ps b) (fun r τ=>FinR 2 τ r (.ret (.agg (tk T n).cells)) (pst T n ps b)):=by
 refine (ccalls_of Tryz.func196 rfl rfl ?_);refine z_112 ?_; refine z_8 ?_; refine cw_draw 10 [0,1,3,7,0,16,48,112,255,511,1023] q_289 q_289 rfl ?_; refine z_36 ?_; refine hY (y_field rfl tt rfl t_62 rfl Tryz.sizeOf191 de_) ?_; refine hY (y_load1 rfl tt rfl Tryz.isAgg191 rfl rfl) ?_; refine z_36 ?_; refine hY q_146 ?_; refine hY q_238 ?_; refine hY (y_index rfl tt tt rfl rfl t_68 t_20 om_ (rows_get (tk_get hn)) rfl) ?_; refine hY (y_load_c rfl tt rfl t_69 t_20 (nb rfl)) ?_; refine ch_nil ?_; refine z_47 ?_; refine cw_ret ?_;exact ⟨_,res_one rfl q_109,fin_st rfl (old_tok _ _)⟩
theorem so_token {n:Nat} {ps:List Str} {b:List Ex} (hT:T.length<=1000000) (hn:n < T.length) {s:Nat} (hσ:PAt σ q s T n ps b):CCalls CC 196 [.ptr q 0] σ fun r τ=>r = .ret (.agg (tk T n).cells)/\τ=σ:=par_ro (fun _ h=>by cases h) (pure_tok _) (so_token0 T n ps b hT hn) hσ
theorem so_is0 (T:List Tok) (n:Nat) (ps:List Str) (b:List Ex) (hT:T.length<=1000000) (hn:n < T.length) (k:Int) (u:Str):CCalls CC 194 [.ptr 0 0,(.val (.int .i64 k)),(sv u)] (pst T n ps b) (fun r τ=>FinR 2 τ r (.ret (.val (.bool (isT (tk T n) (k) (u))))) (pst T n ps b)):=by
 refine (ccalls_of Tryz.func194 rfl rfl ?_);refine z_66 ?_; refine cY q_125 ?_; refine z_14 ?_; refine z_48 ?_; refine z_110 ?_; refine cY q_246 ?_; refine cY q_260 ?_; refine cY q_246 ?_; refine cG q_121 ?_; refine cG q_207 ?_; refine z_247 ?_; refine z_72 ?_;exact ⟨_,res1 rfl tt q_269,(by exact fin_st rfl (.val _))⟩
theorem so_is {n:Nat} {ps:List Str} {b:List Ex} (hT:T.length<=1000000) (hn:n < T.length) (k:Int) (u:Str) {s:Nat} (hσ:PAt σ q s T n ps b):CCalls CC 194 [.ptr q 0,(.val (.int .i64 k)),(sv u)] σ fun r τ=>r = .ret (.val (.bool (isT (tk T n) (k) (u))))/\τ=σ:=par_ro (fun _ h=>by simp at h; rcases h with rfl | rfl <;> exact .val _) (.val _) (so_is0 T n ps b hT hn k u) hσ
theorem so_sign0 (T:List Tok) (n:Nat) (ps:List Str) (b:List Ex) (hT:T.length<=1000000) (hn:n < T.length) (hW:TokW T) (u:Str):CCalls CC 193 [.ptr 0 0,(sv u)] (pst T n ps b) (ParR (fun _:Nat=>.tup []) (fun a=>pst T a ps b) (fun a=>pIs T n 4 u=some a/\a < T.length) (pIs T n 4 u=none)):=by
 refine (ccalls_of Tryz.func193 rfl rfl ?_);refine z_226 ?_; refine z_32 ?_; refine cC (fun h1=>?_) fun h1=>?_
 ·have hb:isT (tk T n) 4 u=false:=by simpa using h1
  refine z_7 ?_; refine cY q_125 ?_;exact co_d rfl rfl (d_calln rfl t_36 q_293 (so_fail _ _ _) rfl (fun _ _=>.inr ⟨(_,_),fin_pan,by rw [pIs,if_neg (by rw [hb]; decide)],si_⟩))
 ·have hb:isT (tk T n) 4 u=true:=by simpa using h1
  refine z_259 ?_;exact z_205
theorem so_sign {n:Nat} {ps:List Str} {b:List Ex} (hT:T.length<=1000000) (hn:n < T.length) (hW:TokW T) (u:Str) {s:Nat} (hσ:PAt σ q s T n ps b):CCalls CC 193 [.ptr q 0,(sv u)] σ (ParG (fun _:Nat=>.tup []) (fun a=>σ.set q (pbx T a ps b s)) (fun a=>pIs T n 4 u=some a/\a < T.length) σ q s (pIs T n 4 u=none)) :=
 par_lift0 (c:=fun _:Nat=>.tup []) (N:=fun a=>a) (fun _ h=>by simp at h; subst h; exact .val _) (fun _=>pure_tup trivial) (so_sign0 T n ps b hT hn hW u) hσ
theorem so_word0 (T:List Tok) (n:Nat) (ps:List Str) (b:List Ex) (hT:T.length<=1000000) (hn:n < T.length) (hW:TokW T) (u:Str):CCalls CC 191 [.ptr 0 0,(sv u)] (pst T n ps b) (ParR (fun _:Nat=>.tup []) (fun a=>pst T a ps b) (fun a=>pIs T n 1 u=some a/\a < T.length) (pIs T n 1 u=none)):=by
 refine (ccalls_of Tryz.func191 rfl rfl ?_);refine z_77 ?_; refine cY (y_callf rfl t_70 ⟨tt,rfl,tt,tt⟩ (so_is hT hn 1 u ⟨rfl,rfl,de_⟩) rfl) ?_; refine z_32 ?_; refine cC (fun h1=>?_) fun h1=>?_
 ·have hb:isT (tk T n) 1 u=false:=by simpa using h1
  refine z_7 ?_; refine cY q_125 ?_;exact co_d rfl rfl (d_calln rfl t_36 q_293 (so_fail _ _ _) rfl (fun _ _=>.inr ⟨(_,_),fin_pan,by rw [pIs,if_neg (by rw [hb]; decide)],si_⟩))
 ·have hb:isT (tk T n) 1 u=true:=by simpa using h1
  refine z_259 ?_;exact z_205
theorem so_word {n:Nat} {ps:List Str} {b:List Ex} (hT:T.length<=1000000) (hn:n < T.length) (hW:TokW T) (u:Str) {s:Nat} (hσ:PAt σ q s T n ps b):CCalls CC 191 [.ptr q 0,(sv u)] σ (ParG (fun _:Nat=>.tup []) (fun a=>σ.set q (pbx T a ps b s)) (fun a=>pIs T n 1 u=some a/\a < T.length) σ q s (pIs T n 1 u=none)) :=
 par_lift0 (c:=fun _:Nat=>.tup []) (N:=fun a=>a) (fun _ h=>by simp at h; subst h; exact .val _) (fun _=>pure_tup trivial) (so_word0 T n ps b hT hn hW u) hσ
theorem so_accept0 (T:List Tok) (n:Nat) (ps:List Str) (b:List Ex) (hT:T.length<=1000000) (hn:n < T.length) (hW:TokW T) (u:Str):CCalls CC 277 [.ptr 0 0,(sv u)] (pst T n ps b) (ParR (fun a:Bool × Nat=>(.val (.bool a.1))) (fun a=>pst T a.2 ps b) (fun a=>a.1=isT (tk T n) 4 u/\a.2=(if isT (tk T n) 4 u=true then n+1 else n)/\a.2 < T.length) False):=by
 refine (ccalls_of Tryz.func277 rfl rfl ?_);refine z_4 ?_; refine z_226 ?_; refine z_32 ?_; refine cC (fun h1=>?_) fun h1=>?_
 ·have hb:isT (tk T n) 4 u=false:=by simpa using h1
  refine z_19 ?_;exact ⟨_,res1 rfl tt q_269,(by exact .inl ⟨(false,n),fin_st rfl (.val _),hb.symm,by rw [if_neg (by rw [hb]; decide)],hn⟩)⟩
 ·have hb:isT (tk T n) 4 u=true:=by simpa using h1
  refine z_71 ?_; refine z_171 ?_; refine z_19 ?_;exact ⟨_,res1 rfl tt q_269,(by exact .inl ⟨(true,n+1),fin_st rfl (.val _),hb.symm,by rw [if_pos hb],hW n hn (isT_ne hb de_)⟩)⟩
theorem so_accept {n:Nat} {ps:List Str} {b:List Ex} (hT:T.length<=1000000) (hn:n < T.length) (hW:TokW T) (u:Str) {s:Nat} (hσ:PAt σ q s T n ps b):CCalls CC 277 [.ptr q 0,(sv u)] σ fun r τ=>∃ a:Bool × Nat,r = .ret (.val (.bool a.1))/\τ=σ.set q (pbx T a.2 ps b s)/\a.1=isT (tk T n) 4 u/\a.2=(if isT (tk T n) 4 u=true then n+1 else n)/\a.2 < T.length :=
 (par_lift0 (c:=fun a:Bool × Nat=>(.val (.bool a.1))) (N:=fun a:Bool × Nat=>a.2) (fun _ h=>by simp at h; subst h; exact .val _) (fun _=>.val _) (so_accept0 T n ps b hT hn hW u) hσ).mono fun r τ h=>by
  rcases h with h | ⟨_,_,_,h,_⟩
  ·exact h
  ·exact h.elim
theorem so_take0 (T:List Tok) (n:Nat) (ps:List Str) (b:List Ex) (hT:T.length<=1000000) (hn:n < T.length) (hW:TokW T) (k:Int):CCalls CC 235 [.ptr 0 0,(.val (.int .i64 k))] (pst T n ps b) (ParR (fun a:Tok × Nat=>.agg a.1.cells) (fun a=>pst T a.2 ps b) (fun a=>pTake T n k=some a/\a.2 < T.length) (pTake T n k=none)):=by
 refine (ccalls_of Tryz.func235 rfl rfl ?_);refine z_112 ?_; refine z_33 ?_; refine cY q_125 ?_; refine z_238 ?_; refine z_110 ?_; refine cY q_246 ?_; refine z_64 ?_; refine cC (fun h1=>?_) fun h1=>?_
 ·have hk:¬ (tk T n).k=k:=by simpa using h1
  refine z_232 ?_;exact co_d rfl rfl (d_calln rfl t_36 q_293 (so_fail _ _ _) rfl (fun _ _=>.inr ⟨(_,_),fin_pan,by rw [pTake,if_neg hk],si_⟩))
 ·have hk:(tk T n).k=k:=by simpa using h1
  refine z_145 ?_; refine z_12 ?_; refine cC (fun h2=>?_) fun h2=>?_
  ·have h5:¬ k=5:=by simpa using h2
   refine z_7 ?_; refine z_171 ?_; refine z_0 ?_; refine cY q_172 ?_; refine z_47 ?_; refine cw_ret ?_;exact ⟨_,res_one rfl q_109,(by exact .inl ⟨(tk T n,n+1),fin_st rfl (old_tok _ _),by rw [pTake,if_pos hk,if_neg h5],hW n hn (by rw [hk]; exact h5)⟩)⟩
  ·have h5:k=5:=by simpa using h2
   refine z_46 ?_; refine cY q_172 ?_; refine z_47 ?_; refine cw_ret ?_;exact ⟨_,res_one rfl q_109,(by exact .inl ⟨(tk T n,n),fin_st rfl (old_tok _ _),by rw [pTake,if_pos hk,if_pos h5],hn⟩)⟩
theorem so_take {n:Nat} {ps:List Str} {b:List Ex} (hT:T.length<=1000000) (hn:n < T.length) (hW:TokW T) (k:Int) {s:Nat} (hσ:PAt σ q s T n ps b):CCalls CC 235 [.ptr q 0,(.val (.int .i64 k))] σ (ParG (fun a:Tok × Nat=>.agg a.1.cells) (fun a=>σ.set q (pbx T a.2 ps b s)) (fun a=>pTake T n k=some a/\a.2 < T.length) σ q s (pTake T n k=none)) :=
 par_lift0 (c:=fun a:Tok × Nat=>.agg a.1.cells) (N:=fun a=>a.2) (fun _ h=>by simp at h; subst h; exact .val _) (fun _=>pure_tok _) (so_take0 T n ps b hT hn hW k) hσ
def resB (u:Str):Bool:=decide (u∈([[112,97,99,107,97,103,101],[105,109,112,111,114,116],[102,117,110,99],[116,101,115,116],[103,101,110],[105,102],[116,104,101,110],[101,108,115,101],[114,101,97,100],[115,105,122,101],[104,97,115],[101,110,118],[102,108,105,112]]:List Str))
theorem so_reserved_s (u:Str) (σ:List CObj):CCalls CC 236 [(sv u)] σ fun r σ'=>r = .ret (.val (.bool (resB u)))/\σ'=σ:=by
 refine CCalls.anyw hCC pu_ pu_ ?_ σ;refine ccalls_val (ccalls_of Tryz.func236 rfl rfl ?_);refine z_54 ?_; refine z_13 ?_; refine z_42 ?_; refine z_59 ?_; refine cC (fun h1=>?_) fun h1=>?_
 ·have e:u=[112,97,99,107,97,103,101]:=by simpa using h1
  refine cw_skip ?_; refine cC (fun h2=>?_) fun h2=>?_
  ·refine z_19 ?_;exact ⟨_,res1 rfl tt q_269,_,_,rfl,rfl,cls_bool (show true=resB u by rw [e]; decide)⟩
  ·exfalso;rw [h1] at h2;cases h2
 ·have e1:¬ u=[112,97,99,107,97,103,101]:=by simpa using h1
  refine z_88 ?_; refine cC (fun h3=>?_) fun h3=>?_
  ·have e:u=[105,109,112,111,114,116]:=by simpa using h3
   refine cw_skip ?_; refine cC (fun h4=>?_) fun h4=>?_
   ·refine z_19 ?_;exact ⟨_,res1 rfl tt q_269,_,_,rfl,rfl,cls_bool (show true=resB u by rw [e]; decide)⟩
   ·exfalso;rw [h3] at h4;cases h4
  ·have e2:¬ u=[105,109,112,111,114,116]:=by simpa using h3
   refine z_88 ?_; refine cC (fun h5=>?_) fun h5=>?_
   ·have e:u=[102,117,110,99]:=by simpa using h5
    refine cw_skip ?_; refine cC (fun h6=>?_) fun h6=>?_
    ·refine z_19 ?_;exact ⟨_,res1 rfl tt q_269,_,_,rfl,rfl,cls_bool (show true=resB u by rw [e]; decide)⟩
    ·exfalso;rw [h5] at h6;cases h6
   ·have e3:¬ u=[102,117,110,99]:=by simpa using h5
    refine z_88 ?_; refine cC (fun h7=>?_) fun h7=>?_
    ·have e:u=[116,101,115,116]:=by simpa using h7
     refine cw_skip ?_; refine cC (fun h8=>?_) fun h8=>?_
     ·refine z_19 ?_;exact ⟨_,res1 rfl tt q_269,_,_,rfl,rfl,cls_bool (show true=resB u by rw [e]; decide)⟩
     ·exfalso;rw [h7] at h8;cases h8
    ·have e4:¬ u=[116,101,115,116]:=by simpa using h7
     refine z_88 ?_; refine cC (fun h9=>?_) fun h9=>?_
     ·have e:u=[103,101,110]:=by simpa using h9
      refine cw_skip ?_; refine cC (fun h10=>?_) fun h10=>?_
      ·refine z_19 ?_;exact ⟨_,res1 rfl tt q_269,_,_,rfl,rfl,cls_bool (show true=resB u by rw [e]; decide)⟩
      ·exfalso;rw [h9] at h10;cases h10
     ·have e5:¬ u=[103,101,110]:=by simpa using h9
      refine z_88 ?_; refine cC (fun h11=>?_) fun h11=>?_
      ·have e:u=[105,102]:=by simpa using h11
       refine cw_skip ?_; refine cC (fun h12=>?_) fun h12=>?_
       ·refine z_19 ?_;exact ⟨_,res1 rfl tt q_269,_,_,rfl,rfl,cls_bool (show true=resB u by rw [e]; decide)⟩
       ·exfalso;rw [h11] at h12;cases h12
      ·have e6:¬ u=[105,102]:=by simpa using h11
       refine z_88 ?_; refine cC (fun h13=>?_) fun h13=>?_
       ·have e:u=[116,104,101,110]:=by simpa using h13
        refine cw_skip ?_; refine cC (fun h14=>?_) fun h14=>?_
        ·refine z_19 ?_;exact ⟨_,res1 rfl tt q_269,_,_,rfl,rfl,cls_bool (show true=resB u by rw [e]; decide)⟩
        ·exfalso;rw [h13] at h14;cases h14
       ·have e7:¬ u=[116,104,101,110]:=by simpa using h13
        refine z_88 ?_; refine cC (fun h15=>?_) fun h15=>?_
        ·have e:u=[101,108,115,101]:=by simpa using h15
         refine cw_skip ?_; refine cC (fun h16=>?_) fun h16=>?_
         ·refine z_19 ?_;exact ⟨_,res1 rfl tt q_269,_,_,rfl,rfl,cls_bool (show true=resB u by rw [e]; decide)⟩
         ·exfalso;rw [h15] at h16;cases h16
        ·have e8:¬ u=[101,108,115,101]:=by simpa using h15
         refine z_88 ?_; refine cC (fun h17=>?_) fun h17=>?_
         ·have e:u=[114,101,97,100]:=by simpa using h17
          refine cw_skip ?_; refine cC (fun h18=>?_) fun h18=>?_
          ·refine z_19 ?_;exact ⟨_,res1 rfl tt q_269,_,_,rfl,rfl,cls_bool (show true=resB u by rw [e]; decide)⟩
          ·exfalso;rw [h17] at h18;cases h18
         ·have e9:¬ u=[114,101,97,100]:=by simpa using h17
          refine z_88 ?_; refine cC (fun h19=>?_) fun h19=>?_
          ·have e:u=[115,105,122,101]:=by simpa using h19
           refine cw_skip ?_; refine cC (fun h20=>?_) fun h20=>?_
           ·refine z_19 ?_;exact ⟨_,res1 rfl tt q_269,_,_,rfl,rfl,cls_bool (show true=resB u by rw [e]; decide)⟩
           ·exfalso;rw [h19] at h20;cases h20
          ·have e10:¬ u=[115,105,122,101]:=by simpa using h19
           refine z_88 ?_; refine cC (fun h21=>?_) fun h21=>?_
           ·have e:u=[104,97,115]:=by simpa using h21
            refine cw_skip ?_; refine cC (fun h22=>?_) fun h22=>?_
            ·refine z_19 ?_;exact ⟨_,res1 rfl tt q_269,_,_,rfl,rfl,cls_bool (show true=resB u by rw [e]; decide)⟩
            ·exfalso;rw [h21] at h22;cases h22
           ·have e11:¬ u=[104,97,115]:=by simpa using h21
            refine z_88 ?_; refine cC (fun h23=>?_) fun h23=>?_
            ·have e:u=[101,110,118]:=by simpa using h23
             refine cw_skip ?_; refine cC (fun h24=>?_) fun h24=>?_
             ·refine z_19 ?_;exact ⟨_,res1 rfl tt q_269,_,_,rfl,rfl,cls_bool (show true=resB u by rw [e]; decide)⟩
             ·exfalso;rw [h23] at h24;cases h24
            ·have e12:¬ u=[101,110,118]:=by simpa using h23
             refine cw_region ?_; refine z_59 ?_; refine cC (fun h25=>?_) fun h25=>?_
             ·have e:u=[102,108,105,112]:=by simpa using h25
              refine z_19 ?_;exact ⟨_,res1 rfl tt q_269,_,_,rfl,rfl,cls_bool (show true=resB u by rw [e]; decide)⟩
             ·have e13:¬ u=[102,108,105,112]:=by simpa using h25
              refine z_245 ?_;exact ⟨_,res1 rfl tt q_269,_,_,rfl,rfl,cls_bool (show false=resB u by simp [resB,e1,e2,e3,e4,e5,e6,e7,e8,e9,e10,e11,e12,e13])⟩
def ixS:List Str->Str->Nat->Int
 | [],_,_=>-1
 | y::l,x,i=>if y=x then i else ixS l x (i+1)
theorem ixS_step {l:List Str} {y:Str} (h:l[i]? = some y) (x:Str):ixS (l.drop i) x i=if y=x then (i:Int) else ixS (l.drop (i+1)) x (i+1):=by
 obtain ⟨hlt,rfl⟩:=n_1.1 h;rw [n_25 hlt];rfl
theorem ixS_range (x:Str):∀ (l:List Str) (i:Nat),(x∉l/\ixS l x i = -1)\/(x∈l/\(i:Int)<=ixS l x i/\ixS l x i < i+l.length)
 | [],_=>.inl ⟨si_,rfl⟩
 | y::l,i=>by
  rw [ixS];by_cases h:y=x
  ·rw [if_pos h];exact .inr ⟨by simp [h],om_,by simp; omega⟩
  ·rw [if_neg h]
   rcases ixS_range x l (i+1) with ⟨h1,h2⟩ | ⟨h1,h2,h3⟩
   ·exact .inl ⟨by simp [h1,Ne.symm h],h2⟩
   ·exact .inr ⟨by simp [h1],om_,by simp; omega⟩
theorem ixS_mem {l:List Str} {x:Str}:0<=ixS l x 0↔x∈l:=by
 rcases ixS_range x l 0 with ⟨h1,h2⟩ | ⟨h1,h2,_⟩
 ·rw [h2]; simp [h1]
 ·simp [h1]; omega
theorem str_Index_s (l:List Str) (nn:Bool) (x:Str) (hl:l.length<=1000000000) (σ:List CObj):CCalls CC 205 [(.list (l.map scv) nn none),(sv x)] σ fun r σ'=>r = .ret (.val (.int .i64 (ixS l x 0)))/\σ'=σ:=by
 refine CCalls.anyw hCC pu_ pu_ ?_ σ;refine ccalls_val (ccalls_of Tryz.func205 rfl rfl ?_);refine z_54 ?_; refine z_107 ?_; refine cw_loopd hCC (α:=Nat) (fun i=>[(0,(.list (l.map scv) nn none)),(1,(sv x)),(7,(.val (.int .i64 (l.length:Int)))),(8,(.val (.int .i64 (i:Int))))]) (fun _=>[]) (fun i=>i<=l.length/\ixS l x 0=ixS (l.drop i) x i) (fun i=>l.length - i) 0 ⟨n_3 _,rfl⟩ tu_ (extra0:=[]) rfl q_273 uz_ ?_; intro i ⟨hi,hr⟩; refine z_28 ?_; refine cC (fun h1=>?_) fun h1=>?_
 ·have hlt:(i:Int) < l.length:=by simpa using h1
  obtain ⟨y,hb⟩:∃ y,l[i]? = some y:=⟨l[i]'om_,si_⟩;rw [ixS_step hb] at hr;refine z_113 ?_; refine z_1 ?_; refine z_49 ?_; refine z_172 ?_; refine z_264 ?_; refine cC (fun h2=>?_) fun h2=>?_
  ·have hx:y=x:=(show x=y by simpa using h2).symm;rw [if_pos hx] at hr;exact z_254
  ·have hx:¬ y=x:=fun e=>by subst e; simp at h2
   rw [if_neg hx] at hr;exact z_53
 ·have hge:i=l.length:=by
   have:¬ (i:Int) < l.length:=by simpa using h1
   omega
  refine z_178 ?_;exact ⟨_,res1 rfl tt q_269,_,_,rfl,rfl,cls_int (by rw [hr,hge,n_110]; rfl)⟩
theorem str_Contains (l:List Str) (nn:Bool) (x:Str) (hl:l.length<=1000000000):CCalls CC 160 [(.list (l.map scv) nn none),(sv x)] [] fun r σ'=>r = .ret (.val (.bool (decide (x∈l))))/\σ'=[]:=by
 refine ccalls_val (ccalls_of Tryz.func160 rfl rfl ?_);refine z_127 ?_; refine cY (y_callf rfl Tryz.call205 q_296 (str_Index_s l nn x hl _) rfl) ?_; refine cY q_255 ?_; refine z_5 ?_;exact ⟨_,res1 rfl tt q_269,_,_,rfl,rfl,cls_bool (decide_eq_decide.2 ixS_mem)⟩
theorem str_Contains_s (l:List Str) (nn:Bool) (x:Str) (hl:l.length<=1000000000) (σ:List CObj):CCalls CC 160 [(.list (l.map scv) nn none),(sv x)] σ fun r σ'=>r = .ret (.val (.bool (decide (x∈l))))/\σ'=σ :=
 CCalls.anyw hCC pu_ pu_ (str_Contains l nn x hl) σ
theorem pTake_eq {n n1:Nat} {k:Int} (h:pTake T n k=some (t,n1)):t=tk T n:=by
 unfold pTake at h;split at h
 ·injection h with h; injection h with h _; exact h.symm
 ·cases h
def TokL (T:List Tok):Prop:=∀ n,(tk T n).t.length<=1000000
def pName (T:List Tok) (n:Nat):Option (Tok × Nat):=(pTake T n 1).bind fun x=>if resB x.1.t=true then none else some x
def pPath (T:List Tok) (n:Nat):Option (Tok × Nat):=(pTake T n 3).bind fun x=>if pathB x.1.t=true then some x else none
theorem so_name0 (T:List Tok) (n:Nat) (ps:List Str) (b:List Ex) (hT:T.length<=1000000) (hn:n < T.length) (hW:TokW T):CCalls CC 192 [.ptr 0 0] (pst T n ps b) (ParR (fun a:Tok × Nat=>.agg a.1.cells) (fun a=>pst T a.2 ps b) (fun a=>pName T n=some a/\a.2 < T.length) (pName T n=none)):=by
 refine (ccalls_of Tryz.func192 rfl rfl ?_);refine z_112 ?_; refine z_33 ?_;refine cD (d_callx rfl t_71 q_293 (so_take hT hn hW 1 ⟨rfl,rfl,de_⟩) rfl (fun x hx=>.inr ⟨x,fin_pan,by rw [pName,hx.1]; rfl,hx.2⟩) ?_);rintro ⟨t,n1⟩ ⟨ht,hn1⟩;have hte:=pTake_eq ht;subst hte;dsimp only at ht hn1 ⊢;refine z_238 ?_; refine z_78 ?_; refine z_268 ?_; refine cC (fun h1=>?_) fun h1=>?_
 ·have hr:resB (tk T n).t=true:=by simpa using h1
  refine z_232 ?_;exact co_d rfl rfl (d_calln rfl t_36 q_293 (so_fail _ _ _) rfl (fun _ _=>.inr ⟨(_,_),fin_pan,by rw [pName,ht,n_6,if_pos hr],si_⟩))
 ·have hr:resB (tk T n).t=false:=by simpa using h1
  refine z_46 ?_; refine cY q_172 ?_; refine z_47 ?_; refine cw_ret ?_;exact ⟨_,res_one rfl q_109,(by exact .inl ⟨(tk T n,n1),fin_st rfl (old_tok _ _),by rw [pName,ht,n_6,if_neg (by rw [hr]; decide)],hn1⟩)⟩
theorem so_name {n:Nat} {ps:List Str} {b:List Ex} (hT:T.length<=1000000) (hn:n < T.length) (hW:TokW T) {s:Nat} (hσ:PAt σ q s T n ps b):CCalls CC 192 [.ptr q 0] σ (ParG (fun a:Tok × Nat=>.agg a.1.cells) (fun a=>σ.set q (pbx T a.2 ps b s)) (fun a=>pName T n=some a/\a.2 < T.length) σ q s (pName T n=none)) :=
 par_lift0 (c:=fun a:Tok × Nat=>.agg a.1.cells) (N:=fun a=>a.2) (fun _ h=>by cases h) (fun _=>pure_tok _) (so_name0 T n ps b hT hn hW) hσ
theorem so_path0 (T:List Tok) (n:Nat) (ps:List Str) (b:List Ex) (hT:T.length<=1000000) (hn:n < T.length) (hW:TokW T) (hL:TokL T):CCalls CC 237 [.ptr 0 0] (pst T n ps b) (ParR (fun a:Tok × Nat=>.agg a.1.cells) (fun a=>pst T a.2 ps b) (fun a=>pPath T n=some a/\a.2 < T.length) (pPath T n=none)):=by
 refine (ccalls_of Tryz.func237 rfl rfl ?_);refine z_112 ?_; refine z_33 ?_;refine cD (d_callx rfl t_71 q_293 (so_take hT hn hW 3 ⟨rfl,rfl,de_⟩) rfl (fun x hx=>.inr ⟨x,fin_pan,by rw [pPath,hx.1]; rfl,hx.2⟩) ?_);rintro ⟨t,n1⟩ ⟨ht,hn1⟩;have hte:=pTake_eq ht;subst hte;dsimp only at ht hn1 ⊢;refine z_238 ?_; refine z_78 ?_; refine cY (y_callf rfl t_60 ⟨tt,tt⟩ (lx_Path_s (tk T n).t (by have:=hL n; omega) _) rfl) ?_; refine z_32 ?_; refine cC (fun h1=>?_) fun h1=>?_
 ·have hr:pathB (tk T n).t=false:=by simpa using h1
  refine z_232 ?_;exact co_d rfl rfl (d_calln rfl t_36 q_293 (so_fail _ _ _) rfl (fun _ _=>.inr ⟨(_,_),fin_pan,by rw [pPath,ht,n_6,if_neg (by rw [hr]; decide)],si_⟩))
 ·have hr:pathB (tk T n).t=true:=by simpa using h1
  refine z_46 ?_; refine cY q_172 ?_; refine z_47 ?_; refine cw_ret ?_;exact ⟨_,res_one rfl q_109,(by exact .inl ⟨(tk T n,n1),fin_st rfl (old_tok _ _),by rw [pPath,ht,n_6,if_pos hr],hn1⟩)⟩
theorem so_path {n:Nat} {ps:List Str} {b:List Ex} (hT:T.length<=1000000) (hn:n < T.length) (hW:TokW T) (hL:TokL T) {s:Nat} (hσ:PAt σ q s T n ps b):CCalls CC 237 [.ptr q 0] σ (ParG (fun a:Tok × Nat=>.agg a.1.cells) (fun a=>σ.set q (pbx T a.2 ps b s)) (fun a=>pPath T n=some a/\a.2 < T.length) σ q s (pPath T n=none)) :=
 par_lift0 (c:=fun a:Tok × Nat=>.agg a.1.cells) (N:=fun a=>a.2) (fun _ h=>by cases h) (fun _=>pure_tok _) (so_path0 T n ps b hT hn hW hL) hσ
def pNode (b:List Ex) (x:Ex):Option (Nat × List Ex):=if b.length=256 then none else some (b.length,b++[x])
theorem so_node0 (T:List Tok) (n:Nat) (ps:List Str) (b:List Ex) (_:T.length<=1000000) (_:n < T.length) (hb:b.length<=256) (t:Tok) (x:Ex):CCalls CC 279 [.ptr 0 0,.agg t.cells,.agg x.cells] (pst T n ps b) (ParR (fun a:Nat × List Ex=>(.val (.int .i64 (a.1:Int)))) (fun a=>pst2 T n ps a.2) (fun a=>pNode b x=some a/\a.2.length<=256) (pNode b x=none)):=by
 refine (ccalls_of Tryz.func279 rfl rfl ?_);refine z_63 ?_; refine z_3 ?_; refine z_16 ?_; refine cY q_279 ?_; refine cY q_136 ?_; refine cY q_219 ?_; refine cY q_98 ?_; refine z_12 ?_; refine cC (fun h1=>?_) fun h1=>?_
 ·have h256:b.length=256:=by simp at h1; omega
  refine z_232 ?_;exact co_d rfl rfl (d_calln rfl t_36 q_293 (so_fail _ _ _) rfl (fun _ _=>.inr ⟨(_,_),fin_pan,by rw [pNode,if_pos h256],si_⟩))
 ·have h256:¬ b.length=256:=by simp at h1; omega
  have hl1:(b++[x]).length=b.length+1:=by simp
  refine z_9 ?_; refine cw_float [0,1,2,3,4,5,6,7,8,9,10] 7 [0,0,2,6,14,0,32,126,255,511,1023] [[0],[],[],[]] (hd1l:=[0,1,2,3,4,5,6]) (tll:=[(7,[0]),(8,[]),(9,[]),(10,[])]) q_289 q_289 rfl rfl rfl ?_; refine chf rfl q_206 ?_; refine z_68 ?_; refine chf rfl (hop_y rfl q_136) ?_; refine chf rfl (hop_y rfl q_219) ?_; refine chf rfl (hop_y rfl q_174) ?_; refine chf rfl (hop_y rfl (y_lit [Ex.cv x] rfl ⟨tt,tt⟩ t_43 t_37 t_63 rfl rfl rfl rfl rfl rfl rfl rfl rfl)) ?_; refine chf_nil ?_;refine ctl_d rfl rfl (d_appu rfl tt tt rfl si_ q_19 t_43 t_37 Tryz.typeInfo212 t_63 rfl (.inr rfl) q_21 (by have hb:Tryz.t212.bytes=64:=rfl; rw [hb]; first|omega|(simp; done)|(simp; omega)) q_226 ((b++[x]).map Ex.cv) (b++[x]).length si_ si_ ?_);refine ⟨⟨q_181,tt⟩,?_⟩;refine ctl_h rfl q_256 ⟨tt,?_⟩;refine ctl_h rfl (hop_y rfl q_136) ⟨tt,?_⟩;refine ctl_d rfl rfl (d_store rfl tt tt rfl q_269 t_52 (.inl rfl) rfl rfl (nb rfl) ?_);refine z_123 ?_; refine z_132 ?_; refine cY q_136 ?_; refine cY q_219 ?_; refine cY q_98 ?_; refine cY q_253 ?_; refine z_5 ?_;exact ⟨_,res1 rfl tt q_269,(by rw [show (((b++[x]).length:Int) - 1)=(b.length:Int) by omega]; exact .inl ⟨(b.length,b++[x]),fin_gr (k:=4) rfl rfl de_ (.val _),by rw [pNode,if_neg h256],by show (b++[x]).length<=256; omega⟩)⟩
theorem so_node {n:Nat} {ps:List Str} {b:List Ex} (hT:T.length<=1000000) (hn:n < T.length) (hb:b.length<=256) (t:Tok) (x:Ex) {s:Nat} (hσ:PAt σ q s T n ps b):CCalls CC 279 [.ptr q 0,.agg t.cells,.agg x.cells] σ (ParG (fun a:Nat × List Ex=>(.val (.int .i64 (a.1:Int)))) (fun a=>(σ.set q (pbx T n ps a.2 σ.length)).set s .dead++[gobj a.2.length]) (fun a=>pNode b x=some a/\a.2.length<=256) σ q s (pNode b x=none)) :=
 par_lift1 (c:=fun a:Nat × List Ex=>(.val (.int .i64 (a.1:Int)))) (N:=fun _=>n) (B:=fun a=>a.2) (fun _ h=>by simp at h; rcases h with rfl | rfl; exact pure_tok _; exact pure_agg x.pure) (fun _=>.val _) (so_node0 T n ps b hT hn hb t x) hσ
theorem fin_stR {n:Nat} {ps:List Str} {b:List Ex} (hτ:τ=pbx T n ps b 1::gobj b.length::rest) (hc:RenV 2 [0,1] c c'):FinR 2 τ (.ret c) (.ret c') (pst T n ps b):=by
 subst hτ;exact ⟨[0,1],rfl,rfl,.ret hc,.inr ⟨_,rfl,.same rfl (old_pbx de_)⟩,.inr ⟨_,rfl,.same rfl q_292⟩,tt⟩
theorem ren_lst {f:α->List CV} {nn:Bool} {tok:Option Nat} (h:∀ a,Pures (f a)) (l:List α):RenV L sel (.list (l.map f) nn tok) (.list (l.map f) nn none) :=
 .list (fun r hr c hc=>(rows_pure (f:=f) (fun a=>(h a).all) _ r hr c hc).old) (fun j hj=>by cases hj)
def pParL:Nat->List Tok->Nat->List Str->Option (List Str × Nat)
 | 0,_,_,_=>none
 | f+1,T,n,l=>(pName T n).bind fun x=>if l.length=8 then none else if x.1.t∈l then none else
  if isT (tk T x.2) 4 [44]=true then pParL f T (x.2+1) (l++[x.1.t]) else (pIs T x.2 4 [41]).bind fun m=>some (l++[x.1.t],m)
def pParams (T:List Tok) (n:Nat):Option (List Str × Nat):=(pIs T n 4 [40]).bind fun m=>if isT (tk T m) 4 [41]=true then some ([],m+1) else pParL 9 T m []
theorem len_snoc (l:List α) (x:α):(l++[x]).length=l.length+1:=by simp
theorem so_parameters0 (T:List Tok) (n:Nat) (ps:List Str) (b:List Ex) (hT:T.length<=1000000) (hn:n < T.length) (hW:TokW T):CCalls CC 240 [.ptr 0 0] (pst T n ps b) (ParR (fun a:List Str × Nat=>.list (a.1.map scv) (gnn a.1.length) none) (fun a=>pst T a.2 ps b) (fun a=>pParams T n=some a/\a.2 < T.length/\a.1.length<=8) (pParams T n=none)):=by
 refine (ccalls_of Tryz.func240 rfl rfl ?_);refine z_4 ?_; refine z_66 ?_;refine cD (d_callx rfl t_18 q_293 (so_sign hT hn hW [40] ⟨rfl,rfl,de_⟩) rfl (fun x hx=>.inr ⟨x,fin_pan,by rw [pParams,hx.1]; rfl,hx.2⟩) ?_);rintro n1 ⟨hs1,hn1⟩;dsimp only at hs1 hn1 ⊢;refine z_158 ?_;refine cD (d_callv rfl t_64 q_293 (so_accept hT hn1 hW [41] ⟨rfl,rfl,de_⟩) rfl ?_);rintro ⟨ac,n2⟩ ⟨ha,hn2,hn2l⟩;dsimp only at ha hn2 hn2l ⊢;refine co_nil ?_; refine cC (fun h1=>?_) fun h1=>?_
 ·have hc:isT (tk T n1) 4 [41]=true:=by rw [<- ha]; simpa using h1
  rw [if_pos hc] at hn2;refine z_19 ?_;exact ⟨_,res1 rfl tt q_269,(by exact .inl ⟨([],n2),fin_st rfl (old_strs _ [] false),by rw [pParams,hs1,n_6,if_pos hc,hn2],hn2l,by show 0<=8; decide⟩)⟩
 ·have hc:¬ isT (tk T n1) 4 [41]=true:=by rw [<- ha]; simpa using h1
  rw [if_neg hc] at hn2;refine z_20 ?_; refine cw_loopr hCC 2 rfl (α:=List Str × Nat) (fun x=>[(0,.ptr 0 0),(3,(.list (x.1.map scv) (gnn x.1.length) (gtok x.1.length 2)))]) (fun x=>[pbx T x.2 ps b 1,gobj b.length,gobj x.1.length]) (fun x=>x.1.length<=8/\x.2 < T.length/\pParams T n=pParL (9 - x.1.length) T x.2 x.1) (fun x=>9 - x.1.length) ⟨([],n2),[0,1,7],⟨n_3 _,hn2l,by rw [pParams,hs1,n_6,if_neg hc,hn2]; rfl⟩,⟨rfl,rfl⟩,q_18,⟨.inr ⟨_,rfl,.same rfl (old_pbx de_)⟩,.inr ⟨_,rfl,.same rfl q_292⟩,.inl rfl,tt⟩⟩ ?_; intro ⟨l,m⟩ ⟨hl,hm,hsp⟩;dsimp only at hl hm hsp ⊢;obtain ⟨f,hf⟩:∃ f,9 - l.length=f+1:=⟨8 - l.length,om_⟩;rw [hf,pParL] at hsp;refine cw_block ?_; refine z_2 ?_;refine cD (d_callx rfl t_92 ⟨tt,tt⟩ (so_name hT hm hW ⟨rfl,rfl,de_⟩) rfl (fun x hx=>.inr ⟨x,fin_pan,by rw [hsp,hx.1]; rfl,hx.2⟩) ?_);rintro ⟨t,m1⟩ ⟨ht,hm1⟩;dsimp only at ht hm1 ⊢;rw [ht,n_6] at hsp;dsimp only at hsp;refine z_14 ?_; refine z_158 ?_; refine z_229 ?_; refine cC (fun h2=>?_) fun h2=>?_
  ·have h8:l.length=8:=by simp at h2; omega
   rw [if_pos h8] at hsp;exact z_98
  ·have h8:¬ l.length=8:=by simp at h2; omega
   rw [if_neg h8] at hsp;refine z_145 ?_; refine z_78 ?_; refine cY (y_callf rfl t_72 q_296 (str_Contains_s l (gnn l.length) t.t om_ _) rfl) ?_; refine co_nil ?_; refine cC (fun h3=>?_) fun h3=>?_
   ·have hi:t.t∈l:=by simpa using h3
    rw [if_pos hi] at hsp;exact z_98
   ·have hi:¬ t.t∈l:=by simpa using h3
    rw [if_neg hi] at hsp;have hls:=len_snoc l t.t;refine z_71 ?_; refine z_78 ?_; refine cY (y_lit [scv t.t] rfl ⟨tt,tt⟩ t_2 t_0 t_3 rfl rfl rfl rfl rfl rfl rfl rfl rfl) ?_;refine cD (d_appu rfl tt tt rfl si_ q_19 t_2 t_0 t_24 t_3 rfl (.inr rfl) q_21 q_81 q_226 ((l++[t.t]).map scv) (l++[t.t]).length si_ si_ ?_);refine z_38 ?_;refine cD (d_callv rfl t_64 q_293 (so_accept hT hm1 hW [44] ⟨rfl,rfl,de_⟩) rfl ?_);rintro ⟨ac2,m2⟩ ⟨ha2,hm2,hm2l⟩;dsimp only at ha2 hm2 hm2l ⊢;refine z_32 ?_; refine cC (fun h4=>?_) fun h4=>?_
    ·have hc2:¬ isT (tk T m1) 4 [44]=true:=by rw [<- ha2]; simpa using h4
     rw [if_neg hc2] at hm2 hsp;subst hm2; refine z_65 ?_;refine cD (d_callx rfl t_18 q_293 (so_sign hT hm2l hW [41] ⟨rfl,rfl,de_⟩) rfl (fun x hx=>.inr ⟨x,fin_pan,by rw [hsp,hx.1]; rfl,hx.2⟩) ?_);rintro m3 ⟨hs3,hm3⟩;dsimp only at hs3 hm3 ⊢;refine z_33 ?_; refine z_5 ?_;exact ⟨_,res1 rfl tt q_269,(by exact .inl ⟨(l++[t.t],m3),fin_stR rfl (ren_lst (f:=scv) (fun _=>⟨.val _,tt⟩) _),by rw [hsp,hs3]; rfl,hm3,by show (l++[t.t]).length<=8; omega⟩)⟩
    ·have hc2:isT (tk T m1) 4 [44]=true:=by rw [<- ha2]; simpa using h4
     rw [if_pos hc2] at hm2 hsp;subst hm2; refine cw_skip ?_;exact ⟨(l++[t.t],m1+1),[0,1,4],⟨do_,do_,hm2l,by dsimp only; rw [hsp,show 9 - (l++[t.t]).length=f by omega]⟩,⟨rfl,rfl⟩,q_18,⟨.inr ⟨_,rfl,.same rfl (old_pbx de_)⟩,.inr ⟨_,rfl,.same rfl q_292⟩,.inr ⟨_,rfl,.same rfl q_292⟩,tt⟩⟩
theorem so_parameters {n:Nat} {ps:List Str} {b:List Ex} (hT:T.length<=1000000) (hn:n < T.length) (hW:TokW T) {s:Nat} (hσ:PAt σ q s T n ps b):CCalls CC 240 [.ptr q 0] σ (ParG (fun a:List Str × Nat=>.list (a.1.map scv) (gnn a.1.length) none) (fun a=>σ.set q (pbx T a.2 ps b s)) (fun a=>pParams T n=some a/\a.2 < T.length/\a.1.length<=8) σ q s (pParams T n=none)) :=
 par_lift0 (c:=fun a:List Str × Nat=>.list (a.1.map scv) (gnn a.1.length) none) (N:=fun a=>a.2) (fun _ h=>by cases h) (fun _=>pure_strs _ _) (so_parameters0 T n ps b hT hn hW) hσ
def lvOf (op:Int):Int:=if op=6\/op=7 then 1 else if op=1\/op=2 then 2 else 3
def S0:List (Int × Str):=[(1,[43]),(2,[45]),(3,[42]),(4,[47]),(5,[37]),(6,[60]),(7,[61,61])]
theorem so_levelOf_s (op:Int) (σ:List CObj):CCalls CC 319 [(.val (.int .i64 op))] σ fun r σ'=>r = .ret (.val (.int .i64 (lvOf op)))/\σ'=σ:=by
 refine CCalls.anyw hCC pu_ pu_ ?_ σ;refine ccalls_val (ccalls_of Tryz.func319 rfl rfl ?_);refine z_54 ?_; refine z_13 ?_; refine cw_seq ?_; refine z_27 ?_; refine cC (fun h1=>?_) fun h1=>?_
 ·have e:op=6:=by simpa using h1
  refine cw_skip ?_; refine cC (fun h2=>?_) fun h2=>?_
  ·refine z_19 ?_;exact ⟨_,res1 rfl tt q_269,_,_,rfl,rfl,cls_int (show (1:Int)=lvOf op by rw [lvOf,if_pos (.inl e)])⟩
  ·rw [h1] at h2;cases h2
 ·have e6:¬ op=6:=by simpa using h1
  refine z_126 ?_; refine cC (fun h6=>?_) fun h6=>?_
  ·have e:op=7:=by simpa using h6
   refine z_19 ?_;exact ⟨_,res1 rfl tt q_269,_,_,rfl,rfl,cls_int (show (1:Int)=lvOf op by rw [lvOf,if_pos (.inr e)])⟩
  ·have e7:¬ op=7:=by simpa using h6
   refine cw_seq ?_; refine z_27 ?_; refine cC (fun h7=>?_) fun h7=>?_
   ·have e:op=1:=by simpa using h7
    refine cw_skip ?_; refine cC (fun h8=>?_) fun h8=>?_
    ·refine z_19 ?_;exact ⟨_,res1 rfl tt q_269,_,_,rfl,rfl,cls_int (show (2:Int)=lvOf op by rw [lvOf,if_neg om_,if_pos (.inl e)])⟩
    ·rw [h7] at h8;cases h8
   ·have e1:¬ op=1:=by simpa using h7
    refine z_126 ?_; refine cC (fun h9=>?_) fun h9=>?_
    ·have e:op=2:=by simpa using h9
     refine z_19 ?_;exact ⟨_,res1 rfl tt q_269,_,_,rfl,rfl,cls_int (show (2:Int)=lvOf op by rw [lvOf,if_neg om_,if_pos (.inr e)])⟩
    ·have e2:¬ op=2:=by simpa using h9
     refine z_245 ?_;exact ⟨_,res1 rfl tt q_269,_,_,rfl,rfl,cls_int (show (3:Int)=lvOf op by rw [lvOf,if_neg om_,if_neg om_])⟩
theorem nr_it (m:List (Int × Str)):NoRefO (.map (gm kv sv m)):=fun x hx=>by
 obtain ⟨y,_,rfl⟩:=n_9.1 hx;exact ⟨.val _,.val _⟩
theorem so_signs0:CCalls CC 307 [] [] fun r τ=>∃ _:Unit,ClsR [CObj.map (gm kv sv S0)].length τ r (.ret (.map 0))/\ClOs [CObj.map (gm kv sv S0)].length τ τ [CObj.map (gm kv sv S0)]/\([]:List CObj).length<=[CObj.map (gm kv sv S0)].length/\True:=by
 refine (ccalls_of Tryz.func307 rfl rfl ?_);refine z_144 ?_;refine cD (d_makeMap rfl ?_);refine cD (d_mapUpdate_g (vc:=sv) (l:=S0.take 0) keyI (.inr rfl) tt rfl rfl rfl rfl rfl t_12 rfl ?_);refine cD (d_mapUpdate_g (vc:=sv) (l:=S0.take 1) keyI (.inr rfl) tt rfl rfl rfl rfl rfl t_12 rfl ?_);refine cD (d_mapUpdate_g (vc:=sv) (l:=S0.take 2) keyI (.inr rfl) tt rfl rfl rfl rfl rfl t_12 rfl ?_);refine cD (d_mapUpdate_g (vc:=sv) (l:=S0.take 3) keyI (.inr rfl) tt rfl rfl rfl rfl rfl t_12 rfl ?_);refine cD (d_mapUpdate_g (vc:=sv) (l:=S0.take 4) keyI (.inr rfl) tt rfl rfl rfl rfl rfl t_12 rfl ?_);refine cD (d_mapUpdate_g (vc:=sv) (l:=S0.take 5) keyI (.inr rfl) tt rfl rfl rfl rfl rfl t_12 rfl ?_);refine cD (d_mapUpdate_g (vc:=sv) (l:=S0.take 6) keyI (.inr rfl) tt rfl rfl rfl rfl rfl t_12 rfl ?_);refine cY q_246 ?_; refine z_5 ?_;exact ⟨_,res1 rfl tt q_269,(by exact ⟨(),.ret (.old (.map (Nat.zero_lt_one))),⟨.same (nr_it _).old,tt⟩,n_3 _,tt⟩)⟩
theorem so_signs (σ:List CObj):CCalls CC 307 [] σ fun r τ=>∃ _:Unit,r = .ret (.map σ.length)/\τ=σ++[.map (gm kv sv S0)]/\True :=
 ccalls_frameN (α:=Unit) (obs:=[]) (args:=[]) (res:=fun _=>.ret (.map 0)) (res':=fun _=>.ret (.map σ.length)) (S:=fun _=>[]) (N:=fun _=>[.map (gm kv sv S0)]) (P:=fun _=>True) [] hCC rfl (fun i j k h=>by simp at h) (fun i k h=>by simp at h) (fun ob h=>by cases h) ⟨rfl,fun i c c' h=>by simp at h⟩
  (ccalls_closeN (res:=fun _=>.ret (.map 0)) (S:=fun _=>[.map (gm kv sv S0)]) (P:=fun _=>True) hCC so_signs0) (fun m _=>⟨rfl,fun ob h=>by simp at h; subst h; exact nr_it _⟩) (fun m _=>.ret (.map (.inr ⟨n_3 _,rfl⟩)))
def opM (t:Tok) (lv:Int) (x:Int × Str):Bool:=(t.k == 4) && decide (t.t=x.2) && (lvOf x.1 == lv)
def opS (t:Tok) (lv:Int):Int:=((S0.find? (opM t lv)).map (·.1)).getD 0
theorem S0_inj:∀ x∈S0,∀ y∈S0,x.2=y.2->x=y:=by decide
theorem opS_is {x:Int × Str} (hx:x∈S0) (h:opM t lv x=true):opS t lv=x.1:=by
 unfold opS;cases hf:S0.find? (opM t lv) with
 | none=>exact absurd h (by simpa using n_98.1 hf x hx)
 | some y =>
  have h1:=List.find?_some hf;have h2:=n_123 hf;simp [opM] at h h1;have:=S0_inj x hx y h2 (by rw [<- h.1.2,<- h1.1.2]);rw [this]; rfl
theorem opS_no (h:∀ x∈S0,opM t lv x=false):opS t lv=0:=by
 unfold opS;have:S0.find? (opM t lv)=none:=n_98.2 fun x hx=>by simp [h x hx]
 rw [this]; rfl
theorem mem_erase_or {l:List α} {x y:α} (hy:l[i]? = some y) (h:x∈l):x=y\/x∈l.eraseIdx i:=by
 obtain ⟨j,hj⟩:=n_11.1 h;by_cases hji:j=i
 ·subst hji; rw [hy] at hj; injection hj with hj; exact .inl hj.symm
 ·exact .inr (n_136.2 ⟨j,hji,hj⟩)
theorem so_operator0 (T:List Tok) (n:Nat) (ps:List Str) (b:List Ex) (hT:T.length<=1000000) (hn:n < T.length) (lv:Int):CCalls CC 302 [.ptr 0 0,(.val (.int .i64 lv))] (pst T n ps b) (fun r τ=>FinR 2 τ r (.ret (.val (.int .i64 (opS (tk T n) lv)))) (pst T n ps b)):=by
 refine (ccalls_of Tryz.func302 rfl rfl ?_);refine z_66 ?_; refine cY q_125 ?_; refine z_238 ?_;refine cD (d_callv rfl t_116 trivial (so_signs _) rfl ?_);intro _ _;refine cD (d_range rfl tt rfl t_12 rfl ?_);refine z_13 ?_; refine cw_loopd hCC (α:=List (Int × Str) × List (Int × Str)) (fun x=>[(1,(.val (.int .i64 lv))),(5,.ptr 2 0),(11,.ptr 4 0)]) (fun x=>[pbx T n ps b 1,gobj b.length,.box (tk T n).cells,.dead,.iter (gm kv sv x.1) (gm kv sv x.2)]) (fun x=>(∀ y∈x.2,y∈S0)/\∀ y∈S0,y∉x.2->opM (tk T n) lv y=false) (fun x=>x.2.length) ([],S0) ⟨fun y h=>h,fun y h h2=>absurd h h2⟩ tu_ (extra0:=[]) rfl q_273 uz_ ?_; intro ⟨cur,left⟩ ⟨hls,hno⟩;dsimp only at hls hno ⊢;refine z_0 ?_;refine cD (d_next rfl tt rfl rfl (fun hz=>?_) (fun i x hx=>?_))
 ·
  have hl0:left=[]:=by
   cases left with
   | nil=>rfl
   | cons y l=>cases hz
  subst hl0; refine z_177 ?_; refine cC (fun h1=>?_) fun h1=>?_
  ·cases h1
  ·have hz0:=opS_no (fun y hy=>hno y hy si_);refine z_178 ?_;exact ⟨_,res1 rfl tt q_269,(by rw [hz0]; exact fin_st rfl (.val _))⟩
 ·
  obtain ⟨⟨k,s⟩,hy,rfl⟩:=gm_get hx;rw [gm_erase];have hks:=hls _ (n_0 hy);refine z_177 ?_; refine cC (fun h3=>?_) fun h3=>?_
  ·refine z_128 ?_; refine z_212 ?_; refine z_40 ?_; refine cY q_236 ?_; refine z_1 ?_; refine z_0 ?_; refine z_110 ?_; refine z_159 ?_; refine cG q_121 ?_; refine cG q_207 ?_; refine z_247 ?_; refine z_108 ?_; refine cG (fun hg=>y_callf rfl Tryz.call319 ⟨hg,tt⟩ (so_levelOf_s k _) rfl) ?_; refine cG q_212 ?_; refine cG q_244 ?_; refine z_265 ?_; refine cC (fun h4=>?_) fun h4=>?_
   ·have hm:opM (tk T n) lv (k,s)=true:=h4;have hz1:=opS_is hks hm;refine z_204 ?_;exact ⟨_,res1 rfl tt q_269,(by rw [hz1]; exact fin_st rfl (.val _))⟩
   ·have hm:opM (tk T n) lv (k,s)=false:=h4;refine cw_skip ?_;exact ⟨([(k,s)],left.eraseIdx i),_,⟨by dsimp only; rw [n_129 (n_1.1 hy).1]; have:=(n_1.1 hy).1; omega,fun y hy'=>hls y (List.mem_of_mem_eraseIdx hy'),fun y hy1 hy2=>by
     by_cases hyl:y∈left
     ·rcases mem_erase_or hy hyl with rfl | h
      ·exact hm
      ·exact absurd h hy2
     ·exact hno y hy1 hyl⟩,tu_,rfl⟩
  ·cases h3
theorem so_operator {n:Nat} {ps:List Str} {b:List Ex} (hT:T.length<=1000000) (hn:n < T.length) (lv:Int) {s:Nat} (hσ:PAt σ q s T n ps b):CCalls CC 302 [.ptr q 0,(.val (.int .i64 lv))] σ fun r τ=>r = .ret (.val (.int .i64 (opS (tk T n) lv)))/\τ=σ:=par_ro (fun _ h=>by simp at h; subst h; exact .val _) (.val _) (so_operator0 T n ps b hT hn lv) hσ
abbrev PX:=Nat × Nat × List Ex
structure PF where
 ex:Nat->Nat->List Ex->Option PX
 bin:Nat->Nat->Nat->List Ex->Option PX
 lp:Nat->Nat->Nat->Nat->List Ex->Option PX
 fac:Nat->Nat->List Ex->Option PX
 ag:Nat->Nat->List Ex->List Int->Option (List Int × Nat × List Ex)
def pArgs (T:List Tok) (F:PF) (d n:Nat) (b:List Ex):Option (List Int × Nat × List Ex) :=
 (pIs T n 4 [40]).bind fun n1=>if isT (tk T n1) 4 [41]=true then some ([],n1+1,b) else F.ag d n1 b []
def pEnd (b:List Ex) (x:Ex) (m:Nat):Option PX:=(pNode b x).bind fun w=>some (w.1,m,w.2)
def pBuilt (T:List Tok) (F:PF) (u:Str) (d n:Nat) (b:List Ex):Option PX :=
 (pIs T n 4 [40]).bind fun n1 =>
  if u=[114,101,97,100] then (pPath T n1).bind fun s=>(pIs T s.2 4 [44]).bind fun n2=>(F.ex (d+1) n2 b).bind fun x=>(pIs T x.2.1 4 [41]).bind fun m=>pEnd x.2.2 ⟨6,0,0,s.1.t,[(x.1:Int)]⟩ m
  else if u=[115,105,122,101] then (pPath T n1).bind fun s=>(pIs T s.2 4 [41]).bind fun m=>pEnd b ⟨7,0,0,s.1.t,[]⟩ m
  else if u=[104,97,115] then (pPath T n1).bind fun s=>(pIs T s.2 4 [41]).bind fun m=>pEnd b ⟨8,0,0,s.1.t,[]⟩ m
  else if u=[101,110,118] then (pTake T n1 3).bind fun s=>if nameB s.1.t=true then (pIs T s.2 4 [41]).bind fun m=>pEnd b ⟨9,0,0,s.1.t,[]⟩ m else none
  else (pTake T n1 2).bind fun s=>if 64<=s.1.n then none else (pIs T s.2 4 [41]).bind fun m=>pEnd b ⟨10,s.1.n,0,[],[]⟩ m
def pStep (T:List Tok) (ps:List Str) (F:PF):PF where
 ex d n b:=if 32 < d then none else if isT (tk T n) 1 [105,102]=true then
  (F.ex (d+1) (n+1) b).bind fun x=>(pIs T x.2.1 1 [116,104,101,110]).bind fun n2=>(F.ex (d+1) n2 x.2.2).bind fun y=>(pIs T y.2.1 1 [101,108,115,101]).bind fun n3=>(F.ex (d+1) n3 y.2.2).bind fun z =>
   pEnd z.2.2 ⟨5,0,0,[],[(x.1:Int),(y.1:Int),(z.1:Int)]⟩ z.2.1
  else F.bin 1 d n b
 bin lv d n b:=if lv=4 then F.fac d n b else (F.bin (lv+1) d n b).bind fun x=>F.lp lv d x.1 x.2.1 x.2.2
 lp lv d x n b:=if opS (tk T n) (lv:Int)=0 then some (x,n,b) else (F.bin (lv+1) d (n+1) b).bind fun y=>(pNode y.2.2 ⟨4,0,opS (tk T n) (lv:Int),[],[(x:Int),(y.1:Int)]⟩).bind fun w =>
  if lv=1 then some (w.1,y.2.1,w.2) else F.lp lv d w.1 y.2.1 w.2
 fac d n b :=
  if (tk T n).k=2 then pEnd b ⟨1,(tk T n).n,0,[],[]⟩ (n+1)
  else if isT (tk T n) 4 [45]=true then (pTake T (n+1) 2).bind fun y=>pEnd b ⟨1,-y.1.n,0,[],[]⟩ y.2
  else if isT (tk T n) 4 [40]=true then (F.ex (d+1) (n+1) b).bind fun x=>(pIs T x.2.1 4 [41]).bind fun m=>some (x.1,m,x.2.2)
  else if (tk T n).k≠1 then none
  else if (tk T n).t=[114,101,97,100]\/(tk T n).t=[115,105,122,101]\/(tk T n).t=[104,97,115]\/(tk T n).t=[101,110,118]\/(tk T n).t=[102,108,105,112] then pBuilt T F (tk T n).t d (n+1) b
  else if resB (tk T n).t=true then none
  else if isT (tk T (n+1)) 4 [40]=true then (pArgs T F d (n+1) b).bind fun a=>pEnd a.2.2 ⟨3,0,0,(tk T n).t,a.1⟩ a.2.1
  else if ixS ps (tk T n).t 0 < 0 then none else pEnd b ⟨2,ixS ps (tk T n).t 0,0,[],[]⟩ (n+1)
 ag d n b acc:=(F.ex (d+1) n b).bind fun x=>if isT (tk T x.2.1) 4 [44]=true then F.ag d (x.2.1+1) x.2.2 (acc++[(x.1:Int)]) else (pIs T x.2.1 4 [41]).bind fun m=>some (acc++[(x.1:Int)],m,x.2.2)
def pAll (T:List Tok) (ps:List Str):Nat->PF
 | 0=>⟨fun _ _ _=>none,fun _ _ _ _=>none,fun _ _ _ _ _=>none,fun _ _ _=>none,fun _ _ _ _=>none⟩
 | f+1=>pStep T ps (pAll T ps f)
def EC (T:List Tok) (ps:List Str) (f:Nat):Prop:=∀ (d n:Nat) (b:List Ex),n < T.length->b.length<=256->d<=33->8*(T.length - n)+6<=f->∀ (σ:List CObj) (q s:Nat),PAt σ q s T n ps b->CCalls CC 241 [.ptr q 0,(.val (.int .i64 (d:Int)))] σ (ParG (fun a:PX=>(.val (.int .i64 (a.1:Int)))) (fun a:PX=>(σ.set q (pbx T a.2.1 ps a.2.2 σ.length)).set s .dead++[gobj a.2.2.length]) (fun a:PX=>(pAll T ps f).ex d n b=some a/\n < a.2.1/\a.2.1 < T.length/\a.2.2.length<=256) σ q s ((pAll T ps f).ex d n b=none))
def BC (T:List Tok) (ps:List Str) (f:Nat):Prop:=∀ (lv d n:Nat) (b:List Ex),n < T.length->b.length<=256->1<=lv->lv<=4->d<=32->8*(T.length - n)+6<=f+lv->∀ (σ:List CObj) (q s:Nat),PAt σ q s T n ps b->CCalls CC 278 [.ptr q 0,(.val (.int .i64 (lv:Int))),(.val (.int .i64 (d:Int)))] σ (ParG (fun a:PX=>(.val (.int .i64 (a.1:Int)))) (fun a:PX=>(σ.set q (pbx T a.2.1 ps a.2.2 σ.length)).set s .dead++[gobj a.2.2.length]) (fun a:PX=>(pAll T ps f).bin lv d n b=some a/\n < a.2.1/\a.2.1 < T.length/\a.2.2.length<=256) σ q s ((pAll T ps f).bin lv d n b=none))
def FC (T:List Tok) (ps:List Str) (f:Nat):Prop:=∀ (d n:Nat) (b:List Ex),n < T.length->b.length<=256->d<=32->8*(T.length - n)+1<=f->∀ (σ:List CObj) (q s:Nat),PAt σ q s T n ps b->CCalls CC 301 [.ptr q 0,(.val (.int .i64 (d:Int)))] σ (ParG (fun a:PX=>(.val (.int .i64 (a.1:Int)))) (fun a:PX=>(σ.set q (pbx T a.2.1 ps a.2.2 σ.length)).set s .dead++[gobj a.2.2.length]) (fun a:PX=>(pAll T ps f).fac d n b=some a/\n < a.2.1/\a.2.1 < T.length/\a.2.2.length<=256) σ q s ((pAll T ps f).fac d n b=none))
structure PCtx (T:List Tok) (ps:List Str):Prop where
 len:T.length<=1000000
 w:TokW T
 l:TokL T
 ps:ps.length<=1000000
 nn:∀ i,0<=(tk T i).n/\(tk T i).n<=9007199254740993
variable {ps:List Str} {nn:Bool} {l:List α}
theorem pIs_lt {n:Nat} {k:Int} (h:pIs T n k s=some m):m=n+1:=by
 unfold pIs at h;split at h
 ·injection h with h; exact h.symm
 ·cases h
theorem so_expr0 (hc:PCtx T ps) (hE:EC T ps f) (hB:BC T ps f) (d n:Nat) (b:List Ex) (hn:n < T.length) (hb:b.length<=256) (hd0:d<=33) (hf:8*(T.length - n)+6<=f+1):CCalls CC 241 [.ptr 0 0,(.val (.int .i64 (d:Int)))] (pst T n ps b) (ParR (fun a:PX=>(.val (.int .i64 (a.1:Int)))) (fun a=>pst2 T a.2.1 ps a.2.2) (fun a:PX=>(pAll T ps (f+1)).ex d n b=some a/\n < a.2.1/\a.2.1 < T.length/\a.2.2.length<=256) ((pAll T ps (f+1)).ex d n b=none)):=by
 have hT:=hc.len;have hW:=hc.w;have hsp:(pAll T ps (f+1)).ex d n b=(pStep T ps (pAll T ps f)).ex d n b:=rfl;simp only [pStep] at hsp;refine (ccalls_of Tryz.func241 rfl rfl ?_);refine z_66 ?_; refine cY q_82 ?_; refine z_14 ?_; refine z_158 ?_; refine z_12 ?_; refine cC (fun h1=>?_) fun h1=>?_
 ·have hd:32 < d:=by simp at h1; omega
  rw [if_pos hd] at hsp;exact z_98
 ·have hd:¬ 32 < d:=by simp at h1; omega
  rw [if_neg hd] at hsp;refine z_145 ?_; refine cY (y_callf rfl t_70 q_283 (so_is hT hn 1 [105,102] ⟨rfl,rfl,n_2 rfl⟩) rfl) ?_; refine z_32 ?_; refine cC (fun h2=>?_) fun h2=>?_
  ·have hi:isT (tk T n) 1 [105,102]=false:=by simpa using h2
   rw [if_neg (by rw [hi]; decide)] at hsp;refine z_6 ?_;refine cD (d_callx rfl t_117 ⟨tt,rfl,tt,tt⟩ (hB 1 d n b hn hb om_ om_ om_ om_ _ 0 1 ⟨rfl,rfl,n_2 rfl⟩) rfl (fun x hx=>.inr ⟨x,fin_pan,by rw [hsp]; exact hx.1,hx.2⟩) ?_);rintro ⟨i,m,b2⟩ ⟨g1,g2,g3,g4⟩;dsimp only at g1 g2 g3 g4 ⊢;refine z_57 ?_;exact ⟨_,res1 rfl tt q_269,(by exact .inl ⟨(i,m,b2),fin_gr (k:=3) rfl rfl de_ (.val _),by rw [hsp]; exact g1,g2,g3,g4⟩)⟩
  ·have hi:isT (tk T n) 1 [105,102]=true:=by simpa using h2
   rw [if_pos hi] at hsp;have hn1:=hW n hn (isT_ne hi de_);refine z_71 ?_; refine z_171 ?_; refine z_6 ?_; refine cY q_251 ?_;refine cD (d_callx rfl t_53 q_296 (hE (d+1) (n+1) b hn1 hb om_ om_ _ 0 1 ⟨rfl,rfl,n_2 rfl⟩) rfl (fun x hx=>.inr ⟨x,fin_pan,by rw [hsp,hx.1]; rfl,hx.2⟩) ?_);rintro ⟨i1,n1,b1⟩ ⟨x1,y1,z1,w1⟩;dsimp only at x1 y1 z1 w1 ⊢;rw [x1,n_6] at hsp;dsimp only at hsp;refine co_norm [pbx T n1 ps b1 3,.dead,.box (tk T n).cells,gobj b1.length] rfl ?_; refine z_38 ?_;refine cD (d_callx rfl t_118 q_293 (so_word hT z1 hW [116,104,101,110] ⟨rfl,rfl,n_2 rfl⟩) rfl (fun x hx=>.inr ⟨x,fin_pan,by rw [hsp,hx.1]; rfl,hx.2⟩) ?_);rintro n2 ⟨x2,y2⟩;dsimp only at x2 y2 ⊢;rw [x2,n_6] at hsp;have hn2:=pIs_lt x2;refine co_norm [pbx T n2 ps b1 3,.dead,.box (tk T n).cells,gobj b1.length] rfl ?_; refine z_146 ?_; refine cY q_251 ?_;refine cD (d_callx rfl t_53 q_296 (hE (d+1) n2 b1 y2 w1 om_ om_ _ 0 _ ⟨rfl,rfl,n_2 rfl⟩) rfl (fun x hx=>.inr ⟨x,fin_pan,by rw [hsp,hx.1]; rfl,hx.2⟩) ?_);rintro ⟨i3,n3,b3⟩ ⟨x3,y3,z3,w3⟩;dsimp only at x3 y3 z3 w3 ⊢;rw [x3,n_6] at hsp;dsimp only at hsp;refine co_norm [pbx T n3 ps b3 4,.dead,.box (tk T n).cells,.dead,gobj b3.length] rfl ?_; refine z_38 ?_;refine cD (d_callx rfl t_118 q_293 (so_word hT z3 hW [101,108,115,101] ⟨rfl,rfl,n_2 rfl⟩) rfl (fun x hx=>.inr ⟨x,fin_pan,by rw [hsp,hx.1]; rfl,hx.2⟩) ?_);rintro n4 ⟨x4,y4⟩;dsimp only at x4 y4 ⊢;rw [x4,n_6] at hsp;have hn4:=pIs_lt x4;refine co_norm [pbx T n4 ps b3 4,.dead,.box (tk T n).cells,.dead,gobj b3.length] rfl ?_; refine z_146 ?_; refine cY q_251 ?_;refine cD (d_callx rfl t_53 q_296 (hE (d+1) n4 b3 y4 w3 om_ om_ _ 0 _ ⟨rfl,rfl,n_2 rfl⟩) rfl (fun x hx=>.inr ⟨x,fin_pan,by rw [hsp,hx.1]; rfl,hx.2⟩) ?_);rintro ⟨i5,n5,b5⟩ ⟨x5,y5,z5,w5⟩;dsimp only at x5 y5 z5 w5 ⊢;rw [x5,n_6,pEnd] at hsp;dsimp only at hsp;refine co_norm [pbx T n5 ps b5 5,.dead,.box (tk T n).cells,.dead,.dead,gobj b5.length] rfl ?_; refine z_38 ?_; refine cY q_172 ?_; refine z_86 ?_; refine cY q_246 ?_; refine cY (y_lit ([(i1:Int),(i3:Int),(i5:Int)].map icv) rfl q_286 t_7 t_1 t_9 rfl rfl rfl rfl rfl rfl rfl rfl rfl) ?_; refine cY q_30 ?_;refine cD (d_callx rfl t_28 q_286 (so_node hT z5 w5 (tk T n) ⟨5,0,0,[],[(i1:Int),(i3:Int),(i5:Int)]⟩ ⟨rfl,rfl,n_2 rfl⟩) rfl (fun x hx=>.inr ⟨x,fin_pan,by rw [hsp,hx.1]; rfl,hx.2⟩) ?_);rintro ⟨i6,b6⟩ ⟨x6,y6⟩;dsimp only at x6 y6 ⊢;rw [x6,n_6] at hsp;refine co_norm [pbx T n5 ps b6 6,.dead,.box (tk T n).cells,.dead,.dead,.dead,gobj b6.length] rfl ?_; refine z_5 ?_;exact ⟨_,res1 rfl tt q_269,(by exact .inl ⟨(i6,n5,b6),fin_gr (k:=6) rfl rfl de_ (.val _),hsp,do_,z5,y6⟩)⟩
theorem so_expr (hc:PCtx T ps) (hE:EC T ps f) (hB:BC T ps f):EC T ps (f+1):=fun d n b hn hb hd hf σ q s hσ =>
 par_lift1 (c:=fun a:PX=>(.val (.int .i64 (a.1:Int)))) (N:=fun a=>a.2.1) (B:=fun a=>a.2.2) (fun _ h=>by simp at h; subst h; exact .val _) (fun _=>.val _) (so_expr0 hc hE hB d n b hn hb hd hf) hσ
def kf (ph:Bool):Nat:=if ph=true then 3 else 2
def of1 (ph:Bool) (m:Nat):CObj:=if ph=true then .dead else gobj m
def of2 (ph:Bool) (m:Nat):CObj:=if ph=true then gobj m else .dead
theorem opS_ne (h:¬ opS t lv=0):t.k≠5:=fun h5=>h (opS_no fun x _=>by simp [opM,h5])
theorem ren_body {b:List Ex} {k p:Nat} (h:sel[p]? = some k):RenV L sel (.list (b.map Ex.cv) (gnn b.length) (gtok b.length k)) (.list (b.map Ex.cv) (gnn b.length) (gtok b.length p)) :=
 .list (fun r hr c hc=>(rows_pure (f:=Ex.cv) (fun a=>(Ex.pure a).all) _ r hr c hc).old) (fun j hj=>by
  cases hb:b.length with
  | zero=>rw [hb] at hj; cases hj
  | succ m=>rw [hb] at hj; injection hj with hj; subst hj; exact ⟨k,rfl,h⟩)
theorem so_binary0 (hc:PCtx T ps) (hB:∀ g,g<=f->BC T ps g) (hF:FC T ps f) (lv d n:Nat) (b:List Ex) (hn:n < T.length) (hb:b.length<=256) (hl1:1<=lv) (hl4:lv<=4) (hd0:d<=32) (hf:8*(T.length - n)+6<=f+1+lv):CCalls CC 278 [.ptr 0 0,(.val (.int .i64 (lv:Int))),(.val (.int .i64 (d:Int)))] (pst T n ps b) (ParR (fun a:PX=>(.val (.int .i64 (a.1:Int)))) (fun a=>pst2 T a.2.1 ps a.2.2) (fun a:PX=>(pAll T ps (f+1)).bin lv d n b=some a/\n < a.2.1/\a.2.1 < T.length/\a.2.2.length<=256) ((pAll T ps (f+1)).bin lv d n b=none)):=by
 have hT:=hc.len;have hW:=hc.w;have hsp:(pAll T ps (f+1)).bin lv d n b=(pStep T ps (pAll T ps f)).bin lv d n b:=rfl;simp only [pStep] at hsp;refine (ccalls_of Tryz.func278 rfl rfl ?_);refine z_54 ?_; refine z_12 ?_; refine cC (fun h1=>?_) fun h1=>?_
 ·have h4:lv=4:=by simp at h1; omega
  rw [if_pos h4] at hsp;refine z_6 ?_;refine cD (d_callx rfl Tryz.call301 q_296 (hF d n b hn hb hd0 om_ _ 0 1 ⟨rfl,rfl,n_2 rfl⟩) rfl (fun x hx=>.inr ⟨x,fin_pan,by rw [hsp]; exact hx.1,hx.2⟩) ?_);rintro ⟨i,m,b2⟩ ⟨g1,g2,g3,g4⟩;dsimp only at g1 g2 g3 g4 ⊢;refine co_norm [pbx T m ps b2 2,.dead,gobj b2.length] rfl ?_; refine z_5 ?_;exact ⟨_,res1 rfl tt q_269,(by exact .inl ⟨(i,m,b2),fin_gr (k:=2) rfl rfl de_ (.val _),by rw [hsp]; exact g1,g2,g3,g4⟩)⟩
 ·have h4:¬ lv=4:=by simp at h1; omega
  rw [if_neg h4] at hsp;refine cw_skip ?_; refine z_6 ?_; refine z_11 ?_;refine cD (d_callx rfl t_117 q_286 (hB f (n_5 _) (lv+1) d n b hn hb om_ om_ hd0 om_ _ 0 1 ⟨rfl,rfl,n_2 rfl⟩) rfl (fun x hx=>.inr ⟨x,fin_pan,by rw [hsp,hx.1]; rfl,hx.2⟩) ?_);rintro ⟨i1,n1,b1⟩ ⟨x1,y1,z1,w1⟩;dsimp only at x1 y1 z1 w1 ⊢;rw [x1,n_6] at hsp;dsimp only at hsp;refine co_norm [pbx T n1 ps b1 2,.dead,gobj b1.length] rfl ?_; refine z_1 ?_; refine cw_block ?_; refine cw_loopr hCC 3 rfl (α:=Nat × Nat × List Ex × Bool × Nat) (fun x=>[(0,.ptr 0 0),(1,(.val (.int .i64 (lv:Int)))),(2,(.val (.int .i64 (d:Int)))),(7,(.val (.int .i64 (x.1:Int))))]) (fun x=>[pbx T x.2.1 ps x.2.2.1 (kf x.2.2.2.1),.dead,of1 x.2.2.2.1 x.2.2.1.length,of2 x.2.2.2.1 x.2.2.1.length]) (fun x=>(pAll T ps (f+1)).bin lv d n b=(pAll T ps x.2.2.2.2).lp lv d x.1 x.2.1 x.2.2.1/\n < x.2.1/\x.2.1 < T.length/\x.2.2.1.length<=256/\x.2.2.2.2<=f/\8*(T.length - x.2.1)+3<=x.2.2.2.2) (fun x=>T.length - x.2.1) ⟨(i1,n1,b1,false,f),[0,1,2,7],⟨hsp,y1,z1,w1,n_5 _,do_⟩,⟨rfl,rfl⟩,q_17,⟨.inr ⟨_,rfl,.same rfl q_284⟩,.inl rfl,.inr ⟨_,rfl,.same rfl q_292⟩,.inl rfl,tt⟩⟩ ?_; intro ⟨x,m,b2,ph,g⟩ ⟨hlp,hnm,hm,hb2,hgf,hg⟩;dsimp only at hlp hnm hm hb2 hgf hg ⊢;obtain ⟨g,rfl⟩:∃ g',g=g'+1:=⟨g - 1,om_⟩;have hlp2:(pAll T ps (g+1)).lp lv d x m b2=(pStep T ps (pAll T ps g)).lp lv d x m b2:=rfl;simp only [pStep] at hlp2;rw [hlp2] at hlp;refine cw_block ?_; refine z_6 ?_; refine cY (y_callf rfl Tryz.call302 q_296 (so_operator hT hm (lv:Int) (q:=0) (s:=kf ph) q_170) rfl) ?_; refine z_118 ?_; refine cC (fun h2=>?_) fun h2=>?_
  ·have h0:opS (tk T m) (lv:Int)=0:=by simpa using h2
   rw [if_pos h0] at hlp;refine z_204 ?_;exact ⟨_,res1 rfl tt q_269,(by exact .inl ⟨(x,m,b2),(by cases ph; exact fin_gr (k:=2) rfl rfl de_ (.val _); exact fin_gr (k:=3) rfl rfl de_ (.val _)),hlp,hnm,hm,hb2⟩)⟩
  ·have h0:¬ opS (tk T m) (lv:Int)=0:=by simpa using h2
   rw [if_neg h0] at hlp;have hm1:=hW m hm (opS_ne h0);refine z_71 ?_; refine cY (y_callf rfl t_73 ⟨tt,tt⟩ (so_token hT hm (q:=0) (s:=kf ph) q_170) rfl) ?_; refine z_14 ?_; refine z_33 ?_; refine z_171 ?_; refine z_6 ?_; refine z_11 ?_;refine cD (d_callx rfl t_117 q_286 (hB g om_ (lv+1) d (m+1) b2 hm1 hb2 om_ om_ hd0 om_ _ 0 (kf ph) q_170) rfl (fun x hx=>.inr ⟨x,fin_pan,by rw [hlp,hx.1]; rfl,hx.2⟩) ?_);rintro ⟨i3,n3,b3⟩ ⟨x3,y3,z3,w3⟩;dsimp only at x3 y3 z3 w3 ⊢;rw [x3,n_6] at hlp;dsimp only at hlp;refine co_norm [pbx T n3 ps b3 5,.dead,.dead,.dead,.box (tk T m).cells,gobj b3.length] q_271 ?_; refine z_38 ?_; refine cY q_172 ?_; refine z_86 ?_; refine cY q_246 ?_; refine cY (y_lit ([(x:Int),(i3:Int)].map icv) rfl q_296 t_7 t_1 t_9 rfl rfl rfl rfl rfl rfl rfl rfl rfl) ?_; refine cY q_27 ?_;refine cD (d_callx rfl t_28 q_286 (so_node hT z3 w3 (tk T m) ⟨4,0,opS (tk T m) (lv:Int),[],[(x:Int),(i3:Int)]⟩ ⟨rfl,rfl,n_2 rfl⟩) rfl (fun x hx=>.inr ⟨x,fin_pan,by rw [hlp,hx.1]; rfl,hx.2⟩) ?_);rintro ⟨i4,b4⟩ ⟨x4,y4⟩;dsimp only at x4 y4 ⊢;rw [x4,n_6] at hlp;dsimp only at hlp;refine co_norm [pbx T n3 ps b4 6,.dead,.dead,.dead,.box (tk T m).cells,.dead,gobj b4.length] rfl ?_; refine z_208 ?_; refine cC (fun h3=>?_) fun h3=>?_
   ·have hl1:lv=1:=by simp at h3; omega
    rw [if_pos hl1] at hlp;refine z_204 ?_;exact ⟨_,res1 rfl tt q_269,(by exact .inl ⟨(i4,n3,b4),fin_gr (k:=6) rfl rfl de_ (.val _),hlp,do_,z3,y4⟩)⟩
   ·have hl1:¬ lv=1:=by simp at h3; omega
    rw [if_neg hl1] at hlp;refine cw_skip ?_;exact ⟨(i4,n3,b4,true,g),[0,1,2,6],⟨do_,hlp,do_,z3,y4,do_,do_⟩,⟨rfl,rfl⟩,q_17,⟨.inr ⟨_,rfl,.box ⟨.old (old_toks _ _ _),.old (.val _),.old (old_strs _ _ _),ren_body rfl,tt⟩⟩,.inl rfl,.inl rfl,.inr ⟨_,rfl,.same rfl q_292⟩,tt⟩⟩
theorem so_binary (hc:PCtx T ps) (hB:∀ g,g<=f->BC T ps g) (hF:FC T ps f):BC T ps (f+1):=fun lv d n b hn hb hl1 hl4 hd hf σ q s hσ =>
 par_lift1 (c:=fun a:PX=>(.val (.int .i64 (a.1:Int)))) (N:=fun a=>a.2.1) (B:=fun a=>a.2.2) (fun _ h=>by simp at h; rcases h with rfl | rfl <;> exact .val _) (fun _=>.val _) (so_binary0 hc hB hF lv d n b hn hb hl1 hl4 hd hf) hσ
theorem pTake_lt {n:Nat} {k:Int} (h:pTake T n k=some (t,m)) (hk:k≠5):m=n+1:=by
 unfold pTake at h;rw [if_neg hk] at h;split at h
 ·injection h with h; injection h with _ h; exact h.symm
 ·cases h
theorem pPath_lt {n:Nat} (h:pPath T n=some (t,m)):m=n+1:=by
 unfold pPath at h;cases hq:pTake T n 3 with
 | none=>rw [hq] at h; cases h
 | some x =>
  rw [hq,n_6] at h;split at h
  ·injection h with h; subst h; exact pTake_lt hq de_
  ·cases h
theorem pName_lt {n:Nat} (h:pName T n=some (t,m)):m=n+1:=by
 unfold pName at h;cases hq:pTake T n 1 with
 | none=>rw [hq] at h; cases h
 | some x =>
  rw [hq,n_6] at h;split at h
  ·cases h
  ·injection h with h; subst h; exact pTake_lt hq de_
theorem so_builtin0 (hc:PCtx T ps) (hE:EC T ps f) (t:Tok) (d n:Nat) (b:List Ex) (R:Option PX) (hsp:R=pBuilt T (pAll T ps f) t.t d n b) (hn:n < T.length) (hb:b.length<=256) (hd0:d<=32) (hf:8*(T.length - n)+6<=f):CCalls CC 317 [.ptr 0 0,.agg t.cells,(.val (.int .i64 (d:Int)))] (pst T n ps b) (ParR (fun a:PX=>(.val (.int .i64 (a.1:Int)))) (fun a=>pst2 T a.2.1 ps a.2.2) (fun a:PX=>R=some a/\n < a.2.1/\a.2.1 < T.length/\a.2.2.length<=256) (R=none)):=by
 have hT:=hc.len;have hW:=hc.w;unfold pBuilt at hsp;refine (ccalls_of Tryz.func317 rfl rfl ?_);refine z_60 ?_; refine z_2 ?_;refine cD (d_callx rfl t_18 q_293 (so_sign hT hn hW [40] ⟨rfl,rfl,n_2 rfl⟩) rfl (fun x hx=>.inr ⟨x,fin_pan,by rw [hsp,hx.1]; rfl,hx.2⟩) ?_);rintro n1 ⟨sn1,kn1⟩;dsimp only at sn1 kn1 ⊢;rw [sn1,n_6] at hsp;have en1:=pIs_lt sn1;refine z_48 ?_;refine cD (d_alloc rfl t_63 rfl q_288 ?_);refine z_67 ?_; refine z_78 ?_; refine z_13 ?_; refine z_88 ?_; refine cC (fun h1=>?_) fun h1=>?_
 ·have u1:t.t=[114,101,97,100]:=by simpa using h1
  rw [if_pos u1] at hsp;refine z_2 ?_;refine cD (d_callx rfl t_93 ⟨tt,tt⟩ (so_path hT kn1 hW hc.l ⟨rfl,rfl,n_2 rfl⟩) rfl (fun x hx=>.inr ⟨x,fin_pan,by rw [hsp,hx.1]; rfl,hx.2⟩) ?_);rintro ⟨p,n2⟩ ⟨s2,k2⟩;dsimp only at s2 k2 ⊢;rw [s2,n_6] at hsp;dsimp only at hsp;have e2:=pPath_lt s2;refine cY q_141 ?_; refine z_70 ?_; refine z_33 ?_;refine cD (d_callx rfl t_18 q_293 (so_sign hT k2 hW [44] ⟨rfl,rfl,n_2 rfl⟩) rfl (fun x hx=>.inr ⟨x,fin_pan,by rw [hsp,hx.1]; rfl,hx.2⟩) ?_);rintro n3 ⟨sn3,kn3⟩;dsimp only at sn3 kn3 ⊢;rw [sn3,n_6] at hsp;have en3:=pIs_lt sn3;refine co_nil ?_; refine z_45 ?_; refine cY q_251 ?_;refine cD (d_callx rfl t_53 q_296 (hE (d+1) n3 b kn3 hb om_ om_ _ 0 1 ⟨rfl,rfl,n_2 rfl⟩) rfl (fun x hx=>.inr ⟨x,fin_pan,by rw [hsp,hx.1]; rfl,hx.2⟩) ?_);rintro ⟨i4,n4,b4⟩ ⟨x4,y4,z4,w4⟩;dsimp only at x4 y4 z4 w4 ⊢;rw [x4,n_6] at hsp;dsimp only at hsp;refine cY (y_lit ([(i4:Int)].map icv) rfl ⟨tt,tt⟩ t_7 t_1 t_9 rfl rfl rfl rfl rfl rfl rfl rfl rfl) ?_; refine cY q_139 ?_;refine cD (d_store rfl tt tt rfl q_269 t_74 (.inl rfl) rfl rfl (nb rfl) ?_);refine z_33 ?_;refine cD (d_callx rfl t_18 q_293 (so_sign hT z4 hW [41] ⟨rfl,rfl,n_2 rfl⟩) rfl (fun x hx=>.inr ⟨x,fin_pan,by rw [hsp,hx.1]; rfl,hx.2⟩) ?_);rintro n5 ⟨sn5,kn5⟩;dsimp only at sn5 kn5 ⊢;rw [sn5,n_6] at hsp;have en5:=pIs_lt sn5;refine z_33 ?_; refine z_249 ?_;refine cD (d_callx rfl t_28 q_286 (so_node hT kn5 w4 t ⟨6,0,0,p.t,[(i4:Int)]⟩ ⟨rfl,rfl,n_2 rfl⟩) rfl (fun x hx=>.inr ⟨x,fin_pan,by rw [hsp,pEnd,hx.1]; rfl,hx.2⟩) ?_);rintro ⟨i6,b6⟩ ⟨x6,y6⟩;dsimp only at x6 y6 ⊢;rw [pEnd,x6,n_6] at hsp;exact z_120
 ·have u1:¬ t.t=[114,101,97,100]:=by simpa using h1
  rw [if_neg u1] at hsp;refine z_88 ?_; refine cC (fun h2=>?_) fun h2=>?_
  ·have u2:t.t=[115,105,122,101]:=by simpa using h2
   rw [if_pos u2] at hsp;refine z_7 ?_;refine cD (d_callx rfl t_93 ⟨tt,tt⟩ (so_path hT kn1 hW hc.l ⟨rfl,rfl,n_2 rfl⟩) rfl (fun x hx=>.inr ⟨x,fin_pan,by rw [hsp,hx.1]; rfl,hx.2⟩) ?_);rintro ⟨p,n2⟩ ⟨s2,k2⟩;dsimp only at s2 k2 ⊢;rw [s2,n_6] at hsp;dsimp only at hsp;have e2:=pPath_lt s2;refine cY q_141 ?_; refine z_70 ?_; refine z_33 ?_;refine cD (d_callx rfl t_18 q_293 (so_sign hT k2 hW [41] ⟨rfl,rfl,n_2 rfl⟩) rfl (fun x hx=>.inr ⟨x,fin_pan,by rw [hsp,hx.1]; rfl,hx.2⟩) ?_);rintro n5 ⟨sn5,kn5⟩;dsimp only at sn5 kn5 ⊢;rw [sn5,n_6] at hsp;have en5:=pIs_lt sn5;refine z_33 ?_; refine z_249 ?_;refine cD (d_callx rfl t_28 q_286 (so_node hT kn5 hb t ⟨7,0,0,p.t,[]⟩ ⟨rfl,rfl,n_2 rfl⟩) rfl (fun x hx=>.inr ⟨x,fin_pan,by rw [hsp,pEnd,hx.1]; rfl,hx.2⟩) ?_);rintro ⟨i6,b6⟩ ⟨x6,y6⟩;dsimp only at x6 y6 ⊢;rw [pEnd,x6,n_6] at hsp;exact z_120
  ·have u2:¬ t.t=[115,105,122,101]:=by simpa using h2
   rw [if_neg u2] at hsp;refine z_88 ?_; refine cC (fun h3=>?_) fun h3=>?_
   ·have u3:t.t=[104,97,115]:=by simpa using h3
    rw [if_pos u3] at hsp;refine z_7 ?_;refine cD (d_callx rfl t_93 ⟨tt,tt⟩ (so_path hT kn1 hW hc.l ⟨rfl,rfl,n_2 rfl⟩) rfl (fun x hx=>.inr ⟨x,fin_pan,by rw [hsp,hx.1]; rfl,hx.2⟩) ?_);rintro ⟨p,n2⟩ ⟨s2,k2⟩;dsimp only at s2 k2 ⊢;rw [s2,n_6] at hsp;dsimp only at hsp;have e2:=pPath_lt s2;refine cY q_141 ?_; refine z_70 ?_; refine z_33 ?_;refine cD (d_callx rfl t_18 q_293 (so_sign hT k2 hW [41] ⟨rfl,rfl,n_2 rfl⟩) rfl (fun x hx=>.inr ⟨x,fin_pan,by rw [hsp,hx.1]; rfl,hx.2⟩) ?_);rintro n5 ⟨sn5,kn5⟩;dsimp only at sn5 kn5 ⊢;rw [sn5,n_6] at hsp;have en5:=pIs_lt sn5;refine z_33 ?_; refine z_249 ?_;refine cD (d_callx rfl t_28 q_286 (so_node hT kn5 hb t ⟨8,0,0,p.t,[]⟩ ⟨rfl,rfl,n_2 rfl⟩) rfl (fun x hx=>.inr ⟨x,fin_pan,by rw [hsp,pEnd,hx.1]; rfl,hx.2⟩) ?_);rintro ⟨i6,b6⟩ ⟨x6,y6⟩;dsimp only at x6 y6 ⊢;rw [pEnd,x6,n_6] at hsp;exact z_120
   ·have u3:¬ t.t=[104,97,115]:=by simpa using h3
    rw [if_neg u3] at hsp;refine z_88 ?_; refine cC (fun h4=>?_) fun h4=>?_
    ·have u4:t.t=[101,110,118]:=by simpa using h4
     rw [if_pos u4] at hsp;refine z_2 ?_;refine cD (d_callx rfl t_71 q_293 (so_take hT kn1 hW 3 ⟨rfl,rfl,n_2 rfl⟩) rfl (fun x hx=>.inr ⟨x,fin_pan,by rw [hsp,hx.1]; rfl,hx.2⟩) ?_);rintro ⟨p,n2⟩ ⟨s2,k2⟩;dsimp only at s2 k2 ⊢;rw [s2,n_6] at hsp;dsimp only at hsp;have e2:=pTake_lt s2 de_;have hp:=pTake_eq s2;refine z_238 ?_; refine z_78 ?_; refine cY (y_callf rfl t_59 ⟨tt,tt⟩ (lx_Name_s p.t (by have:=hc.l n1; rw [hp]; omega) _) rfl) ?_; refine z_32 ?_; refine cC (fun h5=>?_) fun h5=>?_
     ·have hq:nameB p.t=false:=by simpa using h5
      rw [if_neg (by rw [hq]; decide)] at hsp;exact z_98
     ·have hq:nameB p.t=true:=by simpa using h5
      rw [if_pos hq] at hsp;refine cw_skip (cw_region ?_);refine z_78 ?_; refine z_70 ?_; refine z_33 ?_;refine cD (d_callx rfl t_18 q_293 (so_sign hT k2 hW [41] ⟨rfl,rfl,n_2 rfl⟩) rfl (fun x hx=>.inr ⟨x,fin_pan,by rw [hsp,hx.1]; rfl,hx.2⟩) ?_);rintro n5 ⟨sn5,kn5⟩;dsimp only at sn5 kn5 ⊢;rw [sn5,n_6] at hsp;have en5:=pIs_lt sn5;refine z_33 ?_; refine z_249 ?_;refine cD (d_callx rfl t_28 q_286 (so_node hT kn5 hb t ⟨9,0,0,p.t,[]⟩ ⟨rfl,rfl,n_2 rfl⟩) rfl (fun x hx=>.inr ⟨x,fin_pan,by rw [hsp,pEnd,hx.1]; rfl,hx.2⟩) ?_);rintro ⟨i6,b6⟩ ⟨x6,y6⟩;dsimp only at x6 y6 ⊢;rw [pEnd,x6,n_6] at hsp;exact z_120
    ·have u4:¬ t.t=[101,110,118]:=by simpa using h4
     rw [if_neg u4] at hsp;refine z_2 ?_;refine cD (d_callx rfl t_71 q_293 (so_take hT kn1 hW 2 ⟨rfl,rfl,n_2 rfl⟩) rfl (fun x hx=>.inr ⟨x,fin_pan,by rw [hsp,hx.1]; rfl,hx.2⟩) ?_);rintro ⟨p,n2⟩ ⟨s2,k2⟩;dsimp only at s2 k2 ⊢;rw [s2,n_6] at hsp;dsimp only at hsp;have e2:=pTake_lt s2 de_;have hp:=pTake_eq s2;refine z_238 ?_; refine z_110 ?_; refine z_12 ?_; refine cC (fun h6=>?_) fun h6=>?_
     ·have hq:64<=p.n:=by simpa using h6
      rw [if_pos hq] at hsp;exact z_98
     ·have hq:¬ 64<=p.n:=by simpa using h6
      rw [if_neg hq] at hsp;refine cw_skip (cw_region ?_);refine z_110 ?_; refine z_70 ?_; refine z_33 ?_;refine cD (d_callx rfl t_18 q_293 (so_sign hT k2 hW [41] ⟨rfl,rfl,n_2 rfl⟩) rfl (fun x hx=>.inr ⟨x,fin_pan,by rw [hsp,hx.1]; rfl,hx.2⟩) ?_);rintro n5 ⟨sn5,kn5⟩;dsimp only at sn5 kn5 ⊢;rw [sn5,n_6] at hsp;have en5:=pIs_lt sn5;refine z_33 ?_; refine z_249 ?_;refine cD (d_callx rfl t_28 q_286 (so_node hT kn5 hb t ⟨10,p.n,0,[],[]⟩ ⟨rfl,rfl,n_2 rfl⟩) rfl (fun x hx=>.inr ⟨x,fin_pan,by rw [hsp,pEnd,hx.1]; rfl,hx.2⟩) ?_);rintro ⟨i6,b6⟩ ⟨x6,y6⟩;dsimp only at x6 y6 ⊢;rw [pEnd,x6,n_6] at hsp;exact z_120
def UC (T:List Tok) (ps:List Str) (f:Nat):Prop:=∀ (t:Tok) (d n:Nat) (b:List Ex),n < T.length->b.length<=256->d<=32->8*(T.length - n)+6<=f->∀ (σ:List CObj) (q s:Nat),PAt σ q s T n ps b->CCalls CC 317 [.ptr q 0,.agg t.cells,(.val (.int .i64 (d:Int)))] σ (ParG (fun a:PX=>(.val (.int .i64 (a.1:Int)))) (fun a:PX=>(σ.set q (pbx T a.2.1 ps a.2.2 σ.length)).set s .dead++[gobj a.2.2.length]) (fun a:PX=>(pBuilt T (pAll T ps f) t.t d n b)=some a/\n < a.2.1/\a.2.1 < T.length/\a.2.2.length<=256) σ q s ((pBuilt T (pAll T ps f) t.t d n b)=none))
theorem so_builtin (hc:PCtx T ps) (hE:EC T ps f):UC T ps f:=fun t d n b hn hb hd hf σ q s hσ =>
 par_lift1 (c:=fun a:PX=>(.val (.int .i64 (a.1:Int)))) (N:=fun a=>a.2.1) (B:=fun a=>a.2.2) (fun _ h=>by simp at h; rcases h with rfl | rfl; exact pure_tok _; exact .val _) (fun _=>.val _) (so_builtin0 hc hE t d n b _ rfl hn hb hd hf) hσ
def ka (ph:Bool):Nat:=if ph=true then 2 else 1
def oa1 (ph:Bool) (m:Nat):CObj:=if ph=true then .dead else gobj m
def oa2 (ph:Bool) (m:Nat):CObj:=if ph=true then gobj m else .dead
theorem fin_grR {n k:Nat} {b:List Ex} (h0:τ[0]? = some (pbx T n ps b k)) (hk:τ[k]? = some (gobj b.length)) (h2:2<=k) (hc:∀ sel,RenV 2 sel c c'):FinR 2 τ (.ret c) (.ret c') (pst2 T n ps b):=by
 obtain ⟨sel,a1,a2,_,a4⟩:=fin_gr h0 hk h2 (.val (.int .i64 0));exact ⟨sel,a1,a2,.ret (hc sel),a4⟩
theorem fin_ag {n k:Nat} {b:List Ex} {l:List Int} {x:Int} (h0:τ[0]? = some (pbx T n ps b k)) (hk:τ[k]? = some (gobj b.length)) (h2:2<=k) (hc:∀ sel,RenV 2 sel c c'):FinR 2 τ (.ret c) (.ret c') (if (!(l++[x]).isEmpty)=true then pst2 T n ps b else pst T n ps b):=by
 rw [if_pos si_];exact fin_grR h0 hk h2 hc
def AC (T:List Tok) (ps:List Str) (f:Nat):Prop:=∀ (d n:Nat) (b:List Ex),n < T.length->b.length<=256->d<=32->8*(T.length - n)+6<=f->∀ (σ:List CObj) (q s:Nat),PAt σ q s T n ps b->CCalls CC 318 [.ptr q 0,(.val (.int .i64 (d:Int)))] σ (ParG (fun a:List Int × Nat × List Ex=>(.list (a.1.map icv) (gnn a.1.length) none))
 (fun a=>if (!a.1.isEmpty)=true then (σ.set q (pbx T a.2.1 ps a.2.2 σ.length)).set s .dead++[gobj a.2.2.length] else (σ.set q (pbx T a.2.1 ps a.2.2 s)).set s (gobj a.2.2.length)) (fun a:List Int × Nat × List Ex=>pArgs T (pAll T ps f) d n b=some a/\n < a.2.1/\a.2.1 < T.length/\a.2.2.length<=256/\a.1.length<=1000000) σ q s (pArgs T (pAll T ps f) d n b=none))
theorem so_arguments0 (hc:PCtx T ps) (hE:∀ g,g<=f->EC T ps g) (d n:Nat) (b:List Ex) (hn:n < T.length) (hb:b.length<=256) (hd0:d<=32) (hf:8*(T.length - n)+6<=f):CCalls CC 318 [.ptr 0 0,(.val (.int .i64 (d:Int)))] (pst T n ps b) (ParR (fun a:List Int × Nat × List Ex=>(.list (a.1.map icv) (gnn a.1.length) none)) (fun a=>if (!a.1.isEmpty)=true then pst2 T a.2.1 ps a.2.2 else pst T a.2.1 ps a.2.2) (fun a:List Int × Nat × List Ex=>pArgs T (pAll T ps f) d n b=some a/\n < a.2.1/\a.2.1 < T.length/\a.2.2.length<=256/\a.1.length<=1000000) (pArgs T (pAll T ps f) d n b=none)):=by
 have hT:=hc.len;have hW:=hc.w;have hsp:pArgs T (pAll T ps f) d n b=pArgs T (pAll T ps f) d n b:=rfl
 conv at hsp=>rhs; unfold pArgs
 refine (ccalls_of Tryz.func318 rfl rfl ?_);refine z_4 ?_; refine z_66 ?_;refine cD (d_callx rfl t_18 q_293 (so_sign hT hn hW [40] ⟨rfl,rfl,n_2 rfl⟩) rfl (fun x hx=>.inr ⟨x,fin_pan,by rw [hsp,hx.1]; rfl,hx.2⟩) ?_);rintro n1 ⟨hs1,hn1⟩;dsimp only at hs1 hn1 ⊢;rw [hs1,n_6] at hsp;have e1:=pIs_lt hs1;refine z_158 ?_;refine cD (d_callv rfl t_64 q_293 (so_accept hT hn1 hW [41] ⟨rfl,rfl,n_2 rfl⟩) rfl ?_);rintro ⟨ac,n2⟩ ⟨ha,hn2,hn2l⟩;dsimp only at ha hn2 hn2l ⊢;refine co_nil ?_; refine cC (fun h1=>?_) fun h1=>?_
 ·have hc1:isT (tk T n1) 4 [41]=true:=by rw [<- ha]; simpa using h1
  rw [if_pos hc1] at hn2 hsp;refine z_19 ?_;exact ⟨_,res1 rfl tt q_269,(by exact .inl ⟨([],n2,b),fin_st rfl (old_ints _ [] false),by rw [hsp,hn2],do_,hn2l,hb,by show 0<=1000000; decide⟩)⟩
 ·have hc1:¬ isT (tk T n1) 4 [41]=true:=by rw [<- ha]; simpa using h1
  rw [if_neg hc1] at hn2 hsp;subst hn2; refine z_20 ?_; refine cw_loopr hCC 2 rfl (α:=List Int × Nat × List Ex × Bool × Nat) (fun x=>[(0,.ptr 0 0),(1,(.val (.int .i64 (d:Int)))),(5,(.list (x.1.map icv) (gnn x.1.length) (gtok x.1.length 3)))]) (fun x=>[pbx T x.2.1 ps x.2.2.1 (ka x.2.2.2.1),oa1 x.2.2.2.1 x.2.2.1.length,oa2 x.2.2.2.1 x.2.2.1.length,gobj x.1.length]) (fun x=>pArgs T (pAll T ps f) d n b=(pAll T ps x.2.2.2.2).ag d x.2.1 x.2.2.1 x.1/\x.1.length<=x.2.1/\n < x.2.1/\x.2.1 < T.length/\x.2.2.1.length<=256/\x.2.2.2.2<=f/\8*(T.length - x.2.1)+7<=x.2.2.2.2) (fun x=>T.length - x.2.1) ⟨([],n2,b,false,f),[0,1,7,8],⟨hsp,n_3 _,do_,hn2l,hb,n_5 _,do_⟩,⟨rfl,rfl⟩,q_14,⟨.inr ⟨_,rfl,.same rfl q_284⟩,.inr ⟨_,rfl,.same rfl q_292⟩,.inl rfl,.inl rfl,tt⟩⟩ ?_; intro ⟨l,m,b2,ph,g⟩ ⟨hlp,hlm,hnm,hm,hb2,hgf,hg⟩;dsimp only at hlp hlm hnm hm hb2 hgf hg ⊢;obtain ⟨g,rfl⟩:∃ g',g=g'+1:=⟨g - 1,om_⟩;have hlp2:(pAll T ps (g+1)).ag d m b2 l=(pStep T ps (pAll T ps g)).ag d m b2 l:=rfl;simp only [pStep] at hlp2;rw [hlp2] at hlp;refine cw_block ?_; refine z_49 ?_; refine cY q_251 ?_;refine cD (d_callx rfl t_53 q_296 (hE g om_ (d+1) m b2 hm hb2 om_ om_ _ 0 (ka ph) q_170) rfl (fun x hx=>.inr ⟨x,fin_pan,by rw [hlp,hx.1]; rfl,hx.2⟩) ?_);rintro ⟨i3,n3,b3⟩ ⟨x3,y3,z3,w3⟩;dsimp only at x3 y3 z3 w3 ⊢;rw [x3,n_6] at hlp;dsimp only at hlp;refine co_norm [pbx T n3 ps b3 4,.dead,.dead,gobj l.length,gobj b3.length] q_271 ?_;have hls:=len_snoc l (i3:Int);refine cY (y_lit [icv (i3:Int)] rfl ⟨tt,tt⟩ t_7 t_1 t_9 rfl rfl rfl rfl rfl rfl rfl rfl rfl) ?_;refine cD (d_appu rfl tt tt rfl si_ q_19 t_7 t_1 t_119 t_9 rfl (.inr rfl) q_21 (by have hb:Tryz.t3.bytes=8:=rfl; rw [hb]; first|omega|(simp; done)|(simp; omega)) q_226 ((l++[(i3:Int)]).map icv) (l++[(i3:Int)]).length si_ si_ ?_);refine z_38 ?_;refine cD (d_callv rfl t_64 q_293 (so_accept hT z3 hW [44] ⟨rfl,rfl,n_2 rfl⟩) rfl ?_);rintro ⟨ac2,m2⟩ ⟨ha2,hm2,hm2l⟩;dsimp only at ha2 hm2 hm2l ⊢;refine z_32 ?_; refine cC (fun h2=>?_) fun h2=>?_
  ·have hc2:¬ isT (tk T n3) 4 [44]=true:=by rw [<- ha2]; simpa using h2
   rw [if_neg hc2] at hm2 hlp;subst hm2; refine z_65 ?_;refine cD (d_callx rfl t_18 q_293 (so_sign hT hm2l hW [41] ⟨rfl,rfl,n_2 rfl⟩) rfl (fun x hx=>.inr ⟨x,fin_pan,by rw [hlp,hx.1]; rfl,hx.2⟩) ?_);rintro m3 ⟨hs3,hm3⟩;dsimp only at hs3 hm3 ⊢;have e3:=pIs_lt hs3;rw [hs3,n_6] at hlp;refine z_33 ?_; refine z_5 ?_;exact ⟨_,res1 rfl tt q_269,(by exact .inl ⟨(l++[(i3:Int)],m3,b3),fin_ag (k:=4) rfl rfl de_ (fun _=>ren_lst (f:=icv) (fun _=>⟨.val _,tt⟩) _),hlp,do_,hm3,w3,do_⟩)⟩
  ·have hc2:isT (tk T n3) 4 [44]=true:=by rw [<- ha2]; simpa using h2
   rw [if_pos hc2] at hm2 hlp;subst hm2; refine cw_skip ?_;exact ⟨(l++[(i3:Int)],n3+1,b3,true,g),[0,1,4,5],⟨do_,hlp,do_,do_,hm2l,w3,do_,do_⟩,⟨rfl,rfl⟩,q_14,⟨.inr ⟨_,rfl,.box ⟨.old (old_toks _ _ _),.old (.val _),.old (old_strs _ _ _),ren_body rfl,tt⟩⟩,.inl rfl,.inr ⟨_,rfl,.same rfl q_292⟩,.inr ⟨_,rfl,.same rfl q_292⟩,tt⟩⟩
theorem so_arguments (hc:PCtx T ps) (hE:∀ g,g<=f->EC T ps g):AC T ps f:=fun d n b hn hb hd hf σ q s hσ =>
 par_lift (c:=fun a:List Int × Nat × List Ex=>(.list (a.1.map icv) (gnn a.1.length) none)) (N:=fun a=>a.2.1) (B:=fun a=>a.2.2) (Z:=fun _=>ps) (g:=fun a=>!a.1.isEmpty) (fun _ h=>by simp at h; subst h; exact .val _) (fun _=>pure_ints _ _) (so_arguments0 hc hE d n b hn hb hd hf) hσ
theorem ft_norm {C:Ctx} {ops:Array Oper} {Q:CExit->Env->List CObj->Prop} {S:List (List CObj->Prop)} {l:List (Nat × List Nat)} {fl:List Nat} {E:Env} (τ:List CObj) (h:σ=τ) (k:Floats S τ fl/\CTail C ops Q S l E τ):Floats S σ fl/\CTail C ops Q S l E σ:=h ▸ k
def kc (ph:Bool):Nat:=if ph=true then 3 else 1
def oc1 (ph:Bool) (m:Nat):CObj:=if ph=true then .dead else gobj m
def oc2 (ph:Bool) (m:Nat):List CObj:=if ph=true then [gobj m] else []
theorem so_factor0 (hc:PCtx T ps) (hE:EC T ps f) (hA:AC T ps f) (hU:UC T ps f) (d n:Nat) (b:List Ex) (hn:n < T.length) (hb:b.length<=256) (hd0:d<=32) (hf:8*(T.length - n)+1<=f+1):CCalls CC 301 [.ptr 0 0,(.val (.int .i64 (d:Int)))] (pst T n ps b) (ParR (fun a:PX=>(.val (.int .i64 (a.1:Int)))) (fun a=>pst2 T a.2.1 ps a.2.2) (fun a:PX=>(pAll T ps (f+1)).fac d n b=some a/\n < a.2.1/\a.2.1 < T.length/\a.2.2.length<=256) ((pAll T ps (f+1)).fac d n b=none)):=by
 have hT:=hc.len;have hW:=hc.w;have hsp:(pAll T ps (f+1)).fac d n b=(pStep T ps (pAll T ps f)).fac d n b:=rfl;simp only [pStep] at hsp;refine (ccalls_of Tryz.func301 rfl rfl ?_);refine z_66 ?_; refine cY q_82 ?_; refine z_14 ?_; refine z_8 ?_; refine cw_block ?_; refine z_0 ?_; refine z_110 ?_; refine z_18 ?_; refine cC (fun h1=>?_) fun h1=>?_
 ·have u1:(tk T n).k=2:=by simpa using h1
  rw [if_pos u1] at hsp;have hn1:=hW n hn (by rw [u1]; decide);refine z_2 ?_; refine z_171 ?_; refine z_2 ?_; refine cY q_172 ?_; refine z_110 ?_; refine cY q_30 ?_;refine cD (d_callx rfl t_28 q_286 (so_node hT hn1 hb (tk T n) ⟨1,(tk T n).n,0,[],[]⟩ ⟨rfl,rfl,n_2 rfl⟩) rfl (fun x hx=>.inr ⟨x,fin_pan,by rw [hsp,pEnd,hx.1]; rfl,hx.2⟩) ?_);rintro ⟨i6,b6⟩ ⟨x6,y6⟩;dsimp only at x6 y6 ⊢;rw [pEnd,x6,n_6] at hsp;exact z_154
 ·have u1:¬ (tk T n).k=2:=by simpa using h1
  rw [if_neg u1] at hsp;refine z_2 ?_;refine cD (d_callv rfl t_64 q_293 (so_accept hT hn hW [45] ⟨rfl,rfl,n_2 rfl⟩) rfl ?_);rintro ⟨ac,n2⟩ ⟨ha,hn2,hn2l⟩;dsimp only at ha hn2 hn2l ⊢;refine z_1 ?_; refine cC (fun h2=>?_) fun h2=>?_
  ·have u2:isT (tk T n) 4 [45]=true:=by rw [<- ha]; simpa using h2
   rw [if_pos u2] at hn2 hsp;subst hn2; refine cw_seq ?_; refine cw_float [0,1,2,3,4,5,6,7,8] 3 [0,0,0,4,12,28,60,127,255] [[0,1],[0,1],[0,1],[0,1],[],[]] (hd1l:=[0,1,2]) (tll:=[(3,[0,1]),(4,[0,1]),(5,[0,1]),(6,[0,1]),(7,[]),(8,[])]) q_289 q_289 rfl rfl rfl ?_; refine chf rfl q_206 ?_; refine chf rfl (hop_y rfl q_172) ?_; refine z_169 ?_;refine ctl_d rfl rfl (d_callx rfl t_71 q_293 (so_take hT hn2l hW 2 ⟨rfl,rfl,n_2 rfl⟩) rfl (fun x hx _=>.inr ⟨x,fin_pan,by rw [hsp,hx.1]; rfl,hx.2⟩) ?_);rintro ⟨p,n3⟩ ⟨s2,k2⟩;dsimp only at s2 k2 ⊢;rw [s2,n_6] at hsp;dsimp only at hsp;have e2:=pTake_lt s2 de_;have hpn:=hc.nn (n+1);rw [<- pTake_eq s2] at hpn;have ew : -p.n=IntKind.i64.wrap (0 - p.n):=by rw [wr64 om_ om_]; omega
   rw [ew] at hsp;refine ⟨⟨q_181,q_97,tt⟩,?_⟩;refine ctl_h rfl (hop_y rfl (y_fieldv1 rfl tt rfl t_44 rfl t_14 rfl)) ⟨⟨q_181,q_97,tt⟩,?_⟩;refine ctl_h rfl (hop_y rfl (y_neg rfl tt rfl)) ⟨⟨q_181,q_97,tt⟩,?_⟩;refine ctl_h rfl (hop_y rfl q_30) ⟨⟨q_181,q_97,tt⟩,?_⟩;refine ctl_d rfl rfl (d_callx rfl t_28 q_286 (so_node hT k2 hb (tk T n) ⟨1,IntKind.i64.wrap (0 - p.n),0,[],[]⟩ ⟨rfl,rfl,n_2 rfl⟩) rfl (fun x hx _=>.inr ⟨x,fin_pan,by rw [hsp,pEnd,hx.1]; rfl,hx.2⟩) ?_);rintro ⟨i6,b6⟩ ⟨x6,y6⟩;dsimp only at x6 y6 ⊢;rw [pEnd,x6,n_6] at hsp;refine ⟨tt,?_⟩;refine z_75 ?_; refine cw_ret ?_;exact ⟨_,res1 rfl tt q_269,(by exact .inl ⟨(i6,n3,b6),fin_gr rfl rfl (nb rfl) (.val _),hsp,do_,k2,y6⟩)⟩
  ·have u2:¬ isT (tk T n) 4 [45]=true:=by rw [<- ha]; simpa using h2
   rw [if_neg u2] at hn2 hsp;replace hn2:=hn2.symm;subst hn2; refine z_2 ?_;refine cD (d_callv rfl t_64 q_293 (so_accept hT hn hW [40] ⟨rfl,rfl,n_2 rfl⟩) rfl ?_);rintro ⟨ac3,n3⟩ ⟨ha3,hn3,hn3l⟩;dsimp only at ha3 hn3 hn3l ⊢;refine z_1 ?_; refine cC (fun h3=>?_) fun h3=>?_
   ·have u3:isT (tk T n) 4 [40]=true:=by rw [<- ha3]; simpa using h3
    rw [if_pos u3] at hn3 hsp;subst hn3; refine z_6 ?_; refine cY q_251 ?_;refine cD (d_callx rfl t_53 q_296 (hE (d+1) (n+1) b hn3l hb om_ om_ _ 0 1 ⟨rfl,rfl,n_2 rfl⟩) rfl (fun x hx=>.inr ⟨x,fin_pan,by rw [hsp,hx.1]; rfl,hx.2⟩) ?_);rintro ⟨i4,n4,b4⟩ ⟨x4,y4,z4,w4⟩;dsimp only at x4 y4 z4 w4 ⊢;rw [x4,n_6] at hsp;dsimp only at hsp;refine co_norm [pbx T n4 ps b4 3,.dead,.box (tk T n).cells,gobj b4.length] rfl ?_; refine z_38 ?_;refine cD (d_callx rfl t_18 q_293 (so_sign hT z4 hW [41] ⟨rfl,rfl,n_2 rfl⟩) rfl (fun x hx=>.inr ⟨x,fin_pan,by rw [hsp,hx.1]; rfl,hx.2⟩) ?_);rintro n5 ⟨s5,k5⟩;dsimp only at s5 k5 ⊢;rw [s5,n_6] at hsp;have e5:=pIs_lt s5;refine z_33 ?_; refine z_5 ?_;exact ⟨_,res1 rfl tt q_269,(by exact .inl ⟨(i4,n5,b4),fin_gr rfl rfl (nb rfl) (.val _),hsp,do_,k5,w4⟩)⟩
   ·have u3:¬ isT (tk T n) 4 [40]=true:=by rw [<- ha3]; simpa using h3
    rw [if_neg u3] at hn3 hsp;replace hn3:=hn3.symm;subst hn3; refine z_0 ?_; refine z_110 ?_; refine z_18 ?_; refine cC (fun h4=>?_) fun h4=>?_
    ·have u4:(tk T n).k≠1:=by simpa using h4
     rw [if_pos u4] at hsp;exact z_98
    ·have u4:(tk T n).k=1:=by simpa using h4
     rw [if_neg (fun h=>h u4)] at hsp;have hn1:=hW n hn (by rw [u4]; decide);refine z_71 ?_; refine z_156 ?_; refine z_277 ?_; refine z_78 ?_; refine z_13 ?_; refine z_42 ?_; refine z_59 ?_; refine cC (fun h5=>?_) fun h5=>?_
     ·have u5:(tk T n).t=[114,101,97,100]:=by simpa using h5
      have uu:(tk T n).t=[114,101,97,100]\/(tk T n).t=[115,105,122,101]\/(tk T n).t=[104,97,115]\/(tk T n).t=[101,110,118]\/(tk T n).t=[102,108,105,112]:=.inl u5;rw [if_pos uu] at hsp;refine cw_skip ?_; refine cC (fun h6=>?_) fun h6=>?_
      ·refine z_2 ?_; refine z_194 ?_;refine cD (d_callx rfl t_75 q_286 (hU (tk T n) d (n+1) b hn1 hb hd0 om_ _ 0 1 ⟨rfl,rfl,n_2 rfl⟩) rfl (fun x hx=>.inr ⟨x,fin_pan,by rw [hsp]; exact hx.1,hx.2⟩) ?_);rintro ⟨i,m,b2⟩ ⟨g1,g2,g3,g4⟩;dsimp only at g1 g2 g3 g4 ⊢;refine z_57 ?_;exact ⟨_,res1 rfl tt q_269,q_74⟩
      ·exact absurd u5 (by simpa using h6)
     ·have u5:¬ (tk T n).t=[114,101,97,100]:=by simpa using h5
      refine z_88 ?_; refine cC (fun h7=>?_) fun h7=>?_
      ·have u7:(tk T n).t=[115,105,122,101]:=by simpa using h7
       have uu:(tk T n).t=[114,101,97,100]\/(tk T n).t=[115,105,122,101]\/(tk T n).t=[104,97,115]\/(tk T n).t=[101,110,118]\/(tk T n).t=[102,108,105,112]:=.inr (.inl u7);rw [if_pos uu] at hsp;refine cw_skip ?_; refine cC (fun h8=>?_) fun h8=>?_
       ·refine z_2 ?_; refine z_194 ?_;refine cD (d_callx rfl t_75 q_286 (hU (tk T n) d (n+1) b hn1 hb hd0 om_ _ 0 1 ⟨rfl,rfl,n_2 rfl⟩) rfl (fun x hx=>.inr ⟨x,fin_pan,by rw [hsp]; exact hx.1,hx.2⟩) ?_);rintro ⟨i,m,b2⟩ ⟨g1,g2,g3,g4⟩;dsimp only at g1 g2 g3 g4 ⊢;refine z_57 ?_;exact ⟨_,res1 rfl tt q_269,q_74⟩
       ·exact absurd u7 (by simpa using h8)
      ·have u7:¬ (tk T n).t=[115,105,122,101]:=by simpa using h7
       refine z_88 ?_; refine cC (fun h9=>?_) fun h9=>?_
       ·have u9:(tk T n).t=[104,97,115]:=by simpa using h9
        have uu:(tk T n).t=[114,101,97,100]\/(tk T n).t=[115,105,122,101]\/(tk T n).t=[104,97,115]\/(tk T n).t=[101,110,118]\/(tk T n).t=[102,108,105,112]:=.inr (.inr (.inl u9));rw [if_pos uu] at hsp;refine cw_skip ?_; refine cC (fun h10=>?_) fun h10=>?_
        ·refine z_2 ?_; refine z_194 ?_;refine cD (d_callx rfl t_75 q_286 (hU (tk T n) d (n+1) b hn1 hb hd0 om_ _ 0 1 ⟨rfl,rfl,n_2 rfl⟩) rfl (fun x hx=>.inr ⟨x,fin_pan,by rw [hsp]; exact hx.1,hx.2⟩) ?_);rintro ⟨i,m,b2⟩ ⟨g1,g2,g3,g4⟩;dsimp only at g1 g2 g3 g4 ⊢;refine z_57 ?_;exact ⟨_,res1 rfl tt q_269,q_74⟩
        ·exact absurd u9 (by simpa using h10)
       ·have u9:¬ (tk T n).t=[104,97,115]:=by simpa using h9
        refine z_88 ?_; refine cC (fun h11=>?_) fun h11=>?_
        ·have u11:(tk T n).t=[101,110,118]:=by simpa using h11
         have uu:(tk T n).t=[114,101,97,100]\/(tk T n).t=[115,105,122,101]\/(tk T n).t=[104,97,115]\/(tk T n).t=[101,110,118]\/(tk T n).t=[102,108,105,112]:=.inr (.inr (.inr (.inl u11)));rw [if_pos uu] at hsp;refine cw_skip ?_; refine cC (fun h12=>?_) fun h12=>?_
         ·refine z_2 ?_; refine z_194 ?_;refine cD (d_callx rfl t_75 q_286 (hU (tk T n) d (n+1) b hn1 hb hd0 om_ _ 0 1 ⟨rfl,rfl,n_2 rfl⟩) rfl (fun x hx=>.inr ⟨x,fin_pan,by rw [hsp]; exact hx.1,hx.2⟩) ?_);rintro ⟨i,m,b2⟩ ⟨g1,g2,g3,g4⟩;dsimp only at g1 g2 g3 g4 ⊢;refine z_57 ?_;exact ⟨_,res1 rfl tt q_269,q_74⟩
         ·exact absurd u11 (by simpa using h12)
        ·have u11:¬ (tk T n).t=[101,110,118]:=by simpa using h11
         refine cw_region ?_; refine z_59 ?_; refine cC (fun h13=>?_) fun h13=>?_
         ·have u13:(tk T n).t=[102,108,105,112]:=by simpa using h13
          have uu:(tk T n).t=[114,101,97,100]\/(tk T n).t=[115,105,122,101]\/(tk T n).t=[104,97,115]\/(tk T n).t=[101,110,118]\/(tk T n).t=[102,108,105,112]:=.inr (.inr (.inr (.inr (u13))));rw [if_pos uu] at hsp;refine z_2 ?_; refine z_194 ?_;refine cD (d_callx rfl t_75 q_286 (hU (tk T n) d (n+1) b hn1 hb hd0 om_ _ 0 1 ⟨rfl,rfl,n_2 rfl⟩) rfl (fun x hx=>.inr ⟨x,fin_pan,by rw [hsp]; exact hx.1,hx.2⟩) ?_);rintro ⟨i,m,b2⟩ ⟨g1,g2,g3,g4⟩;dsimp only at g1 g2 g3 g4 ⊢;refine z_57 ?_;exact ⟨_,res1 rfl tt q_269,q_74⟩
         ·have h13':¬ (tk T n).t=[102,108,105,112]:=by simpa using h13
          have un:¬ ((tk T n).t=[114,101,97,100]\/(tk T n).t=[115,105,122,101]\/(tk T n).t=[104,97,115]\/(tk T n).t=[101,110,118]\/(tk T n).t=[102,108,105,112]):=fun hh=>by rcases hh with h | h | h | h | h; exact u5 h; exact u7 h; exact u9 h; exact u11 h; exact h13' h
          rw [if_neg un] at hsp;refine z_230 ?_; refine z_78 ?_; refine z_268 ?_; refine cC (fun h14=>?_) fun h14=>?_
          ·have u14:resB (tk T n).t=true:=by simpa using h14
           rw [if_pos u14] at hsp;exact z_98
          ·have u14:¬ resB (tk T n).t=true:=by simpa using h14
           rw [if_neg u14] at hsp;refine z_145 ?_; refine cY (y_callf rfl t_70 q_283 (so_is hT hn1 4 [40] ⟨rfl,rfl,n_2 rfl⟩) rfl) ?_; refine co_nil ?_; refine cC (fun h15=>?_) fun h15=>?_
           ·have u15:isT (tk T (n+1)) 4 [40]=true:=by simpa using h15
            rw [if_pos u15] at hsp;refine cw_seq ?_; refine cw_float [0,1,2,3,4,5,6,7,8,9] 6 [0,0,0,4,0,0,48,124,255,511] [[0,1,2,3],[0,1],[],[]] (hd1l:=[0,1,2,3,4,5]) (tll:=[(6,[0,1,2,3]),(7,[0,1]),(8,[]),(9,[])]) q_289 q_289 rfl rfl rfl ?_; refine chf rfl q_206 ?_; refine chf rfl (hop_y rfl q_172) ?_; refine chf rfl (hop_y rfl q_147) ?_; refine chf rfl (hop_y rfl q_237) ?_; refine chf rfl q_206 ?_; refine z_169 ?_;refine ctl_d rfl rfl (d_callx rfl Tryz.call318 q_296 (hA d (n+1) b hn1 hb hd0 om_ _ 0 1 ⟨rfl,rfl,n_2 rfl⟩) rfl (fun x hx _=>.inr ⟨x,fin_pan,by rw [hsp,hx.1]; rfl,hx.2⟩) ?_);rintro ⟨l,m,b2⟩ ⟨g1,g2,g3,g4,_⟩;dsimp only at g1 g2 g3 g4 ⊢;rw [g1,n_6] at hsp;dsimp only at hsp;generalize (!l.isEmpty)=ph;refine ft_norm ([pbx T m ps b2 (kc ph),oc1 ph b2.length,.box (tk T n).cells]++oc2 ph b2.length) q_271 ?_;refine ⟨⟨q_181,q_97,(by exact hop_y rfl q_147),(by exact hop_y rfl q_237),tt⟩,?_⟩;refine ctl_h rfl (hop_y rfl q_27) ⟨⟨q_181,q_97,tt⟩,?_⟩;refine ctl_d rfl rfl (d_callx rfl t_28 q_286 (so_node hT g3 g4 (tk T n) ⟨3,0,0,(tk T n).t,l⟩ (q:=0) (s:=kc ph) q_170) rfl (fun x hx _=>.inr ⟨x,fin_pan,by rw [hsp,pEnd,hx.1]; rfl,hx.2⟩) ?_);rintro ⟨i6,b6⟩ ⟨x6,y6⟩;dsimp only at x6 y6 ⊢;rw [pEnd,x6,n_6] at hsp;refine ⟨tt,?_⟩;refine z_75 ?_; refine cw_ret ?_;exact ⟨_,res1 rfl tt q_269,(by exact .inl ⟨(i6,m,b6),(by cases ph; exact fin_gr (k:=3) rfl rfl de_ (.val _); exact fin_gr (k:=4) rfl rfl de_ (.val _)),hsp,do_,g3,y6⟩)⟩
           ·have u15:¬ isT (tk T (n+1)) 4 [40]=true:=by simpa using h15
            rw [if_neg u15] at hsp;refine z_9 ?_; refine cw_draw 8 [0,1,3,7,0,16,63,127] q_289 q_289 rfl ?_; refine z_36 ?_; refine hY (y_field rfl tt rfl t_62 rfl t_21 de_) ?_; refine hY q_228 ?_; refine hY q_147 ?_; refine hY q_237 ?_; refine hY (y_callf rfl Tryz.call205 q_296 (str_Index_s ps (gnn ps.length) (tk T n).t (by have:=hc.ps; omega) _) rfl) ?_; refine z_263 ?_; refine z_158 ?_; refine z_12 ?_; refine cC (fun h16=>?_) fun h16=>?_
            ·have u16:ixS ps (tk T n).t 0 < 0:=by simpa using h16
             rw [if_pos u16] at hsp;exact z_98
            ·have u16:¬ ixS ps (tk T n).t 0 < 0:=by simpa using h16
             rw [if_neg u16] at hsp;refine z_71 ?_; refine z_194 ?_; refine cY q_30 ?_;refine cD (d_callx rfl t_28 q_286 (so_node hT hn1 hb (tk T n) ⟨2,ixS ps (tk T n).t 0,0,[],[]⟩ ⟨rfl,rfl,n_2 rfl⟩) rfl (fun x hx=>.inr ⟨x,fin_pan,by rw [hsp,pEnd,hx.1]; rfl,hx.2⟩) ?_);rintro ⟨i6,b6⟩ ⟨x6,y6⟩;dsimp only at x6 y6 ⊢;rw [pEnd,x6,n_6] at hsp;exact z_154
theorem so_factor (hc:PCtx T ps) (hE:EC T ps f) (hA:AC T ps f) (hU:UC T ps f):FC T ps (f+1):=fun d n b hn hb hd hf σ q s hσ =>
 par_lift1 (c:=fun a:PX=>(.val (.int .i64 (a.1:Int)))) (N:=fun a=>a.2.1) (B:=fun a=>a.2.2) (fun _ h=>by simp at h; subst h; exact .val _) (fun _=>.val _) (so_factor0 hc hE hA hU d n b hn hb hd hf) hσ
theorem so_all {T:List Tok} {ps:List Str} (hc:PCtx T ps):∀ f,(∀ g,g<=f->EC T ps g)/\(∀ g,g<=f->BC T ps g)/\(∀ g,g<=f->FC T ps g)
 | 0=>by
  refine ⟨fun g hg d n b hn _ _ hf=>?_,fun g hg lv d n b hn _ _ h4 _ hf=>?_,fun g hg d n b hn _ _ hf=>?_⟩ <;> exfalso <;> omega
 | f+1=>by
  obtain ⟨hE,hB,hF⟩:=so_all hc f;have e1:=so_expr hc (hE f (n_5 _)) (hB f (n_5 _));have b1:=so_binary hc hB (hF f (n_5 _));have f1:=so_factor hc (hE f (n_5 _)) (so_arguments hc hE) (so_builtin hc (hE f (n_5 _)));have up:∀ {P:Nat->Prop},(∀ g,g<=f->P g)->P (f+1)->∀ g,g<=f+1->P g:=fun {P} h h1 g hg=>by
   rcases n_23 f g with hlt | hge
   ·rw [show g=f+1 by omega]; exact h1
   ·exact h g hge
  exact ⟨up hE e1,up hB b1,up hF f1⟩
def ixP {α:Type} (p:α->Bool):List α->Nat->Int
 | [],_=>-1
 | y::l,i=>if p y=true then i else ixP p l (i+1)
theorem ixP_step {y:α} (h:l[i]? = some y) (p:α->Bool):ixP p (l.drop i) i=if p y=true then (i:Int) else ixP p (l.drop (i+1)) (i+1):=by
 obtain ⟨hlt,he⟩:=n_1.1 h;rw [n_25 hlt,he];rfl
theorem ixP_any {α:Type} (p:α->Bool):∀ (l:List α) (i:Nat),decide (0<=ixP p l i)=l.any p
 | [],_=>rfl
 | y::l,i=>by
  rw [ixP,List.any_cons];cases hp:p y with
  | true=>simp
  | false=>simpa using ixP_any p l (i+1)
theorem de_IndexFunc {g:FuncId} {caps:List CV} {p:De->Bool} (l:List De) (nn:Bool) (hl:l.length<=1000000) (hg:∀ args w,(callFunc g args).run CC.P w = .ok (.enter g args) w) (H:∀ x∈l,CCalls CC g ([.agg x.cells]++caps) σ fun r σ'=>r = .ret (.val (.bool (p x)))/\σ'=σ):CCalls CC 276 [(.list (l.map De.cv) nn none),.clo g caps] σ fun r σ'=>r = .ret (.val (.int .i64 (ixP p l 0)))/\σ'=σ:=by
 refine (ccalls_of Tryz.func276 rfl rfl ?_);refine z_54 ?_; refine z_281 ?_; refine cw_loop' (α:=Nat) (fun i=>[(0,(.list (l.map De.cv) nn none)),(1,(.clo g caps)),(7,(.val (.int .i64 (l.length:Int)))),(8,(.val (.int .i64 (i:Int))))]) (fun _=>σ) (fun i=>i<=l.length/\ixP p l 0=ixP p (l.drop i) i) (fun i=>l.length - i) 0 ⟨n_3 _,rfl⟩ tu_ rfl ?_; intro i E0 ⟨hi,hr⟩; refine z_28 ?_; refine cC (fun h1=>?_) fun h1=>?_
 ·have hlt:(i:Int) < l.length:=by simpa using h1
  obtain ⟨y,hb⟩:∃ y,l[i]? = some y:=⟨l[i]'om_,si_⟩;rw [ixP_step hb] at hr;refine z_113 ?_; refine z_1 ?_; refine z_49 ?_; refine cY (y_index rfl tt tt rfl rfl t_38 t_23 om_ (rows_get hb) rfl) ?_; refine cY q_184 ?_; refine cY (y_callclo rfl tt rfl hg ⟨tt,tt⟩ (H y (n_0 hb)) rfl) ?_; refine co_nil ?_; refine cC (fun h2=>?_) fun h2=>?_
  ·have hx:p y=true:=by simpa using h2
   rw [if_pos hx] at hr;refine z_204 ?_;exact ⟨_,res1 rfl tt q_269,(by exact ⟨by rw [hr],rfl⟩)⟩
  ·have hx:¬ p y=true:=by simpa using h2
   rw [if_neg hx] at hr;refine z_51 ?_;exact ⟨(i+1),om_,⟨om_,hr⟩,tu_,rfl⟩
 ·have hge:i=l.length:=by
   have:¬ (i:Int) < l.length:=by simpa using h1
   omega
  refine z_178 ?_;exact ⟨_,res1 rfl tt q_269,(by exact ⟨by rw [hr,hge,n_110]; rfl,rfl⟩)⟩
theorem de_ContainsFunc {g:FuncId} {caps:List CV} {p:De->Bool} (l:List De) (nn:Bool) (hl:l.length<=1000000) (hg:∀ args w,(callFunc g args).run CC.P w = .ok (.enter g args) w) (H:∀ x∈l,CCalls CC g ([.agg x.cells]++caps) σ fun r σ'=>r = .ret (.val (.bool (p x)))/\σ'=σ):CCalls CC 238 [(.list (l.map De.cv) nn none),.clo g caps] σ fun r σ'=>r = .ret (.val (.bool (l.any p)))/\σ'=σ:=by
 refine (ccalls_of Tryz.func238 rfl rfl ?_);refine z_127 ?_; refine cY (y_callf rfl Tryz.call276 q_296 (de_IndexFunc l nn hl hg H) rfl) ?_; refine cY q_255 ?_; refine z_5 ?_;exact ⟨_,res1 rfl tt q_269,(by exact ⟨by rw [<- ixP_any p l 0],rfl⟩)⟩
theorem get_app {σ:List α} {x:α} (h:σ[q]? = some x) (l:List α):(σ++l)[q]? = some x:=by
 rw [n_15 (n_1.1 h).1]; exact h
theorem get_len (σ:List α) (x:α):(σ++[x])[σ.length]? = some x:=by simp
theorem so_decl1 (x:De) (t:Tok) (kd:Int) {s:Nat} (hq:σ[q]? = some (.box [(.val (.int .i64 kd))])) (hs:σ[s]? = some (.box t.cells)):CCalls CC 239 ([.agg x.cells]++[.ptr q 0,.ptr s 0]) σ fun r σ'=>r = .ret (.val (.bool ((x.k == kd) && decide (x.name=t.t))))/\σ'=σ:=by
 refine ccalls_val (ccalls_of Tryz.func239 rfl rfl ?_);refine z_60 ?_; refine z_0 ?_; refine cY q_153 ?_; refine cY q_71 ?_; refine cY q_71 ?_; refine cY q_260 ?_; refine cY q_246 ?_; refine cG (fun hg=>y_field rfl tt rfl t_45 rfl t_0 de_) ?_; refine cG q_56 ?_; refine cG q_121 ?_; refine cG q_56 ?_; refine cG q_204 ?_;exact z_260
def dkL:List (Str × Int):=gput (gput (gput [] [102,117,110,99] 1) [116,101,115,116] 2) [103,101,110] 3
def dkind (s:Str):Int:=(glk dkL s).getD 0
def pExpr (T:List Tok) (ps:List Str) (d n:Nat):Option PX:=(pAll T ps (8*T.length+6)).ex d n []
def pHead (T:List Tok) (kd:Int) (n:Nat):Option (Tok × Nat):=if kd=3 then pPath T n else pName T n
def pPars (T:List Tok) (kd:Int) (n:Nat):Option (List Str × Nat):=if kd=1 then pParams T n else some ([],n)
def pDecl (T:List Tok) (bs:List De) (n:Nat):Option (De × Nat) :=
 if (tk T n).k≠1\/dkind (tk T n).t=0 then none else if bs.length=64 then none else
 (pHead T (dkind (tk T n).t) (n+1)).bind fun x=>if (bs.any fun d=>(d.k == dkind (tk T n).t) && decide (d.name=x.1.t))=true then none else
 (pPars T (dkind (tk T n).t) x.2).bind fun q=>(pIs T q.2 4 [61]).bind fun m=>(pExpr T q.1 1 m).bind fun y=>(pIs T y.2.1 4 [59]).bind fun m2=>some (⟨dkind (tk T n).t,x.1.t,q.1,y.2.2⟩,m2)
theorem par_liftZ {f:FuncId} {c:α->CV} {Z:α->List Str} {n:Nat} {b:List Ex} (hargs:∀ a∈args,Pure a) (hc:∀ a,Pure (c a))
 (h:CCalls CC f (.ptr 0 0::args) (pst T n ps b) (ParR c (fun a=>pst2 T (N a) (Z a) (B a)) P bad)) {σ:List CObj} {q s:Nat} (hσ:PAt σ q s T n ps b) :
 CCalls CC f (.ptr q 0::args) σ (ParG c (fun a=>(σ.set q (pbx T (N a) (Z a) (B a) σ.length)).set s .dead++[gobj (B a).length]) P σ q s bad):=by
 refine (par_lift (c:=c) (N:=N) (B:=B) (Z:=Z) (g:=fun _=>true) (P:=P) (bad:=bad) hargs hc (h.mono fun r τ hh=>?_) hσ).mono fun r τ hh=>?_
 ·rcases hh with ⟨a,h1,h2⟩ | h
  ·exact .inl ⟨a,h1,h2⟩
  ·exact .inr h
 ·rcases hh with ⟨a,h1,h2,h3⟩ | h
  ·exact .inl ⟨a,h1,h2,h3⟩
  ·exact .inr h
theorem pHead_lt {kd:Int} {n:Nat} (h:pHead T kd n=some (t,m)):m=n+1:=by
 unfold pHead at h;split at h
 ·exact pPath_lt h
 ·exact pName_lt h
theorem pParL_lt {T:List Tok}:∀ (f n:Nat) (l l':List Str) (m:Nat),pParL f T n l=some (l',m)->n < m
 | 0,n,l,l',m,h=>by cases h
 | f+1,n,l,l',m,h=>by
  rw [pParL] at h;cases hn:pName T n with
  | none=>rw [hn] at h; cases h
  | some x =>
   rw [hn,n_6] at h;have e:=pName_lt (t:=x.1) hn;split at h
   ·cases h
   ·split at h
    ·cases h
    ·split at h
     ·have:=pParL_lt f _ _ _ _ h;omega
     ·cases hi:pIs T x.2 4 [41] with
      | none=>rw [hi] at h; cases h
      | some y =>
       rw [hi,n_6] at h;injection h with h
       injection h with _ h
       have:=pIs_lt hi;omega
theorem pParams_lt {n:Nat} {l:List Str} (h:pParams T n=some (l,m)):n < m:=by
 unfold pParams at h;cases hi:pIs T n 4 [40] with
 | none=>rw [hi] at h; cases h
 | some y =>
  rw [hi,n_6] at h;have:=pIs_lt hi;split at h
  ·injection h with h
   injection h with _ h
   omega
  ·have:=pParL_lt _ _ _ _ _ h;omega
theorem pPars_le {kd:Int} {n:Nat} {l:List Str} (h:pPars T kd n=some (l,m)):n<=m:=by
 unfold pPars at h;split at h
 ·exact Nat.le_of_lt (pParams_lt h)
 ·injection h with h
  injection h with _ h
  omega
theorem ren_de (k:Int) (nm:Str) (ps:List Str) (b:List Ex) (tok:Option Nat):RenV L sel (.agg [.val (.int .i64 k),sv nm,.list (ps.map scv) (gnn ps.length) none,.list (b.map Ex.cv) (gnn b.length) tok]) (.agg (⟨k,nm,ps,b⟩:De).cells) :=
 .agg rfl fun i c c' h h'=>by
  rcases i with _ | _ | _ | _ | i
  ·injection h with h; injection h' with h'; subst h h'; exact .old (.val _)
  ·injection h with h; injection h' with h'; subst h h'; exact .old (.val _)
  ·injection h with h; injection h' with h'; subst h h'; exact .old (old_strs _ _ _)
  ·injection h with h; injection h' with h'; subst h h'; exact ren_lst (f:=Ex.cv) Ex.pure _
  ·cases h
theorem old_zde (n:Nat):OldL n (⟨0,[],[],[]⟩:De).cells:=⟨.val _,.val _,old_strs _ _ _,old_exs _ _ _,tt⟩
theorem so_decl0 (hc:PCtx T ps) (bs:List De) (hbs:bs.length<=64) (n:Nat) (b:List Ex) (hn:n < T.length) (_:b.length<=256):CCalls CC 197 [.ptr 0 0,(.list (bs.map De.cv) (gnn bs.length) none)] (pst T n ps b) (ParR (fun a:De × Nat=>(.agg a.1.cells)) (fun a=>pst2 T a.2 a.1.params a.1.body) (fun a:De × Nat=>pDecl T bs n=some a/\n < a.2/\a.2 < T.length/\a.1.params.length<=8/\a.1.body.length<=256) (pDecl T bs n=none)):=by
 have hT:=hc.len;have hW:=hc.w;have hsp:pDecl T bs n=pDecl T bs n:=rfl
 conv at hsp=>rhs; unfold pDecl
 refine (ccalls_of Tryz.func197 rfl rfl ?_);refine cw_dead ?_; refine cw_norm [pbx T n ps b 1,gobj b.length,.dead] rfl ?_; refine z_0 ?_;refine cD (d_alloc rfl t_46 rfl q_288 ?_);refine z_48 ?_;refine cD (d_makeMap rfl ?_);refine cD (d_mapUpdate_g (vc:=kv) (l:=[]) (a:=[102,117,110,99]) (b:=1) keyS (.inr rfl) tt rfl rfl rfl rfl rfl t_94 rfl ?_);refine cD (d_mapUpdate_g (vc:=kv) (l:=gput [] [102,117,110,99] 1) (a:=[116,101,115,116]) (b:=2) keyS (.inr rfl) tt rfl rfl rfl rfl rfl t_94 rfl ?_);refine cD (d_mapUpdate_g (vc:=kv) (l:=gput (gput [] [102,117,110,99] 1) [116,101,115,116] 2) (a:=[103,101,110]) (b:=3) keyS (.inr rfl) tt rfl rfl rfl rfl rfl t_94 rfl ?_);refine cY q_246 ?_; refine z_38 ?_; refine cY q_82 ?_; refine z_14 ?_; refine z_33 ?_; refine z_78 ?_; refine cY (y_lookup_g (vc:=kv) (l:=dkL) (a:=(tk T n).t) keyS rfl tt tt rfl rfl t_94 t_9 rfl rfl (lk_int _ _)) ?_;refine cD (d_alloc rfl t_9 rfl (.inl rfl) ?_);refine z_277 ?_; refine z_110 ?_; refine z_159 ?_; refine cG (fun hg=>y_load1 rfl tt rfl t_14 rfl rfl) ?_; refine z_189 ?_; refine cC (fun h1=>?_) fun h1=>?_
 ·have u1:(tk T n).k≠1\/(dkind (tk T n).t)=0:=by simpa [dkind] using h1
  rw [if_pos u1] at hsp;exact z_98
 ·have u1:¬ ((tk T n).k≠1\/(dkind (tk T n).t)=0):=by simpa [dkind] using h1
  rw [if_neg u1] at hsp;have hn1:=hW n hn (fun h5=>u1 (.inl (by rw [h5]; decide)));refine z_145 ?_; refine cY q_104 ?_; refine z_12 ?_; refine cC (fun h2=>?_) fun h2=>?_
  ·have u2:bs.length=64:=by simp at h2; omega
   rw [if_pos u2] at hsp;exact z_98
  ·have u2:¬ bs.length=64:=by simp at h2; omega
   rw [if_neg u2] at hsp;refine z_71 ?_; refine z_171 ?_; refine cw_cutr hCC 7 rfl (α:=Tok × Nat) (fun _=>[(0,.ptr 0 0),(1,(.list (bs.map De.cv) (gnn bs.length) none)),(4,.ptr 3 0),(6,.ptr 5 0),(7,.ptr 6 0)]) (fun x=>[pbx T x.2 ps b 1,gobj b.length,.dead,.box (⟨0,[],[],[]⟩:De).cells,.dead,.box x.1.cells,.box [(.val (.int .i64 (dkind (tk T n).t)))]]) (fun x=>pHead T (dkind (tk T n).t) (n+1)=some x/\x.2 < T.length) ?_ ?_
   ·
    refine z_0 ?_; refine cY q_238 ?_; refine z_12 ?_; refine cC (fun h3=>?_) fun h3=>?_
    ·have u3:(dkind (tk T n).t)=3:=by simpa [dkind] using h3
     have hh:∀ m,pHead T (dkind (tk T n).t) m=pPath T m:=fun m=>if_pos u3;rw [hh] at hsp;refine z_7 ?_;refine cD (d_callx rfl t_93 ⟨tt,tt⟩ (so_path hT hn1 hW hc.l ⟨rfl,rfl,n_2 rfl⟩) rfl (fun x hx=>.inr ⟨x,fin_pan,by rw [hsp,hx.1]; rfl,hx.2⟩) ?_);rintro ⟨x,n2⟩ ⟨g1,g2⟩;dsimp only at g1 g2 ⊢;refine z_47 ?_;exact ⟨(x,n2),[0,1,2,3,4,5,6],⟨by rw [hh]; exact g1,g2⟩,⟨rfl,rfl⟩,q_13,⟨.inr ⟨_,rfl,.same rfl q_284⟩,.inr ⟨_,rfl,.same rfl q_292⟩,.inl rfl,.inr ⟨_,rfl,.same rfl (old_box (old_zde _))⟩,.inl rfl,.inr ⟨_,rfl,.same rfl (old_box ⟨.val _,.val _,.val _,.val _,tt⟩)⟩,.inr ⟨_,rfl,.same rfl (old_box ⟨.val _,tt⟩)⟩,tt⟩⟩
    ·have u3:¬ (dkind (tk T n).t)=3:=by simpa [dkind] using h3
     have hh:∀ m,pHead T (dkind (tk T n).t) m=pName T m:=fun m=>if_neg u3;rw [hh] at hsp;refine z_7 ?_;refine cD (d_callx rfl t_92 ⟨tt,tt⟩ (so_name hT hn1 hW ⟨rfl,rfl,n_2 rfl⟩) rfl (fun x hx=>.inr ⟨x,fin_pan,by rw [hsp,hx.1]; rfl,hx.2⟩) ?_);rintro ⟨x,n2⟩ ⟨g1,g2⟩;dsimp only at g1 g2 ⊢;refine z_47 ?_;exact ⟨(x,n2),[0,1,2,3,4,5,6],⟨by rw [hh]; exact g1,g2⟩,⟨rfl,rfl⟩,q_13,⟨.inr ⟨_,rfl,.same rfl q_284⟩,.inr ⟨_,rfl,.same rfl q_292⟩,.inl rfl,.inr ⟨_,rfl,.same rfl (old_box (old_zde _))⟩,.inl rfl,.inr ⟨_,rfl,.same rfl (old_box ⟨.val _,.val _,.val _,.val _,tt⟩)⟩,.inr ⟨_,rfl,.same rfl (old_box ⟨.val _,tt⟩)⟩,tt⟩⟩
   ·intro ⟨x,n2⟩ ⟨g1,g2⟩;dsimp only at g1 g2 ⊢;have e2:=pHead_lt g1;rw [g1,n_6] at hsp;dsimp only at hsp;refine z_16 ?_; refine cY (y_mkfunc rfl q_296) ?_; refine cY (y_callf rfl Tryz.call238 q_296 (de_ContainsFunc bs _ om_ Tryz.call239 (fun y _=>so_decl1 y x (dkind (tk T n).t) (q:=6) (s:=5) rfl rfl)) rfl) ?_; refine co_nil ?_; refine cC (fun h4=>?_) fun h4=>?_
    ·have u4:(bs.any fun d=>(d.k == (dkind (tk T n).t)) && decide (d.name=x.t))=true:=h4;rw [if_pos u4] at hsp;exact z_98
    ·have u4:¬ (bs.any fun d=>(d.k == (dkind (tk T n).t)) && decide (d.name=x.t))=true:=by rw [h4]; decide
     rw [if_neg u4] at hsp;refine z_46 ?_; refine cY q_238 ?_; refine z_78 ?_; refine cY (y_build' #[(0,1),(1,1),(2,1),(3,1)] rfl q_296 t_45 t_46 rfl ⟨_,rfl⟩ (fun w=>by kernel_rfl) rfl rfl) ?_; refine z_50 ?_; refine co_nil ?_; refine cw_cutr hCC 8 rfl (α:=List Str × Nat) (fun _=>[(0,.ptr 0 0),(4,.ptr 3 0),(8,.ptr 7 0)]) (fun q=>[pbx T q.2 ps b 1,gobj b.length,.dead,.box (⟨0,[],[],[]⟩:De).cells,.dead,.dead,.dead,.box (⟨(dkind (tk T n).t),x.t,q.1,[]⟩:De).cells]) (fun q=>pPars T (dkind (tk T n).t) n2=some q/\q.2 < T.length/\q.1.length<=8) ?_ ?_
     ·
      refine z_0 ?_; refine cY q_238 ?_; refine z_12 ?_; refine cC (fun h5=>?_) fun h5=>?_
      ·have u5:(dkind (tk T n).t)=1:=by simpa [dkind] using h5
       have hq:∀ m,pPars T (dkind (tk T n).t) m=pParams T m:=fun m=>if_pos u5;rw [hq] at hsp;refine z_7 ?_;refine cD (d_callx rfl Tryz.call240 ⟨tt,tt⟩ (so_parameters hT g2 hW ⟨rfl,rfl,n_2 rfl⟩) rfl (fun x hx=>.inr ⟨x,fin_pan,by rw [hsp,hx.1]; rfl,hx.2⟩) ?_);rintro ⟨pl,n3⟩ ⟨k1,k2,k3⟩;dsimp only at k1 k2 k3 ⊢;refine cY q_140 ?_;refine cD (d_store rfl tt tt rfl q_269 t_21 (.inl rfl) rfl rfl (nb rfl) ?_);refine co_nil ?_;exact ⟨(pl,n3),[0,1,2,3,4,5,6,7],⟨by rw [hq]; exact k1,k2,k3⟩,⟨rfl,rfl⟩,q_20,⟨.inr ⟨_,rfl,.same rfl q_284⟩,.inr ⟨_,rfl,.same rfl q_292⟩,.inl rfl,.inr ⟨_,rfl,.same rfl (old_box (old_zde _))⟩,.inl rfl,.inl rfl,.inl rfl,.inr ⟨_,rfl,.same rfl (old_box ⟨.val _,.val _,old_strs _ _ _,old_exs _ _ _,tt⟩)⟩,tt⟩⟩
      ·have u5:¬ (dkind (tk T n).t)=1:=by simpa [dkind] using h5
       have hq:∀ m,pPars T (dkind (tk T n).t) m=some ([],m):=fun m=>if_neg u5;refine cw_skip ?_;exact ⟨([],n2),[0,1,2,3,4,5,6,7],⟨hq n2,g2,n_3 _⟩,⟨rfl,rfl⟩,q_20,⟨.inr ⟨_,rfl,.same rfl q_284⟩,.inr ⟨_,rfl,.same rfl q_292⟩,.inl rfl,.inr ⟨_,rfl,.same rfl (old_box (old_zde _))⟩,.inl rfl,.inl rfl,.inl rfl,.inr ⟨_,rfl,.same rfl (old_box ⟨.val _,.val _,old_strs _ _ _,old_exs _ _ _,tt⟩)⟩,tt⟩⟩
     ·intro ⟨pl,n3⟩ ⟨k1,k2,k3⟩;dsimp only at k1 k2 k3 ⊢;have e3:=pPars_le k1;rw [k1,n_6] at hsp;dsimp only at hsp;refine z_2 ?_;refine cD (d_callx rfl t_18 q_293 (so_sign hT k2 hW [61] ⟨rfl,rfl,n_2 rfl⟩) rfl (fun x hx=>.inr ⟨x,fin_pan,by rw [hsp,hx.1]; rfl,hx.2⟩) ?_);rintro n4 ⟨s4,k4⟩;dsimp only at s4 k4 ⊢;have e4:=pIs_lt s4;rw [s4,n_6] at hsp;have hc':PCtx T pl:=⟨hT,hW,hc.l,om_,hc.nn⟩;refine z_146 ?_; refine z_195 ?_; refine cY q_279 ?_; refine cY (y_field rfl tt rfl t_62 rfl t_21 de_) ?_;refine cD (d_store rfl tt tt rfl q_269 t_21 (.inl rfl) rfl rfl (nb rfl) ?_);refine cY q_279 ?_; refine cY q_136 ?_;refine cD (d_store rfl tt rfl rfl q_269 t_52 (.inl rfl) rfl rfl (nb rfl) ?_);refine z_33 ?_;refine cD (d_callx rfl t_53 q_293 ((so_all hc' (8*T.length+6)).1 _ (n_5 _) 1 n4 [] k4 (n_3 _) de_ om_ _ 0 2 ⟨rfl,rfl,n_2 rfl⟩) rfl (fun x hx=>.inr ⟨x,fin_pan,by rw [hsp,pExpr,hx.1]; rfl,hx.2⟩) ?_);rintro ⟨i5,n5,b5⟩ ⟨x5,y5,z5,w5⟩;dsimp only at x5 y5 z5 w5 ⊢;rw [pExpr,x5,n_6] at hsp;dsimp only at hsp;refine co_norm [pbx T n5 pl b5 8,gobj b.length,.dead,.box (⟨0,[],[],[]⟩:De).cells,.dead,.dead,.dead,.box (⟨(dkind (tk T n).t),x.t,pl,[]⟩:De).cells,gobj b5.length] rfl ?_; refine z_33 ?_; refine cY q_279 ?_; refine cY q_136 ?_; refine cY q_219 ?_; refine cY q_133 ?_;refine cD (d_store rfl tt tt rfl q_269 t_52 (.inl rfl) rfl rfl (nb rfl) ?_);refine z_33 ?_;refine cD (d_callx rfl t_18 q_293 (so_sign hT z5 hW [59] (q:=0) (s:=8) ⟨rfl,rfl,n_2 rfl⟩) rfl (fun x hx=>.inr ⟨x,fin_pan,by rw [hsp,hx.1]; rfl,hx.2⟩) ?_);rintro n6 ⟨s6,k6⟩;dsimp only at s6 k6 ⊢;have e6:=pIs_lt s6;rw [s6,n_6] at hsp;refine z_48 ?_; refine cY (y_load rfl tt rfl t_95 t_23 rfl (nb rfl)) ?_;refine cD (d_store rfl tt tt rfl q_269 t_23 q_288 rfl rfl (nb rfl) ?_);refine z_282 ?_;exact ⟨_,res_one rfl ⟨tt,_,_,_,rfl,rfl,.inr ⟨_,t_95,t_23,nb rfl,rfl⟩⟩,(by exact .inl ⟨(⟨(dkind (tk T n).t),x.t,pl,b5⟩,n6),fin_grR (k:=8) rfl rfl de_ (fun _=>ren_de _ _ _ _ _),hsp,do_,k6,k3,w5⟩)⟩
theorem so_decl (hc:PCtx T ps) (bs:List De) (hbs:bs.length<=64) {n:Nat} {b:List Ex} (hn:n < T.length) (hb:b.length<=256) {s:Nat} (hσ:PAt σ q s T n ps b):CCalls CC 197 [.ptr q 0,(.list (bs.map De.cv) (gnn bs.length) none)] σ (ParG (fun a:De × Nat=>(.agg a.1.cells)) (fun a=>(σ.set q (pbx T a.2 a.1.params a.1.body σ.length)).set s .dead++[gobj a.1.body.length]) (fun a:De × Nat=>pDecl T bs n=some a/\n < a.2/\a.2 < T.length/\a.1.params.length<=8/\a.1.body.length<=256) σ q s (pDecl T bs n=none)) :=
 par_liftZ (c:=(fun a:De × Nat=>(.agg a.1.cells))) (N:=fun a=>a.2) (Z:=fun a=>a.1.params) (B:=fun a=>a.1.body) (fun _ h=>by simp at h; subst h; exact pure_des _ _) (fun a=>pure_agg a.1.pure) (so_decl0 hc bs hbs n b hn hb) hσ
def pImps:Nat->List Tok->Str->Nat->List Str->Option (List Str × Nat)
 | 0,_,_,_,_=>none
 | f+1,T,pkg,n,l=>if isT (tk T n) 1 [105,109,112,111,114,116]=true then (if l.length=8 then none else (pName T (n+1)).bind fun x=>if x.1.t=pkg\/x.1.t∈l then none else (pIs T x.2 4 [59]).bind fun m=>pImps f T pkg m (l++[x.1.t])) else some (l,n)
def pDecls:Nat->List Tok->Nat->List De->Option (List De × Nat)
 | 0,_,_,_=>none
 | f+1,T,n,l=>if (tk T n).k=5 then some (l,n) else (pDecl T l n).bind fun x=>pDecls f T x.2 (l++[x.1])
def pFile (T:List Tok):Option Src:=(pIs T 0 1 [112,97,99,107,97,103,101]).bind fun n1=>(pName T n1).bind fun x=>(pIs T x.2 4 [59]).bind fun n2=>(pImps 9 T x.1.t n2 []).bind fun y=>(pDecls 65 T y.2 []).bind fun z=>some ⟨x.1.t,y.1,z.1⟩
theorem pDecl_len {bs:List De} {n:Nat} {x:De × Nat} (h:pDecl T bs n=some x):bs.length≠64:=fun h64=>by
 unfold pDecl at h;rw [if_pos h64] at h;split at h <;> cases h
theorem ren_src (pkg:Str) (i:List Str) (d:List De) (t1 t2:Option Nat):RenV L sel (.agg [sv pkg,.list (i.map scv) (gnn i.length) t1,.list (d.map De.cv) (gnn d.length) t2]) (.agg (⟨pkg,i,d⟩:Src).cells) :=
 .agg rfl fun k c c' h h'=>by
  rcases k with _ | _ | _ | k
  ·injection h with h; injection h' with h'; subst h h'; exact .old (.val _)
  ·injection h with h; injection h' with h'; subst h h'; exact ren_lst (f:=scv) (fun _=>⟨.val _,tt⟩) _
  ·injection h with h; injection h' with h'; subst h h'; exact ren_lst (f:=De.cv) De.pure _
  ·cases h
theorem so_file0 (hc:PCtx T []) (h0:0 < T.length):CCalls CC 155 [.ptr 0 0] (pst T 0 [] []) (ParR (fun a:Src × Nat × List Str × List Ex=>(.agg a.1.cells)) (fun a=>pst2 T a.2.1 a.2.2.1 a.2.2.2) (fun a:Src × Nat × List Str × List Ex=>pFile T=some a.1) (pFile T=none)):=by
 have hT:=hc.len;have hW:=hc.w;have hsp:pFile T=pFile T:=rfl
 conv at hsp=>rhs; unfold pFile
 refine (ccalls_of Tryz.func155 rfl rfl ?_);refine z_0 ?_;refine cD (d_alloc rfl t_32 rfl q_288 ?_);refine z_33 ?_;refine cD (d_callx rfl t_118 q_293 (so_word hT h0 hW [112,97,99,107,97,103,101] ⟨rfl,rfl,n_2 rfl⟩) rfl (fun x hx=>.inr ⟨x,fin_pan,by rw [hsp,hx.1]; rfl,hx.2⟩) ?_);rintro n1 ⟨s1,k1⟩;dsimp only at s1 k1 ⊢;rw [s1,n_6] at hsp;have e1:=pIs_lt s1;refine z_33 ?_;refine cD (d_callx rfl t_92 ⟨tt,tt⟩ (so_name hT k1 hW ⟨rfl,rfl,n_2 rfl⟩) rfl (fun x hx=>.inr ⟨x,fin_pan,by rw [hsp,hx.1]; rfl,hx.2⟩) ?_);rintro ⟨w,n2⟩ ⟨s2,k2⟩;dsimp only at s2 k2 ⊢;have e2:=pName_lt s2;rw [s2,n_6] at hsp;dsimp only at hsp;refine cY q_141 ?_; refine cY (y_build' #[(0,1),(1,1),(2,1)] rfl ⟨tt,tt⟩ t_29 t_32 rfl ⟨_,rfl⟩ (fun w=>by kernel_rfl) rfl rfl) ?_; refine z_101 ?_; refine z_33 ?_;refine cD (d_callx rfl t_18 q_293 (so_sign hT k2 hW [59] ⟨rfl,rfl,n_2 rfl⟩) rfl (fun x hx=>.inr ⟨x,fin_pan,by rw [hsp,hx.1]; rfl,hx.2⟩) ?_);rintro n3 ⟨s3,k3⟩;dsimp only at s3 k3 ⊢;rw [s3,n_6] at hsp;refine co_norm [pbx T n3 [] [] 1,.dead,.box (⟨[],[],[]⟩:Src).cells,.box [sv w.t,.list (([]:List Str).map scv) (gnn ([]:List Str).length) none,.list (([]:List De).map De.cv) (gnn ([]:List De).length) none]] rfl ?_; refine z_8 ?_; refine cw_block ?_; refine cw_loopr hCC 4 rfl (α:=List Str × Nat) (fun _=>[(0,.ptr 0 0),(2,.ptr 2 0),(3,.ptr 3 0)]) (fun x=>[pbx T x.2 [] [] 1,.dead,.box (⟨[],[],[]⟩:Src).cells,.box [sv w.t,.list (x.1.map scv) (gnn x.1.length) (gtok x.1.length 4),.list (([]:List De).map De.cv) (gnn ([]:List De).length) none],gobj x.1.length]) (fun x=>x.1.length<=8/\x.2 < T.length/\pFile T=(pImps (9 - x.1.length) T w.t x.2 x.1).bind fun y=>(pDecls 65 T y.2 []).bind fun z=>some ⟨w.t,y.1,z.1⟩) (fun x=>9 - x.1.length) ⟨([],n3),[0,1,2,3,9],⟨n_3 _,k3,hsp⟩,⟨rfl,rfl⟩,q_20,⟨.inr ⟨_,rfl,.same rfl q_284⟩,.inl rfl,.inr ⟨_,rfl,.same rfl q_194⟩,.inr ⟨_,rfl,.box ⟨.old (.val _),.old (old_strs _ [] _),.old (old_des _ [] _),tt⟩⟩,.inl rfl,tt⟩⟩ ?_; intro ⟨l,m⟩ ⟨hl,hm,hsp⟩;dsimp only at hl hm hsp ⊢;obtain ⟨f,hf⟩:∃ f,9 - l.length=f+1:=⟨8 - l.length,om_⟩;rw [hf,pImps] at hsp;refine z_16 ?_; refine cY (y_callf rfl t_70 q_283 (so_is hT hm 1 [105,109,112,111,114,116] ⟨rfl,rfl,n_2 rfl⟩) rfl) ?_; refine co_nil ?_; refine cC (fun h1=>?_) fun h1=>?_
 ·have u1:isT (tk T m) 1 [105,109,112,111,114,116]=true:=by simpa using h1
  rw [if_pos u1] at hsp;have hm1:=hW m hm (isT_ne u1 de_);refine z_128 ?_; refine z_42 ?_; refine z_160 ?_; refine z_229 ?_; refine cC (fun h2=>?_) fun h2=>?_
  ·have u2:l.length=8:=by simp at h2; omega
   rw [if_pos u2] at hsp;refine z_7 ?_; refine cY (y_callf rfl t_73 ⟨tt,tt⟩ (so_token hT hm ⟨rfl,rfl,n_2 rfl⟩) rfl) ?_;exact co_d rfl rfl (d_calln rfl t_36 q_293 (so_fail _ _ _) rfl (fun _ _=>.inr ⟨(_,_),fin_pan,by rw [hsp]; rfl,si_⟩))
  ·have u2:¬ l.length=8:=by simp at h2; omega
   rw [if_neg u2] at hsp;refine z_71 ?_; refine z_171 ?_; refine z_2 ?_;refine cD (d_callx rfl t_92 ⟨tt,tt⟩ (so_name hT hm1 hW ⟨rfl,rfl,n_2 rfl⟩) rfl (fun x hx=>.inr ⟨x,fin_pan,by rw [hsp,hx.1]; rfl,hx.2⟩) ?_);rintro ⟨x,m1⟩ ⟨s4,k4⟩;dsimp only at s4 k4 ⊢;rw [s4,n_6] at hsp;dsimp only at hsp;refine co_norm [pbx T m1 [] [] 1,.dead,.box (⟨[],[],[]⟩:Src).cells,.box [sv w.t,.list (l.map scv) (gnn l.length) (gtok l.length 4),.list (([]:List De).map De.cv) (gnn ([]:List De).length) none],gobj l.length] rfl ?_; refine z_238 ?_; refine z_78 ?_; refine z_196 ?_; refine cY q_232 ?_; refine cY q_246 ?_; refine z_179 ?_; refine cG q_121 ?_; refine cG q_207 ?_; refine cG (fun hg=>y_callf rfl t_72 ⟨hg,hg,tt⟩ (str_Contains_s l (gnn l.length) x.t om_ _) rfl) ?_; refine z_61 ?_; refine cC (fun h3=>?_) fun h3=>?_
   ·have u3:x.t=w.t\/x.t∈l:=by simpa using h3
    rw [if_pos u3] at hsp;refine z_232 ?_;exact co_d rfl rfl (d_calln rfl t_36 q_293 (so_fail _ _ _) rfl (fun _ _=>.inr ⟨(_,_),fin_pan,by rw [hsp]; rfl,si_⟩))
   ·have u3:¬ (x.t=w.t\/x.t∈l):=by simpa using h3
    rw [if_neg u3] at hsp;have hls:=len_snoc l x.t;refine z_46 ?_; refine z_160 ?_; refine z_78 ?_; refine cY (y_lit [scv x.t] rfl ⟨tt,tt⟩ t_2 t_0 t_3 rfl rfl rfl rfl rfl rfl rfl rfl rfl) ?_;refine cD (d_appu rfl tt tt rfl si_ q_19 t_2 t_0 t_24 t_3 rfl (.inr rfl) q_21 q_81 q_226 ((l++[x.t]).map scv) (l++[x.t]).length si_ si_ ?_);refine cY q_151 ?_;refine cD (d_store rfl tt tt rfl q_269 t_21 (.inl rfl) rfl rfl (nb rfl) ?_);refine z_190 ?_;refine cD (d_callx rfl t_18 q_293 (so_sign hT k4 hW [59] ⟨rfl,rfl,n_2 rfl⟩) rfl (fun x hx=>.inr ⟨x,fin_pan,by rw [hsp,hx.1]; rfl,hx.2⟩) ?_);rintro m2 ⟨s5,k5⟩;dsimp only at s5 k5 ⊢;rw [s5,n_6] at hsp;refine co_nil ?_;exact ⟨(l++[x.t],m2),[0,1,2,3,6],⟨do_,do_,k5,by dsimp only; rw [hsp,show 9 - (l++[x.t]).length=f by omega]⟩,⟨rfl,rfl⟩,q_20,⟨.inr ⟨_,rfl,.same rfl q_284⟩,.inl rfl,.inr ⟨_,rfl,.same rfl q_194⟩,.inr ⟨_,rfl,.box ⟨.old (.val _),RenV.grow (f:=scv) (fun _=>⟨.val _,tt⟩) rfl,.old (old_des _ [] _),tt⟩⟩,.inr ⟨_,rfl,.same rfl q_292⟩,tt⟩⟩
 ·have u1:¬ isT (tk T m) 1 [105,109,112,111,114,116]=true:=by simpa using h1
  rw [if_neg u1,n_6] at hsp;dsimp only at hsp;rename_i im0;obtain ⟨im,him⟩:∃ im,im=l:=⟨l,rfl⟩;subst him; refine cw_exit ?_; refine z_148 ?_; refine cw_loopr hCC 5 rfl (α:=Nat × List De × List Str × List Ex) (fun _=>[(0,.ptr 0 0),(2,.ptr 2 0),(3,.ptr 3 0)]) (fun x=>[pbx T x.1 x.2.2.1 x.2.2.2 5,.dead,.box (⟨[],[],[]⟩:Src).cells,.box [sv w.t,.list (im.map scv) (gnn im.length) none,.list (x.2.1.map De.cv) (gnn x.2.1.length) (gtok x.2.1.length 6)],.dead,gobj x.2.2.2.length,gobj x.2.1.length]) (fun x=>x.2.1.length<=64/\x.1 < T.length/\x.2.2.1.length<=8/\x.2.2.2.length<=256/\pFile T=(pDecls (65 - x.2.1.length) T x.1 x.2.1).bind fun z=>some ⟨w.t,im,z.1⟩) (fun x=>T.length - x.1) ⟨(m,[],[],[]),[0,1,2,3,4,9,10],⟨n_3 _,hm,n_3 _,n_3 _,hsp⟩,⟨rfl,rfl⟩,q_20,⟨.inr ⟨_,rfl,.box ⟨.old (old_toks _ _ _),.old (.val _),.old (old_strs _ _ _),.old (old_exs _ [] _),tt⟩⟩,.inl rfl,.inr ⟨_,rfl,.same rfl q_194⟩,.inr ⟨_,rfl,.box ⟨.old (.val _),ren_lst (f:=scv) (fun _=>⟨.val _,tt⟩) _,.old (old_des _ [] _),tt⟩⟩,.inl rfl,.inl rfl,.inl rfl,tt⟩⟩ ?_; intro ⟨m,ds,ps,b⟩ ⟨hds,hm,hps,hb,hsp⟩;dsimp only at hds hm hps hb hsp ⊢;obtain ⟨f,hf⟩:∃ f,65 - ds.length=f+1:=⟨64 - ds.length,om_⟩;rw [hf,pDecls] at hsp;have hc':PCtx T ps:=⟨hT,hW,hc.l,om_,hc.nn⟩;refine z_16 ?_; refine cY (y_callf rfl t_73 ⟨tt,tt⟩ (so_token hT hm (q:=0) (s:=5) ⟨rfl,rfl,n_2 rfl⟩) rfl) ?_; refine cY (y_fieldv1 rfl tt rfl t_44 rfl t_14 rfl) ?_; refine z_12 ?_; refine cC (fun h4=>?_) fun h4=>?_
  ·have u4:¬ (tk T m).k=5:=by simpa using h4
   rw [if_neg u4] at hsp;refine z_128 ?_; refine cw_float [0,1,2,3,4,5,6,7,8,9] 5 [0,1,0,0,8,28,60,127,255,511] [[0,1],[0,1],[],[],[]] (hd1l:=[0,1,2,3,4]) (tll:=[(5,[0,1]),(6,[0,1]),(7,[]),(8,[]),(9,[])]) q_289 q_289 rfl rfl rfl ?_; refine chf rfl q_116 ?_; refine chf rfl (hop_y rfl q_231) ?_; refine chf rfl q_206 ?_; refine chf rfl q_116 ?_; refine chf rfl (hop_y rfl q_231) ?_; refine chf_nil ?_;refine ctl_d rfl rfl (d_callx rfl Tryz.call197 q_296 (so_decl hc' ds hds hm hb (q:=0) (s:=5) ⟨rfl,rfl,n_2 rfl⟩) rfl (fun x hx _=>.inr ⟨x,fin_pan,by rw [hsp,hx.1]; rfl,hx.2⟩) ?_);rintro ⟨d,m1⟩ ⟨g1,g2,g3,g4,g5⟩;dsimp only at g1 g2 g3 g4 g5 ⊢;have hlen:=pDecl_len g1;rw [g1,n_6] at hsp;dsimp only at hsp;have hls:=len_snoc ds d;refine ft_norm [pbx T m1 d.params d.body 7,.dead,.box (⟨[],[],[]⟩:Src).cells,.box [sv w.t,.list (im.map scv) (gnn im.length) none,.list (ds.map De.cv) (gnn ds.length) (gtok ds.length 6)],.dead,.dead,gobj ds.length,gobj d.body.length] rfl ?_;refine ⟨⟨(by exact hop_y rfl q_150),(by exact hop_y rfl q_231),tt⟩,?_⟩;refine ctl_h rfl (hop_y rfl (y_lit [De.cv d] rfl ⟨tt,tt⟩ t_38 t_23 t_46 rfl rfl rfl rfl rfl rfl rfl rfl rfl)) ⟨⟨(by exact hop_y rfl q_150),(by exact hop_y rfl q_231),tt⟩,?_⟩;refine ctl_d rfl rfl (d_appu rfl tt tt rfl si_ q_19 t_38 t_23 Tryz.typeInfo119 t_46 rfl (.inr rfl) q_21 (by have hb:Tryz.t119.bytes=72:=rfl; rw [hb]; first|omega|(simp; done)|(simp; omega)) q_226 ((ds++[d]).map De.cv) (ds++[d]).length si_ si_ ?_);refine ⟨tt,?_⟩;refine ctl_h rfl q_116 ⟨tt,?_⟩;refine ctl_d rfl rfl (d_store rfl tt tt rfl q_269 t_96 (.inl rfl) rfl rfl (nb rfl) ?_);refine z_123 ?_;exact ⟨(m1,ds++[d],d.params,d.body),[0,1,2,3,4,7,8],⟨do_,do_,g3,g4,g5,by dsimp only; rw [hsp,show 65 - (ds++[d]).length=f by omega]⟩,⟨rfl,rfl⟩,q_20,⟨.inr ⟨_,rfl,.box ⟨.old (old_toks _ _ _),.old (.val _),.old (old_strs _ _ _),ren_body rfl,tt⟩⟩,.inl rfl,.inr ⟨_,rfl,.same rfl q_194⟩,.inr ⟨_,rfl,.box ⟨.old (.val _),.old (old_strs _ _ _),RenV.grow (f:=De.cv) (fun _=>⟨.val _,.val _,old_strs _ _ _,old_exs _ _ _,tt⟩) rfl,tt⟩⟩,.inl rfl,.inr ⟨_,rfl,.same rfl q_292⟩,.inr ⟨_,rfl,.same rfl q_292⟩,tt⟩⟩
  ·have u4:(tk T m).k=5:=by simpa using h4
   rw [if_pos u4,n_6] at hsp;refine z_90 ?_; refine cY q_185 ?_;refine cD (d_store rfl tt tt rfl q_269 t_47 q_288 rfl rfl (nb rfl) ?_);refine z_282 ?_;exact ⟨_,res_one rfl ⟨tt,_,_,_,rfl,rfl,.inr ⟨_,t_120,t_47,nb rfl,rfl⟩⟩,(by exact .inl ⟨(⟨w.t,im,ds⟩,m,ps,b),fin_grR (k:=5) rfl rfl de_ (fun _=>ren_src _ _ _ _ _),hsp⟩)⟩
theorem so_file (hc:PCtx T []) (h0:0 < T.length) {s:Nat} (hσ:PAt σ q s T 0 [] []):CCalls CC 155 [.ptr q 0] σ (ParG (fun a:Src × Nat × List Str × List Ex=>(.agg a.1.cells)) (fun a=>(σ.set q (pbx T a.2.1 a.2.2.1 a.2.2.2 σ.length)).set s .dead++[gobj a.2.2.2.length]) (fun a:Src × Nat × List Str × List Ex=>pFile T=some a.1) σ q s (pFile T=none)) :=
 par_liftZ (c:=(fun a:Src × Nat × List Str × List Ex=>(.agg a.1.cells))) (N:=fun a=>a.2.1) (Z:=fun a=>a.2.2.1) (B:=fun a=>a.2.2.2) (fun _ h=>by cases h) (fun a=>pure_agg a.1.pure) (so_file0 hc h0) hσ
structure TokG (N:Nat) (t:Tok):Prop where
 len:t.t.length<=N
 n0:0<=t.n
 n1:t.n<=9007199254740993
theorem sub_len (s:Str) (a e:Nat):(sub s a e).length<=s.length:=by unfold sub; rw [n_72,n_46]; omega
theorem tokX_good {b:UInt8}:TokG s.length (tokX s a b).1/\(tokX s a b).1.k≠5:=by
 have z:TokG s.length (⟨0,[],0,0⟩:Tok):=⟨n_3 _,de_,de_⟩;unfold tokX
 split
 ·split
  ·exact ⟨z,(show (0:Int)≠5 by decide)⟩
  ·exact ⟨⟨sub_len _ _ _,n_99 _,(show (0:Int)<=9007199254740993 by decide)⟩,(show (1:Int)≠5 by decide)⟩
 ·split
  ·split
   ·exact ⟨z,(show (0:Int)≠5 by decide)⟩
   ·have:=numS_digs (span_digs (s:=s) (a:=a));exact ⟨⟨n_3 _,this.1,this.2⟩,(show (2:Int)≠5 by decide)⟩
  ·split
   ·split
    ·exact ⟨z,(show (0:Int)≠5 by decide)⟩
    ·exact ⟨⟨sub_len _ _ _,n_99 _,(show (0:Int)<=9007199254740993 by decide)⟩,(show (3:Int)≠5 by decide)⟩
   ·split
    ·split
     ·exact ⟨⟨sub_len _ _ _,n_99 _,(show (0:Int)<=9007199254740993 by decide)⟩,(show (4:Int)≠5 by decide)⟩
     ·exact ⟨⟨sub_len _ _ _,n_99 _,(show (0:Int)<=9007199254740993 by decide)⟩,(show (4:Int)≠5 by decide)⟩
    ·exact ⟨z,(show (0:Int)≠5 by decide)⟩
theorem lexF_good (s:Str):∀ (f i:Nat) (T:List Tok),lexF f s i=some T->T.length<=f/\(∀ t∈T,TokG s.length t)/\∃ L e,T=L++[e]/\e.k=5/\∀ t∈L,t.k≠5
 | 0,i,T,h=>by cases h
 | f+1,i,T,h=>by
  rw [lexF] at h;cases hb:s[spanS s i [5]]? with
  | none =>
   rw [hb] at h;injection h with h
   subst h;refine ⟨si_,fun t ht=>?_,[],_,rfl,rfl,fun t ht=>by cases ht⟩;simp at ht;subst ht;exact ⟨n_3 _,n_99 _,(show (0:Int)<=9007199254740993 by decide)⟩
  | some b =>
   rw [hb] at h;simp only at h;split at h
   ·obtain ⟨h1,h2⟩:=lexF_good s f _ T h;exact ⟨om_,h2⟩
   ·split at h
    ·cases h
    ·cases hq:lexF f s (tokX s (spanS s i [5]) b).2.1.toNat with
     | none=>rw [hq] at h; cases h
     | some T' =>
      rw [hq] at h;simp only [n_71,Option.some.injEq] at h;subst h;obtain ⟨h1,h2,L,e,h3,h5,h4⟩:=lexF_good s f _ T' hq;have hg:=tokX_good (s:=s) (a:=spanS s i [5]) (b:=b);refine ⟨by simpa using h1,fun t ht=>?_,_::L,e,by rw [h3]; rfl,h5,fun t ht=>?_⟩
      ·rcases n_13.1 ht with rfl | ht
       ·exact ⟨hg.1.len,hg.1.n0,hg.1.n1⟩
       ·exact h2 t ht
      ·rcases n_13.1 ht with rfl | ht
       ·exact hg.2
       ·exact h4 t ht
theorem tk_mem (i:Nat):tk T i∈T\/tk T i=⟨5,[],0,0⟩:=by
 unfold tk;cases h:T[i]? with
 | none=>exact .inr rfl
 | some t=>exact .inl (n_0 h)
theorem lexS_ctx (h:lexS s=some T):PCtx T []/\0 < T.length:=by
 unfold lexS at h;split at h
 ·cases h
 ·rename_i hs;obtain ⟨h1,h2,L,e,h3,h5,h4⟩:=lexF_good s _ _ T h;have h0:0 < T.length:=by rw [h3]; simp
  refine ⟨⟨om_,fun n hn hk=>?_,fun n=>?_,n_3 _,fun n=>?_⟩,h0⟩
  ·rcases n_23 (n+1) T.length with hlt | hge
   ·exact hlt
   ·exfalso;have hl:T.length=L.length+1:=by rw [h3]; simp
    have:tk T n=e:=by
     unfold tk;rw [h3,show n=L.length by omega];simp
    exact hk (by rw [this]; exact h5)
  ·rcases tk_mem (T:=T) n with h | h
   ·have:=(h2 _ h).len; omega
   ·rw [h]; simp
  ·rcases tk_mem (T:=T) n with h | h
   ·exact ⟨(h2 _ h).n0,(h2 _ h).n1⟩
   ·rw [h]; exact ⟨de_,de_⟩
abbrev SrcR:=Src × Int × Int
abbrev srcC (x:SrcR):CV:=.tup [.agg x.1.cells,.val (.int .i64 x.2.1),.val (.int .i64 x.2.2)]
def parseS (s:Str):Option Src:=(lexS s).bind pFile
def ParseP (s:Str) (x:SrcR):Prop:=(parseS s=some x.1/\x.2.1=0/\x.2.2=0)\/(parseS s=none/\x.1=⟨[],[],[]⟩/\x.2.2≠0)
theorem so_Parse1a {c1 c2 c3:CV} {u:CV} {K:List CObj->Prop} (h:K σ):CDef CC 154 [c1,c2,c3] σ false u K:=by
 refine z_274 ?_; refine cY (y_nenil rfl tt rfl Tryz.runUnderlying20 (.inl rfl)) ?_; refine co_nil ?_; refine cC (fun h1=>?_) fun h1=>?_
 ·cases h1
 ·refine cw_skip ?_;exact h
theorem so_Parse1b (a0 e0 x e:Int) {K:List CObj->Prop} (h:K [.dead,.box (⟨[],[],[]⟩:Src).cells,.box [(.val (.int .i64 x))],.box [(.val (.int .i64 e))],.dead,.box [(.val (.int .i64 x)),(.val (.int .i64 e))]]):CDef CC 154 [.ptr 1 0,.ptr 2 0,.ptr 3 0] [.dead,.box (⟨[],[],[]⟩:Src).cells,.box [(.val (.int .i64 a0))],.box [(.val (.int .i64 e0))],.dead] true (faultV x e) K:=by
 refine z_274 ?_; refine cY (y_nenil rfl tt rfl Tryz.runUnderlying20 (.inr ⟨_,_,rfl⟩)) ?_; refine co_nil ?_; refine cC (fun h1=>?_) fun h1=>?_
 ·refine z_2 ?_; refine cY (y_tassert (xs:=[.int .i64 x,.int .i64 e]) rfl tt rfl t_61 rfl rfl) ?_; refine z_58 ?_;refine cD (d_alloc rfl Tryz.zeroValue195 rfl q_288 ?_);refine cD (d_store rfl tt tt rfl q_269 Tryz.sizeOf195 q_288 rfl rfl (nb rfl) ?_);refine z_62 ?_; refine z_32 ?_; refine cC (fun h2=>?_) fun h2=>?_
  ·cases h2
  ·refine cw_skip ?_; refine cw_float [0,1,2,3,4,5,6,7] 5 [0,0,2,0,8,1,39,127] [[1,2,3,4],[3,4],[]] (hd1l:=[0,1,2,3,4]) (tll:=[(5,[1,2,3,4]),(6,[3,4]),(7,[])]) q_289 q_289 rfl rfl rfl ?_; refine chf rfl q_43 ?_; refine chf rfl (hop_y rfl (y_field rfl tt rfl t_61 rfl t_1 de_)) ?_; refine chf rfl q_202 ?_; refine chf rfl (hop_y rfl q_142) ?_; refine chf rfl (hop_y rfl (y_load1 rfl tt rfl t_76 rfl rfl)) ?_; refine z_258 ?_;refine ⟨⟨(by exact hop_y rfl (y_field rfl tt rfl t_61 rfl t_1 de_)),q_176,(by exact hop_y rfl q_142),q_171,tt⟩,?_⟩;refine ctl_d rfl rfl (d_store rfl tt tt rfl q_269 t_1 (.inl rfl) rfl rfl (nb rfl) ?_);refine ⟨⟨(by exact hop_y rfl q_142),q_171,tt⟩,?_⟩;refine z_255 ?_;exact h
 ·cases h1
theorem so_Parse0 (s:Str) (hs:s.length<=1000000000000):CCalls CC 102 [(sv s)] [] fun r τ=>∃ x:SrcR,ClsR 0 τ r (.ret (srcC x))/\ParseP s x:=by
 refine ccalls_dead (ccalls_ofD Tryz.func102 rfl rfl ?_);show CBody _ _ _ _ _ [.dead];refine cb_seq ?_; refine cw_region ?_;refine cD (d_alloc rfl t_32 rfl q_288 ?_);refine cD (d_alloc rfl t_9 rfl (.inl rfl) ?_);refine cD (d_alloc rfl Tryz.zeroValue40 rfl (.inl rfl) ?_);refine co_nil ?_; refine cb_seq ?_; refine z_7 ?_;refine cD (d_callv rfl Tryz.call153 ⟨tt,tt⟩ (lx_Tokens s hs _) rfl ?_);rintro ⟨T,nn,at_,e⟩ hP;dsimp only at hP ⊢;refine z_58 ?_; refine cY q_266 ?_; refine cY q_236 ?_;refine cD (d_store rfl tt tt rfl q_269 t_1 (.inl rfl) rfl rfl (nb rfl) ?_);refine cD (d_store rfl tt tt rfl q_269 t_97 (.inl rfl) rfl rfl (nb rfl) ?_);refine co_nil ?_; refine cb_seq ?_; refine z_0 ?_; refine cY (y_load1 rfl tt rfl t_76 rfl rfl) ?_; refine z_12 ?_; refine cC (fun h1=>?_) fun h1=>?_
 ·have he:e≠0:=by simpa using h1
  have hl:lexS s=none:=by
   rcases hP with ⟨_,_,_,g⟩ | ⟨g,_⟩
   ·exact absurd g he
   ·exact g
  refine cw_seq ?_; refine cw_float [0,1,2,3,4,5] 3 [0,0,0,1,11,31] [[1,2],[2],[]] (hd1l:=[0,1,2]) (tll:=[(3,[1,2]),(4,[2]),(5,[])]) q_289 q_289 rfl rfl rfl ?_; refine chf rfl q_43 ?_; refine chf rfl q_202 ?_; refine chf rfl (hop_y rfl (y_load1 rfl tt rfl t_76 rfl rfl)) ?_; refine z_258 ?_;refine ⟨⟨q_176,q_171,tt⟩,?_⟩;refine ctl_d rfl rfl (d_store rfl tt tt rfl q_269 t_1 (.inl rfl) rfl rfl (nb rfl) ?_);refine ⟨⟨q_171,tt⟩,?_⟩;refine z_255 ?_; refine cw_ret ?_;exact ⟨_,res_all (rs:=[.cell 2 67,.cell 3 3,.cell 4 40]) (cs:=[_,_,_]) rfl q_23 (n_2 rfl),⟨((⟨[],[],[]⟩:Src),at_,e),q_51,.inr ⟨by rw [parseS,hl]; rfl,rfl,he⟩⟩⟩
 ·have he:e=0:=by simpa using h1
  obtain ⟨hl,rfl,rfl⟩:lexS s=some T/\nn=true/\at_=0:=by
   rcases hP with ⟨g1,g2,g3,_⟩ | ⟨_,_,_,g⟩
   ·exact ⟨g1,g2,g3⟩
   ·exact absurd he g
  subst he;obtain ⟨hc,h0⟩:=lexS_ctx hl;have hsp:parseS s=pFile T:=by rw [parseS,hl]; rfl
  refine cw_skip ?_;refine cb_defer rfl rfl rfl rfl rfl de_ rfl rfl Tryz.call154 q_286 (fun ds=>?_);refine cwD_seq ?_; refine cwD_region ?_; refine cY q_246 ?_; refine cY (y_build' #[(0,1),(1,1),(2,1),(3,1)] rfl ⟨tt,tt⟩ t_62 Tryz.zeroValue199 rfl ⟨_,rfl⟩ (fun w=>by kernel_rfl) rfl rfl) ?_;refine cD (d_box rfl tt q_269 q_288 ?_);refine z_1 ?_; refine cwD_seq ?_; refine cwD_region ?_; refine cY q_246 ?_;refine cD (d_callx rfl Tryz.call155 ⟨tt,tt⟩ (so_file hc h0 (q:=4) (s:=0) ⟨rfl,rfl,n_2 rfl⟩) rfl (fun x hx=>so_Parse1b _ _ _ _ ⟨_,res_all (rs:=[.cell 2 67,.cell 3 3,.cell 4 40]) (cs:=[_,_,_]) rfl q_23 (n_2 rfl),⟨((⟨[],[],[]⟩:Src),x.1,x.2),q_51,.inr ⟨by rw [hsp]; exact hx.1,rfl,hx.2⟩⟩⟩) ?_);rintro ⟨x,m,ps,b⟩ g1;dsimp only at g1 ⊢;refine cD (d_store rfl tt tt rfl q_269 t_47 q_288 rfl rfl (nb rfl) ?_);refine cD (d_store rfl tt rfl rfl q_269 t_1 (.inl rfl) rfl rfl (nb rfl) ?_);refine cD (d_store rfl tt rfl rfl q_269 t_97 (.inl rfl) rfl rfl (nb rfl) ?_);refine co_nil ?_; refine cwD_ret ?_;exact so_Parse1a ⟨_,res_all (rs:=[.cell 2 67,.cell 3 3,.cell 4 40]) (cs:=[_,_,_]) rfl q_23 (n_2 rfl),⟨(x,0,0),(by exact .ret (.tups ⟨.old (c:=.agg (x).cells) (pure_agg (Src.pure _)).old,.old (.val _),.old (.val _),tt⟩)),.inl ⟨by rw [hsp]; exact g1,rfl,rfl⟩⟩⟩
theorem so_Parse (s:Str) (hs:s.length<=1000000000000) (σ:List CObj):CCalls CC 102 [(sv s)] σ fun r τ=>∃ x:SrcR,r = .ret (srcC x)/\τ=σ/\ParseP s x :=
 ccalls_any (res:=fun x=>.ret (srcC x)) hCC (fun c hc=>by simp at hc; subst hc; exact .val _) (so_Parse0 s hs) (fun x _=>pure_tup ⟨pure_agg x.1.pure,.val _,.val _,tt⟩) σ
structure Fi where
 p:Str
 b:Str
deriving DecidableEq
variable {b:List Ex} {fl:List Fi}
abbrev Fi.cells (x:Fi):List CV:=[sv x.p,sv x.b]
def Fi.cv (x:Fi):List CV:=x.cells
theorem Fi.pure (x:Fi):Pures x.cells:=⟨.val _,.val _,tt⟩
theorem pure_fis (l:List Fi) (nn:Bool):Pure (.list (l.map Fi.cv) nn none):=pure_rows (f:=Fi.cv) Fi.pure l nn
theorem old_fis (n:Nat) (l:List Fi) (nn:Bool):Old n (.list (l.map Fi.cv) nn none):=(pure_fis l nn).old
abbrev revC (l:List Fi) (nn:Bool):List CV:=[.list (l.map Fi.cv) nn none]
structure Va where
 n:Str
 v:Int
deriving DecidableEq
variable {n:Nat}
abbrev Va.cells (x:Va):List CV:=[sv x.n,.val (.int .i64 x.v)]
def Va.cv (x:Va):List CV:=x.cells
theorem Va.pure (x:Va):Pures x.cells:=⟨.val _,.val _,tt⟩
theorem pure_vas (l:List Va) (nn:Bool):Pure (.list (l.map Va.cv) nn none):=pure_rows (f:=Va.cv) Va.pure l nn
theorem old_vas (n:Nat) (l:List Va) (nn:Bool):Old n (.list (l.map Va.cv) nn none):=(pure_vas l nn).old
abbrev envC (l:List Va) (nn:Bool):List CV:=[.list (l.map Va.cv) nn none]
def prv {α:Type} (l:List α) (i:Nat):Option α:=if i=0 then none else l[i - 1]?
theorem prv_succ {x:α} (h:l[i]? = some x):prv l (i+1)=some x:=by unfold prv; simp [h]
theorem prv_any {p:α} (hp:0 < i->l[i - 1]? = some p) (q:α->Bool):(prv l i).any q=(decide ((i:Int) > 0) && q p):=by
 unfold prv;by_cases h:i=0
 ·subst h; rfl
 ·rw [if_neg h,hp om_];have:decide ((i:Int) > 0)=true:=n_40 om_;rw [this]; rfl
theorem prv_ex (hi:i < l.length):∃ p,0 < i->l[((i:Int) - 1).toNat]? = some p/\l[i - 1]? = some p:=by
 refine ⟨l[i - 1]'om_,fun h0=>?_⟩;rw [show ((i:Int) - 1).toNat=i - 1 by omega];simp
def rvStep (pv:Option Fi) (f:Fi):Int:=if pathB f.p=false then 6 else if (pv.any fun g=>decide (f.p=g.p))=true then 10 else if (pv.any fun g=>Op.bytesLess f.p g.p)=true then 6 else if 16384 < f.b.length then 2 else 0
def rvE:Option Fi->List Fi->Int
 | _,[]=>0
 | pv,f::l=>if rvStep pv f=0 then rvE (some f) l else rvStep pv f
def revE (l:List Fi):Int:=if 64 < l.length then 2 else rvE none l
theorem rvE_step {l:List Fi} {f:Fi} (h:l[i]? = some f):rvE (prv l i) (l.drop i)=if rvStep (prv l i) f=0 then rvE (prv l (i+1)) (l.drop (i+1)) else rvStep (prv l i) f:=by
 obtain ⟨hlt,rfl⟩:=n_1.1 h;rw [prv_succ h,n_25 hlt,rvE]
def evStep (pv:Option Va) (v:Va):Bool:=nameB v.n && (decide (-9007199254740992<=v.v) && decide (v.v<=9007199254740992)) && !(pv.any fun g=>Op.bytesLess v.n g.n || decide (v.n=g.n))
def evB:Option Va->List Va->Bool
 | _,[]=>true
 | pv,v::l=>evStep pv v && evB (some v) l
def envB (l:List Va):Bool:=decide (l.length<=16) && evB none l
theorem evB_step {l:List Va} {v:Va} (h:l[i]? = some v):evB (prv l i) (l.drop i)=(evStep (prv l i) v && evB (prv l (i+1)) (l.drop (i+1))):=by
 obtain ⟨hlt,rfl⟩:=n_1.1 h;rw [prv_succ h,n_25 hlt,evB]
def srcPB (s:Str):Bool:=pathB s && (decide ((s.length:Int) > 4) && sufB [46,115,114,99] s)
theorem rv_Check_s (l:List Fi) (nn:Bool) (hl:∀ f∈l,f.p.length<=1000000000) (σ:List CObj):CCalls CC 100 [.agg (revC l nn)] σ fun r σ'=>r = .ret (.val (.int .i64 (revE l)))/\σ'=σ:=by
 refine CCalls.anyw hCC pu_ pu_ ?_ σ;refine ccalls_val (ccalls_of Tryz.func100 rfl rfl ?_);refine z_209 ?_; refine z_95 ?_; refine z_12 ?_; refine cC (fun h1=>?_) fun h1=>?_
 ·have hlen:64 < l.length:=by simp at h1; omega
  exact z_211
 ·have hlen:¬ 64 < l.length:=by simp at h1; omega
  refine z_230 ?_; refine z_139 ?_; refine cw_loopd hCC (α:=Nat) (fun i=>[(1,.ptr 0 0),(10,(.list (l.map Fi.cv) nn none)),(11,(.val (.int .i64 (l.length:Int)))),(12,(.val (.int .i64 (i:Int))))]) (fun _=>[.box (revC l nn)]) (fun i=>i<=l.length/\revE l=rvE (prv l i) (l.drop i)) (fun i=>l.length - i) 0 ⟨n_3 _,by rw [revE,if_neg hlen]; rfl⟩ tu_ (extra0:=[]) rfl q_273 uz_ ?_; intro i ⟨hi,hr⟩; refine z_28 ?_; refine cC (fun h2=>?_) fun h2=>?_
  ·have hlt:(i:Int) < l.length:=by simpa using h2
   obtain ⟨y,hb⟩:∃ y,l[i]? = some y:=⟨l[i]'om_,si_⟩;obtain ⟨p,hp⟩:=prv_ex (l:=l) (i:=i) om_;have hpp:0 < i->l[i - 1]? = some p:=fun h=>(hp h).2;have hpl:=hl y (n_0 hb);rw [rvE_step hb] at hr;refine z_113 ?_; refine z_104 ?_;refine cD (d_alloc rfl t_17 rfl q_288 ?_);refine z_278 ?_; refine z_13 ?_; refine z_0 ?_; refine z_44 ?_; refine cY (y_callf rfl t_60 ⟨tt,tt⟩ (lx_Path_s y.p hpl _) rfl) ?_; refine cY q_280 ?_; refine z_1 ?_; refine cC (fun h3=>?_) fun h3=>?_
   ·have u3:pathB y.p=false:=by simpa using h3
    have us:rvStep (prv l i) y=6:=by rw [rvStep,if_pos u3]
    rw [us] at hr;exact z_37
   ·have u3:¬ pathB y.p=false:=by simpa using h3
    refine cw_seq ?_; refine z_221 ?_; refine hY q_255 ?_; refine hY q_246 ?_; refine z_133 ?_; refine z_134 ?_; refine z_216 ?_; refine z_135 ?_; refine ch_g rfl rfl tt rfl q_204 ?_; refine hY q_196 ?_; refine hY q_236 ?_; refine z_79 ?_; refine cC (fun h4=>?_) fun h4=>?_
    ·have u4:((prv l i).any fun g=>decide (y.p=g.p))=true:=by rw [prv_any hpp]; exact h4
     have us:rvStep (prv l i) y=10:=by rw [rvStep,if_neg u3,if_pos u4]
     rw [us] at hr;exact z_37
    ·have u4:¬ ((prv l i).any fun g=>decide (y.p=g.p))=true:=by rw [prv_any hpp]; simpa using h4
     refine cw_seq ?_; refine z_221 ?_; refine hY q_255 ?_; refine hY q_246 ?_; refine z_133 ?_; refine z_134 ?_; refine z_216 ?_; refine z_135 ?_; refine z_275 ?_; refine hY q_236 ?_; refine z_79 ?_; refine cC (fun h5=>?_) fun h5=>?_
     ·have u5:((prv l i).any fun g=>Op.bytesLess y.p g.p)=true:=by rw [prv_any hpp]; exact h5
      have us:rvStep (prv l i) y=6:=by rw [rvStep,if_neg u3,if_neg u4,if_pos u5]
      rw [us] at hr;exact z_37
     ·have u5:¬ ((prv l i).any fun g=>Op.bytesLess y.p g.p)=true:=by rw [prv_any hpp]; simpa using h5
      refine z_0 ?_; refine z_44 ?_; refine cY q_242 ?_; refine z_18 ?_; refine cC (fun h6=>?_) fun h6=>?_
      ·have u6:16384 < y.b.length:=by simp at h6; omega
       have us:rvStep (prv l i) y=2:=by rw [rvStep,if_neg u3,if_neg u4,if_neg u5,if_pos u6]
       rw [us] at hr;exact z_37
      ·have u6:¬ 16384 < y.b.length:=by simp at h6; omega
       have us:rvStep (prv l i) y=0:=by rw [rvStep,if_neg u3,if_neg u4,if_neg u5,if_neg u6]
       rw [us,if_pos rfl] at hr;exact z_53
  ·exact z_256
theorem step_eq (a b c d e:Bool):(a && b && !(c && (d || e))) = !((!a || !b) || (c && (d || e))):=by cases a <;> cases b <;> cases c <;> cases d <;> cases e <;> rfl
theorem srcPB_eq (s:Str):((pathB s && decide ((s.length:Int) > 4)) && sufB [46,115,114,99] s)=srcPB s:=by rw [srcPB,Bool.and_assoc]
theorem rv_IsSource_s (s:Str) (hs:s.length<=1000000000) (σ:List CObj):CCalls CC 101 [(sv s)] σ fun r σ'=>r = .ret (.val (.bool (srcPB s)))/\σ'=σ:=by
 refine CCalls.anyw hCC pu_ pu_ ?_ σ;refine ccalls_val (ccalls_of Tryz.func101 rfl rfl ?_);refine z_66 ?_; refine cY (y_callf rfl t_60 ⟨tt,tt⟩ (lx_Path_s s hs _) rfl) ?_; refine z_22 ?_; refine cG q_210 ?_; refine z_31 ?_; refine z_22 ?_; refine cG (fun hg=>y_callf rfl Tryz.call152 ⟨hg,rfl,tt⟩ (strings_HasSuffix_s s _ om_ de_ _) rfl) ?_; refine z_72 ?_;exact ⟨_,res1 rfl tt q_269,_,_,rfl,rfl,cls_bool (srcPB_eq _)⟩
theorem ev_within_s (v:Int) (σ:List CObj):CCalls CC 104 [(.val (.int .i64 v))] σ fun r σ'=>r = .ret (.val (.bool (decide (-9007199254740992<=v) && decide (v<=9007199254740992))))/\σ'=σ:=by
 refine CCalls.anyw hCC pu_ pu_ ?_ σ;refine ccalls_val (ccalls_of Tryz.func104 rfl rfl ?_);refine z_66 ?_; refine z_130 ?_; refine z_31 ?_;exact z_147
theorem ev_CheckEnvironment_s (l:List Va) (nn:Bool) (hl:∀ v∈l,v.n.length<=1000000000) (σ:List CObj):CCalls CC 57 [.agg (envC l nn)] σ fun r σ'=>r = .ret (.val (.bool (envB l)))/\σ'=σ:=by
 refine CCalls.anyw hCC pu_ pu_ ?_ σ;refine ccalls_val (ccalls_of Tryz.func57 rfl rfl ?_);refine z_209 ?_; refine cY q_155 ?_; refine cY q_235 ?_; refine cY q_106 ?_; refine z_12 ?_; refine cC (fun h1=>?_) fun h1=>?_
 ·have hlen:¬ l.length<=16:=by simp at h1; omega
  refine z_19 ?_;exact ⟨_,res1 rfl tt q_269,_,_,rfl,rfl,cls_bool (by rw [envB,n_57 hlen]; rfl)⟩
 ·have hlen:l.length<=16:=by simp at h1; omega
  refine z_230 ?_; refine cY q_155 ?_; refine cY q_235 ?_; refine cY q_106 ?_; refine z_24 ?_; refine cw_loopd hCC (α:=Nat) (fun i=>[(1,.ptr 0 0),(10,(.list (l.map Va.cv) nn none)),(11,(.val (.int .i64 (l.length:Int)))),(12,(.val (.int .i64 (i:Int))))]) (fun _=>[.box (envC l nn)]) (fun i=>i<=l.length/\envB l=evB (prv l i) (l.drop i)) (fun i=>l.length - i) 0 ⟨n_3 _,by rw [envB,n_40 hlen]; rfl⟩ tu_ (extra0:=[]) rfl q_273 uz_ ?_; intro i ⟨hi,hr⟩; refine z_28 ?_; refine cC (fun h2=>?_) fun h2=>?_
  ·have hlt:(i:Int) < l.length:=by simpa using h2
   obtain ⟨y,hb⟩:∃ y,l[i]? = some y:=⟨l[i]'om_,si_⟩;obtain ⟨p,hp⟩:=prv_ex (l:=l) (i:=i) om_;have hpp:0 < i->l[i - 1]? = some p:=fun h=>(hp h).2;have hpl:=hl y (n_0 hb);rw [evB_step hb] at hr;refine z_113 ?_; refine cY q_92 ?_; refine cY q_189 ?_;refine cD (d_alloc rfl Tryz.zeroValue129 rfl q_288 ?_);refine cY q_236 ?_;refine cD (d_store rfl tt tt rfl q_269 t_77 q_288 rfl rfl (nb rfl) ?_);refine z_8 ?_; refine cw_draw 26 [0,1,3,7,15,31,63,127,255,511,1023,2047,4095,8191,16383,32767,16383,81919,16383,278527,999423,2047999,4145151,8388607,16777215,33554431] q_289 q_289 rfl ?_; refine hY q_158 ?_; refine hY q_237 ?_; refine hY (y_callf rfl t_59 ⟨tt,tt⟩ (lx_Name_s y.n om_ _) rfl) ?_; refine hY q_280 ?_; refine hY q_246 ?_; refine ch_g rfl rfl tt rfl (fun hg=>y_field rfl tt rfl t_78 rfl t_1 de_) ?_; refine ch_g rfl rfl tt rfl q_208 ?_; refine ch_g rfl rfl tt rfl (fun hg=>y_callf rfl Tryz.call104 ⟨hg,tt⟩ (ev_within_s y.v _) rfl) ?_; refine ch_g rfl rfl tt rfl (fun hg=>y_not rfl hg rfl) ?_; refine hY q_199 ?_; refine hY q_246 ?_; refine ch_g rfl rfl tt rfl q_212 ?_; refine ch_g rfl rfl tt rfl q_239 ?_; refine ch_g rfl rfl tt rfl (fun hg=>y_move rfl hg q_269) ?_; refine ch_g2 rfl rfl (fun h=>h) rfl (fun hk hg=>y_field rfl tt rfl t_78 rfl t_0 de_) ?_; refine ch_g2 rfl rfl (fun h=>h) rfl (fun hk hg=>y_load1 rfl ⟨hk,hg⟩ rfl t_10 rfl rfl) ?_; refine ch_g2 rfl rfl (fun h=>h) rfl (fun hk hg=>y_field rfl tt rfl t_121 rfl Tryz.sizeOf23 de_) ?_; refine ch_g2 rfl rfl (fun h=>h) rfl (fun hk hg=>y_load1 rfl ⟨hk,hg⟩ rfl Tryz.isAgg23 rfl rfl) ?_; refine ch_g2 rfl rfl (fun h=>h) rfl (fun hk hg=>y_move rfl tt q_269) ?_; refine ch_g2 rfl rfl (fun h=>h) rfl (fun hk hg=>y_sub rfl ⟨hk,hg⟩ rfl rfl rfl q_76 q_76) ?_; refine ch_g2 rfl rfl (fun h=>h) rfl (fun hk hg=>y_index rfl ⟨hk,hg⟩ ⟨hk,hg⟩ rfl rfl t_122 t_77 q_76 (rows_get (hp (by change (_:Bool)=_ at hk; simp at hk hg; omega)).1) rfl) ?_; refine ch_g2 rfl rfl (fun h=>h) rfl (fun hk hg=>y_field_c rfl ⟨hk,hg⟩ rfl t_78 rfl t_0 de_) ?_; refine ch_g2 rfl rfl (fun h=>h) rfl (fun hk hg=>y_load_c1 rfl ⟨hk,hg⟩ rfl t_10 rfl) ?_; refine ch_g2 rfl rfl (fun h=>h) rfl (fun hk hg=>y_scmp rfl ⟨hk,hg⟩ ⟨hk,hg⟩ rfl rfl (cstr_leq _ _)) ?_;refine ch_g rfl rfl tt rfl (fun hg=>y_pick_and rfl hg rfl (fun hp=>⟨hg,hp⟩) q_291) ?_; refine hY q_199 ?_; refine z_79 ?_; refine cC (fun h3=>?_) fun h3=>?_
   ·have u3:evStep (prv l i) y=false:=by rw [evStep,prv_any hpp,step_eq]; rw [h3]; rfl
    rw [u3,Bool.false_and] at hr;refine z_19 ?_;exact ⟨_,res1 rfl tt q_269,_,_,rfl,rfl,cls_bool hr.symm⟩
   ·have u3:evStep (prv l i) y=true:=by rw [evStep,prv_any hpp,step_eq]; rw [h3]; rfl
    rw [u3,n_97] at hr;exact z_53
  ·refine z_178 ?_;exact ⟨_,res1 rfl tt q_269,_,_,rfl,rfl,cls_bool q_144⟩
def varF (l:List Va) (s:Str):Option Int:=(l.find? fun v=>decide (v.n=s)).map Va.v
theorem varF_step {l:List Va} {v:Va} (h:l[i]? = some v) (s:Str):varF (l.drop i) s=if v.n=s then some v.v else varF (l.drop (i+1)) s:=by
 obtain ⟨hlt,rfl⟩:=n_1.1 h;rw [n_25 hlt];unfold varF;rw [List.find?_cons];by_cases hh:l[i].n=s
 ·simp [hh]
 ·simp [hh]
theorem ev_Variable_s (l:List Va) (nn:Bool) (s:Str) (hl:l.length<=1000000000) (σ:List CObj):CCalls CC 112 [.agg (envC l nn),(sv s)] σ fun r σ'=>r = .ret (.tup [(.val (.int .i64 ((varF l s).getD 0))),(.val (.bool ((varF l s).isSome)))])/\σ'=σ:=by
 refine CCalls.anyw hCC pu_ pu_ ?_ σ;refine ccalls_val (ccalls_of Tryz.func112 rfl rfl ?_);refine z_10 ?_; refine z_83 ?_; refine z_42 ?_; refine cY q_155 ?_; refine cY q_235 ?_; refine cY q_106 ?_; refine z_24 ?_; refine cw_loopd hCC (α:=Nat) (fun i=>[(1,(sv s)),(9,(.list (l.map Va.cv) nn none)),(10,(.val (.int .i64 (l.length:Int)))),(11,(.val (.int .i64 (i:Int))))]) (fun _=>[.box (envC l nn)]) (fun i=>i<=l.length/\varF l s=varF (l.drop i) s) (fun i=>l.length - i) 0 ⟨n_3 _,rfl⟩ tu_ (extra0:=[]) rfl q_273 uz_ ?_; intro i ⟨hi,hr⟩; refine z_28 ?_; refine cC (fun h1=>?_) fun h1=>?_
 ·have hlt:(i:Int) < l.length:=by simpa using h1
  obtain ⟨y,hb⟩:∃ y,l[i]? = some y:=⟨l[i]'om_,si_⟩;rw [varF_step hb] at hr;refine z_41 ?_; refine cY q_92 ?_; refine cY q_189 ?_; refine z_199 ?_; refine z_48 ?_; refine cY q_158 ?_; refine cY q_237 ?_; refine cY q_246 ?_; refine z_264 ?_; refine cC (fun h2=>?_) fun h2=>?_
  ·have u2:y.n=s:=by simpa using h2
   rw [if_pos u2] at hr;refine z_0 ?_; refine cY (y_field rfl tt rfl t_78 rfl t_1 de_) ?_; refine cY q_238 ?_; refine z_109 ?_;exact ⟨_,res_all (rs:=[.tmp 4,.tmp 5]) (cs:=[_,_]) rfl q_138 (n_2 rfl),_,_,rfl,rfl,(by rw [hr]; exact .tups ⟨.old (.val _),.old (.val _),tt⟩)⟩
  ·have u2:¬ y.n=s:=by simpa using h2
   rw [if_neg u2] at hr;exact z_53
 ·have hge:l.length<=i:=by simp at h1; omega
  rw [n_34 hge] at hr;refine z_90 ?_; refine z_166 ?_;exact ⟨_,res_all (rs:=[.tmp 4,.tmp 5]) (cs:=[_,_]) rfl q_138 (n_2 rfl),_,_,rfl,rfl,(by rw [hr]; exact .tups ⟨.old (.val _),.old (.val _),tt⟩)⟩
structure Nm where
 k:Int
 p:Str
 o:Str
deriving DecidableEq
abbrev Nm.cells (x:Nm):List CV:=[.val (.int .i64 x.k),sv x.p,sv x.o]
def Nm.kc (x:Nm):CV:=.agg x.cells
variable {kc:α->CV}
def Nm.kv (x:Nm):Value:=.agg #[.int .i64 x.k,.string (str x.p),.string (str x.o)]
theorem Nm.pure (x:Nm):Pure x.kc:=pure_agg ⟨.val _,.val _,.val _,tt⟩
def keyNm (k:Int) (p o:Str):Nm:=⟨k,if k=3 then [] else p,o⟩
theorem eq_nm (x y:Nm):∀ w,(Op.equal 175 x.kv y.kv).run CC.P w = .ok (decide (x=y)) w:=by
 intro w;show (Op.equal _ _ _).run Tryz.prog w=_;simp [Op.equal,Op.maxDepth,go_sem,Nm.kv,str_toList];obtain ⟨a,b,c⟩:=x;obtain ⟨a',b',c'⟩:=y;by_cases h1:a=a' <;> by_cases h2:b=b' <;> by_cases h3:c=c' <;> simp [h1,h2,h3]
theorem rv_nm {M:Plan} {w:World} {x:Nm} {v:Value} (h:RV M w x.kc v):v=x.kv:=rv_plain (l:=[.int .i64 x.k,.string (str x.p),.string (str x.o)]) h
theorem rv_nm' {M:Plan} {w:World} (x:Nm):RV M w x.kc x.kv:=by
 refine .agg rfl (fun c hc=>?_) fun i c hc=>?_
 ·simp at hc
  rcases hc with rfl | rfl | rfl <;> rfl
 ·rcases i with _ | _ | _ | i
  ·injection hc with hc; subst hc; exact .val _
  ·injection hc with hc; subst hc; exact .val _
  ·injection hc with hc; subst hc; exact .val _
  ·cases hc
theorem keyNm_ok:KeyOk (α:=Nm) CC.P 175 Nm.kc Nm.kv where
 rv _ _ _ _ h:=rv_nm h
 rv' _ _ a:=rv_nm' a
 check b a w:=by
  have:∀ n,(Instr.checkKey b (n+2) 175 a.kv).run Tryz.prog w = .ok () w:=fun n=>by simp [Instr.checkKey,Nm.kv,go_sem]
  exact this 9998
 eq a b w:=eq_nm a b w
 now:=⟨_,t_123,fun a b=>rfl⟩
 bits a:=by
  have:∀ n,Instr.sameBits (n+2) a.kv a.kv=true:=fun n=>by simp [Instr.sameBits,Nm.kv,beq_str]
  exact this 9998
theorem keyN:KeyFind (α:=Nm) CC.P 175 Nm.kc Nm.kv:=keyNm_ok.find
theorem wo_key_s (k:Int) (p o:Str) (σ:List CObj):CCalls CC 133 [(.val (.int .i64 k)),(sv p),(sv o)] σ fun r σ'=>r = .ret (.agg (keyNm k p o).cells)/\σ'=σ:=by
 refine CCalls.anyw hCC pu_ pu_ ?_ σ;refine ccalls_val (ccalls_of Tryz.func133 rfl rfl ?_);refine z_0 ?_;refine cD (d_alloc rfl t_124 rfl q_288 ?_);refine z_158 ?_; refine z_12 ?_; refine cC (fun h1=>?_) fun h1=>?_
 ·have u1:k=3:=by simpa using h1
  refine cw_region ?_; refine z_3 ?_; refine z_49 ?_; refine z_279 ?_; refine z_282 ?_;exact ⟨_,res_one rfl ⟨tt,_,_,_,rfl,rfl,.inr ⟨_,t_125,t_79,nb rfl,rfl⟩⟩,_,_,rfl,rfl,(by rw [keyNm,if_pos u1]; exact .old ((Nm.pure ⟨k,[],o⟩).old))⟩
 ·have u1:¬ k=3:=by simpa using h1
  refine z_149 ?_; refine z_279 ?_; refine z_282 ?_;exact ⟨_,res_one rfl ⟨tt,_,_,_,rfl,rfl,.inr ⟨_,t_125,t_79,nb rfl,rfl⟩⟩,_,_,rfl,rfl,(by rw [keyNm,if_neg u1]; exact .old ((Nm.pure ⟨k,p,o⟩).old))⟩
structure En where
 p:Str
 o:Str
 k:Int
 pl:Str
 ix:Int
 ct:Int
deriving DecidableEq
variable {k:Int}
abbrev En.cells (x:En):List CV:=[sv x.p,sv x.o,.val (.int .i64 x.k),sv x.pl,.val (.int .i64 x.ix),.val (.int .i64 x.ct)]
abbrev En.z:En:=⟨[],[],0,[],0,0⟩
theorem En.pure (x:En):Pure (.agg x.cells):=pure_agg ⟨.val _,.val _,.val _,.val _,.val _,.val _,tt⟩
def vcE (x:En):CV:=.agg x.cells
def vcS (x:Src):CV:=.agg x.cells
abbrev Src.z:Src:=⟨[],[],[]⟩
variable {z:Bool}
theorem pure_vcS (x:Src):Pure (vcS x):=pure_agg x.pure
theorem lk_dflt {z:Value} (d:β) (hd:cvOf z=vc d) (o:Option β):(o.map vc).getD (cvOf z)=vc (o.getD d):=by cases o <;> simp [hd]
theorem old_gm (hk:∀ a,Pure (kc a)) (hv:∀ b,Pure (vc b)) (n:Nat) (l:List (α × β)):OldObj n (.map (gm kc vc l)):=fun x hx=>by
 obtain ⟨y,_,rfl⟩:=n_9.1 hx;exact ⟨(hk _).old,(hv _).old⟩
theorem ren_gm (hk:∀ a,Pure (kc a)) (hv:∀ b,Pure (vc b)) (l:List (α × β)):RenRO R (.map (gm kc vc l)) (.map (gm kc vc l)):=.map ⟨rfl,fun i x x' h h'=>by
 rw [h] at h'; injection h' with h'; subst h'
 obtain ⟨y,_,rfl⟩:=n_9.1 (n_0 h);exact ⟨.pure (hk _),.pure (hv _)⟩⟩
abbrev SM:=List (Str × Src)
variable {ms:SM}
abbrev EM:=List (Nm × En)
variable {me:EM}
abbrev smO (m:SM):CObj:=.map (gm sv vcS m)
abbrev emO (m:EM):CObj:=.map (gm Nm.kc vcE m)
theorem pure_sv (s:Str):Pure (sv s):=.val _
abbrev wbx (fl:List Fi) (nn va:Bool) (br:List Str) (q1 q2 t:Nat):CObj:=.box [.list (fl.map Fi.cv) nn none,.val (.bool va),.map q1,.list (br.map scv) (gnn br.length) (gtok br.length t),.map q2]
abbrev wst (fl:List Fi) (nn va:Bool) (br:List Str) (ms:SM) (me:EM):List CObj:=[wbx fl nn va br 1 2 3,smO ms,emO me,gobj br.length]
structure WAt (σ:List CObj) (w q1 q2 t:Nat) (fl:List Fi) (nn va:Bool) (br:List Str) (ms:SM) (me:EM):Prop where
 hw:σ[w]? = some (wbx fl nn va br q1 q2 t)
 hs:σ[q1]? = some (smO ms)
 he:σ[q2]? = some (emO me)
 ht:σ[t]? = some (gobj br.length)
 nd:nodupN [w,q1,q2,t]
theorem nodup4 {b c d:Nat} (h:a≠b/\a≠c/\a≠d/\b≠c/\b≠d/\c≠d):nodupN [a,b,c,d]:=fun i j k h1 h2=>by
 obtain ⟨h3,h4,h5,h6,h7,h8⟩:=h
 rcases i with _ | _ | _ | _ | i <;> rcases j with _ | _ | _ | _ | j <;> simp at h1 h2 <;> omega
theorem ren_wbx {t p1 p2 u:Nat} (h1:R q1 p1) (h2:R q2 p2) (h3:R t u):RenRO R (wbx fl nn va br q1 q2 t) (wbx fl nn va br p1 p2 u) :=
 .box (.cons (.pure (pure_fis _ _)) (.cons (.pure (.val _)) (.cons (.map h1) (.cons (by
  refine .list rfl (fun i r r' h1 h2=>by rw [h1] at h2; injection h2 with h2; rw [h2]) (fun i j r r' c c' h1 h2 h3 h4=>?_) ?_
  ·rw [h1] at h2; injection h2 with h2; subst h2; rw [h3] at h4; injection h4 with h4; subst h4
   obtain ⟨y,_,rfl⟩:=n_9.1 (n_0 h1);have hm:=n_0 h3;simp [scv] at hm;subst hm;exact .pure (.val _)
  ·cases hb:br.length with
   | zero=>exact .inl ⟨rfl,rfl⟩
   | succ m=>exact .inr ⟨t,u,rfl,rfl,h3⟩) (.cons (.map h2) .nil)))))
theorem old_wbx {t:Nat} (h1:q1 < L) (h2:q2 < L) (h3:t < L):OldObj L (wbx fl nn va br q1 q2 t):=old_box ⟨old_fis _ _ _,.val _,.map h1,.list (fun i j r c h h'=>by
 obtain ⟨y,_,rfl⟩:=n_9.1 (n_0 h);have hm:=n_0 h';simp [scv] at hm;subst hm;exact .val _) (fun k hk=>by
  cases hb:br.length with
  | zero=>rw [hb] at hk; cases hk
  | succ m=>rw [hb] at hk; injection hk with hk; omega),.map h2,tt⟩
theorem old_smO (n:Nat) (m:SM):OldObj n (smO m):=old_gm pure_sv pure_vcS n m
theorem old_emO (n:Nat) (m:EM):OldObj n (emO m):=old_gm Nm.pure En.pure n m
theorem fin_w (hτ:τ=wbx fl nn va br 1 2 3::smO ms::emO me::gobj br.length::rest) (hc:RenV 4 [0,1,2,3] c c'):FinR 4 τ (.ret c) (.ret c') (wst fl nn va br ms me):=by
 subst hτ;exact ⟨[0,1,2,3],rfl,rfl,.ret hc,.inr ⟨_,rfl,.same rfl q_270⟩,.inr ⟨_,rfl,.same rfl q_294⟩,.inr ⟨_,rfl,.same rfl q_295⟩,.inr ⟨_,rfl,.same rfl q_292⟩,tt⟩
theorem w_rel {w t:Nat} (h:WAt σ w q1 q2 t fl nn va br ms me):∀ (i k:Nat) (ob:CObj),[w,q1,q2,t][i]? = some k->(wst fl nn va br ms me)[i]? = some ob->∃ ob',[wbx fl nn va br q1 q2 t,smO ms,emO me,gobj br.length][i]? = some ob'/\σ[k]? = some ob'/\RenRO (fun i k=>[w,q1,q2,t][i]? = some k) ob ob':=fun i k ob h1 h2=>by
 rcases i with _ | _ | _ | _ | i
 ·injection h1 with h1; injection h2 with h2; subst h1 h2; exact ⟨_,rfl,h.hw,ren_wbx rfl rfl rfl⟩
 ·injection h1 with h1; injection h2 with h2; subst h1 h2; exact ⟨_,rfl,h.hs,ren_gm pure_sv pure_vcS _⟩
 ·injection h1 with h1; injection h2 with h2; subst h1 h2; exact ⟨_,rfl,h.he,ren_gm Nm.pure En.pure _⟩
 ·injection h1 with h1; injection h2 with h2; subst h1 h2; exact ⟨_,rfl,h.ht,ren_gobj _⟩
 ·cases h1
theorem w_ro {f:FuncId} {c:α->CV} (hargs:∀ a∈args,Pure a) (hc:∀ a,Pure (c a))
 (h:CCalls CC f (.ptr 0 0::args) (wst fl nn va br ms me) fun r τ=>∃ a,FinR 4 τ r (.ret (c a)) (wst fl nn va br ms me)/\P a) {σ:List CObj} {w q1 q2 t:Nat} (hσ:WAt σ w q1 q2 t fl nn va br ms me):CCalls CC f (.ptr w 0::args) σ fun r τ=>∃ a,r = .ret (c a)/\τ=σ/\P a :=
 ccalls_roN [w,q1,q2,t] hCC rfl hσ.nd (w_rel hσ) (.cons (.ptr rfl) (renL_pure hargs)) (fun a _=>hc a) (ccalls_ren hCC (h.mono fun _ _ ⟨a,h1,h2⟩=>⟨_,_,h1,a,rfl,rfl,h2⟩))
theorem w_ro1 {f:FuncId} (hargs:∀ a∈args,Pure a) (hc:Pure c)
 (h:CCalls CC f (.ptr 0 0::args) (wst fl nn va br ms me) fun r τ=>FinR 4 τ r (.ret c) (wst fl nn va br ms me)) {σ:List CObj} {w q1 q2 t:Nat} (hσ:WAt σ w q1 q2 t fl nn va br ms me):CCalls CC f (.ptr w 0::args) σ fun r τ=>r = .ret c/\τ=σ :=
 (w_ro (α:=Unit) (c:=fun _=>c) (P:=fun _=>True) hargs (fun _=>hc) (h.mono fun _ _ hh=>⟨(),hh,tt⟩) hσ).mono fun _ _ ⟨_,h1,h2,_⟩=>⟨h1,h2⟩
def addE (me:EM) (x:En):EM:=gput me (keyNm x.k x.p x.o) (match glk me (keyNm x.k x.p x.o) with | some f=>{ f with ct:=f.ct+1} | none=>x)
def findE (va:Bool) (me:EM) (k:Int) (p o:Str):En:=if va=true then (match glk me (keyNm k p o) with | some x=>x | none=>⟨(keyNm k p o).p,o,k,[],0,0⟩) else En.z
def dataF (fl:List Fi) (s:Str):Option Str:=(fl.find? fun f=>decide (f.p=s)).map Fi.b
theorem dataF_step {l:List Fi} {v:Fi} (h:l[i]? = some v) (s:Str):dataF (l.drop i) s=if v.p=s then some v.b else dataF (l.drop (i+1)) s:=by
 obtain ⟨hlt,rfl⟩:=n_1.1 h;rw [n_25 hlt];unfold dataF;rw [List.find?_cons];by_cases hh:l[i].p=s
 ·simp [hh]
 ·simp [hh]
theorem wo_count0 (fl:List Fi) (nn va:Bool) (br:List Str) (ms:SM) (me:EM) (x:En) (hct:∀ k e,glk me k=some e->0<=e.ct/\e.ct<=1000000):CCalls CC 103 [.ptr 0 0,.agg x.cells] (wst fl nn va br ms me) fun r τ=>FinR 4 τ r (.ret (.tup [])) (wst fl nn va br ms (addE me x)):=by
 refine (ccalls_of Tryz.func103 rfl rfl ?_);refine z_10 ?_; refine z_48 ?_; refine cY q_167 ?_; refine cY q_238 ?_; refine z_161 ?_; refine z_161 ?_; refine cY (y_callf rfl Tryz.call133 q_286 (wo_key_s x.k x.p x.o _) rfl) ?_; refine z_200 ?_; refine z_8 ?_; refine z_84 ?_; refine z_68 ?_; refine chf rfl (hop_y rfl q_134) ?_; refine chf rfl (hop_y rfl q_221) ?_; refine chf rfl (hop_y rfl q_175) ?_; refine chf rfl (hop_y rfl q_31) ?_; refine chf rfl q_206 ?_; refine chf rfl q_249 ?_; refine chf rfl q_249 ?_; refine chf_nil ?_;refine ctl_d rfl rfl (d_alloc rfl t_25 rfl q_288 ?_);refine ⟨⟨q_181,q_243,(by exact hop_y rfl q_134),(by exact hop_y rfl q_221),(by exact hop_y rfl q_175),(by exact hop_y rfl q_31),q_181,q_214,q_214,tt⟩,?_⟩;refine z_220 ?_; refine z_75 ?_; refine z_2 ?_; refine co_nil ?_; refine cC (fun h1=>?_) fun h1=>?_
 ·obtain ⟨e,he⟩:∃ e,glk me (keyNm x.k x.p x.o)=some e:=n_109.1 h1;have hle:=hct _ _ he;rw [he];have hle2:0<=((some e).getD En.z).ct/\((some e).getD En.z).ct<=1000000:=hle;refine z_0 ?_; refine cY q_186 ?_; refine z_74 ?_; refine cw_region ?_; refine cY q_167 ?_; refine z_97 ?_; refine cY q_167 ?_; refine z_25 ?_; refine cw_draw 6 [0,1,3,7,0,0,63] q_289 q_289 rfl ?_; refine z_36 ?_; refine hY q_134 ?_; refine hY q_221 ?_; refine hY q_175 ?_; refine hY q_186 ?_; refine ch_nil ?_;refine cD (d_mapUpdate_g (vc:=vcE) (l:=me) (a:=(keyNm x.k x.p x.o)) (b:={ e with ct:=e.ct+1}) keyN (.inl rfl) tt tt trivial rfl rfl rfl t_80 rfl ?_);refine co_nil ?_;exact ⟨_,res_all (rs:=[]) (cs:=[]) rfl tt (n_2 rfl),(by have ha:addE me x=gput me (keyNm x.k x.p x.o) { e with ct:=e.ct+1}:=(by rw [addE,he]); exact fin_w (by rw [ha]; rfl) (.old (Old.tup (fun i c h=>by cases h))))⟩
 ·have he:glk me (keyNm x.k x.p x.o)=none:=by simpa using h1
  refine cw_skip ?_; refine cw_draw 6 [0,1,3,7,0,0,63] q_289 q_289 rfl ?_; refine z_36 ?_; refine hY q_134 ?_; refine hY q_221 ?_; refine hY q_175 ?_; refine hY q_186 ?_; refine ch_nil ?_;refine cD (d_mapUpdate_g (vc:=vcE) (l:=me) (a:=(keyNm x.k x.p x.o)) (b:=x) keyN (.inl rfl) tt tt trivial rfl rfl rfl t_80 rfl ?_);refine co_nil ?_;exact ⟨_,res_all (rs:=[]) (cs:=[]) rfl tt (n_2 rfl),(by have ha:addE me x=gput me (keyNm x.k x.p x.o) x:=(by rw [addE,he]); exact fin_w (by rw [ha]; rfl) (.old (Old.tup (fun i c h=>by cases h))))⟩
theorem wo_Find0 (fl:List Fi) (nn va:Bool) (br:List Str) (ms:SM) (me:EM) (k:Int) (p o:Str):CCalls CC 90 [.ptr 0 0,(.val (.int .i64 k)),(sv p),(sv o)] (wst fl nn va br ms me) fun r τ=>FinR 4 τ r (.ret (.agg (findE va me k p o).cells)) (wst fl nn va br ms me):=by
 refine (ccalls_of Tryz.func90 rfl rfl ?_);refine z_0 ?_;refine cD (d_alloc rfl t_25 rfl q_288 ?_);refine z_8 ?_; refine z_132 ?_; refine z_206 ?_; refine z_32 ?_; refine cC (fun h1=>?_) fun h1=>?_
 ·have hv:va=false:=by simpa using h1
  refine z_0 ?_; refine cY (y_build' #[(0,1),(1,1),(2,1),(3,1),(4,1),(5,1)] rfl tt t_81 t_25 rfl ⟨_,rfl⟩ (fun w=>by kernel_rfl) rfl rfl) ?_; refine z_74 ?_; refine cw_ret ?_;exact ⟨_,res_one rfl q_114,(by rw [findE,if_neg (by rw [hv]; decide)]; exact fin_w rfl (.old (c:=.agg En.z.cells) (En.pure _).old))⟩
 ·have hv:va=true:=by simpa using h1
  refine z_149 ?_; refine cY (y_callf rfl Tryz.call133 q_286 (wo_key_s k p o _) rfl) ?_; refine z_200 ?_; refine z_8 ?_; refine z_84 ?_; refine z_68 ?_; refine chf rfl (hop_y rfl q_134) ?_; refine chf rfl (hop_y rfl q_221) ?_; refine chf rfl (hop_y rfl q_175) ?_; refine chf rfl (hop_y rfl q_35) ?_; refine chf rfl q_206 ?_; refine chf rfl q_249 ?_; refine chf rfl q_249 ?_; refine chf_nil ?_;refine ctl_d rfl rfl (d_alloc rfl t_25 rfl q_288 ?_);refine ⟨⟨q_181,q_243,(by exact hop_y rfl q_134),(by exact hop_y rfl q_221),(by exact hop_y rfl q_175),(by exact hop_y rfl q_35),q_181,q_214,q_214,tt⟩,?_⟩;refine z_220 ?_; refine z_75 ?_; refine z_2 ?_; refine co_nil ?_; refine cC (fun h2=>?_) fun h2=>?_
  ·obtain ⟨e,he⟩:∃ e,glk me (keyNm k p o)=some e:=n_109.1 h2;rw [he];refine z_0 ?_; refine cY q_186 ?_; refine z_74 ?_; refine cw_ret ?_;exact ⟨_,res_one rfl q_114,(by rw [findE,if_pos hv,he]; exact fin_w rfl (.old (c:=.agg e.cells) (En.pure _).old))⟩
  ·have he:glk me (keyNm k p o)=none:=by simpa using h2
   refine z_46 ?_; refine cY (y_field rfl tt rfl t_123 rfl t_0 de_) ?_; refine cY q_237 ?_; refine z_86 ?_; refine cY (y_build' #[(0,1),(1,1),(2,1),(3,1),(4,1),(5,1)] rfl q_286 t_81 t_25 rfl ⟨_,rfl⟩ (fun w=>by kernel_rfl) rfl rfl) ?_; refine z_74 ?_; refine cw_ret ?_;exact ⟨_,res_one rfl q_114,(by rw [findE,if_pos hv,he]; exact fin_w rfl (.old (c:=.agg (⟨(keyNm k p o).p,o,k,[],0,0⟩:En).cells) (En.pure _).old))⟩
theorem wo_Data0 (fl:List Fi) (nn va:Bool) (br:List Str) (ms:SM) (me:EM) (s:Str) (hfl:fl.length<=1000000):CCalls CC 110 [.ptr 0 0,(sv s)] (wst fl nn va br ms me) fun r τ=>FinR 4 τ r (.ret (.tup [sv ((dataF fl s).getD []),.val (.bool (dataF fl s).isSome)])) (wst fl nn va br ms me):=by
 refine (ccalls_of Tryz.func110 rfl rfl ?_);refine z_0 ?_; refine z_83 ?_; refine z_16 ?_; refine cY q_279 ?_; refine cY q_143 ?_; refine z_139 ?_; refine cw_loopd hCC (α:=Nat) (fun i=>[(1,(sv s)),(12,(.list (fl.map Fi.cv) nn none)),(13,(.val (.int .i64 (fl.length:Int)))),(14,(.val (.int .i64 (i:Int))))]) (fun _=>(wst fl nn va br ms me)) (fun i=>i<=fl.length/\dataF fl s=dataF (fl.drop i) s) (fun i=>fl.length - i) 0 ⟨n_3 _,rfl⟩ tu_ (extra0:=[]) rfl q_273 uz_ ?_; intro i ⟨hi,hr⟩; refine z_28 ?_; refine cC (fun h1=>?_) fun h1=>?_
 ·have hlt:(i:Int) < fl.length:=by simpa using h1
  obtain ⟨y,hb⟩:∃ y,fl[i]? = some y:=⟨fl[i]'om_,si_⟩;rw [dataF_step hb] at hr;refine z_174 ?_; refine z_48 ?_; refine z_44 ?_; refine cY q_246 ?_; refine z_264 ?_; refine cC (fun h2=>?_) fun h2=>?_
  ·have u2:y.p=s:=by simpa using h2
   rw [if_pos u2] at hr;refine z_0 ?_; refine z_44 ?_; refine z_109 ?_;exact ⟨_,res_all (rs:=[.tmp 4,.tmp 5]) (cs:=[_,_]) rfl q_138 (n_2 rfl),(by rw [hr]; exact fin_w rfl (.old (c:=.tup [sv y.b,.val (.bool true)]) (Pure.old (.tup (fun c hc=>by simp at hc; rcases hc with rfl | rfl <;> exact .val _)))))⟩
  ·have u2:¬ y.p=s:=by simpa using h2
   rw [if_neg u2] at hr;exact z_53
 ·have hge:fl.length<=i:=by simp at h1; omega
  rw [n_34 hge] at hr;refine z_90 ?_; refine z_166 ?_;exact ⟨_,res_all (rs:=[.tmp 4,.tmp 5]) (cs:=[_,_]) rfl q_138 (n_2 rfl),(by rw [hr]; exact fin_w rfl (.old (c:=.tup [sv [],.val (.bool false)]) (Pure.old (.tup (fun c hc=>by simp at hc; rcases hc with rfl | rfl <;> exact .val _)))))⟩
end Go.Proofs.YtlppbmfecjabeaaGreatDoor
