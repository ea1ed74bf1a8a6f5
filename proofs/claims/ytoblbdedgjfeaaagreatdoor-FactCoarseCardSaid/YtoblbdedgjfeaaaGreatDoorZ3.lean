/- Part 3 of what the claim needs: values without addresses, and what the program's functions do with them. -/
import Derived.Lib.MakeNoZero
import Derived.Shelf.Lays
import Derived.Sort.AssemblyPlain
import Derived.Sort.EveryDepth
import Derived.Shelf.Sort.WalkASIn
import Derived.Shelf.Sort.Walk7sIn
import Derived.Shelf.Sort.Walk11sIn
import Derived.Shelf.Sort.WalkC5sIn
import Derived.Shelf.Sort.WalkC4sIn
import Derived.Shelf.Sort.WalkB3sIn
import Derived.Shelf.Sort.Walk13sIn
import Derived.Shelf.Sort.WalkTopsIn
import Derived.Shelf.Sort.So_math_bits_LenInS
import Derived.Shelf.RegionOpen
import Derived.Shelf.AbstractIn
import Derived.Test.YtoblbdedgjfeaaaGreatDoorProg
import Derived.Test.YtoblbdedgjfeaaaGreatDoorZ2
namespace Go.Cl
section
variable {C:Ctx} {σ:List c5} {E:Env} {o:Oper}
theorem a7W {f : FuncId} {fn : Func} {ps : Array TypeId} {t e : TypeId} {ts : Array TypeId} {x : Operand} {n : Nat} {K : z6 → List c5 → Prop} (ho : o.op = .call { callee := .value (.func f), args := #[x], argTypes := ts }) (hf : C.P.funcs[f]? = some fn) (hname : (fn.name == "runtime.NumGoroutine") = false) (hb : fn.body.isNone = true) (hn : Extern.findNext fn = none) (he : Extern.find fn = some (Extern.BytealgMakeNoZero.makeNoZero ps #[t]))
 (ht:C.P.underlying t=some (.slice e)) (hx:E.valid x) (ex:E.val C x = .val (.int .i64 n)) (hn0:n≤140737488355328) (h:K (.ret (.vec σ.length 0 n)) (σ++[.tipT (some e) 0])):F8 C σ E o K:=fun M w ρ hr hh=>by
 have h1:=n7 (ex ▸ hh x (by simp [ho,Op.operands,Call.operands]) hx)
 have hfn:=n7 (hh (.func f) (by simp [ho,Op.operands,Call.operands]) tt)
 obtain ⟨cs,hrun,hle,hmax⟩:=Lib.run_makeNoZero (P:=C.P) w ps t e ht n (by omega)
 have hc:=X3 (args:=#[.int .i64 n]) (v:=.slice (some ⟨w.heap.size,0,none⟩) n cs.size) (w:=w) hf hname hb hn he
 have hcall:(callFunc f #[.int .i64 n]).run C.P w = .ok (.value (.slice (some ⟨w.heap.size,0,none⟩) n cs.size)) (w.drew.drew.alloc (.cells cs e)):=by
  simp only [callFunc,Sem.run_bind,run_program,Result.andThen_ok,hf,hname,hb,hn,he]
  simp [hrun]
 have hex:(execOp ρ o).run C.P w = .ok (.value (.slice (some ⟨w.heap.size,0,none⟩) n cs.size)) (w.drew.drew.alloc (.cells cs e)):=by
  simp [execOp,ho,resolve,hfn,h1,Deferred.ofValue,invoke,hcall]
 rw [hex]
 obtain ⟨hr1,hx1⟩:=hr.drewN
 obtain ⟨hr2,hx2⟩:=hr1.drewN
 have hcm:cs.size≤maxLen:=hmax (by unfold maxLen; omega)
 have hx3:=Ext.alloc hr2 ⟨w.heap.size,cs.size,1⟩ (.cells cs e)
 have hr3:=hr2.alloc ⟨w.heap.size,cs.size,1⟩ (.cells cs e) (.tipT (some e) 0) rfl ⟨Nat.zero_le _,hcm,⟨fun o' ho'=>by have:=hr2.blk _ _ (.inr ho'); simp only at this; exact absurd this (Nat.lt_irrefl _),fun _=>rfl⟩,cs,e,v1 _ _,by simp⟩
 refine ⟨_,_,_,(hx1.trans hx2).trans hx3,hr3,?_,h⟩
 have hp:(M.add ⟨w.heap.size,cs.size,1⟩).pl[σ.length]? = some ⟨w.heap.size,cs.size,1⟩:=by simp [l3.add,← hr.len]
 have:=RV.vec (w:=w.drew.drew.alloc (.cells cs e)) (off:=0) (len:=n) (a:=⟨w.heap.size,0,none⟩) hp (by simpa using hle) hcm (fun _=>by simp)
 simpa using this
theorem a8O {t e:TypeId} {x v:Operand} {k n s:Nat} {kd:IntKind} (ho:o.op = .slice t x none (some v) none) (hx:E.valid x) (hv:E.valid v) (ex:E.val C x = .vec k 0 n) (ev:E.val C v = .val (.int kd 0)) (hn:1≤n) (hu:∀ w,(underlying t).run C.P w = .ok (.slice e) w) (hs:∀ w,(sizeOf e).run C.P w = .ok s w):m6 C σ E o (.list [] true (some k)) :=
 j7 fun M w ρ hr hh=>by
  have hx':=hh x (by simp [ho,Op.operands]) hx
  have hv':=n7 (ev ▸ hh v (by simp [ho,Op.operands]) hv)
  rw [ex] at hx'
  generalize hw:ρ x=u at hx'
  cases hx' with
  | vec hp g1 g2 g3 =>
   rename_i p a
   have hc:0 < p.cap:=by omega
   have ha:=g3 hc
   rw [Nat.zero_mul] at ha
   subst ha
   have hb:(Instr.sliceBounds true n (p.cap - 0) none (some (.int kd 0)) none).run C.P w = .ok (0,0,p.cap - 0) w:=by
    simp [Instr.sliceBounds,Instr.sliceBound,asIntOf]
   have hne:¬ p.cap=0:=by omega
   have hrun:(execOp ρ o).run C.P w = .ok (.value (.slice (some ⟨p.block,0,none⟩) 0 p.cap)) w:=by
    simp only [Nat.sub_zero] at hb hw
    simp [execOp,ho,Instr.sliceAt,Instr.slice,hu,hw,hv',hb,hs,hne,L4]
   refine ⟨_,hrun,?_⟩
   exact RV.list' (L:=0) (b:=p.block) (off:=0) (s:=0) rfl (fun _ _=>undef) (Nat.zero_le _) g2 rfl (fun h=>by cases h) (fun _=>rfl) (fun r hr=>by simp at hr) (fun r hr=>by simp at hr) (fun i j r c hi=>by simp at hi) (fun i j r c hi=>by simp at hi) (fun k' hk'=>by
    injection hk' with hk'
    subst hk'
    exact ⟨p.size,hp,rfl,rfl,fun h=>absurd rfl h⟩)
theorem b51 {t t' e:TypeId} {x y:Operand} {tok:Option Nat} {s:Nat} {K:z6→List c5→Prop} (ho:o.op = .call { callee:=.builtin .copy,args:=#[x,y],argTypes:=#[t,t']}) (hx:E.valid x) (hy:E.valid y) (ex:E.val C x = .list [] true tok) (ey:E.val C y = .list [] false none)
 (hu:∀ w,(underlying t).run C.P w = .ok (.slice e) w) (hs:∀ w,(sizeOf e).run C.P w = .ok s w) (h:K (.ret (.val (.int .i64 0))) σ):F8 C σ E o K:=fun M w ρ hr hh=>by
 have h1:=hh x (by simp [ho,Op.operands,Call.operands]) hx
 have h2:=hh y (by simp [ho,Op.operands,Call.operands]) hy
 rw [ex] at h1
 rw [ey] at h2
 obtain ⟨a,cap,b,off,s1,vals,hv,_,_,hnn,_⟩:=h1.list_inv
 obtain ⟨a2,cap2,b2,off2,s2,vals2,hv2,_,_,hnn2,_⟩:=h2.list_inv
 have ha2:a2=none:=by cases a2 <;> first|rfl | simp at hnn2
 obtain ⟨a1,ha1⟩:∃ a1,a=some a1:=by cases a with | none=>simp at hnn | some a=>exact ⟨a,rfl⟩
 subst ha2 ha1
 have hrun:(execOp ρ o).run C.P w = .ok (.value (.int .i64 0)) w:=by
  simp [execOp,ho,resolve,invoke,builtin,hv,hv2,Builtin.copy_,Builtin.lenOf,Builtin.firstCells,hu,hs,storeCells,goInt]
 rw [hrun]
 exact ⟨_,_,_,Ext.refl _ _,hr,.val _,h⟩
theorem b4i {t e:TypeId} {x:Operand} (ho:o.op = .call { callee:=.builtin .cap,args:=#[x],argTypes:=#[t]}) (hx:E.valid x) (ex:E.val C x = .list [] false none) (hu:∀ w,(underlying t).run C.P w = .ok (.slice e) w):m6 C σ E o (.val (.int .i64 0)) :=
 j7 fun M w ρ _ h=>by
  have h1:=h x (by simp [ho,Op.operands,Call.operands]) hx
  rw [ex] at h1
  obtain ⟨a,cap,b,off,s,vals,hv,_,_,_,hn0,_⟩:=h1.list_inv
  have:=hn0 rfl
  subst this
  exact ⟨.int .i64 0,by simp [execOp,ho,resolve,invoke,builtin,Builtin.cap_,hu,hv,goInt],.val _⟩
theorem b6a {t t2 e:TypeId} {x y:Operand} {new:Str} {p:Nat} {ti:TypeInfo} {z:Value} {K:z6→List c5→Prop} (ho:o.op = .call { callee:=.builtin .append,args:=#[x,y],argTypes:=#[t,t2]}) (hx:E.valid x) (hy:E.valid y) (ex:E.val C x = .list [] true (some p))
 (hsrc:∀ M w v,Rel C M σ w→RV M w (E.val C y) v→b0j C w M (new.map bcv) 1 v) (hu:∀ w,(underlying t).run C.P w = .ok (.slice e) w) (hs:∀ w,(sizeOf e).run C.P w = .ok 1 w) (hti:∀ w,(typeInfo e).run C.P w = .ok ti w) (hz:∀ w,(zeroValue e).run C.P w = .ok z w) (hzs:z.cells.size=1)
 (hu2:(∀ w,(underlying t2).run C.P w = .ok (.slice e) w)∨∀ w,(underlying t2).run C.P w = .ok .string w) (hb1:ti.bytes=1)
 (happ:σ[p]? = some (.tipT (some e) 0)) (hne:new≠[]) (hb:new.length≤140737488355328)
 (hk:K (.ret (a0n new σ.length)) (σ.set p .dead++[r3 e new.length])):F8 C σ E o K:=by
 have hne':new.map bcv≠[]:=by simpa using hne
 refine a41 ho hx hy ex hsrc hu hs hti hz hzs hu2 (.inr rfl) (fun _=>rfl) (.inr ⟨rfl,rfl,p,rfl,happ⟩) (by simp) hne' (by rw [hb1]; simp only [List.length_map,List.length_nil]; omega) (by simp only [List.length_map,List.length_nil]; omega) ?_
 rcases new with _ | ⟨c,new⟩
 ·exact absurd rfl hne
 ·have e1:([]:List (List CV)).length+((c::new).map bcv).length=new.length+1:=by simp
  rw [e1,List.nil_append]
  exact hk
end
end Go.Cl
namespace Go.Cl
section
variable {C:Ctx} {σ:List c5} {E:Env} {o:Oper}
theorem wr8 {z:Int} (h0:0≤z) (h1:z < 256):IntKind.u8.wrap z=z:=by
 have:z%256=z:=Int.emod_eq_of_lt h0 h1
 simp [IntKind.wrap,IntKind.signed,IntKind.bits]
 omega
theorem b8m {t t':TypeId} {x y:Operand} {a b:Nat} (ho:o.op = .binOp .or t x y t') (hx:E.valid x) (hy:E.valid y) (ex:E.val C x = .val (.int .u8 (a:Int))) (ey:E.val C y = .val (.int .u8 (b:Int))) (ha:a < 256) (hb:b < 256):m6 C σ E o (.val (.int .u8 ((a ||| b:Nat):Int))) :=
 j7 fun M w ρ _ h=>by
  have h1:=h x (by simp [ho,Op.operands]) hx
  have h2:=h y (by simp [ho,Op.operands]) hy
  rw [ex] at h1
  rw [ey] at h2
  have e1:∀ n:Nat,n < 256→(BitVec.ofInt 8 (n:Int)).toNat=n:=fun n hn=>by
   rw [BitVec.ofInt_natCast,BitVec.toNat_ofNat]; exact Nat.mod_eq_of_lt (by omega)
  have e2:a ||| b < 2^8:=Nat.or_lt_two_pow (by omega) (by omega)
  have e3:(BitVec.ofInt IntKind.u8.bits (a:Int) ||| BitVec.ofInt IntKind.u8.bits (b:Int)).toNat=a ||| b:=by
   show (BitVec.ofInt 8 (a:Int) ||| BitVec.ofInt 8 (b:Int)).toNat=_
   rw [BitVec.toNat_or,e1 a ha,e1 b hb]
  have e4:(Op.intBits .or .u8 (a:Int) (b:Int)).run C.P w = .ok (.int .u8 ((a ||| b:Nat):Int)) w:=by
   unfold Op.intBits
   simp only [Sem.run_pure,e3]
   rw [wr8 (by omega) (by omega)]
  refine ⟨_,?_,.val _⟩
  simp [execOp,ho,n7 h1,n7 h2,eqGuard,binOp,e4]
theorem b7r {t t':TypeId} {x y:Operand} {k k':IntKind} {a b:Int} {m:Nat} (ho:o.op = .binOp .shr t x y t') (hx:E.valid x) (hy:E.valid y) (ex:E.val C x = .val (.int k a)) (ey:E.val C y = .val (.int k' (m:Int))) (hk:m≤k.bits) (hb:a / 2^m=b):m6 C σ E o (.val (.int k b)) :=
 j7 fun M w ρ _ h=>by
  have h1:=h x (by simp [ho,Op.operands]) hx
  have h2:=h y (by simp [ho,Op.operands]) hy
  rw [ex] at h1
  rw [ey] at h2
  refine ⟨.int k b,?_,.val _⟩
  have e:min (m:Int).toNat k.bits=m:=by rw [Int.toNat_natCast]; omega
  have h0:¬ ((m:Int) < 0):=by omega
  have e2:a.fdiv (2^m)=b:=by
   have:(0:Int)≤2^m:=Int.le_of_lt (Int.pow_pos (by decide))
   rw [Int.fdiv_eq_ediv_of_nonneg _ this,hb]
  have e3:min m k.bits=m:=by omega
  simp [execOp,ho,n7 h1,n7 h2,eqGuard,binOp,Op.shift,e3,e2]
  intro h
  omega
end
end Go.Cl
namespace Go.Cl
section
variable {C:Ctx} {σ:List c5} {E:Env} {o:Oper}
theorem b6D {t e:TypeId} {x:Operand} {v z:Value} {K:z6→List c5→Prop} (ho:o.op = .buildSlice t 1 #[(0,x)]) (hx:E.valid x) (ex:E.val C x = .val v) (hv:v.oneCell'=true) (hu:∀ w,(underlying t).run C.P w = .ok (.slice e) w) (hs:∀ w,(sizeOf e).run C.P w = .ok 1 w) (hz:∀ w,(zeroValue e).run C.P w = .ok z w) (hz1:z.oneCell'=true)
 (hk:K (.ret (.vec σ.length 0 1)) (σ++[.vec 1 [[.val v]]])):F8 C σ E o K:=fun M w ρ hr hh=>by
 have h1:=n7 (ex ▸ hh x (by simp [ho,Op.operands]) hx)
 have hvc:v.cells = #[v]:=by cases v <;> first|rfl | simp [Value.oneCell'] at hv
 have hzc:z.cells = #[z]:=by cases z <;> first|rfl | simp [Value.oneCell'] at hz1
 have hrun:(execOp ρ o).run C.P w = .ok (.value (.slice (some ⟨w.heap.size,0,none⟩) 1 1)) (w.alloc (.cells #[v] e)):=by
  have er:Array.range 1 = #[0]:=rfl
  simp only [execOp,ho,Instr.buildSlice,Sem.run_bind,hu,Result.andThen_ok,hs,hz]
  simp [er,Instr.fill,newRow,h1,hvc,hzc,hz]
 rw [hrun]
 have hx2:=Ext.alloc hr ⟨w.heap.size,1,1⟩ (.cells #[v] e)
 have hr2:=hr.alloc ⟨w.heap.size,1,1⟩ (.cells #[v] e) (.vec 1 [[.val v]]) rfl ⟨rfl,Nat.le_refl _,by unfold maxLen; simp,fun r hr=>by simp at hr; subst hr; rfl,fun r hr c hc=>by simp at hr; subst hr; simp at hc; subst hc; exact hv,#[v],e,v1 _ _,rfl,fun i j r c hi hj=>by
  rcases i with _ | i
  ·injection hi with hi
   subst hi
   rcases j with _ | j
   ·injection hj with hj
    subst hj
    exact .val _
   ·simp at hj
  ·simp at hi⟩
 refine ⟨_,_,_,hx2,hr2,?_,hk⟩
 have hp:(M.add ⟨w.heap.size,1,1⟩).pl[σ.length]? = some ⟨w.heap.size,1,1⟩:=by simp [l3.add,← hr.len]
 have:=RV.vec (w:=w.alloc (.cells #[v] e)) (off:=0) (len:=1) (a:=⟨w.heap.size,0,none⟩) hp (Nat.le_refl _) (by unfold maxLen; simp) (fun _=>by simp)
 simpa using this
end
end Go.Cl
namespace Go.Proofs
open Go.Shelf Go.Sort
theorem a8v {P:Program} {ρ:Ren} (Ly:Lays.n190 P ρ) (blk off cap:Nat) (ss:List (List UInt8)) (w:World) (hH:Holds encStr w blk off ss.toArray) (hb:blk < w.heap.size) (hn:ss.length < 4611686018427387904) :
 Calls P (ρ.f 190) #[.slice (some ⟨blk,off,none⟩) ss.length cap] w fun e w'=>e = .returned (.tuple #[])∧∃ n os,w'=grow (putRow encStr (Sort.ahead w n) blk off (ss.mergeSort fun x y=>decide (x≤y)).toArray) os :=
 calls_of_every_depth fun D=>by
  have parts:Any.Callees13sIn P ρ D:={
   heap:=AnyS.heapSort_stringIn { Ly with} D,rev:=AnyS.reverseRange_stringIn { Ly with} D,ins:=AnyS.insertionSort_strIn { Ly with} D,brk:=AnyS.breakPatterns_strIn { Ly with} D,
   piv:=AnyS.choosePivot_strIn { Ly with} D,par:=AnyS.partialInsertionSort_strIn { Ly with} D,peq:=AnyS.partitionEqualOrdered_stringIn { Ly with} D,prt:=AnyS.partitionOrdered_stringIn { Ly with} D}
  have laws:Plain13s:={ swo:=swo_ltStr,ins:=insertionSort_holds,par:=partialInsertionSort_holds,prt:=partition_holds _,peq:=partitionEqual_holds _,pdq:=pdq_sorts _}
  have quick:Any.pdqWalkIn_str P ρ D:=fun rm b' o' c' x y lim d w' h1 h2 h3 h4 h5 h6 h7 h8=>AnyS.pdqsort_stringIn { Ly with} D parts laws (y - x+1) rm b' o' c' x y lim d w' (by omega) h1 h2 h3 h4 h5 h6 h7 h8
  have lens:Any.lenWalkInS P ρ D:=fun n w' h=>by
   have h1:=AnyS.bits_LenInS { Ly with} D (n:Int) w' (by omega) (by omega)
   rwa [Int.toNat_natCast,bitLen_eq _ (by omega)] at h1
  have h:=AnyS.Sort_strIn { Ly with} D quick lens blk off cap ss.toArray w hH hb (by simpa using hn)
  rw [← sortStr ss]
  simpa using h
end Go.Proofs
namespace Go.Cl
open Go.Sort Go.Proofs
def a0c (ss:List Str):List Str:=ss.mergeSort fun x y=>decide (x≤y)
theorem b5U {w:World} {b:Nat} {arr:Array Value} {ty:TypeId} {fr:Nat × Nat} {d:Array (List UInt8)} (h:w.heap[b]? = some (.cells arr ty fr)):putRow encStr w b 0 d=World.putObj w b (.cells (putCells encStr 0 d arr) ty fr):=by
 have hb:b < w.heap.size:=(Array.getElem?_eq_some_iff.1 h).1
 have hg:w.heap[b] = .cells arr ty fr:=(Array.getElem?_eq_some_iff.1 h).2
 unfold putRow mapBlock World.putObj
 congr 1
 apply Array.ext_getElem?
 intro i
 rw [Array.getElem?_modify,Array.getElem?_setIfInBounds]
 by_cases hi:b=i
 ·subst hi
  simp [hb,hg,onCells]
 ·simp [hi]
theorem b6s {d:Array (List UInt8)} {arr:Array Value} {i:Nat} (hi:i < d.size) (ha:i < arr.size):(putCells encStr 0 d arr).getD i undef=encStr d[i]:=by
 unfold putCells
 rw [Array.getD_eq_getD_getElem?,Array.getElem?_mapIdx,Array.getElem?_eq_getElem ha]
 simp [hi]
theorem b39 {C:Ctx} {f:FuncId} (hcall:∀ (blk off cap:Nat) (ss:List (List UInt8)) (w:World),Holds encStr w blk off ss.toArray→blk < w.heap.size→ss.length < 4611686018427387904 →
 Calls C.P f #[.slice (some ⟨blk,off,none⟩) ss.length cap] w fun e w'=>e = .returned (.tuple #[])∧∃ n os,w'=grow (putRow encStr (Sort.ahead w n) blk off (ss.mergeSort fun x y=>decide (x≤y)).toArray) os)
 {σ:List c5} {k:Nat} {ss:List Str} (hne:ss≠[]) (hlen:ss.length < 4611686018427387904) (hk:σ[k]? = some (.vec 1 (ss.map fun s=>[sv s]))):c4 C f [.vec k 0 ss.length] σ fun r τ=>r = .ret (.tup [])∧τ=σ.set k (.vec 1 ((a0c ss).map fun s=>[sv s])):=fun M w vs hr hn hx=>by
 have hl:0 < ss.length:=List.length_pos_iff.2 hne
 have h0:=hx 0 _ rfl
 have hs:vs.size=1:=hn
 obtain ⟨v,rfl⟩:∃ v,vs = #[v]:=⟨vs[0]'(by omega),Array.ext (by simp [hs]) fun i h1 h2=>by
  have:i=0:=by omega
  subst this
  simp⟩
 have h0:RV M w (.vec k 0 ss.length) v:=h0
 cases h0 with
 | vec hp g1 g2 g3 =>
  rename_i p a
  obtain ⟨⟨e0,e1,e2,e3,e4,arr,ty,e5,e6,e7⟩,hf,hcl⟩:=hr.obj k p _ hp hk
  rw [List.length_map] at e1
  rw [e0,Nat.mul_one] at e6
  have ha:=g3 (by omega)
  rw [Nat.zero_mul] at ha
  subst ha
  have hb:p.block < w.heap.size:=(Array.getElem?_eq_some_iff.1 e5).1
  have hget:∀ j (hj:j < ss.length),arr.getD j undef=encStr ss[j]:=fun j hj=>by
   have h1:(ss.map fun s=>[sv s])[j]? = some [sv ss[j]]:=by rw [List.getElem?_map,List.getElem?_eq_getElem hj]; rfl
   have:=n7 (e7 j 0 _ _ h1 rfl)
   rw [e0,Nat.mul_one,Nat.add_zero] at this
   exact this
  have hH:Holds encStr w p.block 0 ss.toArray:=fun j hj=>by
   have hj':j < ss.length:=by simpa using hj
   have hja:j < arr.size:=by omega
   refine ⟨?_,by simp [World.frozen?,e5]⟩
   have:=hget j hj'
   rw [Array.getD_eq_getD_getElem?,Array.getElem?_eq_getElem hja] at this
   simp only [Option.getD_some] at this
   rw [Nat.zero_add,getElem!_pos _ _ (by simpa using hj')]
   simp [World.cell?,e5,hja,this]
  refine (hcall p.block 0 (p.cap - 0) ss w hH hb hlen).mono fun e w' ⟨he,n,os,hw⟩=>?_; subst he hw
  obtain ⟨hx1,hr1⟩:=a5m hr n #[]
  have ew:grow (w.drewN n) #[]=Sort.ahead w n:=by simp [grow,World.drewN,Sort.ahead]
  rw [ew] at hx1 hr1
  have e5':(Sort.ahead w n).heap[p.block]? = some (.cells arr ty (0,0)):=e5
  rw [b5U e5']
  have hperm:(a0c ss).length=ss.length:=List.length_mergeSort _
  have hd:((a0c ss).toArray).size=ss.length:=by simp [hperm]
  have hasz:(putCells encStr 0 (a0c ss).toArray arr).size=arr.size:=by simp [putCells]
  have hx2:=Ext.putObj (w:=Sort.ahead w n) (.cells (putCells encStr 0 (a0c ss).toArray arr) ty (0,0)) (hr1.nk k p _ hp hk rfl) hf hcl
  have hr2:=hr1.putObj (ob:=.vec 1 ((a0c ss).map fun s=>[sv s])) hp hk rfl hf hcl (.cells (putCells encStr 0 (a0c ss).toArray arr) ty (0,0)) ⟨e0,by rw [List.length_map,hperm]; exact e1,e2,fun r hr=>by
   obtain ⟨s,_,rfl⟩:=List.mem_map.1 hr
   rw [e0]; rfl,fun r hr c hc=>by
   obtain ⟨s,_,rfl⟩:=List.mem_map.1 hr
   simp at hc; subst hc; rfl,_,ty,World.putObj_same _ _ (by exact hb),by rw [hasz,e0,Nat.mul_one]; exact e6,fun i j r c hi hj=>by
   rw [List.getElem?_map,Option.map_eq_some_iff] at hi
   obtain ⟨s,hs',rfl⟩:=hi
   rcases j with _ | j
   ·injection hj with hj
    subst hj
    have hil:=(List.getElem?_eq_some_iff.1 hs').1
    rw [e0,Nat.mul_one,Nat.add_zero,b6s (by simpa using hil) (by omega)]
    have:(a0c ss)[i]=s:=(List.getElem?_eq_some_iff.1 hs').2
    simp only [List.getElem_toArray,this]
    exact .val _
   ·cases hj⟩
  obtain ⟨hx3,hr3⟩:=a5m hr2 0 os
  have ew2:∀ u:World,u.drewN 0=u:=fun u=>rfl
  rw [ew2] at hx3 hr3
  exact ⟨_,_,_,(hx1.trans hx2).trans hx3,hr3,.tup rfl (fun i c h=>by simp at h),rfl,rfl⟩
end Go.Cl
namespace Go.Cl
section
variable {C:Ctx} {E:Env} {σ:List c5} {o:Oper}
def b1F (C:Ctx) (c:CV) (cargs:List CV) (σ:List c5) (r:CV):Prop :=
 (∃ f,c = .val (.func (.func f) #[] #[])∧(∀ args w,(callFunc f args).run C.P w = .ok (.enter f args) w)∧c4 C f cargs σ fun r' σ'=>r' = .ret r∧σ'=σ) ∨
 ∃ f caps,c = .clo f caps∧(∀ args w,(callFunc f args).run C.P w = .ok (.enter f args) w)∧c4 C f (cargs++caps) σ fun r' σ'=>r' = .ret r∧σ'=σ
theorem b2C {cx:Operand} {xs:Array Operand} {ts:Array TypeId} {cargs:List CV} {c r:CV} (ho:o.op = .call { callee:=.value cx,args:=xs,argTypes:=ts}) (hc:E.valid cx) (ec:E.val C cx=c) (hv:E.valids xs.toList) (h:b1F C c cargs σ r) (ea:E.vals C xs.toList=cargs):m6 C σ E o r:=by
 rcases h with ⟨f,h1,h2,h3⟩ | ⟨f,caps,h1,h2,h3⟩
 ·exact b6x ho hc (ec.trans h1) h2 (Env.valids_mem hv) (Env.vals_map _) (ea ▸ h3)
 ·exact a6A ho hc (ec.trans h1) h2 hv h3 ea
end
end Go.Cl
namespace Go.Cl
section
variable {C:Ctx} {E:Env} {σ:List c5} {o:Oper}
theorem J8 {f:FuncId} {cx:Operand} {xs:Array Operand} {ts:Array TypeId} {cargs caps:List CV} {α:Type} {c:α→CV} {S:α→List c5} {P:α→Prop} {K:z6→List c5→Prop} (ho:o.op = .call { callee:=.value cx,args:=xs,argTypes:=ts}) (hc:E.valid cx) (ec:E.val C cx = .clo f caps) (hcall:∀ args w,(callFunc f args).run C.P w = .ok (.enter f args) w)
 (hv:E.valids xs.toList) (h:c4 C f (cargs++caps) σ fun r σ'=>∃ a,r = .ret (c a)∧σ'=S a∧P a) (ea:E.vals C xs.toList=cargs) (hk:∀ a,P a→K (.ret (c a)) (S a)):F8 C σ E o K :=
 a6L ho hc ec hcall (Env.valids_mem hv) (Env.vals_map _) (ea ▸ h.mono fun r σ' hh=>by
  obtain ⟨a,rfl,rfl,hp⟩:=hh
  exact hk a hp)
theorem b6W {t e:TypeId} {x:Operand} {v z:Value} {K:z6→List c5→Prop} (ho:o.op = .buildSlice t 1 #[(0,x)]) (hx:E.valid x) (ex:E.val C x = .val v) (hv:v.oneCell'=true) (hu:∀ w,(underlying t).run C.P w = .ok (.slice e) w) (hs:∀ w,(sizeOf e).run C.P w = .ok 1 w) (hz:∀ w,(zeroValue e).run C.P w = .ok z w) (hz1:z.oneCell'=true)
 (hk:K (.ret (.list [[.val v]] true (some σ.length))) (σ++[.tip 1])):F8 C σ E o K:=fun M w ρ hr hh=>by
 have h1:=n7 (ex ▸ hh x (by simp [ho,Op.operands]) hx)
 have hvc:v.cells = #[v]:=by cases v <;> first|rfl | simp [Value.oneCell'] at hv
 have hzc:z.cells = #[z]:=by cases z <;> first|rfl | simp [Value.oneCell'] at hz1
 have hrun:(execOp ρ o).run C.P w = .ok (.value (.slice (some ⟨w.heap.size,0,none⟩) 1 1)) (w.alloc (.cells #[v] e)):=by
  have er:Array.range 1 = #[0]:=rfl
  simp only [execOp,ho,Instr.buildSlice,Sem.run_bind,hu,Result.andThen_ok,hs,hz]
  simp [er,Instr.fill,newRow,h1,hvc,hzc,hz]
 rw [hrun]
 have hx2:=Ext.alloc hr ⟨w.heap.size,1,1⟩ (.cells #[v] e)
 have hr2:=hr.alloc ⟨w.heap.size,1,1⟩ (.cells #[v] e) (.tip 1) rfl ⟨Nat.le_refl _,by unfold maxLen; simp,⟨fun o ho=>by
  have:=hr.blk w.heap.size o (.inr ho)
  omega,fun h=>by cases h⟩,#[v],e,v1 _ _,rfl⟩
 have hp:(M.add ⟨w.heap.size,1,1⟩).pl[σ.length]? = some ⟨w.heap.size,1,1⟩:=by simp [l3.add,← hr.len]
 obtain ⟨hx3,hr3⟩:=hr2.settleCells hp (by simp:(σ++[c5.tip 1])[σ.length]? = some (.tipT none 1))
 refine ⟨_,_,_,hx2.trans hx3,hr3,?_,hk⟩
 refine RV.list (rows:=[[.val v]]) (b:=w.heap.size) (off:=0) (s:=1) (fun _ _=>v) (Nat.le_refl _) (by unfold maxLen; simp) rfl (fun h=>by cases h) (fun _=>rfl) (fun r hr=>by simp at hr; subst hr; rfl) (fun r hr c hc=>by simp at hr; subst hr; simp at hc; subst hc; exact hv) (fun i j r c hi hj=>?_) (fun i j r c hi hj=>?_) (fun k hk=>?_)
 ·rcases i with _ | i
  ·injection hi with hi
   subst hi
   rcases j with _ | j
   ·refine ⟨.inr (.inr ⟨rfl,by simp⟩),?_⟩
    show (match (w.alloc (.cells #[v] e)).heap[w.heap.size]? with | some (.cells c _ _)=>c[0]? | _=>none)=some v
    rw [v1]; rfl
   ·simp at hj
  ·simp at hi
 ·rcases i with _ | i
  ·injection hi with hi
   subst hi
   rcases j with _ | j
   ·injection hj with hj
    subst hj
    exact .val _
   ·simp at hj
  ·simp at hi
 ·injection hk with hk
  subst hk
  exact ⟨1,hp,rfl,rfl,fun _=>rfl⟩
end
theorem b80 {α:Type} {C:Ctx} {f:FuncId} {args:List CV} {c:α→CV} {P:α→Prop} (hC:C.plain) (hargs:∀ a∈args,o9 a) (hc:∀ a,o9 (c a)) (h:c4 C f args [] fun r τ=>∃ a,G8 0 τ r (.ret (c a)) []∧P a) (σ:List c5):c4 C f args σ fun r τ=>∃ a,r = .ret (c a)∧τ=σ∧P a :=
 a40 (obs:=[]) (obs':=[]) [] hC rfl (by intro i j k h1; simp at h1) (fun i k ob h1=>by simp at h1) (K2 hargs) (fun a _=>hc a) (L6 hC (h.mono fun r τ ⟨a,h1,h2⟩=>⟨_,_,h1,a,rfl,rfl,h2⟩))
theorem b5b {C:Ctx} {f:FuncId} {args:List CV} {c:CV} (hC:C.plain) (hargs:∀ a∈args,o9 a) (hc:o9 c) (h:c4 C f args [] fun r τ=>G8 0 τ r (.ret c) []) (σ:List c5):c4 C f args σ fun r τ=>r = .ret c∧τ=σ :=
 (b80 (α:=Unit) (c:=fun _=>c) (P:=fun _=>True) hC hargs (fun _=>hc) (h.mono fun r τ hh=>⟨(),hh,tt⟩) σ).mono fun r τ ⟨_,h1,h2,_⟩=>⟨h1,h2⟩
theorem a3n {α:Type} {C:Ctx} {f:FuncId} {args:List CV} {ob:c5} {c:α→CV} {S:α→c5} {P:α→Prop} (hC:C.plain) (hargs:∀ a∈args,o9 a) (hc:∀ a,o9 (c a)) (hS:∀ a,a5g (S a)) (hob:a5g ob) (hlive:ob.live=true)
 (h:c4 C f (.ptr 0 0::args) [ob] fun r τ=>∃ a,G8 1 τ r (.ret (c a)) [S a]∧P a) (σ:List c5) (q:Nat) (hq:σ[q]? = some ob):c4 C f (.ptr q 0::args) σ fun r σ'=>∃ a,r = .ret (c a)∧σ'=σ.set q (S a)∧P a :=
 a59 hC hargs hc hS hob hlive (L6 hC (h.mono fun r τ ⟨a,h1,h2⟩=>⟨_,_,h1,a,rfl,rfl,h2⟩)) σ q hq
theorem b7i {τ:List c5} {c c':CV} (h:B4 0 [] c c'):G8 0 τ (.ret c) (.ret c') []:=⟨[],rfl,rfl,.ret h,tt⟩
theorem P0 {τ rest:List c5} {ob:c5} {c c':CV} (hτ:τ=ob::rest) (ho:F0 1 ob) (h:B4 1 [0] c c'):G8 1 τ (.ret c) (.ret c') [ob]:=by
 subst hτ
 exact ⟨[0],rfl,rfl,.ret h,.inr ⟨_,rfl,.same rfl ho⟩,tt⟩
end Go.Cl
namespace Go.Cl
section
variable {C:Ctx} {n:Nat} {ops:Array Oper} {Q:s0→Env→List c5→Prop} {E:Env} {σ:List c5}
theorem cY {o:Oper} {l:List Oper} {c:CV} (hy:m6 C σ E o c) (h:O7 C n ops Q l (E.put o.dst c True) σ) (hg:o.guard=none:=by rfl) (hd:(match o.dst with | some d=>Nat.blt d n | none=>true)=true:=by rfl):O7 C n ops Q (o::l) E σ:=b9e hg hd hy h
theorem cD {o:Oper} {l:List Oper} (h:F8 C σ E o fun r σ'=>match r with | .ret c=>O7 C n ops Q l (E.put o.dst c True) σ' | .pan c=>Q (.pan c) E σ') (hg:o.guard=none:=by rfl) (hd:(match o.dst with | some d=>Nat.blt d n | none=>true)=true:=by rfl):O7 C n ops Q (o::l) E σ:=a0f hg hd h
theorem cG {o:Oper} {l:List Oper} {j t:Nat} {want b:Bool} {c:CV} (hy:b=want→m6 C σ E o c) (h:O7 C n ops Q l (E.put o.dst c (b=want)) σ) (hg:o.guard=some (j,want):=by rfl) (ht:(ops[j]?).bind (·.dst)=some t:=by rfl) (hv:E.ok t:=by exact tt) (hb:E.f t = .val (.bool b):=by rfl)
 (hd:(match o.dst with | some d=>Nat.blt d n | none=>true)=true:=by rfl):O7 C n ops Q (o::l) E σ:=b9c hg ht hv hb hd hy h
theorem hY {K:Env→Prop} {o:Oper} {l:List Oper} {c:CV} (k:m6 C σ E o c) (h:a1b C σ ops K l (E.put o.dst c True)) (hg:o.guard=none:=by rfl):a1b C σ ops K (o::l) E:=b9f hg k h
end
end Go.Cl
namespace Go.Proofs.YtoblbdedgjfeaaaGreatDoor
open Go Go.Cl
def b2b:List CV:=[1,10,100,1000,10000,100000,1000000,10000000,100000000,1000000000,10000000000,100000000000,1000000000000,10000000000000,100000000000000,1000000000000000,10000000000000000,100000000000000000,1000000000000000000,10000000000000000000].map fun z:Int=>.val (.int .u64 z)
noncomputable def CC:Ctx:={ P:=Tryz.prog,glob:=fun g=>match g with | 1=>some b2b | _=>none}
theorem hCC:CC.plain:=fun g cells h=>by
 have:cells=b2b:=by
  simp only [CC] at h
  split at h
  ·exact (Option.some.inj h).symm
  ·cases h
 subst this; intro c hc
 obtain ⟨z,_,rfl⟩:=List.mem_map.1 hc
 exact .val _
def icv (x:Int):List CV:=[.val (.int .i64 x)]
def scv (x:Str):List CV:=[sv x]
theorem d8 (l:List Int) (nn:Bool):o9 (.list (l.map icv) nn none):=K3 (f:=icv) (fun _=>⟨.val _,tt⟩) l nn
theorem d6 (l:List Str) (nn:Bool):o9 (.list (l.map scv) nn none):=K3 (f:=scv) (fun _=>⟨.val _,tt⟩) l nn
theorem D4 (n:Nat) (l:List Int) (nn:Bool):Old n (.list (l.map icv) nn none):=(d8 l nn).old
theorem k8 (n:Nat) (l:List Str) (nn:Bool):Old n (.list (l.map scv) nn none):=(d6 l nn).old
def b6g:Str:=[97,98,99,100,101,102,103,104,105,106,107,108,109,110,111,112,113,114,115,116,117,118,119,120,121,122]
def b9h:Str:=[48,49,50,51,52,53,54,55,56,57]
def b8l:Str:=[59,44,40,41,43,45,42,47,37,60,61]
def M0:List (Int × Str):=[(1,b6g),(2,b9h),(3,[95]),(4,[46]),(5,[9,10,13,32]),(6,[35]),(7,[34]),(8,b8l)]
def A3 (c:Int):Int :=
 if 97≤c∧c≤122 then 1 else if 48≤c∧c≤57 then 2 else if c=95 then 3 else if c=46 then 4 else if c=9∨c=10∨c=13∨c=32 then 5 else if c=35 then 6 else if c=34 then 7
 else if c=59∨c=44∨c=40∨c=41∨c=43∨c=45∨c=42∨c=47∨c=37∨c=60∨c=61 then 8 else 0
abbrev kb (a:Int):CV:=.val (.int .u8 a)
abbrev kv (a:Int):CV:=.val (.int .i64 a)
theorem b6R:K9 (α:=Int) CC.P 5 kb (fun a=>.int .u8 a):=b4e .u8 Tryz.runUnderlying5
theorem R5:K9 (α:=Int) CC.P 3 kv (fun a=>.int .i64 a):=b4e .i64 Tryz.runUnderlying3
theorem a9N:K9 (α:=Str) CC.P 9 sv (fun a=>.string (str a)):=b7q Tryz.runUnderlying9
def KM (m:List (Int × Int)):Prop:=∀ c,(glk m c).getD 0=A3 c
theorem K7 (n:Nat) (m:List (Int × Int)):F0 n (.map (gm kb kv m)):=fun x hx=>by
 obtain ⟨y,_,rfl⟩:=List.mem_map.1 hx
 exact ⟨.val _,.val _⟩
theorem b3H (n:Nat) (a b:List (Int × Str)):F0 n (.iter (gm kv sv a) (gm kv sv b)):=⟨fun x hx=>by
 obtain ⟨y,_,rfl⟩:=List.mem_map.1 hx
 exact ⟨.val _,.val _⟩,fun x hx=>by
 obtain ⟨y,_,rfl⟩:=List.mem_map.1 hx
 exact ⟨.val _,.val _⟩⟩
theorem b5o (m:List (Int × Int)):a07 (.map (gm kb kv m)):=fun x hx=>by
 obtain ⟨y,_,rfl⟩:=List.mem_map.1 hx
 exact ⟨.val _,.val _⟩
def InB (s:Str) (c:Int):Prop:=∃ b∈s,(b.toNat:Int)=c
instance (s:Str) (c:Int):Decidable (InB s c):=by unfold InB; exact inferInstance
def KL (m:List (Int × Int)) (left:List (Int × Str)):Prop:=left.Nodup∧(∀ x∈left,x∈M0)∧∀ c,(glk m c).getD 0=if ∃ x∈left,InB x.2 c then 0 else A3 c
theorem b6M:∀ x∈M0,∀ b∈x.2,A3 (b.toNat:Int)=x.1:=by decide
theorem b5f:∀ x∈M0,∀ y∈M0,x≠y→∀ b∈x.2,b∉y.2:=by decide
theorem b4D:M0.Nodup:=by decide
set_option maxRecDepth 100000 in
theorem b7H:∀ c:Fin 256,A3 (c.val:Int)≠0→∃ x∈M0,∃ b∈x.2,(b.toNat:Int)=(c.val:Int):=by decide
theorem b6l {c:Int} (h:A3 c≠0):∃ x∈M0,∃ b∈x.2,(b.toNat:Int)=c:=by
 have hr:0≤c∧c < 256:=by
  unfold A3 at h
  split at h; · omega
  split at h; · omega
  split at h; · omega
  split at h; · omega
  split at h; · omega
  split at h; · omega
  split at h; · omega
  split at h
  ·omega
  ·exact absurd rfl h
 obtain ⟨n,rfl⟩:∃ n:Nat,c=n:=⟨c.toNat,by omega⟩
 exact b7H ⟨n,by omega⟩ h
theorem KL.start:KL [] M0:=by
 refine ⟨b4D,fun x h=>h,fun c=>?_⟩
 split
 ·rfl
 ·rename_i hno
  have:A3 c=0:=by
   rcases Int.decEq (A3 c) 0 with h | h
   ·exact absurd (b6l h) hno
   ·exact h
  rw [this]; rfl
theorem KL.done {m:List (Int × Int)} (h:KL m []):KM m:=fun c=>by
 rw [h.2.2 c,if_neg l7]
theorem KL.step {m m':List (Int × Int)} {left:List (Int × Str)} {i:Nat} {x:Int × Str} (h:KL m left) (hx:left[i]? = some x) (hm:∀ c,(glk m' c).getD 0=if InB x.2 c then x.1 else (glk m c).getD 0):KL m' (left.eraseIdx i):=by
 obtain ⟨h1,h2,h3⟩:=h
 have hxm:=h2 x (List.mem_of_getElem? hx)
 have hsub:∀ y,y∈left.eraseIdx i↔y∈left∧y≠x:=fun y=>by
  have hlt:=(List.getElem?_eq_some_iff.1 hx).1
  have hxe:=(List.getElem?_eq_some_iff.1 hx).2
  constructor
  ·intro hy
   obtain ⟨j,hj,hji⟩:=List.mem_eraseIdx_iff_getElem?.1 hy
   refine ⟨List.mem_of_getElem? hji,fun e=>?_⟩
   subst e
   exact hj ((List.getElem?_inj (List.getElem?_eq_some_iff.1 hji).1 h1).1 (by rw [hji,hx]))
  ·rintro ⟨hy,hne⟩
   obtain ⟨j,hj⟩:=List.mem_iff_getElem?.1 hy
   refine List.mem_eraseIdx_iff_getElem?.2 ⟨j,fun e=>?_,hj⟩
   subst e
   rw [hx] at hj
   exact hne (Option.some.inj hj).symm
 refine ⟨h1.sublist (List.eraseIdx_sublist _ _),fun y hy=>h2 y ((hsub y).1 hy).1,fun c=>?_⟩
 rw [hm c,h3 c]
 by_cases hc:InB x.2 c
 ·rw [if_pos hc,if_neg]
  ·obtain ⟨b,hb,rfl⟩:=hc
   exact (b6M x hxm b hb).symm
  ·rintro ⟨y,hy,b',hb',he⟩
   obtain ⟨b,hb,hbc⟩:=hc
   obtain ⟨hyl,hne⟩:=(hsub y).1 hy
   have:b'=b:=UInt8.toNat_inj.1 b8
   subst this
   exact b5f y (h2 y hyl) x hxm hne b' hb' hb
 ·rw [if_neg hc]
  have hiff:(∃ y∈left,InB y.2 c)↔∃ y∈left.eraseIdx i,InB y.2 c:=by
   constructor
   ·rintro ⟨y,hy,hb⟩
    exact ⟨y,(hsub y).2 ⟨hy,fun e=>hc (e ▸ hb)⟩,hb⟩
   ·rintro ⟨y,hy,hb⟩
    exact ⟨y,((hsub y).1 hy).1,hb⟩
  by_cases hh:∃ y∈left,InB y.2 c
  ·rw [if_pos hh,if_pos (hiff.1 hh)]
  ·rw [if_neg hh,if_neg (fun h=>hh (hiff.2 h))]
theorem a8J {α β:Type} {kc:α→CV} {vc:β→CV} (l:List (α × β)) (i:Nat):(gm kc vc l).eraseIdx i=gm kc vc (l.eraseIdx i):=by
 induction l generalizing i with
 | nil=>rfl
 | cons x l ih =>
  cases i with
  | zero=>rfl
  | succ i=>exact congrArg _ (ih i)
theorem b3X {α β:Type} {kc:α→CV} {vc:β→CV} {l:List (α × β)} {i:Nat} {x:CV × CV} (h:(gm kc vc l)[i]? = some x):∃ y,l[i]? = some y∧x=(kc y.1,vc y.2):=by
 unfold gm at h
 rw [List.getElem?_map,Option.map_eq_some_iff] at h
 obtain ⟨y,h1,h2⟩:=h
 exact ⟨y,h1,h2.symm⟩
theorem a01 (l:Str) (nn:Bool):o9 (.list (l.map bcv) nn none):=K3 (f:=bcv) (fun _=>⟨.val _,tt⟩) l nn
theorem J3 (n:Nat) (l:Str) (nn:Bool):Old n (.list (l.map bcv) nn none):=(a01 l nn).old
theorem b7R:∀ x∈M0,x.2.length≤26:=by decide
theorem b3D {m m1:List (Int × Int)} {s:Str} {j:Nat} {b:UInt8} {k:Int} (hb:s[j]? = some b) (h:∀ c,(glk m1 c).getD 0=if InB (s.take j) c then k else (glk m c).getD 0) :
 ∀ c,(glk (O3 m1 (b.toNat:Int) k) c).getD 0=if InB (s.take (j+1)) c then k else (glk m c).getD 0:=fun c=>by
 have ht:s.take (j+1)=s.take j++[b]:=by
  obtain ⟨hlt,rfl⟩:=List.getElem?_eq_some_iff.1 hb
  exact (List.take_append_getElem hlt).symm
 rw [H7,ht]
 by_cases hc:c=(b.toNat:Int)
 ·rw [if_pos hc,if_pos ⟨b,by simp,hc.symm⟩]; rfl
 ·rw [if_neg hc,h c]
  have hiff:InB (s.take j) c↔InB (s.take j++[b]) c:=by
   constructor
   ·rintro ⟨y,hy,e⟩; exact ⟨y,by simp [hy],e⟩
   ·rintro ⟨y,hy,e⟩
    rcases List.mem_append.1 hy with hy | hy
    ·exact ⟨y,hy,e⟩
    ·rw [List.mem_singleton.1 hy] at e; exact absurd e.symm hc
  by_cases hh:InB (s.take j) c
  ·rw [if_pos hh,if_pos (hiff.1 hh)]
  ·rw [if_neg hh,if_neg (fun h=>hh (hiff.2 h))]
set_option maxRecDepth 10000 in
theorem b2i:c4 CC 113 [] [] fun r τ=>∃ m:List (Int × Int),a1V [c5.map (gm kb kv m)].length τ r (.ret (.map 0))∧a6m [c5.map (gm kb kv m)].length τ τ [.map (gm kb kv m)]∧([]:List c5).length≤[c5.map (gm kb kv m)].length∧KM m:=by
 refine (d5 Tryz.func113 rfl rfl ?_)
 refine a7 (a6 ?_)
 refine cY j1 ?_
 refine a8 (a7 (a6 ?_))
 refine cD (P5 rfl ?_)
 refine cY c7 ?_
 refine a8 (a7 (a7 (a6 ?_)))
 refine cD (P5 rfl ?_)
 refine cD (m0 (vc:=sv) (l:=M0.take 0) R5 (.inr rfl) tt rfl rfl rfl rfl rfl Tryz.runUnderlying193 rfl ?_)
 refine cD (m0 (vc:=sv) (l:=M0.take 1) R5 (.inr rfl) tt rfl rfl rfl rfl rfl Tryz.runUnderlying193 rfl ?_)
 refine cD (m0 (vc:=sv) (l:=M0.take 2) R5 (.inr rfl) tt rfl rfl rfl rfl rfl Tryz.runUnderlying193 rfl ?_)
 refine cD (m0 (vc:=sv) (l:=M0.take 3) R5 (.inr rfl) tt rfl rfl rfl rfl rfl Tryz.runUnderlying193 rfl ?_)
 refine cD (m0 (vc:=sv) (l:=M0.take 4) R5 (.inr rfl) tt rfl rfl rfl rfl rfl Tryz.runUnderlying193 rfl ?_)
 refine cD (m0 (vc:=sv) (l:=M0.take 5) R5 (.inr rfl) tt rfl rfl rfl rfl rfl Tryz.runUnderlying193 rfl ?_)
 refine cD (m0 (vc:=sv) (l:=M0.take 6) R5 (.inr rfl) tt rfl rfl rfl rfl rfl Tryz.runUnderlying193 rfl ?_)
 refine cD (m0 (vc:=sv) (l:=M0.take 7) R5 (.inr rfl) tt rfl rfl rfl rfl rfl Tryz.runUnderlying193 rfl ?_)
 refine cY b7 ?_
 refine cD (b1E rfl tt rfl Tryz.runUnderlying193 rfl ?_)
 refine a8 (d4 ?_)
 refine p9 hCC (α:=List (Int × Int) × List (Int × Str) × List (Int × Str)) (fun _=>[(1,.map 0),(9,.ptr 2 0)]) (fun x=>[.map (gm kb kv x.1),.dead,.iter (gm kv sv x.2.1) (gm kv sv x.2.2)]) (fun x=>KL x.1 x.2.2) (fun x=>x.2.2.length) ([],[],M0) KL.start ⟨⟨tt,rfl⟩,⟨tt,rfl⟩,tt⟩ (extra0:=[]) rfl A5 (fun a ha=>by repeat' (first|exact tt|exact .val _|exact .ptr (nb rfl)|exact .map (nb rfl)|exact b83 | refine l2 ?_ | refine ⟨?_,?_⟩)) ?_; intro ⟨m,cur,left⟩ hkl
 dsimp only at hkl ⊢
 refine a7 (a6 ?_)
 refine cD (b5a rfl tt rfl rfl (fun hz=>?_) (fun i x hx=>?_))
 ·
  have hl0:left=[]:=by
   cases left with
   | nil=>rfl
   | cons y l=>cases hz
  subst hl0; refine cY v7 ?_
  refine a8 (a7 ?_)
  refine b9 tt rfl (fun h1=>?_) (fun h1=>?_)
  ·cases h1
  ·skip
   refine m4 (a7 (a6 ?_))
   refine cY b7 ?_; refine cY c7 ?_
   refine a8 (c9 ?_)
   exact ⟨_,l9 rfl tt c6,⟨m,.ret (.old (.map (Nat.zero_lt_one))),⟨.same (K7 _ _),tt⟩,Nat.zero_le _,hkl.done⟩⟩
 ·
  obtain ⟨⟨k,s⟩,hy,rfl⟩:=b3X hx
  rw [a8J]
  have hks:=hkl.2.1 _ (List.mem_of_getElem? hy)
  have hsl:s.length≤26:=b7R _ hks
  refine cY v7 ?_
  refine a8 (a7 ?_)
  refine b9 tt rfl (fun h3=>?_) (fun h3=>?_)
  ·skip
   refine c8 (d4 (a7 (a6 ?_)))
   refine cY (b1Y rfl tt rfl rfl) ?_; refine cY v7 ?_; refine cY v7 ?_; refine cY c7 ?_; refine cY c7 ?_
   refine a8 (a7 (a6 ?_))
   refine cY b7 ?_; refine cY (b66 rfl tt rfl Tryz.runUnderlying9 Tryz.runUnderlying139 Tryz.runUnderlying5 R8) ?_; refine cY b0e ?_; refine cY A7 ?_
   refine a8 (d4 ?_)
   refine p9 hCC (α:=List (Int × Int) × Nat) (fun x=>[(1,.map 0),(2,(.val (.int .i64 (k)))),(9,.ptr 2 0),(16,(.list (s.map bcv) true none)),(17,(.val (.int .i64 ((s.length:Int))))),(18,(.val (.int .i64 ((x.2:Int)))))]) (fun x=>[.map (gm kb kv x.1),.dead,.iter (gm kv sv [(k,s)]) (gm kv sv (left.eraseIdx i))]) (fun x=>x.2≤s.length∧∀ c,(glk x.1 c).getD 0=if InB (s.take x.2) c then k else (glk m c).getD 0) (fun x=>s.length - x.2) (m,0) ⟨Nat.zero_le _,fun c=>by rw [if_neg (by simp [InB])]⟩ ⟨⟨tt,rfl⟩,⟨tt,rfl⟩,⟨tt,rfl⟩,⟨tt,rfl⟩,⟨tt,rfl⟩,⟨tt,rfl⟩,tt⟩ (extra0:=[]) rfl A5 (fun a ha=>by repeat' (first|exact tt|exact .val _|exact .ptr (nb rfl)|exact .map (nb rfl)|exact b83 | refine l2 ?_ | refine ⟨?_,?_⟩)) ?_; intro ⟨m1,j⟩ ⟨hj,hm1⟩
   dsimp only at hj hm1 ⊢
   refine a7 (a6 ?_)
   refine cY r9 ?_
   refine a8 (a7 ?_)
   refine b9 tt rfl (fun h4=>?_) (fun h4=>?_)
   ·have hjl:(j:Int) < s.length:=by simpa using h4
    obtain ⟨b,hb⟩:∃ b,s[j]? = some b:=⟨s[j]'b8,by simp⟩
    refine c8 (a7 (d4 (a7 (a6 ?_))))
    refine cY (r5 rfl tt tt rfl rfl Tryz.runUnderlying139 Tryz.sizeOf5 b8 (m7 hb) rfl) ?_; refine cY (N6 rfl tt rfl Tryz.isAgg5 rfl) ?_; refine cY c7 ?_
    refine a8 (a6 ?_)
    refine cY b7 ?_; refine cY b7 ?_; refine cY b7 ?_
    refine cD (m0 (vc:=kv) (l:=m1) (a:=(b.toNat:Int)) (b:=k) b6R (.inl rfl) tt tt trivial rfl rfl rfl Tryz.runUnderlying155 rfl ?_)
    refine a8 (a6 ?_)
    refine cY m9 ?_; refine cY b7 ?_; refine a8 ?_
    exact ⟨(O3 m1 (b.toNat:Int) k,j+1),_,⟨by dsimp only; omega,by dsimp only; omega,b3D hb hm1⟩,⟨⟨tt,rfl⟩,⟨tt,rfl⟩,⟨tt,rfl⟩,⟨tt,rfl⟩,⟨tt,rfl⟩,⟨tt,rfl⟩,tt⟩,rfl⟩
   ·have hjl:s.length≤j:=by
     have:¬ (j:Int) < s.length:=by simpa using h4
     omega
    rw [List.take_of_length_le hjl] at hm1
    refine m4 ?_
    exact ⟨(m1,[(k,s)],left.eraseIdx i),_,⟨by dsimp only; rw [List.length_eraseIdx_of_lt (List.getElem?_eq_some_iff.1 hy).1]; have:=(List.getElem?_eq_some_iff.1 hy).1; omega,hkl.step hy hm1⟩,⟨⟨tt,rfl⟩,⟨tt,rfl⟩,tt⟩,rfl⟩
  ·cases h3
theorem a4Z (σ:List c5):c4 CC 113 [] σ fun r τ=>∃ m:List (Int × Int),r = .ret (.map σ.length)∧τ=σ++[.map (gm kb kv m)]∧KM m :=
 T4 (α:=List (Int × Int)) (obs:=[]) (args:=[]) (res:=fun _=>.ret (.map 0)) (res':=fun _=>.ret (.map σ.length)) (S:=fun _=>[]) (N:=fun m=>[.map (gm kb kv m)]) (P:=KM) [] hCC rfl (fun i j k h=>by simp at h) (fun i k h=>by simp at h) (fun ob h=>by cases h) ⟨rfl,fun i c c' h=>by simp at h⟩
  (T9 (res:=fun _=>.ret (.map 0)) (S:=fun m=>[.map (gm kb kv m)]) (P:=KM) hCC b2i) (fun m _=>⟨rfl,fun ob h=>by simp at h; subst h; exact b5o m⟩) (fun m _=>.ret (.map (.inr ⟨Nat.zero_le _,rfl⟩)))
def inK (ks:List Int) (b:UInt8):Bool:=ks.any fun k=>decide (A3 b.toNat=k)
def s9 (s:Str) (a:Nat) (ks:List Int):Nat:=a+((s.drop a).takeWhile (inK ks)).length
theorem b2t {s:Str} {a:Nat} {ks:List Int} (h:s.length≤a):s9 s a ks=a:=by
 unfold s9
 rw [List.drop_eq_nil_of_le h]; rfl
theorem a5R {s:Str} {a:Nat} {ks:List Int} {b:UInt8} (h:s[a]? = some b):s9 s a ks=if inK ks b=true then s9 s (a+1) ks else a:=by
 obtain ⟨hlt,rfl⟩:=List.getElem?_eq_some_iff.1 h
 unfold s9
 rw [List.drop_eq_getElem_cons hlt,List.takeWhile_cons]
 split
 ·rw [List.length_cons]; omega
 ·rfl
theorem a0v {s:Str} {a:Nat} {ks:List Int} (h:a≤s.length):a≤s9 s a ks∧s9 s a ks≤s.length:=by
 unfold s9
 have:=(List.takeWhile_sublist (inK ks) (l:=s.drop a)).length_le
 rw [List.length_drop] at this
 omega
theorem b5m {ks:List Int} {j:Nat} {k:Int} (h:ks[j]? = some k) (p:Int→Bool):(ks.take (j+1)).any p=((ks.take j).any p || p k):=by
 obtain ⟨hlt,rfl⟩:=List.getElem?_eq_some_iff.1 h
 rw [← List.take_append_getElem hlt,List.any_append]
 simp
set_option maxRecDepth 10000 in
theorem b3y (s:Str) (at_:Nat) (ks:List Int) (nn:Bool) (m:List (Int × Int)) (hm:KM m) (ha:at_≤s.length) (hs:s.length≤1000000000000) (hkl:ks.length≤1000000000000):c4 CC 114 [(sv (s)),(.val (.int .i64 ((at_:Int)))),.map 0,(.list (ks.map icv) nn none)] [c5.map (gm kb kv m)] fun r τ=>∃ _:Unit,a1V [c5.map (gm kb kv m)].length τ r (.ret (.val (.int .i64 ((s9 s at_ ks:Int)))))∧a6m [c5.map (gm kb kv m)].length τ τ [c5.map (gm kb kv m)]∧[c5.map (gm kb kv m)].length≤[c5.map (gm kb kv m)].length∧True:=by
 refine (d5 Tryz.func114 rfl rfl ?_)
 refine a7 (a6 ?_)
 refine cY j1 ?_
 refine a8 (a7 (d4 ?_))
 refine p9 hCC (α:=Nat) (fun i=>[(0,(sv (s))),(1,(.val (.int .i64 ((i:Int))))),(2,.map 0),(3,(.list (ks.map icv) nn none))]) (fun _=>[c5.map (gm kb kv m)]) (fun i=>i≤s.length∧s9 s at_ ks=s9 s i ks) (fun i=>s.length - i) at_ ⟨ha,rfl⟩ ⟨⟨tt,rfl⟩,⟨tt,rfl⟩,⟨tt,rfl⟩,⟨tt,rfl⟩,tt⟩ (extra0:=[]) rfl A5 (fun a ha=>by repeat' (first|exact tt|exact .val _|exact .ptr (nb rfl)|exact .map (nb rfl)|exact b3Z | refine l2 ?_ | refine ⟨?_,?_⟩)) ?_; intro i ⟨hi,hsp⟩
 refine a7 (a7 (a6 ?_))
 refine cY b7 ?_; refine cY b7 ?_; refine cY I3 ?_; refine cY r9 ?_; refine a8 ?_
 refine b9 tt rfl (fun h1=>?_) (fun h1=>?_)
 ·have hil:(i:Int) < s.length:=by simpa using h1
  obtain ⟨b,hb⟩:∃ b,s[i]? = some b:=⟨s[i]'b8,by simp⟩
  rw [a5R hb] at hsp
  refine c8 (d4 (a7 (a6 ?_)))
  refine cY j1 ?_
  refine a8 (a7 (a7 (a6 ?_)))
  refine cY b7 ?_; refine cY a4e ?_; refine cY A7 ?_
  refine a8 (d4 ?_)
  refine p9 hCC (α:=Nat) (fun j=>[(0,(sv (s))),(1,(.val (.int .i64 ((i:Int))))),(2,.map 0),(3,(.list (ks.map icv) nn none)),(9,(.val (.bool (((ks.take j).any fun k=>decide (A3 b.toNat=k)))))),(16,(.list (ks.map icv) nn none)),(17,(.val (.int .i64 ((ks.length:Int))))),(18,(.val (.int .i64 ((j:Int)))))]) (fun _=>[c5.map (gm kb kv m)]) (fun j=>j≤ks.length) (fun j=>ks.length - j) 0 (Nat.zero_le _) ⟨⟨tt,rfl⟩,⟨tt,rfl⟩,⟨tt,rfl⟩,⟨tt,rfl⟩,⟨tt,rfl⟩,⟨tt,rfl⟩,⟨tt,rfl⟩,⟨tt,rfl⟩,tt⟩ (extra0:=[]) rfl A5 (fun a ha=>by repeat' (first|exact tt|exact .val _|exact .ptr (nb rfl)|exact .map (nb rfl)|exact b3Z | refine l2 ?_ | refine ⟨?_,?_⟩)) ?_; intro j hj
  refine a7 (a6 ?_)
  refine cY r9 ?_
  refine a8 (a7 ?_)
  refine b9 tt rfl (fun h2=>?_) (fun h2=>?_)
  ·have hjl:(j:Int) < ks.length:=by simpa using h2
   obtain ⟨k,hk⟩:∃ k,ks[j]? = some k:=⟨ks[j]'b8,by simp⟩
   refine c8 (a7 (d4 (a7 (a6 ?_))))
   refine cY (r5 rfl tt tt rfl rfl Tryz.runUnderlying22 Tryz.sizeOf3 b8 (m7 hk) rfl) ?_; refine cY Z6 ?_; refine cY c7 ?_
   refine a8 (a6 ?_)
   refine cY b7 ?_; refine cY b7 ?_; refine cG o5 ?_; refine cG o5 ?_; refine cG o5 ?_; refine cG (fun hg=>M8 rfl hg hg rfl rfl Tryz.runUnderlying9 a4d hb) ?_; refine cG (fun hg=>J7 (vc:=kv) (l:=m) (a:=(b.toNat:Int)) b6R rfl hg hg rfl rfl Tryz.runUnderlying155 Tryz.zeroValue3 rfl rfl (a7j _ _)) ?_; refine cG o5 ?_; refine cG a4Q ?_; refine cY G5 ?_; refine cY c7 ?_
   refine a8 (a6 ?_)
   refine cY m9 ?_; refine cY b7 ?_; refine a8 ?_
   exact ⟨(j+1),_,⟨by omega,by omega⟩,⟨⟨tt,rfl⟩,⟨tt,rfl⟩,⟨tt,rfl⟩,⟨tt,rfl⟩,⟨tt,(by rw [b5m hk,← hm]; rfl)⟩,⟨tt,rfl⟩,⟨tt,rfl⟩,⟨tt,rfl⟩,tt⟩,rfl⟩
  ·have hjl:ks.length≤j:=by
    have:¬ (j:Int) < ks.length:=by simpa using h2
    omega
   refine m4 (a7 (a7 (a6 ?_)))
   refine cY b7 ?_; refine cY F6 ?_; refine a8 ?_
   refine b9 tt rfl (fun h3=>?_) (fun h3=>?_)
   ·have hno:inK ks b=false:=by
     have:((ks.take j).any fun k=>decide (A3 b.toNat=k))=false:=by simpa using h3
     rwa [List.take_of_length_le hjl] at this
    rw [hno] at hsp
    refine m4 (a7 (a6 ?_))
    refine cY b7 ?_; refine cY c7 ?_
    refine a8 (c9 ?_)
    exact ⟨_,l9 rfl tt c6,⟨(),.ret (x9 (by rw [hsp]; rfl)),⟨.same (K7 _ _),tt⟩,Nat.le_refl _,tt⟩⟩
   ·have hyes:inK ks b=true:=by
     have:((ks.take j).any fun k=>decide (A3 b.toNat=k))=true:=by simpa using h3
     rwa [List.take_of_length_le hjl] at this
    rw [hyes] at hsp
    refine c8 (a6 ?_)
    refine cY b7 ?_; refine cY m9 ?_; refine cY c7 ?_; refine a8 ?_
    exact ⟨(i+1),_,⟨by omega,by omega,hsp⟩,⟨⟨tt,rfl⟩,⟨tt,rfl⟩,⟨tt,rfl⟩,⟨tt,rfl⟩,tt⟩,rfl⟩
 ·have hge:s.length≤i:=by
   have:¬ (i:Int) < s.length:=by simpa using h1
   omega
  rw [b2t hge] at hsp
  refine m4 (a7 (a6 ?_))
  refine cY b7 ?_; refine cY c7 ?_
  refine a8 (c9 ?_)
  exact ⟨_,l9 rfl tt c6,⟨(),.ret (x9 (by rw [hsp])),⟨.same (K7 _ _),tt⟩,Nat.le_refl _,tt⟩⟩
theorem a3w {s:Str} {at_:Nat} {ks:List Int} {nn:Bool} {m:List (Int × Int)} (hm:KM m) (ha:at_≤s.length) (hs:s.length≤1000000000000) (hkl:ks.length≤1000000000000) {σ:List c5} {q:Nat} (hq:σ[q]? = some (.map (gm kb kv m))):c4 CC 114 [(sv s),(.val (.int .i64 (at_:Int))),.map q,(.list (ks.map icv) nn none)] σ fun r τ=>r = .ret (.val (.int .i64 (s9 s at_ ks:Int)))∧τ=σ :=
 a5w hCC (b5o m) (.val _) hq (.cons (.val _) (.cons (.val _) (.cons (.map rfl) (.cons (.pure (d8 _ _)) .nil)))) (b3y s at_ ks nn m hm ha hs hkl)
def B8 (s:Str):Bool:=match s with
 | []=>false
 | b::_=>decide (s.length≤24) && decide (A3 b.toNat=1) && s.all (inK [1,2,3])
theorem a3t {s:Str} {ks:List Int}:s9 s 0 ks=s.length↔s.all (inK ks)=true:=by
 unfold s9
 rw [List.drop_zero,Nat.zero_add]
 generalize inK ks=p
 induction s with
 | nil=>simp
 | cons b s ih =>
  rw [List.takeWhile_cons,List.all_cons]
  cases hp:p b with
  | false=>simp
  | true =>
   simp only [if_true,List.length_cons,Nat.add_right_cancel_iff,Bool.true_and]
   exact ih
theorem b4q {s:Str} (h:1≤s.length):s[(0:Int).toNat]? = some (s.headD 0):=by
 cases s with
 | nil=>simp at h
 | cons b s=>rfl
theorem b6p (s:Str) {m:List (Int × Int)} (hm:KM m) {x y z w:Bool} (h1:x=decide ((s.length:Int)≥1)) (h2:y=decide ((s.length:Int)≤24)) (h3:z=((glk m ((s.headD 0).toNat:Int)).getD 0 == 1)) (h4:w=((s9 s 0 [1,2,3]:Int) == (s.length:Int))):(((x && y) && z) && w)=B8 s:=by
 subst h1 h2 h3 h4
 rw [hm]
 have h5:((s9 s 0 [1,2,3]:Int) == (s.length:Int))=s.all (inK [1,2,3]):=by
  cases h:s.all (inK [1,2,3]) with
  | true=>exact decide_eq_true (by have:=a3t.2 h; omega)
  | false =>
   refine decide_eq_false fun e=>?_
   have:=a3t.1 (show s9 s 0 [1,2,3]=s.length by omega)
   rw [h] at this; cases this
 rw [h5]
 cases s with
 | nil=>rfl
 | cons b s =>
  have h6:decide (((b::s).length:Int)≥1)=true:=by simp; omega
  have h7:decide (((b::s).length:Int)≤24)=decide ((b::s).length≤24):=decide_eq_decide.2 b8
  rw [h6,h7]
  rfl
set_option maxRecDepth 10000 in
theorem b63 (s:Str) (hs:s.length≤1000000000000):c4 CC 64 [(sv (s))] [] fun r σ'=>r = .ret (.val (.bool (B8 s)))∧σ'=[]:=by
 refine j8 (d5 Tryz.func64 rfl rfl ?_)
 refine a7 (a6 ?_)
 refine cY j1 ?_
 refine a8 (a7 (a6 ?_))
 refine cD (j3 rfl Tryz.call113 trivial (a4Z _) rfl ?_)
 intro m hm; refine cY c7 ?_
 refine a8 (a7 (a6 ?_))
 refine cY b7 ?_; refine cY I3 ?_; refine cY j9 ?_; refine cY b7 ?_; refine cG o5 ?_; refine cG a4h ?_; refine cG C5 ?_; refine cY t8 ?_; refine cY b7 ?_; refine cG o5 ?_; refine cG o5 ?_; refine cG (fun hg=>M8 rfl hg rfl rfl rfl Tryz.runUnderlying9 a4d (b:=s.headD 0) (b4q (by simp at hg; omega))) ?_; refine cG (fun hg=>J7 (vc:=kv) (l:=m) (a:=((s.headD 0).toNat:Int)) b6R rfl hg hg rfl rfl Tryz.runUnderlying155 Tryz.zeroValue3 rfl rfl (a7j _ _)) ?_; refine cG C5 ?_; refine cY t8 ?_; refine cY b7 ?_; refine cG o5 ?_; refine cG o5 ?_; refine cG (fun hg=>y9 ([1,2,3].map icv) rfl ⟨rfl,rfl,rfl,tt⟩ Tryz.runUnderlying22 Tryz.sizeOf3 Tryz.zeroValue3 rfl rfl rfl rfl rfl rfl rfl rfl rfl) ?_; refine cG (fun hg=>i8 rfl Tryz.call114 ⟨hg,rfl,hg,hg,tt⟩ (a3w hm (Nat.zero_le _) hs j4 rfl) rfl) ?_; refine cG o5 ?_; refine cG a4h ?_; refine cG a4Q ?_; refine cY t8 ?_; refine cY c7 ?_
 refine a8 (c9 ?_)
 exact ⟨_,l9 rfl tt c6,_,_,rfl,rfl,m5 (b6p s hm rfl rfl rfl rfl)⟩
theorem W8 (s:Str) (hs:s.length≤1000000000000) (σ:List c5):c4 CC 64 [(sv (s))] σ fun r σ'=>r = .ret (.val (.bool (B8 s)))∧σ'=σ :=
 c4.anyw hCC (by repeat' (first|exact .val _|exact d8 _ _|exact d6 _ _|exact tt | refine d7 ?_ | refine d9 ?_ | refine ⟨?_,?_⟩)) (by repeat' (first|exact .val _|exact d8 _ _|exact d6 _ _|exact tt | refine d7 ?_ | refine d9 ?_ | refine ⟨?_,?_⟩)) (b63 s hs) σ
set_option maxRecDepth 10000 in
theorem a8j (s:Str) (c:UInt8):c4 CC 223 [(sv (s)),(.val (.int .u8 ((c.toNat:Int))))] [] fun r σ'=>r = .ret (.val (.int .i64 (Go.Lib.indexByte s c)))∧σ'=[]:=by
 refine j8 (d5 Tryz.func223 rfl rfl ?_)
 refine a7 (a6 ?_)
 refine cY j1 ?_
 refine a8 (a7 (a6 ?_))
 refine cY b7 ?_; refine cY b7 ?_; refine cY (b49 (e:=Extern.BytealgIndexByte.indexByte) rfl Tryz.func260 rfl rfl rfl rfl tt tt rfl rfl (fun w=>b2M s c w)) ?_; refine cY c7 ?_
 refine a8 (c9 ?_)
 exact ⟨_,l9 rfl tt c6,_,_,rfl,rfl,x9 rfl⟩
theorem a1v (s:Str) (c:UInt8) (σ:List c5):c4 CC 223 [(sv (s)),(.val (.int .u8 ((c.toNat:Int))))] σ fun r σ'=>r = .ret (.val (.int .i64 (Go.Lib.indexByte s c)))∧σ'=σ :=
 c4.anyw hCC (by repeat' (first|exact .val _|exact d8 _ _|exact d6 _ _|exact tt | refine d7 ?_ | refine d9 ?_ | refine ⟨?_,?_⟩)) (by repeat' (first|exact .val _|exact d8 _ _|exact d6 _ _|exact tt | refine d7 ?_ | refine d9 ?_ | refine ⟨?_,?_⟩)) (a8j s c) σ
set_option maxRecDepth 10000 in
theorem a2V (s:Str) (c:UInt8):c4 CC 184 [(sv (s)),(.val (.int .u8 ((c.toNat:Int))))] [] fun r σ'=>r = .ret (.val (.int .i64 (Go.Lib.indexByte s c)))∧σ'=[]:=by
 refine j8 (d5 Tryz.func184 rfl rfl ?_)
 refine a7 (a6 ?_)
 refine cY j1 ?_
 refine a8 (a7 (a6 ?_))
 refine cY b7 ?_; refine cY b7 ?_; refine cY (i8 rfl Tryz.call223 ⟨tt,tt,tt⟩ (a1v s c _) rfl) ?_; refine cY c7 ?_
 refine a8 (c9 ?_)
 exact ⟨_,l9 rfl tt c6,_,_,rfl,rfl,x9 rfl⟩
theorem a2f (s:Str) (c:UInt8) (σ:List c5):c4 CC 184 [(sv (s)),(.val (.int .u8 ((c.toNat:Int))))] σ fun r σ'=>r = .ret (.val (.int .i64 (Go.Lib.indexByte s c)))∧σ'=σ :=
 c4.anyw hCC (by repeat' (first|exact .val _|exact d8 _ _|exact d6 _ _|exact tt | refine d7 ?_ | refine d9 ?_ | refine ⟨?_,?_⟩)) (by repeat' (first|exact .val _|exact d8 _ _|exact d6 _ _|exact tt | refine d7 ?_ | refine d9 ?_ | refine ⟨?_,?_⟩)) (a2V s c) σ
set_option maxRecDepth 10000 in
theorem b2P (s:Str) (c:UInt8):c4 CC 254 [(sv (s)),(sv ([c]))] [] fun r σ'=>r = .ret (.val (.int .i64 (Go.Lib.indexByte s c)))∧σ'=[]:=by
 refine j8 (d5 Tryz.func254 rfl rfl ?_)
 refine a7 (a6 ?_)
 refine cY j1 ?_
 refine a8 (a7 (a6 ?_))
 refine cY b7 ?_; refine cY I3 ?_; refine cY c7 ?_
 refine a8 (a7 (d4 (a7 (a6 ?_))))
 refine cY b7 ?_; refine cY j9 ?_; refine cY b7 ?_; refine cG o5 ?_; refine cG o5 ?_; refine cG a3x ?_; refine cY G5 ?_; refine cY c7 ?_; refine a8 ?_
 refine b9 tt rfl (fun h1=>?_) (fun h1=>?_)
 ·have hs:s=[c]:=by simp at h1; exact h1.symm
  subst hs
  refine a7 (a6 ?_)
  refine cY j1 ?_
  refine a8 (c9 ?_)
  exact ⟨_,l9 rfl tt c6,_,_,rfl,rfl,x9 (by simp [Go.Lib.indexByte])⟩
 ·skip
  refine a7 (a6 ?_)
  refine cY b7 ?_; refine cY j9 ?_; refine cY c7 ?_; refine a8 ?_
  refine b9 tt rfl (fun h2=>?_) (fun h2=>?_)
  ·skip
   refine a7 (a6 ?_)
   refine cY b7 ?_; refine cY b7 ?_; refine cY (M8 rfl tt rfl rfl rfl Tryz.runUnderlying9 b8 rfl) ?_; refine cY (i8 rfl Tryz.call223 ⟨tt,tt,tt⟩ (a1v s c _) rfl) ?_; refine cY c7 ?_
   refine a8 (c9 ?_)
   exact ⟨_,l9 rfl tt c6,_,_,rfl,rfl,x9 rfl⟩
  ·simp at h2
theorem a9R (s:Str) (c:UInt8) (σ:List c5):c4 CC 254 [(sv (s)),(sv ([c]))] σ fun r σ'=>r = .ret (.val (.int .i64 (Go.Lib.indexByte s c)))∧σ'=σ :=
 c4.anyw hCC (by repeat' (first|exact .val _|exact d8 _ _|exact d6 _ _|exact tt | refine d7 ?_ | refine d9 ?_ | refine ⟨?_,?_⟩)) (by repeat' (first|exact .val _|exact d8 _ _|exact d6 _ _|exact tt | refine d7 ?_ | refine d9 ?_ | refine ⟨?_,?_⟩)) (b2P s c) σ
set_option maxRecDepth 10000 in
theorem a5W (s:Str) (c:UInt8):c4 CC 204 [(sv (s)),(sv ([c]))] [] fun r σ'=>r = .ret (.val (.int .i64 (Go.Lib.indexByte s c)))∧σ'=[]:=by
 refine j8 (d5 Tryz.func204 rfl rfl ?_)
 refine a7 (a6 ?_)
 refine cY j1 ?_
 refine a8 (a7 (a6 ?_))
 refine cY b7 ?_; refine cY b7 ?_; refine cY (i8 rfl Tryz.call254 ⟨tt,tt,tt⟩ (a9R s c _) rfl) ?_; refine cY c7 ?_
 refine a8 (c9 ?_)
 exact ⟨_,l9 rfl tt c6,_,_,rfl,rfl,x9 rfl⟩
theorem a3H (s:Str) (c:UInt8) (σ:List c5):c4 CC 204 [(sv (s)),(sv ([c]))] σ fun r σ'=>r = .ret (.val (.int .i64 (Go.Lib.indexByte s c)))∧σ'=σ :=
 c4.anyw hCC (by repeat' (first|exact .val _|exact d8 _ _|exact d6 _ _|exact tt | refine d7 ?_ | refine d9 ?_ | refine ⟨?_,?_⟩)) (by repeat' (first|exact .val _|exact d8 _ _|exact d6 _ _|exact tt | refine d7 ?_ | refine d9 ?_ | refine ⟨?_,?_⟩)) (a5W s c) σ
set_option maxRecDepth 10000 in
theorem a4O (s:Str) (c:UInt8):c4 CC 203 [(sv (s)),(sv ([c]))] [] fun r σ'=>r = .ret (.val (.int .i64 ((s.count c:Nat))))∧σ'=[]:=by
 refine j8 (d5 Tryz.func203 rfl rfl ?_)
 refine a7 (a6 ?_)
 refine cY j1 ?_
 refine a8 (a7 (a7 (a6 ?_)))
 refine cY b7 ?_; refine cY I3 ?_; refine cY j9 ?_; refine a8 ?_
 refine b9 tt rfl (fun h1=>?_) (fun h1=>?_)
 ·simp at h1
 ·skip
  refine c8 (a7 (a7 (a6 ?_)))
  refine cY b7 ?_; refine cY I3 ?_; refine cY j9 ?_; refine a8 ?_
  refine b9 tt rfl (fun h2=>?_) (fun h2=>?_)
  ·skip
   refine a7 (a6 ?_)
   refine cY b7 ?_; refine cY b7 ?_; refine cY (M8 rfl tt rfl rfl rfl Tryz.runUnderlying9 b8 rfl) ?_; refine cY (b49 (e:=Extern.BytealgCount.count) rfl Tryz.func253 rfl rfl rfl rfl tt tt rfl rfl (fun w=>b3j s c w)) ?_; refine cY c7 ?_
   refine a8 (c9 ?_)
   exact ⟨_,l9 rfl tt c6,_,_,rfl,rfl,x9 rfl⟩
  ·simp at h2
theorem a3D (s:Str) (c:UInt8) (σ:List c5):c4 CC 203 [(sv (s)),(sv ([c]))] σ fun r σ'=>r = .ret (.val (.int .i64 ((s.count c:Nat))))∧σ'=σ :=
 c4.anyw hCC (by repeat' (first|exact .val _|exact d8 _ _|exact d6 _ _|exact tt | refine d7 ?_ | refine d9 ?_ | refine ⟨?_,?_⟩)) (by repeat' (first|exact .val _|exact d8 _ _|exact d6 _ _|exact tt | refine d7 ?_ | refine d9 ?_ | refine ⟨?_,?_⟩)) (a4O s c) σ
def v6 (c:UInt8):Str→List Str
 | []=>[[]]
 | b::l=>if b=c then []::v6 c l else match v6 c l with
  | x::xs=>(b::x)::xs
  | []=>[[b]]
theorem a3L (c:UInt8) (s:Str):v6 c s≠[]:=by
 cases s with
 | nil=>simp [v6]
 | cons b l =>
  rw [v6]
  split
  ·simp
  ·split <;> simp
theorem T8 (c:UInt8) (s:Str):(v6 c s).length=s.count c+1:=by
 induction s with
 | nil=>rfl
 | cons b l ih =>
  rw [v6,List.count_cons]
  by_cases h:b=c
  ·rw [if_pos h,List.length_cons,ih,if_pos a33]
  ·rw [if_neg h,if_neg a33]
   cases hs:v6 c l with
   | nil=>exact absurd hs (a3L c l)
   | cons x xs=>rw [hs] at ih; simpa using ih
theorem a1O {c:UInt8}:∀ {s:Str},Go.Lib.indexByte s c = -1→v6 c s=[s]
 | [],_=>rfl
 | b::l,h=>by
  rw [Go.Lib.indexByte] at h
  by_cases hb:b=c
  ·rw [if_pos (by simpa using hb)] at h; omega
  ·rw [if_neg (by simpa using hb)] at h
   have hl:Go.Lib.indexByte l c = -1:=by
    have:=Go.Lib.indexByte_ge l c
    split at h
    ·rename_i e; simpa using e
    ·omega
   rw [v6,if_neg hb,a1O hl]
theorem a1L {c:UInt8}:∀ {s:Str} {m:Nat},Go.Lib.indexByte s c=m→m < s.length∧v6 c s=s.take m::v6 c (s.drop (m+1))
 | [],m,h=>by rw [Go.Lib.indexByte] at h; omega
 | b::l,m,h=>by
  rw [Go.Lib.indexByte] at h
  by_cases hb:b=c
  ·rw [if_pos (by simpa using hb)] at h
   have hm:m=0:=by omega
   subst hm
   exact ⟨by simp,by rw [v6,if_pos hb]; rfl⟩
  ·rw [if_neg (by simpa using hb)] at h
   have hg:=Go.Lib.indexByte_ge l c
   split at h
   ·omega
   ·rename_i e
    have e':Go.Lib.indexByte l c≠-1:=by simpa using e
    obtain ⟨k,hk⟩:∃ k:Nat,Go.Lib.indexByte l c=k:=⟨(Go.Lib.indexByte l c).toNat,by omega⟩
    have hmk:m=k+1:=by omega
    subst hmk
    obtain ⟨h1,h2⟩:=a1L hk
    refine ⟨by simp; omega,?_⟩
    rw [v6,if_neg hb,h2]
    rfl
theorem a9G (n:Nat) {d:List Str} {k:Nat}:F0 n (.vec 1 (d.map scv++List.replicate k (scv []))):=fun r hr c hc=>by
 rcases List.mem_append.1 hr with hr | hr
 ·obtain ⟨x,_,rfl⟩:=List.mem_map.1 hr
  simp [scv] at hc; subst hc; exact .val _
 ·have:=List.eq_of_mem_replicate hr
  subst this
  simp [scv] at hc; subst hc; exact .val _
theorem b3x {d:List Str} {k:Nat} (hk:0 < k):(d.map scv++List.replicate k (scv []))[0+((d.length:Int)).toNat]? = some (scv []):=by
 rw [Nat.zero_add,Int.toNat_natCast,List.getElem?_append_right l7]
 simp [hk]
theorem b41 {d:List Str} {n:Nat} {x:Str} (hk:d.length < n):(d.map scv++List.replicate (n - d.length) (scv [])).set (0+((d.length:Int)).toNat) (scv x)=(d++[x]).map scv++List.replicate (n - (d++[x]).length) (scv []):=by
 rw [Nat.zero_add,Int.toNat_natCast,List.set_append,if_neg l7]
 obtain ⟨j,hj⟩:∃ j,n - d.length=j+1:=⟨n - d.length - 1,by omega⟩
 have h2:n - (d++[x]).length=j:=by simp; omega
 rw [hj,h2]
 simp [List.replicate_succ]
set_option maxRecDepth 10000 in
theorem a2Z (s:Str) (c:UInt8) (hs:s.length≤1000000000):c4 CC 153 [(sv (s)),(sv ([c])),(.val (.int .i64 (0))),(.val (.int .i64 (-1)))] [] fun r σ'=>r = .ret (.list ((v6 c s).map scv) true none)∧σ'=[]:=by
 have hcnt:=s.count_le_length (a:=c)
 have hc1:([c]:Str).length=1:=rfl
 refine j8 (d5 Tryz.func153 rfl rfl ?_)
 refine a7 (a6 ?_)
 refine cY j1 ?_
 refine a8 (a7 (a7 (a6 ?_)))
 refine cY b7 ?_; refine cY j9 ?_; refine a8 ?_
 refine b9 tt rfl (fun h1=>?_) (fun h1=>?_)
 ·simp at h1
 ·skip
  refine c8 (a7 (a7 (a6 ?_)))
  refine cY b7 ?_; refine cY K8 ?_; refine a8 ?_
  refine b9 tt rfl (fun h2=>?_) (fun h2=>?_)
  ·simp at h2
  ·skip
   refine c8 ?_; refine T5 hCC (α:=Unit) (fun _=>[(0,(sv (s))),(1,(sv ([c]))),(2,(.val (.int .i64 (0)))),(3,(.val (.int .i64 (((s.count c:Nat):Int)+1))))]) (fun _=>[]) (fun _=>True) A5 (fun a ha=>by repeat' (first|exact tt|exact .val _|exact .ptr (nb rfl)|exact .map (nb rfl)|exact (by first|exact .vec (nb rfl)|exact a9G _|exact k8 _ _ _) | refine l2 ?_ | refine ⟨?_,?_⟩)) ?_ ?_
   ·
    refine a7 (a6 ?_)
    refine cY b7 ?_; refine cY j9 ?_; refine a8 ?_
    refine b9 tt rfl (fun h3=>?_) (fun h3=>?_)
    ·skip
     refine a6 ?_; refine cY b7 ?_; refine cY b7 ?_; refine cY (i8 rfl Tryz.call203 ⟨tt,tt,tt⟩ (a3D s c _) rfl) ?_; refine cY m9 ?_; refine cY c7 ?_; refine a8 ?_
     exact ⟨(),_,tt,⟨⟨tt,rfl⟩,⟨tt,rfl⟩,⟨tt,rfl⟩,⟨tt,rfl⟩,tt⟩,rfl⟩
    ·simp at h3
   ·intro _ _
    refine a7 (a6 ?_)
    refine cY b7 ?_; refine cY b7 ?_; refine cY I3 ?_; refine cY m9 ?_; refine cY (b69 rfl tt tt rfl rfl) ?_; refine cY c7 ?_
    refine a8 (a7 (a6 ?_))
    refine cY b7 ?_
    refine cD (b0n rfl tt tt rfl rfl (n:=(s.count c+1)) (c:=(s.count c+1)) b8 b8 Tryz.runUnderlying26 Tryz.sizeOf9 Tryz.typeInfo9 Tryz.zeroValue9 rfl (a3p rfl) rfl b8 K0 a6i ?_)
    refine cY c7 ?_
    refine a8 (a7 (a6 ?_))
    refine cY b7 ?_; refine cY R7 ?_; refine cY c7 ?_
    refine a8 (a7 (a6 ?_))
    refine cY j1 ?_
    refine a8 (a7 (d4 ?_))
    refine p9 hCC (α:=List Str × Str) (fun x=>[(0,(sv (x.2))),(1,(sv ([c]))),(2,(.val (.int .i64 (0)))),(3,(.val (.int .i64 (((s.count c:Nat):Int))))),(9,.vec 0 0 (s.count c+1)),(10,(.val (.int .i64 ((x.1.length:Int)))))]) (fun x=>[.vec 1 (x.1.map scv++List.replicate (s.count c+1 - x.1.length) (scv []))]) (fun x=>x.1.length≤s.count c∧v6 c s=x.1++v6 c x.2∧x.2.length≤s.length) (fun x=>s.count c+1 - x.1.length) ([],s) ⟨Nat.zero_le _,rfl,Nat.le_refl _⟩ ⟨⟨tt,rfl⟩,⟨tt,rfl⟩,⟨tt,rfl⟩,⟨tt,congrArg (fun z:Int=>(CV.val (.int .i64 z))) b8⟩,⟨tt,rfl⟩,⟨tt,rfl⟩,tt⟩ (extra0:=[]) rfl A5 (fun a ha=>by repeat' (first|exact tt|exact .val _|exact .ptr (nb rfl)|exact .map (nb rfl)|exact (by first|exact .vec (nb rfl)|exact a9G _|exact k8 _ _ _) | refine l2 ?_ | refine ⟨?_,?_⟩)) ?_; intro ⟨d,u⟩ ⟨hd,hsp,hul⟩
    dsimp only at hd hsp hul ⊢
    have hlen:=T8 c s
    rw [hsp,List.length_append,T8 c u] at hlen
    refine a7 (a7 (a6 ?_))
    refine cY b7 ?_; refine cY b7 ?_; refine cY r9 ?_; refine a8 ?_
    refine b9 tt rfl (fun h4=>?_) (fun h4=>?_)
    ·have hdl:d.length < s.count c:=by simp at h4; omega
     refine c8 (d4 (a7 (a6 ?_)))
     refine cY b7 ?_; refine cY b7 ?_; refine cY (i8 rfl Tryz.call204 ⟨tt,tt,tt⟩ (a3H u c _) rfl) ?_; refine cY c7 ?_
     refine a8 (a7 (a7 (a6 ?_)))
     refine cY b7 ?_; refine cY j9 ?_; refine a8 ?_
     refine b9 tt rfl (fun h5=>?_) (fun h5=>?_)
     ·exfalso
      have hneg:Go.Lib.indexByte u c = -1:=by
       have:=Go.Lib.indexByte_ge u c
       have h5':Go.Lib.indexByte u c < 0:=by simpa using h5
       omega
      have h6:=T8 c u
      rw [a1O hneg] at h6
      simp at h6
      omega
     ·have hm0:¬ Go.Lib.indexByte u c < 0:=by simpa using h5
      obtain ⟨m,hm⟩:∃ m:Nat,Go.Lib.indexByte u c=m:=⟨(Go.Lib.indexByte u c).toNat,by omega⟩
      obtain ⟨hml,hsu⟩:=a1L hm
      rw [hm]
      refine c8 (a7 (a6 ?_))
      refine cY b7 ?_; refine cY b7 ?_; refine cY b7 ?_; refine cY b7 ?_; refine cY b7 ?_; refine cY a3o ?_; refine cY (J2 (h:=m) rfl tt rfl Tryz.runUnderlying9 rfl ⟨tt,_,_,rfl,by omega,by omega⟩ a6X a6X) ?_; refine cY (W6 rfl tt tt rfl rfl Tryz.runUnderlying26 Tryz.sizeOf9 rfl b8 b8) ?_
      refine cD (P2 ((d++[u.take m]).map scv++List.replicate (s.count c+1 - (d++[u.take m]).length) (scv [])) rfl tt tt rfl c6 Tryz.sizeOf9 (.inl rfl) rfl (b3x (d:=d) (k:=s.count c+1 - d.length) b8) rfl (nb rfl) (by exact b41 (d:=d) (x:=u.take m) (n:=s.count c+1) b8) rfl ?_)
      refine a8 (a7 (a6 ?_))
      refine cY b7 ?_; refine cY b7 ?_; refine cY b7 ?_; refine cY I3 ?_; refine cY a3o ?_; refine cY (J2 (a:=(m+1)) rfl tt rfl Tryz.runUnderlying9 ⟨tt,_,_,rfl,by omega,by omega⟩ rfl a6X a6X) ?_; refine cY c7 ?_
      refine a8 (a6 ?_)
      refine cY b7 ?_; refine cY m9 ?_; refine cY c7 ?_; refine a8 ?_
      exact ⟨(d++[u.take m],u.drop (m+1)),_,⟨by simp; omega,by simp; omega,by rw [hsp,hsu]; simp,by simp; omega⟩,⟨⟨tt,(congrArg sv (show (u.take u.length).drop (m+1)=u.drop (m+1) by rw [List.take_length]))⟩,⟨tt,rfl⟩,⟨tt,rfl⟩,⟨tt,rfl⟩,⟨tt,rfl⟩,⟨tt,congrArg (fun z:Int=>(CV.val (.int .i64 z))) l7⟩,tt⟩,rfl⟩
    ·have hdl:d.length=s.count c:=by
      have:¬ (d.length:Int) < ((s.count c:Nat):Int):=by simpa using h4
      omega
     have hu1:v6 c u=[u]:=by
      apply a1O
      have h6:=T8 c u
      have hg:=Go.Lib.indexByte_ge u c
      rcases Int.lt_or_le (Go.Lib.indexByte u c) 0 with h | h
      ·omega
      ·obtain ⟨m,hm⟩:∃ m:Nat,Go.Lib.indexByte u c=m:=⟨(Go.Lib.indexByte u c).toNat,by omega⟩
       obtain ⟨_,h7⟩:=a1L hm
       have h8:=congrArg List.length h7
       have h9:=a3L c (u.drop (m+1))
       have h10:=List.length_pos_iff.2 h9
       simp only [List.length_cons] at h8
       omega
     rw [hu1] at hsp
     refine m4 (a7 (a6 ?_))
     refine cY b7 ?_; refine cY b7 ?_; refine cY b7 ?_; refine cY (W6 rfl tt tt rfl rfl Tryz.runUnderlying26 Tryz.sizeOf9 rfl b8 b8) ?_
     refine cD (P2 ((d++[u]).map scv++List.replicate (s.count c+1 - (d++[u]).length) (scv [])) rfl tt tt rfl c6 Tryz.sizeOf9 (.inl rfl) rfl (b3x (d:=d) (k:=s.count c+1 - d.length) b8) rfl (nb rfl) (by exact b41 (d:=d) (x:=u) (n:=s.count c+1) b8) rfl ?_)
     refine a8 (a7 (a6 ?_))
     refine cY b7 ?_; refine cY b7 ?_; refine cY m9 ?_; refine cY (b2q (h:=(d.length+1)) rfl tt rfl Tryz.runUnderlying26 Tryz.sizeOf9 rfl rfl ⟨tt,_,_,rfl,by omega,by omega⟩ b1l (by first|(simp; done)|(simp; omega))) ?_; refine cY c7 ?_
     refine a8 (c9 ?_)
     exact ⟨_,l9 rfl tt c6,_,_,rfl,rfl,.vecs (Nat.zero_le _) rfl (by first|(simp; done)|(simp; omega)) (by rw [hsp,List.drop_zero]; exact List.take_left' l7) (fun r hr c hc=>(D6 (f:=scv) (fun _=>L5.all ⟨.val _,tt⟩) _) r hr c hc)⟩
theorem a2j (s:Str) (c:UInt8) (hs:s.length≤1000000000) (σ:List c5):c4 CC 153 [(sv (s)),(sv ([c])),(.val (.int .i64 (0))),(.val (.int .i64 (-1)))] σ fun r σ'=>r = .ret (.list ((v6 c s).map scv) true none)∧σ'=σ :=
 c4.anyw hCC (by repeat' (first|exact .val _|exact d8 _ _|exact d6 _ _|exact tt | refine d7 ?_ | refine d9 ?_ | refine ⟨?_,?_⟩)) (by repeat' (first|exact .val _|exact d8 _ _|exact d6 _ _|exact tt | refine d7 ?_ | refine d9 ?_ | refine ⟨?_,?_⟩)) (a2Z s c hs) σ
set_option maxRecDepth 10000 in
theorem a4X (s:Str) (c:UInt8) (hs:s.length≤1000000000):c4 CC 116 [(sv (s)),(sv ([c]))] [] fun r σ'=>r = .ret (.list ((v6 c s).map scv) true none)∧σ'=[]:=by
 refine j8 (d5 Tryz.func116 rfl rfl ?_)
 refine a7 (a6 ?_)
 refine cY j1 ?_
 refine a8 (a7 (a6 ?_))
 refine cY b7 ?_; refine cY b7 ?_; refine cY (i8 rfl Tryz.call153 ⟨tt,tt,rfl,rfl,tt⟩ (a2j s c hs _) rfl) ?_; refine cY c7 ?_
 refine a8 (c9 ?_)
 exact ⟨_,l9 rfl tt c6,_,_,rfl,rfl,(X8 rfl (d6 _ _))⟩
theorem a3F (s:Str) (c:UInt8) (hs:s.length≤1000000000) (σ:List c5):c4 CC 116 [(sv (s)),(sv ([c]))] σ fun r σ'=>r = .ret (.list ((v6 c s).map scv) true none)∧σ'=σ :=
 c4.anyw hCC (by repeat' (first|exact .val _|exact d8 _ _|exact d6 _ _|exact tt | refine d7 ?_ | refine d9 ?_ | refine ⟨?_,?_⟩)) (by repeat' (first|exact .val _|exact d8 _ _|exact d6 _ _|exact tt | refine d7 ?_ | refine d9 ?_ | refine ⟨?_,?_⟩)) (a4X s c hs) σ
def a3h (p:Str):Bool:=decide (1≤p.length) && decide (p.length≤24) && p.all (inK [1,2,3,4])
def J6 (s:Str):Bool:=decide (s.length≤80) && decide ((v6 47 s).length≤8) && (v6 47 s).all a3h
theorem b3n {c:UInt8} {s:Str}:∀ p∈v6 c s,p.length≤s.length:=by
 induction s with
 | nil=>intro p hp; simp [v6] at hp; subst hp; simp
 | cons b l ih =>
  intro p hp
  rw [v6] at hp
  by_cases h:b=c
  ·rw [if_pos h] at hp
   rcases List.mem_cons.1 hp with rfl | hp
   ·simp
   ·have:=ih p hp; simp; omega
  ·rw [if_neg h] at hp
   cases hs:v6 c l with
   | nil=>exact absurd hs (a3L c l)
   | cons x xs =>
    rw [hs] at hp ih
    rcases List.mem_cons.1 hp with rfl | hp
    ·have:=ih x l7; simp; omega
    ·have:=ih p (by simp [hp]); simp; omega
theorem b1D (p:Str) {x y z:Bool} (h1:x=decide ((p.length:Int) < 1)) (h2:y=decide ((p.length:Int) > 24)) (h3:z = !((s9 p 0 [1,2,3,4]:Int) == (p.length:Int))):((x || y) || z) = !a3h p:=by
 subst h1 h2 h3
 have h5:((s9 p 0 [1,2,3,4]:Int) == (p.length:Int))=p.all (inK [1,2,3,4]):=by
  cases h:p.all (inK [1,2,3,4]) with
  | true=>exact decide_eq_true (by have:=a3t.2 h; omega)
  | false =>
   refine decide_eq_false fun e=>?_
   have:=a3t.1 (show s9 p 0 [1,2,3,4]=p.length by omega)
   rw [h] at this; cases this
 rw [h5,a3h]
 have h6:decide ((p.length:Int) < 1) = !decide (1≤p.length):=by by_cases h:1≤p.length <;> simp [h] <;> omega
 have h7:decide ((p.length:Int) > 24) = !decide (p.length≤24):=by by_cases h:p.length≤24 <;> simp [h] <;> omega
 rw [h6,h7]
 simp [Bool.not_and]
set_option maxRecDepth 10000 in
theorem b6i (s:Str) (hs:s.length≤1000000000):c4 CC 66 [(sv (s))] [] fun r σ'=>r = .ret (.val (.bool (J6 s)))∧σ'=[]:=by
 refine j8 (d5 Tryz.func66 rfl rfl ?_)
 refine a7 (a6 ?_)
 refine cY j1 ?_
 refine a8 (a7 (a6 ?_))
 refine cY b7 ?_; refine cY (i8 rfl Tryz.call116 ⟨tt,rfl,tt⟩ (a3F s 47 hs _) rfl) ?_; refine cY c7 ?_
 refine a8 (a7 (a7 (a6 ?_)))
 refine cY b7 ?_; refine cY I3 ?_; refine cY j9 ?_; refine cY b7 ?_; refine cG o5 ?_; refine cG (fun hg=>U8 rfl hg rfl Tryz.runUnderlying26 a2s rfl) ?_; refine cG C5 ?_; refine cY G5 ?_; refine a8 ?_
 refine b9 tt rfl (fun h1=>?_) (fun h1=>?_)
 ·have hno:J6 s=false:=by
   unfold J6
   have h1':(decide ((s.length:Int) > 80) || decide (((v6 47 s).length:Int) > 8))=true:=h1
   by_cases h:s.length≤80
   ·have h2:¬ (v6 47 s).length≤8:=by
     intro h2
     have e1:decide ((s.length:Int) > 80)=false:=decide_eq_false b8
     have e2:decide (((v6 47 s).length:Int) > 8)=false:=decide_eq_false b8
     rw [e1,e2] at h1'; cases h1'
    simp [h2]
   ·simp [h]
  refine a7 (a6 ?_)
  refine cY j1 ?_
  refine a8 (c9 ?_)
  exact ⟨_,l9 rfl tt c6,_,_,rfl,rfl,m5 hno.symm⟩
 ·have hok:s.length≤80∧(v6 47 s).length≤8:=by
   have h1':(decide ((s.length:Int) > 80) || decide (((v6 47 s).length:Int) > 8))=false:=h1
   simp only [Bool.or_eq_false_iff,decide_eq_false_iff_not] at h1'
   omega
  refine c8 (a7 (a6 ?_))
  refine cD (j3 rfl Tryz.call113 trivial (a4Z _) rfl ?_)
  intro m hm; refine cY c7 ?_
  refine a8 (a7 (a7 (a6 ?_)))
  refine cY b7 ?_; refine cY R1 ?_; refine cY A7 ?_
  refine a8 (d4 ?_)
  refine p9 hCC (α:=Nat) (fun i=>[(4,.map 0),(18,(.list ((v6 47 s).map scv) true none)),(19,(.val (.int .i64 (((v6 47 s).length:Int))))),(20,(.val (.int .i64 ((i:Int)))))]) (fun _=>[.map (gm kb kv m)]) (fun i=>i≤(v6 47 s).length∧((v6 47 s).take i).all a3h=true) (fun i=>(v6 47 s).length - i) 0 ⟨Nat.zero_le _,rfl⟩ ⟨⟨tt,rfl⟩,⟨tt,rfl⟩,⟨tt,rfl⟩,⟨tt,rfl⟩,tt⟩ (extra0:=[]) rfl A5 (fun a ha=>by repeat' (first|exact tt|exact .val _|exact .ptr (nb rfl)|exact .map (nb rfl)|exact b3Z | refine l2 ?_ | refine ⟨?_,?_⟩)) ?_; intro i ⟨hi,hall⟩
  refine a7 (a6 ?_)
  refine cY r9 ?_
  refine a8 (a7 ?_)
  refine b9 tt rfl (fun h2=>?_) (fun h2=>?_)
  ·have hil:(i:Int) < (v6 47 s).length:=by simpa using h2
   obtain ⟨p,hp⟩:∃ p,(v6 47 s)[i]? = some p:=⟨(v6 47 s)[i]'b8,by simp⟩
   have hpl:=b3n p (List.mem_of_getElem? hp)
   refine c8 (a7 (d4 (a7 (a6 ?_))))
   refine cY (r5 rfl tt tt rfl rfl Tryz.runUnderlying26 Tryz.sizeOf9 b8 (m7 hp) rfl) ?_; refine cY M7 ?_; refine cY c7 ?_
   refine a8 (a7 (a6 ?_))
   refine cY b7 ?_; refine cY I3 ?_; refine cY j9 ?_; refine cY b7 ?_; refine cG o5 ?_; refine cG a4h ?_; refine cG C5 ?_; refine cY G5 ?_; refine cY b7 ?_; refine cG o5 ?_; refine cG o5 ?_; refine cG (fun hg=>y9 ([1,2,3,4].map icv) rfl ⟨rfl,rfl,rfl,rfl,tt⟩ Tryz.runUnderlying22 Tryz.sizeOf3 Tryz.zeroValue3 rfl rfl rfl rfl rfl rfl rfl rfl rfl) ?_; refine cG (fun hg=>i8 rfl Tryz.call114 ⟨hg,rfl,hg,hg,tt⟩ (a3w hm (Nat.zero_le _) b8 j4 rfl) rfl) ?_; refine cG o5 ?_; refine cG a4h ?_; refine cG a4Q ?_; refine cY G5 ?_; refine a8 ?_
   refine b9 tt rfl (fun h3=>?_) (fun h3=>?_)
   ·have hbad:a3h p=false:=by
     have h3':true = !a3h p:=Eq.trans (Eq.symm h3) (b1D p rfl rfl rfl)
     simpa using h3'.symm
    have hno:J6 s=false:=by
     unfold J6
     have:(v6 47 s).all a3h=false:=by
      rw [Bool.eq_false_iff]
      intro hh
      have:=List.all_eq_true.1 hh p (List.mem_of_getElem? hp)
      rw [hbad] at this; cases this
     rw [this]; simp
    refine a7 (a6 ?_)
    refine cY j1 ?_
    refine a8 (c9 ?_)
    exact ⟨_,l9 rfl tt c6,_,_,rfl,rfl,m5 hno.symm⟩
   ·have hgood:a3h p=true:=by
     have h3':false = !a3h p:=Eq.trans (Eq.symm h3) (b1D p rfl rfl rfl)
     simpa using h3'.symm
    refine c8 (a6 ?_)
    refine cY m9 ?_; refine cY b7 ?_; refine a8 ?_
    exact ⟨(i+1),_,⟨by omega,by omega,by
 obtain ⟨hlt,he⟩:=List.getElem?_eq_some_iff.1 hp
 rw [← List.take_append_getElem hlt,List.all_append,hall,he]
 simp [hgood]⟩,⟨⟨tt,rfl⟩,⟨tt,rfl⟩,⟨tt,rfl⟩,⟨tt,rfl⟩,tt⟩,rfl⟩
  ·have hge:(v6 47 s).length≤i:=by
    have:¬ (i:Int) < (v6 47 s).length:=by simpa using h2
    omega
   rw [List.take_of_length_le hge] at hall
   refine m4 (a7 (a6 ?_))
   refine cY j1 ?_
   refine a8 (c9 ?_)
   exact ⟨_,l9 rfl tt c6,_,_,rfl,rfl,m5 (by rw [J6,hall]; simp [hok.1,hok.2])⟩
theorem S3 (s:Str) (hs:s.length≤1000000000) (σ:List c5):c4 CC 66 [(sv (s))] σ fun r σ'=>r = .ret (.val (.bool (J6 s)))∧σ'=σ :=
 c4.anyw hCC (by repeat' (first|exact .val _|exact d8 _ _|exact d6 _ _|exact tt | refine d7 ?_ | refine d9 ?_ | refine ⟨?_,?_⟩)) (by repeat' (first|exact .val _|exact d8 _ _|exact d6 _ _|exact tt | refine d7 ?_ | refine d9 ?_ | refine ⟨?_,?_⟩)) (b6i s hs) σ
structure Ky where
 k:Int
 a:Str
 b:Str
deriving DecidableEq
abbrev Ky.cells (x:Ky):List CV:=[.val (.int .i64 x.k),sv x.a,sv x.b]
def Ky.cv (x:Ky):List CV:=x.cells
theorem o8 (l:List Ky) (nn:Bool):o9 (.list (l.map Ky.cv) nn none):=K3 (f:=Ky.cv) (fun _=>⟨.val _,.val _,.val _,tt⟩) l nn
theorem a9r (n:Nat) (l:List Ky) (nn:Bool):Old n (.list (l.map Ky.cv) nn none):=(o8 l nn).old
theorem b1S (n:Nat) (x:Ky):F0 n (.box x.cells):=l2 ⟨.val _,.val _,.val _,tt⟩
def N4 (x:Ky):Bool :=
 if (x.k == 1 || x.k == 2)=true then B8 x.a && B8 x.b else if (x.k == 3 || x.k == 4)=true then J6 x.a && decide (x.b=[]) else if (x.k == 5 || x.k == 6 || x.k == 7)=true then B8 x.a && decide (x.b=[]) else false
set_option maxRecDepth 10000 in
theorem b32 (x:Ky) (ha:x.a.length≤1000000000) (hb0:x.b.length≤1000000000):c4 CC 31 [.agg x.cells] [] fun r σ'=>r = .ret (.val (.bool (N4 x)))∧σ'=[]:=by
 refine j8 (d5 Tryz.func31 rfl rfl ?_)
 refine a7 (a6 ?_)
 refine cD (A4 rfl tt c6 j2 ?_)
 refine cY j1 ?_
 refine a8 (a7 (a7 (a6 ?_)))
 refine cY (l8 rfl tt rfl Tryz.runUnderlying39 rfl Tryz.sizeOf3 j4) ?_; refine cY z8 ?_
 refine a8 (d4 ?_)
 refine T5 hCC (α:=Bool) (fun b=>[(1,.ptr 0 0),(4,(.val (.int .i64 (x.k)))),(5,(.val (.bool (b))))]) (fun _=>[.box x.cells]) (fun b=>b=(x.k == 1 || x.k == 2)) A5 (fun a ha=>by repeat' (first|exact tt|exact .val _|exact .ptr (nb rfl)|exact .map (nb rfl)|exact (by first|exact k8 _ _ _|exact b1S _ _) | refine l2 ?_ | refine ⟨?_,?_⟩)) ?_ ?_
 ·
  refine a7 (a6 ?_)
  refine cY j9 ?_; refine cY c7 ?_; refine a8 ?_
  refine b9 tt rfl (fun h1=>?_) (fun h1=>?_)
  ·skip
   refine c8 ?_
   exact ⟨(x.k == 1),_,(by simp_all),⟨⟨tt,rfl⟩,⟨tt,rfl⟩,⟨tt,rfl⟩,tt⟩,rfl⟩
  ·skip
   refine a6 ?_; refine cY j9 ?_; refine cY c7 ?_; refine a8 ?_
   exact ⟨(x.k == 2),_,(by simp_all),⟨⟨tt,rfl⟩,⟨tt,rfl⟩,⟨tt,rfl⟩,tt⟩,rfl⟩
 ·intro b hb
  refine b9 tt rfl (fun h2=>?_) (fun h2=>?_)
  ·skip
   refine a7 (a6 ?_)
   refine cY Z0 ?_; refine cY s7 ?_; refine cY b1s ?_; refine cY b7 ?_; refine cG a8X ?_; refine cG U7 ?_; refine cG (fun hg=>i8 rfl Tryz.call64 ⟨hg,tt⟩ (W8 x.b b8 _) rfl) ?_; refine cY t8 ?_; refine cY c7 ?_
   refine a8 (c9 ?_)
   exact ⟨_,l9 rfl tt c6,_,_,rfl,rfl,m5 (show (B8 x.a && B8 x.b)=N4 x by simp_all [N4])⟩
  ·skip
   refine T5 hCC (α:=Bool) (fun b=>[(1,.ptr 0 0),(4,(.val (.int .i64 (x.k)))),(16,(.val (.bool (b))))]) (fun _=>[.box x.cells]) (fun b=>b=(x.k == 3 || x.k == 4)) A5 (fun a ha=>by repeat' (first|exact tt|exact .val _|exact .ptr (nb rfl)|exact .map (nb rfl)|exact (by first|exact k8 _ _ _|exact b1S _ _) | refine l2 ?_ | refine ⟨?_,?_⟩)) ?_ ?_
   ·
    refine a7 (a6 ?_)
    refine cY j9 ?_; refine cY c7 ?_; refine a8 ?_
    refine b9 tt rfl (fun h3=>?_) (fun h3=>?_)
    ·skip
     refine c8 ?_
     exact ⟨(x.k == 3),_,(by simp_all),⟨⟨tt,rfl⟩,⟨tt,rfl⟩,⟨tt,rfl⟩,tt⟩,rfl⟩
    ·skip
     refine a6 ?_; refine cY j9 ?_; refine cY c7 ?_; refine a8 ?_
     exact ⟨(x.k == 4),_,(by simp_all),⟨⟨tt,rfl⟩,⟨tt,rfl⟩,⟨tt,rfl⟩,tt⟩,rfl⟩
   ·intro b2 hb2
    refine b9 tt rfl (fun h4=>?_) (fun h4=>?_)
    ·skip
     refine a7 (a6 ?_)
     refine cY Z0 ?_; refine cY s7 ?_; refine cY (i8 rfl Tryz.call66 ⟨tt,tt⟩ (S3 x.a b8 _) rfl) ?_; refine cY b7 ?_; refine cG a8X ?_; refine cG U7 ?_; refine cG a6S ?_; refine cY t8 ?_; refine cY c7 ?_
     refine a8 (c9 ?_)
     exact ⟨_,l9 rfl tt c6,_,_,rfl,rfl,m5 (show (J6 x.a && decide (x.b=[]))=N4 x by simp_all [N4])⟩
    ·skip
     refine a7 (a7 (a6 ?_))
     refine cY j9 ?_; refine cY c7 ?_; refine a8 ?_
     refine b9 tt rfl (fun h5=>?_) (fun h5=>?_)
     ·skip
      refine c8 ?_
      refine b9 tt rfl (fun h6=>?_) (fun h6=>?_)
      ·skip
       refine a7 (a6 ?_)
       refine cY Z0 ?_; refine cY s7 ?_; refine cY b1s ?_; refine cY b7 ?_; refine cG a8X ?_; refine cG U7 ?_; refine cG a6S ?_; refine cY t8 ?_; refine cY c7 ?_
       refine a8 (c9 ?_)
       exact ⟨_,l9 rfl tt c6,_,_,rfl,rfl,m5 (show (B8 x.a && decide (x.b=[]))=N4 x by simp_all [N4])⟩
      ·skip
       refine c8 (a7 (a6 ?_))
       refine cY j1 ?_
       refine a8 (c9 ?_)
       exact ⟨_,l9 rfl tt c6,_,_,rfl,rfl,m5 (show false=N4 x by simp_all [N4])⟩
     ·skip
      refine a7 (a6 ?_)
      refine cY j9 ?_; refine cY c7 ?_; refine a8 ?_
      refine b9 tt rfl (fun h7=>?_) (fun h7=>?_)
      ·skip
       refine c8 ?_
       refine b9 tt rfl (fun h8=>?_) (fun h8=>?_)
       ·skip
        refine a7 (a6 ?_)
        refine cY Z0 ?_; refine cY s7 ?_; refine cY b1s ?_; refine cY b7 ?_; refine cG a8X ?_; refine cG U7 ?_; refine cG a6S ?_; refine cY t8 ?_; refine cY c7 ?_
        refine a8 (c9 ?_)
        exact ⟨_,l9 rfl tt c6,_,_,rfl,rfl,m5 (show (B8 x.a && decide (x.b=[]))=N4 x by simp_all [N4])⟩
       ·skip
        refine c8 (a7 (a6 ?_))
        refine cY j1 ?_
        refine a8 (c9 ?_)
        exact ⟨_,l9 rfl tt c6,_,_,rfl,rfl,m5 (show false=N4 x by simp_all [N4])⟩
      ·skip
       refine a6 ?_; refine cY j9 ?_; refine cY c7 ?_; refine a8 ?_
       refine b9 tt rfl (fun h9=>?_) (fun h9=>?_)
       ·skip
        refine a7 (a6 ?_)
        refine cY Z0 ?_; refine cY s7 ?_; refine cY b1s ?_; refine cY b7 ?_; refine cG a8X ?_; refine cG U7 ?_; refine cG a6S ?_; refine cY t8 ?_; refine cY c7 ?_
        refine a8 (c9 ?_)
        exact ⟨_,l9 rfl tt c6,_,_,rfl,rfl,m5 (show (B8 x.a && decide (x.b=[]))=N4 x by simp_all [N4])⟩
       ·skip
        refine c8 (a7 (a6 ?_))
        refine cY j1 ?_
        refine a8 (c9 ?_)
        exact ⟨_,l9 rfl tt c6,_,_,rfl,rfl,m5 (show false=N4 x by simp_all [N4])⟩
theorem b06 (x:Ky) (ha:x.a.length≤1000000000) (hb0:x.b.length≤1000000000) (σ:List c5):c4 CC 31 [.agg x.cells] σ fun r σ'=>r = .ret (.val (.bool (N4 x)))∧σ'=σ :=
 c4.anyw hCC (by repeat' (first|exact .val _|exact d8 _ _|exact d6 _ _|exact tt | refine d7 ?_ | refine d9 ?_ | refine ⟨?_,?_⟩)) (by repeat' (first|exact .val _|exact d8 _ _|exact d6 _ _|exact tt | refine d7 ?_ | refine d9 ?_ | refine ⟨?_,?_⟩)) (b32 x ha hb0) σ
def a8b (v n:Int):Int:=if n≤1 then 0 else v%n
theorem a7q {v n:Int} (hn:1≤n):0≤a8b v n∧a8b v n < n:=by
 unfold a8b
 split
 ·omega
 ·exact ⟨Int.emod_nonneg _ b8,Int.emod_lt_of_pos _ b8⟩
def a9s (l:List Int) (at_:Nat):Int:=(l[at_]?).getD ((at_:Int)*7%11)
def I8 (l:List Int) (at_:Nat) (n:Int):Int:=a8b (a9s l at_) n
abbrev o4 (l:List Int) (nn:Bool) (at_:Nat):c5:=.box [.list (l.map icv) nn none,.val (.int .i64 at_)]
theorem B0 (l:List Int) (nn:Bool) (k:Nat):a5g (o4 l nn k):=L5.all ⟨d8 _ _,.val _,tt⟩
set_option maxRecDepth 10000 in
theorem b50 (v n:Int) (hn:n≤4611686018427387904):c4 CC 51 [(.val (.int .i64 (v))),(.val (.int .i64 (n)))] [] fun r σ'=>r = .ret (.val (.int .i64 (a8b v n)))∧σ'=[]:=by
 refine j8 (d5 Tryz.func51 rfl rfl ?_)
 refine a7 (a6 ?_)
 refine cY j1 ?_
 refine a8 (a7 (a7 (a6 ?_)))
 refine cY b7 ?_; refine cY j9 ?_; refine a8 ?_
 refine b9 tt rfl (fun h1=>?_) (fun h1=>?_)
 ·have hn1:n≤1:=by simpa using h1
  refine a7 (a6 ?_)
  refine cY j1 ?_
  refine a8 (c9 ?_)
  exact ⟨_,l9 rfl tt c6,_,_,rfl,rfl,x9 (by rw [a8b,if_pos hn1])⟩
 ·have hn1:¬ n≤1:=by simpa using h1
  have ht:v.tmod n=v%n∨v.tmod n+n=v%n∧v.tmod n < 0:=by
   rcases Int.le_total 0 v with hv | hv
   ·exact .inl (Int.tmod_eq_emod_of_nonneg hv)
   ·rw [Int.tmod_eq_emod]; split
    ·exact .inl b8
    ·right; have:=Int.emod_lt_of_pos v (show 0 < n by omega); have h5:(n.natAbs:Int)=n:=by omega
     omega
  have hm1:=Int.emod_nonneg v (show n≠0 by omega)
  have hm2:=Int.emod_lt_of_pos v (show 0 < n by omega)
  have hm3:=Int.tmod_lt_of_pos v (show 0 < n by omega)
  have hm4 : -n≤v.tmod n:=by omega
  refine c8 (a7 (a6 ?_))
  refine cY b7 ?_; refine cY b7 ?_; refine cY (a1d rfl tt tt rfl rfl (b5g b8)) ?_; refine cY c7 ?_
  refine a8 (a7 (a7 (a6 ?_)))
  refine cY b7 ?_; refine cY j9 ?_; refine a8 ?_
  refine b9 tt rfl (fun h2=>?_) (fun h2=>?_)
  ·have hlt:v.tmod n < 0:=by simpa using h2
   refine a6 ?_; refine cY b7 ?_; refine cY b7 ?_; refine cY a3o ?_; refine cY c7 ?_
   refine a8 (a7 (a6 ?_))
   refine cY b7 ?_; refine cY c7 ?_
   refine a8 (c9 ?_)
   exact ⟨_,l9 rfl tt c6,_,_,rfl,rfl,x9 (by rw [a8b,if_neg hn1]; omega)⟩
  ·have hlt:¬ v.tmod n < 0:=by simpa using h2
   refine c8 (a7 (a6 ?_))
   refine cY b7 ?_; refine cY c7 ?_
   refine a8 (c9 ?_)
   exact ⟨_,l9 rfl tt c6,_,_,rfl,rfl,x9 (by rw [a8b,if_neg hn1]; omega)⟩
theorem a67 (v n:Int) (hn:n≤4611686018427387904) (σ:List c5):c4 CC 51 [(.val (.int .i64 (v))),(.val (.int .i64 (n)))] σ fun r σ'=>r = .ret (.val (.int .i64 (a8b v n)))∧σ'=σ :=
 c4.anyw hCC (by repeat' (first|exact .val _|exact d8 _ _|exact d6 _ _|exact o8 _ _|exact tt | refine d7 ?_ | refine d9 ?_ | refine ⟨?_,?_⟩)) (by repeat' (first|exact .val _|exact d8 _ _|exact d6 _ _|exact o8 _ _|exact tt | refine d7 ?_ | refine d9 ?_ | refine ⟨?_,?_⟩)) (b50 v n hn) σ
set_option maxRecDepth 10000 in
theorem F9 (l:List Int) (nn:Bool) (k:Nat) (σ:List c5) (q:Nat) (hk:σ[q]? = some (o4 l nn k)) (hat:k≤1000000000) (hl:l.length≤maxLen) (n:Int) (hn:n≤4611686018427387904):c4 CC 18 [.ptr q 0,.val (.int .i64 n)] σ fun r σ'=>∃ _:Unit,r = .ret (.val (.int .i64 (I8 l k n)))∧σ'=σ.set q (o4 l nn (k+1))∧True:=by
 have hl1:=hl
 unfold maxLen at hl1
 unfold o4 at hk
 have hq:q < σ.length:=(List.getElem?_eq_some_iff.1 hk).1
 refine (d5 Tryz.func18 rfl rfl ?_)
 refine a7 (a6 ?_)
 refine cY j1 ?_
 refine a8 (a7 (a6 ?_))
 refine cY b7 ?_; refine cY o6 ?_; refine cY a5n ?_; refine cY a9P ?_; refine cY (b1u rfl tt rfl rfl rfl b8 b8) ?_; refine cY (a1d rfl tt rfl rfl rfl (b0D b8 b8)) ?_; refine cY c7 ?_
 refine a8 (a7 (a7 ?_))
 refine w8 10 [0,1,3,7,0,16,48,112,240,511] j6 j6 rfl ?_; refine hY b7 ?_; refine hY o6 ?_; refine hY a5n ?_; refine hY a9P ?_; refine hY b7 ?_; refine hY o6 ?_; refine hY (l8 rfl tt rfl Tryz.runUnderlying29 rfl Tryz.sizeOf22 j4) ?_; refine hY (n8 rfl tt rfl Tryz.isAgg22 hk rfl) ?_; refine hY a4e ?_; refine hY r9 ?_
 refine B6 (a8 ?_)
 refine b9 tt rfl (fun h1=>?_) (fun h1=>?_)
 ·have hlt:(k:Int) < l.length:=by simpa using h1
  obtain ⟨v,hv⟩:∃ v,l[k]? = some v:=⟨l[k]'b8,by simp⟩
  refine w8 11 [0,1,3,7,0,16,48,112,255,511,1023] j6 j6 rfl ?_; refine hY b7 ?_; refine hY o6 ?_; refine hY (l8 rfl tt rfl Tryz.runUnderlying29 rfl Tryz.sizeOf22 j4) ?_; refine hY (n8 rfl tt rfl Tryz.isAgg22 hk rfl) ?_; refine hY b7 ?_; refine hY o6 ?_; refine hY a5n ?_; refine hY a9P ?_; refine hY (r5 rfl tt tt rfl rfl Tryz.runUnderlying22 Tryz.sizeOf3 b8 (m7 hv) rfl) ?_; refine hY Z6 ?_; refine hY c7 ?_
  refine B6 (a8 (a7 (a6 ?_)))
  refine cY b7 ?_; refine cY o6 ?_; refine cY a5n ?_; refine cY a9P ?_; refine cY m9 ?_; refine cY o6 ?_; refine cY a5n ?_
  refine cD (i7 rfl tt tt rfl c6 Tryz.sizeOf3 (.inl rfl) hk rfl (nb rfl) ?_)
  refine a8 (a7 (a6 ?_))
  refine cY b7 ?_; refine cY b7 ?_; refine cY (i8 rfl Tryz.call51 ⟨tt,tt,tt⟩ (a67 v n hn _) rfl) ?_; refine cY c7 ?_
  refine a8 (c9 ?_)
  exact ⟨_,l9 rfl tt c6,⟨(),by rw [I8,a9s,hv]; rfl,rfl,tt⟩⟩
 ·have hge:¬ (k:Int) < l.length:=by simpa using h1
  have hv:l[k]? = none:=List.getElem?_eq_none b8
  refine c8 (a7 (a6 ?_))
  refine cY b7 ?_; refine cY o6 ?_; refine cY a5n ?_; refine cY a9P ?_; refine cY m9 ?_; refine cY o6 ?_; refine cY a5n ?_
  refine cD (i7 rfl tt tt rfl c6 Tryz.sizeOf3 (.inl rfl) hk rfl (nb rfl) ?_)
  refine a8 (a7 (a6 ?_))
  refine cY b7 ?_; refine cY b7 ?_; refine cY (i8 rfl Tryz.call51 ⟨tt,tt,tt⟩ (a67 _ n hn _) rfl) ?_; refine cY c7 ?_
  refine a8 (c9 ?_)
  exact ⟨_,l9 rfl tt c6,⟨(),by rw [I8,a9s,hv]; rfl,rfl,tt⟩⟩
set_option maxRecDepth 10000 in
theorem D3 (l:List Int) (nn:Bool) (k:Nat) (σ:List c5) (q:Nat) (hk:σ[q]? = some (o4 l nn k)) (hat:k≤1000000000) (hl:l.length≤maxLen) (n m:Int) (hn:m≤4611686018427387904):c4 CC 10 [.ptr q 0,.val (.int .i64 n),.val (.int .i64 m)] σ fun r σ'=>∃ _:Unit,r = .ret (.val (.bool (decide (I8 l k m < n))))∧σ'=σ.set q (o4 l nn (k+1))∧True:=by
 refine (d5 Tryz.func10 rfl rfl ?_)
 refine a7 (a6 ?_)
 refine cY j1 ?_
 refine a8 (a7 (a6 ?_))
 refine cY b7 ?_; refine cY b7 ?_
 refine cD (j3 rfl Tryz.call18 ⟨tt,tt,tt⟩ (F9 l nn k σ q hk hat hl m hn) rfl ?_)
 intro _ _; refine cY b7 ?_; refine cY r9 ?_; refine cY c7 ?_
 refine a8 (c9 ?_)
 exact ⟨_,l9 rfl tt c6,⟨(),rfl,rfl,tt⟩⟩
set_option maxRecDepth 10000 in
theorem a13 (l:List Int) (nn:Bool) (k:Nat) (σ:List c5) (q:Nat) (hk:σ[q]? = some (o4 l nn k)) (hat:k≤1000000000) (hl:l.length≤maxLen) (ls:List Int) (hls:ls≠[]) (hln:ls.length≤1000):c4 CC 43 [.ptr q 0,.list (ls.map icv) true none] σ fun r σ'=>∃ v:Int,r = .ret (.val (.int .i64 v))∧σ'=σ.set q (o4 l nn (k+1))∧v∈ls:=by
 have hpos:=List.length_pos_iff.2 hls
 have hb:=a7q (v:=a9s l k) (n:=(ls.length:Int)) b8
 obtain ⟨v,hv⟩:∃ v,ls[(I8 l k (ls.length:Int)).toNat]? = some v:=⟨ls[(I8 l k (ls.length:Int)).toNat]'(by unfold I8; omega),by simp⟩
 have hb':0≤I8 l k (ls.length:Int):=hb.1
 refine (d5 Tryz.func43 rfl rfl ?_)
 refine a7 (a6 ?_)
 refine cY j1 ?_
 refine a8 (a7 (a7 (a6 ?_)))
 refine cY b7 ?_; refine cY a4e ?_; refine cY j9 ?_; refine a8 ?_
 refine b9 tt rfl (fun h1=>?_) (fun h1=>?_)
 ·exfalso
  simp at h1
  exact hls h1
 ·skip
  refine c8 (a7 (a6 ?_))
  refine cY b7 ?_; refine cY b7 ?_; refine cY b7 ?_; refine cY a4e ?_
  refine cD (j3 rfl Tryz.call18 ⟨tt,tt,tt⟩ (F9 l nn k σ q hk hat hl (ls.length:Int) b8) rfl ?_)
  intro _ _; refine cY (r5 rfl tt tt rfl rfl Tryz.runUnderlying22 Tryz.sizeOf3 b8 (m7 hv) rfl) ?_; refine cY Z6 ?_; refine cY c7 ?_
  refine a8 (c9 ?_)
  exact ⟨_,l9 rfl tt c6,⟨v,rfl,rfl,List.mem_of_getElem? hv⟩⟩
set_option maxRecDepth 10000 in
theorem C3 (l:List Int) (nn:Bool) (k:Nat) (σ:List c5) (q:Nat) (hk:σ[q]? = some (o4 l nn k)) (hat:k≤1000000000) (hl:l.length≤maxLen) (ls:List Str) (hls:ls≠[]) (hln:ls.length≤1000):c4 CC 17 [.ptr q 0,.list (ls.map scv) true none] σ fun r σ'=>∃ v:Str,r = .ret (sv v)∧σ'=σ.set q (o4 l nn (k+1))∧v∈ls:=by
 have hpos:=List.length_pos_iff.2 hls
 have hb:=a7q (v:=a9s l k) (n:=(ls.length:Int)) b8
 obtain ⟨v,hv⟩:∃ v,ls[(I8 l k (ls.length:Int)).toNat]? = some v:=⟨ls[(I8 l k (ls.length:Int)).toNat]'(by unfold I8; omega),by simp⟩
 have hb':0≤I8 l k (ls.length:Int):=hb.1
 refine (d5 Tryz.func17 rfl rfl ?_)
 refine a7 (a6 ?_)
 refine cY j1 ?_
 refine a8 (a7 (a7 (a6 ?_)))
 refine cY b7 ?_; refine cY R1 ?_; refine cY j9 ?_; refine a8 ?_
 refine b9 tt rfl (fun h1=>?_) (fun h1=>?_)
 ·exfalso
  simp at h1
  exact hls h1
 ·skip
  refine c8 (a7 (a6 ?_))
  refine cY b7 ?_; refine cY b7 ?_; refine cY b7 ?_; refine cY R1 ?_
  refine cD (j3 rfl Tryz.call18 ⟨tt,tt,tt⟩ (F9 l nn k σ q hk hat hl (ls.length:Int) b8) rfl ?_)
  intro _ _; refine cY (r5 rfl tt tt rfl rfl Tryz.runUnderlying26 Tryz.sizeOf9 b8 (m7 hv) rfl) ?_; refine cY M7 ?_; refine cY c7 ?_
  refine a8 (c9 ?_)
  exact ⟨_,l9 rfl tt c6,⟨v,rfl,rfl,List.mem_of_getElem? hv⟩⟩
def r8:List Str:=([[112],[113],[115]]:List Str)
set_option maxRecDepth 10000 in
theorem a9e  : c4 CC 23 [] [] fun r σ'=>r = .ret (.list (r8.map scv) true none)∧σ'=[]:=by
 refine j8 (d5 Tryz.func23 rfl rfl ?_)
 refine a7 (a6 ?_)
 refine cY j1 ?_
 refine a8 (a7 (a6 ?_))
 refine cY (y9 (r8.map scv) rfl ⟨rfl,rfl,rfl,tt⟩ Tryz.runUnderlying26 Tryz.sizeOf9 Tryz.zeroValue9 rfl rfl rfl rfl rfl rfl rfl rfl rfl) ?_; refine cY c7 ?_
 refine a8 (c9 ?_)
 exact ⟨_,l9 rfl tt c6,_,_,rfl,rfl,(.tok (fun r hr c hc=>(D6 (f:=scv) (fun _=>L5.all ⟨.val _,tt⟩) _) r hr c hc))⟩
theorem a0k  (σ:List c5):c4 CC 23 [] σ fun r σ'=>r = .ret (.list (r8.map scv) true none)∧σ'=σ :=
 c4.anyw hCC (by repeat' (first|exact .val _|exact d8 _ _|exact d6 _ _|exact o8 _ _|exact tt | refine d7 ?_ | refine d9 ?_ | refine ⟨?_,?_⟩)) (by repeat' (first|exact .val _|exact d8 _ _|exact d6 _ _|exact o8 _ _|exact tt | refine d7 ?_ | refine d9 ?_ | refine ⟨?_,?_⟩)) (a9e) σ
def C8:List Str:=([[102],[103],[104],[107]]:List Str)
set_option maxRecDepth 10000 in
theorem a7V  : c4 CC 24 [] [] fun r σ'=>r = .ret (.list (C8.map scv) true none)∧σ'=[]:=by
 refine j8 (d5 Tryz.func24 rfl rfl ?_)
 refine a7 (a6 ?_)
 refine cY j1 ?_
 refine a8 (a7 (a6 ?_))
 refine cY (y9 (C8.map scv) rfl ⟨rfl,rfl,rfl,rfl,tt⟩ Tryz.runUnderlying26 Tryz.sizeOf9 Tryz.zeroValue9 rfl rfl rfl rfl rfl rfl rfl rfl rfl) ?_; refine cY c7 ?_
 refine a8 (c9 ?_)
 exact ⟨_,l9 rfl tt c6,_,_,rfl,rfl,(.tok (fun r hr c hc=>(D6 (f:=scv) (fun _=>L5.all ⟨.val _,tt⟩) _) r hr c hc))⟩
theorem a5I  (σ:List c5):c4 CC 24 [] σ fun r σ'=>r = .ret (.list (C8.map scv) true none)∧σ'=σ :=
 c4.anyw hCC (by repeat' (first|exact .val _|exact d8 _ _|exact d6 _ _|exact o8 _ _|exact tt | refine d7 ?_ | refine d9 ?_ | refine ⟨?_,?_⟩)) (by repeat' (first|exact .val _|exact d8 _ _|exact d6 _ _|exact o8 _ _|exact tt | refine d7 ?_ | refine d9 ?_ | refine ⟨?_,?_⟩)) (a7V) σ
def a0R:List Str:=([[116],[117],[118]]:List Str)
set_option maxRecDepth 10000 in
theorem b3E  : c4 CC 80 [] [] fun r σ'=>r = .ret (.list (a0R.map scv) true none)∧σ'=[]:=by
 refine j8 (d5 Tryz.func80 rfl rfl ?_)
 refine a7 (a6 ?_)
 refine cY j1 ?_
 refine a8 (a7 (a6 ?_))
 refine cY (y9 (a0R.map scv) rfl ⟨rfl,rfl,rfl,tt⟩ Tryz.runUnderlying26 Tryz.sizeOf9 Tryz.zeroValue9 rfl rfl rfl rfl rfl rfl rfl rfl rfl) ?_; refine cY c7 ?_
 refine a8 (c9 ?_)
 exact ⟨_,l9 rfl tt c6,_,_,rfl,rfl,(.tok (fun r hr c hc=>(D6 (f:=scv) (fun _=>L5.all ⟨.val _,tt⟩) _) r hr c hc))⟩
theorem b0V  (σ:List c5):c4 CC 80 [] σ fun r σ'=>r = .ret (.list (a0R.map scv) true none)∧σ'=σ :=
 c4.anyw hCC (by repeat' (first|exact .val _|exact d8 _ _|exact d6 _ _|exact o8 _ _|exact tt | refine d7 ?_ | refine d9 ?_ | refine ⟨?_,?_⟩)) (by repeat' (first|exact .val _|exact d8 _ _|exact d6 _ _|exact o8 _ _|exact tt | refine d7 ?_ | refine d9 ?_ | refine ⟨?_,?_⟩)) (b3E) σ
def P8:List Str:=([[97,46,100,97,116],[100,47,98,46,100,97,116],[99],[97,46,115,114,99],[120,46,115,114,99]]:List Str)
set_option maxRecDepth 10000 in
theorem b5M  : c4 CC 81 [] [] fun r σ'=>r = .ret (.list (P8.map scv) true none)∧σ'=[]:=by
 refine j8 (d5 Tryz.func81 rfl rfl ?_)
 refine a7 (a6 ?_)
 refine cY j1 ?_
 refine a8 (a7 (a6 ?_))
 refine cY (y9 (P8.map scv) rfl ⟨rfl,rfl,rfl,rfl,rfl,tt⟩ Tryz.runUnderlying26 Tryz.sizeOf9 Tryz.zeroValue9 rfl rfl rfl rfl rfl rfl rfl rfl rfl) ?_; refine cY c7 ?_
 refine a8 (c9 ?_)
 exact ⟨_,l9 rfl tt c6,_,_,rfl,rfl,(.tok (fun r hr c hc=>(D6 (f:=scv) (fun _=>L5.all ⟨.val _,tt⟩) _) r hr c hc))⟩
theorem b0Q  (σ:List c5):c4 CC 81 [] σ fun r σ'=>r = .ret (.list (P8.map scv) true none)∧σ'=σ :=
 c4.anyw hCC (by repeat' (first|exact .val _|exact d8 _ _|exact d6 _ _|exact o8 _ _|exact tt | refine d7 ?_ | refine d9 ?_ | refine ⟨?_,?_⟩)) (by repeat' (first|exact .val _|exact d8 _ _|exact d6 _ _|exact o8 _ _|exact tt | refine d7 ?_ | refine d9 ?_ | refine ⟨?_,?_⟩)) (b5M) σ
def O8:List Str:=([[110],[109]]:List Str)
set_option maxRecDepth 10000 in
theorem a7R  : c4 CC 82 [] [] fun r σ'=>r = .ret (.list (O8.map scv) true none)∧σ'=[]:=by
 refine j8 (d5 Tryz.func82 rfl rfl ?_)
 refine a7 (a6 ?_)
 refine cY j1 ?_
 refine a8 (a7 (a6 ?_))
 refine cY (y9 (O8.map scv) rfl ⟨rfl,rfl,tt⟩ Tryz.runUnderlying26 Tryz.sizeOf9 Tryz.zeroValue9 rfl rfl rfl rfl rfl rfl rfl rfl rfl) ?_; refine cY c7 ?_
 refine a8 (c9 ?_)
 exact ⟨_,l9 rfl tt c6,_,_,rfl,rfl,(.tok (fun r hr c hc=>(D6 (f:=scv) (fun _=>L5.all ⟨.val _,tt⟩) _) r hr c hc))⟩
theorem a5x  (σ:List c5):c4 CC 82 [] σ fun r σ'=>r = .ret (.list (O8.map scv) true none)∧σ'=σ :=
 c4.anyw hCC (by repeat' (first|exact .val _|exact d8 _ _|exact d6 _ _|exact o8 _ _|exact tt | refine d7 ?_ | refine d9 ?_ | refine ⟨?_,?_⟩)) (by repeat' (first|exact .val _|exact d8 _ _|exact d6 _ _|exact o8 _ _|exact tt | refine d7 ?_ | refine d9 ?_ | refine ⟨?_,?_⟩)) (a7R) σ
theorem J4 {v:Str} (h:v∈r8∨v∈C8∨v∈a0R∨v∈P8∨v∈O8):v.length≤8:=by
 rcases h with h | h | h | h | h <;> revert v <;> decide
def sub (s:Str) (a e:Nat):Str:=(s.take e).drop a
theorem b1K {s:Str} {a e:Nat} (h:e≤s.length):(sub s a e).length=e - a:=by simp [sub]; omega
def preB (p s:Str):Bool:=p.isPrefixOf s
def a8P (p s:Str):Bool:=decide (p.length≤s.length) && decide (s.drop (s.length - p.length)=p)
theorem b7E (s p:Str) {x y:Bool} (hx:x=decide ((s.length:Int)≥p.length)) (hy:x=true→y=decide ((s.take p.length).drop 0=p)):(x && y)=preB p s:=by
 subst hx
 by_cases h:(s.length:Int)≥p.length
 ·rw [hy (decide_eq_true h),decide_eq_true h,Bool.true_and,List.drop_zero,preB]
  by_cases h2:s.take p.length=p
  ·have:p.isPrefixOf s=true:=by rw [List.isPrefixOf_iff_prefix]; exact ⟨s.drop p.length,by rw [show p++s.drop p.length=s.take p.length++s.drop p.length by rw [h2]]; exact List.take_append_drop _ _⟩
   simp [h2,this]
  ·have:p.isPrefixOf s=false:=by
    cases hq:p.isPrefixOf s with
    | false=>rfl
    | true =>
     rw [List.isPrefixOf_iff_prefix] at hq
     obtain ⟨t,rfl⟩:=hq
     exact absurd (List.take_left' rfl) h2
   simp [h2,this]
 ·have:p.isPrefixOf s=false:=by
   cases hq:p.isPrefixOf s with
   | false=>rfl
   | true =>
    rw [List.isPrefixOf_iff_prefix] at hq
    obtain ⟨t,rfl⟩:=hq
    exfalso; apply h; simp; omega
  rw [preB,this,decide_eq_false h]; rfl
theorem b7g (s p:Str) {x y:Bool} (hx:x=decide ((s.length:Int)≥p.length)) (hy:x=true→y=decide ((s.take s.length).drop (s.length - p.length)=p)):(x && y)=a8P p s:=by
 subst hx
 unfold a8P
 by_cases h:(s.length:Int)≥p.length
 ·rw [hy (decide_eq_true h),decide_eq_true h,List.take_length,decide_eq_true (show p.length≤s.length by omega)]
 ·rw [decide_eq_false h,decide_eq_false (show ¬ p.length≤s.length by omega)]; rfl
set_option maxRecDepth 10000 in
theorem a7P (s p:Str):c4 CC 261 [(sv (s)),(sv (p))] [] fun r σ'=>r = .ret (.val (.bool (preB p s)))∧σ'=[]:=by
 refine j8 (d5 Tryz.func261 rfl rfl ?_)
 refine a7 (a6 ?_)
 refine cY j1 ?_
 refine a8 (a7 (a6 ?_))
 refine cY b7 ?_; refine cY I3 ?_; refine cY b7 ?_; refine cY I3 ?_; refine cY r9 ?_; refine cY b7 ?_; refine cG o5 ?_; refine cG o5 ?_; refine cG a4h ?_; refine cG (fun hg=>J2 (h:=p.length) rfl hg rfl Tryz.runUnderlying9 rfl ⟨hg,_,_,rfl,by first|omega|(simp at hg; omega),by first|omega|(simp at hg; omega)⟩ b8 (by simp at hg; omega)) ?_; refine cG o5 ?_; refine cG a3x ?_; refine cY t8 ?_; refine cY c7 ?_
 refine a8 (c9 ?_)
 exact ⟨_,l9 rfl tt c6,_,_,rfl,rfl,m5 (b7E s p rfl fun _=>rfl)⟩
theorem a5z (s p:Str) (σ:List c5):c4 CC 261 [(sv (s)),(sv (p))] σ fun r σ'=>r = .ret (.val (.bool (preB p s)))∧σ'=σ :=
 c4.anyw hCC (by repeat' (first|exact .val _|exact d8 _ _|exact d6 _ _|exact o8 _ _|exact tt | refine d7 ?_ | refine d9 ?_ | refine ⟨?_,?_⟩)) (by repeat' (first|exact .val _|exact d8 _ _|exact d6 _ _|exact o8 _ _|exact tt | refine d7 ?_ | refine d9 ?_ | refine ⟨?_,?_⟩)) (a7P s p) σ
set_option maxRecDepth 10000 in
theorem a3i (s p:Str):c4 CC 224 [(sv (s)),(sv (p))] [] fun r σ'=>r = .ret (.val (.bool (preB p s)))∧σ'=[]:=by
 refine j8 (d5 Tryz.func224 rfl rfl ?_)
 refine a7 (a6 ?_)
 refine cY j1 ?_
 refine a8 (a7 (a6 ?_))
 refine cY b7 ?_; refine cY b7 ?_; refine cY (i8 rfl Tryz.call261 ⟨tt,tt,tt⟩ (a5z s p _) rfl) ?_; refine cY c7 ?_
 refine a8 (c9 ?_)
 exact ⟨_,l9 rfl tt c6,_,_,rfl,rfl,m5 rfl⟩
theorem a2h (s p:Str) (σ:List c5):c4 CC 224 [(sv (s)),(sv (p))] σ fun r σ'=>r = .ret (.val (.bool (preB p s)))∧σ'=σ :=
 c4.anyw hCC (by repeat' (first|exact .val _|exact d8 _ _|exact d6 _ _|exact o8 _ _|exact tt | refine d7 ?_ | refine d9 ?_ | refine ⟨?_,?_⟩)) (by repeat' (first|exact .val _|exact d8 _ _|exact d6 _ _|exact o8 _ _|exact tt | refine d7 ?_ | refine d9 ?_ | refine ⟨?_,?_⟩)) (a3i s p) σ
set_option maxRecDepth 10000 in
theorem a8d (s p:Str) (hs:s.length≤1000000000000) (hp:p.length≤1000000000000):c4 CC 183 [(sv (s)),(sv (p))] [] fun r σ'=>r = .ret (.val (.bool (a8P p s)))∧σ'=[]:=by
 refine j8 (d5 Tryz.func183 rfl rfl ?_)
 refine a7 (a6 ?_)
 refine cY j1 ?_
 refine a8 (a7 (a6 ?_))
 refine cY b7 ?_; refine cY I3 ?_; refine cY b7 ?_; refine cY I3 ?_; refine cY r9 ?_; refine cY b7 ?_; refine cG o5 ?_; refine cG o5 ?_; refine cG a4h ?_; refine cG o5 ?_; refine cG a4h ?_; refine cG (fun hg=>a4g rfl hg hg rfl rfl a4d a4d) ?_; refine cG (fun hg=>J2 (a:=(s.length - p.length)) rfl hg rfl Tryz.runUnderlying9 ⟨hg,_,_,rfl,by first|omega|(simp at hg; omega),by first|omega|(simp at hg; omega)⟩ rfl (by simp at hg; omega) (Nat.le_refl _)) ?_; refine cG o5 ?_; refine cG a3x ?_; refine cY t8 ?_; refine cY c7 ?_
 refine a8 (c9 ?_)
 exact ⟨_,l9 rfl tt c6,_,_,rfl,rfl,m5 (b7g s p rfl fun _=>rfl)⟩
theorem a5Y (s p:Str) (hs:s.length≤1000000000000) (hp:p.length≤1000000000000) (σ:List c5):c4 CC 183 [(sv (s)),(sv (p))] σ fun r σ'=>r = .ret (.val (.bool (a8P p s)))∧σ'=σ :=
 c4.anyw hCC (by repeat' (first|exact .val _|exact d8 _ _|exact d6 _ _|exact o8 _ _|exact tt | refine d7 ?_ | refine d9 ?_ | refine ⟨?_,?_⟩)) (by repeat' (first|exact .val _|exact d8 _ _|exact d6 _ _|exact o8 _ _|exact tt | refine d7 ?_ | refine d9 ?_ | refine ⟨?_,?_⟩)) (a8d s p hs hp) σ
set_option maxRecDepth 10000 in
theorem a3g (s p:Str) (hs:s.length≤1000000000000) (hp:p.length≤1000000000000):c4 CC 141 [(sv (s)),(sv (p))] [] fun r σ'=>r = .ret (.val (.bool (a8P p s)))∧σ'=[]:=by
 refine j8 (d5 Tryz.func141 rfl rfl ?_)
 refine a7 (a6 ?_)
 refine cY j1 ?_
 refine a8 (a7 (a6 ?_))
 refine cY b7 ?_; refine cY b7 ?_; refine cY (i8 rfl Tryz.call183 ⟨tt,tt,tt⟩ (a5Y s p hs hp _) rfl) ?_; refine cY c7 ?_
 refine a8 (c9 ?_)
 exact ⟨_,l9 rfl tt c6,_,_,rfl,rfl,m5 rfl⟩
theorem a2i (s p:Str) (hs:s.length≤1000000000000) (hp:p.length≤1000000000000) (σ:List c5):c4 CC 141 [(sv (s)),(sv (p))] σ fun r σ'=>r = .ret (.val (.bool (a8P p s)))∧σ'=σ :=
 c4.anyw hCC (by repeat' (first|exact .val _|exact d8 _ _|exact d6 _ _|exact o8 _ _|exact tt | refine d7 ?_ | refine d9 ?_ | refine ⟨?_,?_⟩)) (by repeat' (first|exact .val _|exact d8 _ _|exact d6 _ _|exact o8 _ _|exact tt | refine d7 ?_ | refine d9 ?_ | refine ⟨?_,?_⟩)) (a3g s p hs hp) σ
theorem b0h {s:Str} {e:Nat} (h:e < s.length):s[e]? = some (s[e]?.getD 0):=by simp [h]
theorem b1n {p s:Str} (h:preB p s=true):p.length≤s.length:=by
 unfold preB at h
 rw [List.isPrefixOf_iff_prefix] at h
 exact h.length_le
structure Tok where
 k:Int
 t:Str
 n:Int
 at_:Int
abbrev Tok.cells (x:Tok):List CV:=[.val (.int .i64 x.k),sv x.t,.val (.int .i64 x.n),.val (.int .i64 x.at_)]
def Tok.cv (x:Tok):List CV:=x.cells
theorem a14 (l:List Tok) (nn:Bool):o9 (.list (l.map Tok.cv) nn none):=K3 (f:=Tok.cv) (fun _=>⟨.val _,.val _,.val _,.val _,tt⟩) l nn
theorem K1 (n:Nat) (l:List Tok) (nn:Bool):Old n (.list (l.map Tok.cv) nn none):=(a14 l nn).old
def a4x (l:Str):Int:=l.foldl (fun n b=>min (10*n+((b.toNat:Int) - 48)) 9007199254740993) 0
def a2F:Str→Option Nat
 | []=>none
 | b::l=>if 32≤b.toNat∧b.toNat≤126 then (if b.toNat=34 then some 0 else (a2F l).map (· + 1)) else none
def J1 (s:Str) (a:Nat) (b:UInt8):Tok × Int × Int :=
 if A3 b.toNat=1 then
  (if 24 < s9 s a [1,2,3] - a then (⟨0,[],0,0⟩,0,2) else (⟨1,sub s a (s9 s a [1,2,3]),0,0⟩,s9 s a [1,2,3],0))
 else if A3 b.toNat=2 then
  (if 9007199254740992 < a4x (sub s a (s9 s a [2])) then (⟨0,[],0,0⟩,0,3) else (⟨2,[],a4x (sub s a (s9 s a [2])),0⟩,s9 s a [2],0))
 else if A3 b.toNat=7 then
  (match a2F (s.drop (a+1)) with
  | none=>(⟨0,[],0,0⟩,0,9)
  | some n=>(⟨3,sub s (a+1) (a+1+n),0,0⟩,a+1+n+1,0))
 else if A3 b.toNat=8 then
  (if preB [61,61] (s.drop a)=true then (⟨4,sub s a (a+2),0,0⟩,a+2,0) else (⟨4,sub s a (a+1),0,0⟩,a+1,0))
 else (⟨0,[],0,0⟩,0,9)
theorem a69 {s:Str} {e:Nat} {b:UInt8} (h:s[e]? = some b):a2F (s.drop e)=if 32≤b.toNat∧b.toNat≤126 then (if b.toNat=34 then some 0 else (a2F (s.drop (e+1))).map (· + 1)) else none:=by
 obtain ⟨hlt,rfl⟩:=List.getElem?_eq_some_iff.1 h
 rw [List.drop_eq_getElem_cons hlt]; rfl
theorem b2H {s:Str} {e:Nat} (h:s.length≤e):a2F (s.drop e)=none:=by rw [List.drop_eq_nil_of_le h]; rfl
theorem b26 {l:Str} {j:Nat} {b:UInt8} (h:l[j]? = some b):a4x (l.take (j+1))=min (10*a4x (l.take j)+((b.toNat:Int) - 48)) 9007199254740993:=by
 obtain ⟨hlt,rfl⟩:=List.getElem?_eq_some_iff.1 h
 rw [← List.take_append_getElem hlt,a4x,List.foldl_append]
 rfl
theorem a63 {l:Str} (h:∀ b∈l,48≤b.toNat∧b.toNat≤57):0≤a4x l∧a4x l≤9007199254740993:=by
 unfold a4x
 suffices ∀ (l:Str) (n:Int),0≤n→n≤9007199254740993→(∀ b∈l,48≤b.toNat∧b.toNat≤57)→0≤l.foldl (fun n b=>min (10*n+((b.toNat:Int) - 48)) 9007199254740993) n∧l.foldl (fun n b=>min (10*n+((b.toNat:Int) - 48)) 9007199254740993) n≤9007199254740993 from this l 0 b8 b8 h
 intro l
 induction l with
 | nil=>intro n h0 h1 _; exact ⟨h0,h1⟩
 | cons b l ih =>
  intro n h0 h1 h
  have hb:=h b l7
  exact ih (min (10*n+((b.toNat:Int) - 48)) 9007199254740993) b8 b8 fun c hc=>h c (by simp [hc])
theorem b3F {b:UInt8}:A3 b.toNat=2↔48≤b.toNat∧b.toNat≤57:=by
 unfold A3
 constructor
 ·intro h
  split at h
  ·omega
  ·split at h
   ·omega
   ·exfalso; revert h; repeat' split
    all_goals omega
 ·intro h
  rw [if_neg b8,if_pos b8]
theorem b8E {c:Nat} (h:48≤c∧c≤57):IntKind.i64.wrap (IntKind.u8.wrap ((c:Int) - 48))=(c:Int) - 48:=by
 obtain ⟨h1,h2⟩:=h
 simp [IntKind.wrap,IntKind.bits,IntKind.signed]
 omega
theorem Y2 {p:UInt8→Bool} {b:UInt8}:∀ {l:Str},b∈l.takeWhile p→p b=true
 | [],h=>by simp at h
 | c::l,h=>by
  rw [List.takeWhile_cons] at h
  split at h
  ·rename_i hc
   rcases List.mem_cons.1 h with rfl | h
   ·exact hc
   ·exact Y2 h
  ·simp at h
theorem a6Q {s:Str} {a:Nat}:∀ b∈sub s a (s9 s a [2]),48≤b.toNat∧b.toNat≤57:=by
 intro b hb
 have e:sub s a (s9 s a [2])=(s.drop a).takeWhile (inK [2]):=by
  unfold sub s9
  rw [List.drop_take,Nat.add_sub_cancel_left]
  have h:=List.takeWhile_prefix (inK [2]) (l:=s.drop a)
  exact (List.prefix_iff_eq_take.1 h).symm
 rw [e] at hb
 have:=Y2 hb
 simp [inK] at this
 exact b3F.1 this
set_option maxRecDepth 10000 in
theorem b2j (s:Str) (a:Nat) (b:UInt8) (hb:s[a]? = some b) (m:List (Int × Int)) (hm:KM m) (hs:s.length≤1000000000000):c4 CC 185 [(sv (s)),(.val (.int .i64 ((a:Int)))),.map 0] [c5.map (gm kb kv m)] fun r τ=>∃ _:Unit,a1V [c5.map (gm kb kv m)].length τ r (.ret (.tup [.agg (J1 s a b).1.cells,(.val (.int .i64 ((J1 s a b).2.1))),(.val (.int .i64 ((J1 s a b).2.2)))]))∧a6m [c5.map (gm kb kv m)].length τ τ [c5.map (gm kb kv m)]∧[c5.map (gm kb kv m)].length≤[c5.map (gm kb kv m)].length∧True:=by
 have hal:=(List.getElem?_eq_some_iff.1 hb).1
 refine (d5 Tryz.func185 rfl rfl ?_)
 refine a7 (a6 ?_)
 refine cD (l5 rfl Tryz.zeroValue227 rfl j2 ?_)
 refine cY j1 ?_; refine cY j1 ?_
 refine a8 (a7 (a7 (a6 ?_)))
 refine cY b7 ?_; refine cY b7 ?_; refine cY b7 ?_; refine cY (M8 rfl tt tt rfl rfl Tryz.runUnderlying9 b8 hb) ?_; refine cY b77 ?_
 refine a8 (d4 (a7 (a6 ?_)))
 refine cY j9 ?_; refine cY c7 ?_; refine a8 ?_
 refine b9 tt rfl (fun h1=>?_) (fun h1=>?_)
 ·have hk1:A3 b.toNat=1:=by rw [← hm]; simpa using h1
  have hsp:=a0v (ks:=[1,2,3]) (show a≤s.length by omega)
  refine a7 (a6 ?_)
  refine cY b7 ?_; refine cY b7 ?_; refine cY b7 ?_; refine cY (y9 ([1,2,3].map icv) rfl ⟨rfl,rfl,rfl,tt⟩ Tryz.runUnderlying22 Tryz.sizeOf3 Tryz.zeroValue3 rfl rfl rfl rfl rfl rfl rfl rfl rfl) ?_; refine cY (i8 rfl Tryz.call114 ⟨tt,tt,tt,tt,tt⟩ (a3w hm b8 hs j4 rfl) rfl) ?_; refine cY c7 ?_
  refine a8 (a7 (a7 (a6 ?_)))
  refine cY b7 ?_; refine cY b7 ?_; refine cY (a4g rfl tt tt rfl rfl b8 b8) ?_; refine cY j9 ?_; refine a8 ?_
  refine b9 tt rfl (fun h2=>?_) (fun h2=>?_)
  ·have hn:24 < s9 s a [1,2,3] - a:=by simp at h2; omega
   refine a7 (a6 ?_)
   refine cY b52 ?_
   refine cD (i7 rfl tt tt rfl c6 Tryz.sizeOf227 j2 rfl rfl (nb rfl) ?_)
   refine cY j1 ?_; refine cY j1 ?_
   refine a8 (c9 ?_)
   exact ⟨_,o0 (rs:=[.cell 6 227,.tmp 7,.tmp 8]) (cs:=[_,_,_]) rfl ⟨⟨tt,_,_,_,rfl,rfl,.inr ⟨_,Tryz.isAgg227,Tryz.sizeOf227,nb rfl,rfl⟩⟩,⟨tt,c6⟩,⟨tt,c6⟩,tt⟩ (Nat.ne_of_beq_eq_false rfl),⟨(),.ret (X8 (by rw [J1,if_pos hk1,if_pos hn]; rfl) (by repeat' (first|exact .val _|exact d8 _ _|exact d6 _ _|exact o8 _ _|exact tt | refine d7 ?_ | refine d9 ?_ | refine ⟨?_,?_⟩))),⟨.same (K7 _ _),tt⟩,Nat.le_refl _,tt⟩⟩
  ·have hn:¬ 24 < s9 s a [1,2,3] - a:=by simp at h2; omega
   refine c8 (a7 (a6 ?_))
   refine cY b7 ?_; refine cY b7 ?_; refine cY b7 ?_; refine cY (J2 (a:=a) (h:=(s9 s a [1,2,3])) rfl tt rfl Tryz.runUnderlying9 ⟨tt,_,_,rfl,by first|omega|(simp at hg; omega),by first|omega|(simp at hg; omega)⟩ ⟨tt,_,_,rfl,by first|omega|(simp at hg; omega),by first|omega|(simp at hg; omega)⟩ b8 b8) ?_; refine cY b2A ?_; refine cY b7 ?_
   refine cD (i7 rfl tt tt rfl c6 Tryz.sizeOf227 j2 rfl rfl (nb rfl) ?_)
   refine cY c7 ?_; refine cY j1 ?_
   refine a8 (c9 ?_)
   exact ⟨_,o0 (rs:=[.cell 6 227,.tmp 7,.tmp 8]) (cs:=[_,_,_]) rfl ⟨⟨tt,_,_,_,rfl,rfl,.inr ⟨_,Tryz.isAgg227,Tryz.sizeOf227,nb rfl,rfl⟩⟩,⟨tt,c6⟩,⟨tt,c6⟩,tt⟩ (Nat.ne_of_beq_eq_false rfl),⟨(),.ret (X8 (by rw [J1,if_pos hk1,if_neg hn]; rfl) (by repeat' (first|exact .val _|exact d8 _ _|exact d6 _ _|exact o8 _ _|exact tt | refine d7 ?_ | refine d9 ?_ | refine ⟨?_,?_⟩))),⟨.same (K7 _ _),tt⟩,Nat.le_refl _,tt⟩⟩
 ·have hk1:¬ A3 b.toNat=1:=by rw [← hm]; simpa using h1
  refine a7 (a6 ?_)
  refine cY j9 ?_; refine cY c7 ?_; refine a8 ?_
  refine b9 tt rfl (fun h3=>?_) (fun h3=>?_)
  ·have hk2:A3 b.toNat=2:=by rw [← hm]; simpa using h3
   have hsp:=a0v (ks:=[2]) (show a≤s.length by omega)
   have hdg:=a6Q (s:=s) (a:=a)
   have hln:=b1K (a:=a) hsp.2
   generalize hl:sub s a (s9 s a [2])=ds at hdg hln
   refine a7 (a6 ?_)
   refine cY b7 ?_; refine cY b7 ?_; refine cY b7 ?_; refine cY (y9 ([2].map icv) rfl ⟨rfl,tt⟩ Tryz.runUnderlying22 Tryz.sizeOf3 Tryz.zeroValue3 rfl rfl rfl rfl rfl rfl rfl rfl rfl) ?_; refine cY (i8 rfl Tryz.call114 ⟨tt,tt,tt,tt,tt⟩ (a3w hm b8 hs j4 rfl) rfl) ?_; refine cY c7 ?_
   refine a8 (a7 (a6 ?_))
   refine cY j1 ?_
   refine a8 (a7 (a7 (a6 ?_)))
   refine cY b7 ?_; refine cY b7 ?_; refine cY b7 ?_; refine cY (J2 (a:=a) (h:=(s9 s a [2])) rfl tt rfl Tryz.runUnderlying9 ⟨tt,_,_,rfl,by first|omega|(simp at hg; omega),by first|omega|(simp at hg; omega)⟩ ⟨tt,_,_,rfl,by first|omega|(simp at hg; omega),by first|omega|(simp at hg; omega)⟩ b8 b8) ?_; refine cY (b66 rfl tt rfl Tryz.runUnderlying9 Tryz.runUnderlying139 Tryz.runUnderlying5 (by have:=b1K (a:=a) hsp.2; unfold sub at this; omega)) ?_; refine cY b0e ?_; refine cY A7 ?_
   refine a8 (d4 ?_)
   refine p9 hCC (α:=Nat) (fun j=>[(6,.ptr 1 0),(10,(.val (.int .i64 ((s9 s a [2]:Int))))),(11,(.val (.int .i64 (a4x (ds.take j))))),(50,(.list (ds.map bcv) true none)),(51,(.val (.int .i64 ((ds.length:Int))))),(52,(.val (.int .i64 ((j:Int)))))]) (fun _=>[c5.map (gm kb kv m),.box (Tok.cells ⟨0,[],0,0⟩)]) (fun j=>j≤ds.length) (fun j=>ds.length - j) 0 (Nat.zero_le _) ⟨⟨tt,rfl⟩,⟨tt,rfl⟩,⟨tt,rfl⟩,⟨tt,(by rw [← hl]; rfl)⟩,⟨tt,(by rw [← hl]; rfl)⟩,⟨tt,rfl⟩,tt⟩ (extra0:=[]) rfl A5 (fun a ha=>by repeat' (first|exact tt|exact .val _|exact .ptr (nb rfl)|exact .map (nb rfl)|exact b3Z | refine l2 ?_ | refine ⟨?_,?_⟩)) ?_; intro j hj
   refine a7 (a6 ?_)
   refine cY r9 ?_
   refine a8 (a7 ?_)
   refine b9 tt rfl (fun h4=>?_) (fun h4=>?_)
   ·have hjl:(j:Int) < ds.length:=by simpa using h4
    obtain ⟨c,hc⟩:∃ c,ds[j]? = some c:=⟨ds[j]'b8,by simp⟩
    have hcd:=hdg c (List.mem_of_getElem? hc)
    have hnb:=a63 (l:=ds.take j) fun c hc=>hdg c (List.mem_of_mem_take hc)
    refine c8 (a7 (d4 (a7 (a6 ?_))))
    refine cY (r5 rfl tt tt rfl rfl Tryz.runUnderlying139 Tryz.sizeOf5 b8 (m7 hc) rfl) ?_; refine cY (N6 rfl tt rfl Tryz.isAgg5 rfl) ?_; refine cY c7 ?_
    refine a8 (a6 ?_)
    refine cY b7 ?_; refine cY (b1u rfl rfl tt rfl rfl b8 b8) ?_; refine cY b7 ?_; refine cY j9 ?_; refine cY (a70 rfl tt rfl Tryz.runUnderlying5 Tryz.runUnderlying3 (show IntKind.i64.wrap (IntKind.u8.wrap ((c.toNat:Int) - 48))=(c.toNat:Int) - 48 from b8E hcd)) ?_; refine cY a3o ?_; refine cY (b69 rfl tt rfl rfl rfl) ?_; refine cY c7 ?_
    refine a8 (a6 ?_)
    refine cY m9 ?_; refine cY b7 ?_; refine a8 ?_
    exact ⟨(j+1),_,⟨by omega,by omega⟩,⟨⟨tt,rfl⟩,⟨tt,rfl⟩,⟨tt,(congrArg (fun z:Int=>CV.val (.int .i64 z)) (b26 hc).symm)⟩,⟨tt,rfl⟩,⟨tt,rfl⟩,⟨tt,rfl⟩,tt⟩,rfl⟩
   ·have hjl:ds.length≤j:=by
     have:¬ (j:Int) < ds.length:=by simpa using h4
     omega
    rw [List.take_of_length_le hjl] at *
    refine m4 (a7 (a7 (a6 ?_)))
    refine cY b7 ?_; refine cY j9 ?_; refine a8 ?_
    refine b9 tt rfl (fun h5=>?_) (fun h5=>?_)
    ·have hn:9007199254740992 < a4x (sub s a (s9 s a [2])):=by rw [hl]; simpa using h5
     refine a7 (a6 ?_)
     refine cY b52 ?_
     refine cD (i7 rfl tt tt rfl c6 Tryz.sizeOf227 j2 rfl rfl (nb rfl) ?_)
     refine cY j1 ?_; refine cY j1 ?_
     refine a8 (c9 ?_)
     exact ⟨_,o0 (rs:=[.cell 6 227,.tmp 7,.tmp 8]) (cs:=[_,_,_]) rfl ⟨⟨tt,_,_,_,rfl,rfl,.inr ⟨_,Tryz.isAgg227,Tryz.sizeOf227,nb rfl,rfl⟩⟩,⟨tt,c6⟩,⟨tt,c6⟩,tt⟩ (Nat.ne_of_beq_eq_false rfl),⟨(),.ret (X8 (by rw [J1,if_neg hk1,if_pos hk2,if_pos hn]; rfl) (by repeat' (first|exact .val _|exact d8 _ _|exact d6 _ _|exact o8 _ _|exact tt | refine d7 ?_ | refine d9 ?_ | refine ⟨?_,?_⟩))),⟨.same (K7 _ _),tt⟩,Nat.le_refl _,tt⟩⟩
    ·have hn:¬ 9007199254740992 < a4x (sub s a (s9 s a [2])):=by rw [hl]; simpa using h5
     refine c8 (a7 (a6 ?_))
     refine cY b7 ?_; refine cY b2A ?_; refine cY b7 ?_
     refine cD (i7 rfl tt tt rfl c6 Tryz.sizeOf227 j2 rfl rfl (nb rfl) ?_)
     refine cY c7 ?_; refine cY j1 ?_
     refine a8 (c9 ?_)
     exact ⟨_,o0 (rs:=[.cell 6 227,.tmp 7,.tmp 8]) (cs:=[_,_,_]) rfl ⟨⟨tt,_,_,_,rfl,rfl,.inr ⟨_,Tryz.isAgg227,Tryz.sizeOf227,nb rfl,rfl⟩⟩,⟨tt,c6⟩,⟨tt,c6⟩,tt⟩ (Nat.ne_of_beq_eq_false rfl),⟨(),.ret (X8 (by rw [J1,if_neg hk1,if_pos hk2,if_neg hn,hl]; rfl) (by repeat' (first|exact .val _|exact d8 _ _|exact d6 _ _|exact o8 _ _|exact tt | refine d7 ?_ | refine d9 ?_ | refine ⟨?_,?_⟩))),⟨.same (K7 _ _),tt⟩,Nat.le_refl _,tt⟩⟩
  ·have hk2:¬ A3 b.toNat=2:=by rw [← hm]; simpa using h3
   refine a7 (a6 ?_)
   refine cY j9 ?_; refine cY c7 ?_; refine a8 ?_
   refine b9 tt rfl (fun h6=>?_) (fun h6=>?_)
   ·have hk7:A3 b.toNat=7:=by rw [← hm]; simpa using h6
    refine a7 (a7 (a6 ?_))
    refine cY b7 ?_; refine cY m9 ?_; refine cY c7 ?_
    refine a8 (d4 ?_)
    refine p9 hCC (α:=Nat) (fun e=>[(0,(sv (s))),(1,(.val (.int .i64 ((a:Int))))),(6,.ptr 1 0),(14,(.val (.int .i64 ((e:Int)))))]) (fun _=>[c5.map (gm kb kv m),.box (Tok.cells ⟨0,[],0,0⟩)]) (fun e=>a+1≤e∧e≤s.length∧a2F (s.drop (a+1))=(a2F (s.drop e)).map (· + (e - (a+1)))) (fun e=>s.length - e) (a+1) ⟨Nat.le_refl _,by omega,by cases a2F (s.drop (a+1)) <;> simp⟩ ⟨⟨tt,rfl⟩,⟨tt,rfl⟩,⟨tt,rfl⟩,⟨tt,rfl⟩,tt⟩ (extra0:=[]) rfl A5 (fun a ha=>by repeat' (first|exact tt|exact .val _|exact .ptr (nb rfl)|exact .map (nb rfl)|exact b3Z | refine l2 ?_ | refine ⟨?_,?_⟩)) ?_; intro e ⟨he1,he2,he⟩
    refine a7 (a7 (a6 ?_))
    refine cY b7 ?_; refine cY b7 ?_; refine cY I3 ?_; refine cY r9 ?_; refine cY b7 ?_; refine cG o5 ?_; refine cG o5 ?_; refine cG b8F ?_; refine cG C5 ?_; refine cY t8 ?_; refine cY b7 ?_; refine cG o5 ?_; refine cG o5 ?_; refine cG b8F ?_; refine cG C5 ?_; refine cY t8 ?_; refine a8 ?_
    refine b9 tt rfl (fun h7=>?_) (fun h7=>?_)
    ·have hel:e < s.length∧32≤(s[e]?.getD 0).toNat∧(s[e]?.getD 0).toNat≤126:=by simp at h7; omega
     obtain ⟨c,hc,hcd⟩:∃ c,s[e]? = some c∧s[e]?.getD 0=c:=⟨s[e]?.getD 0,b0h hel.1,rfl⟩
     rw [hcd] at hel
     rw [a69 hc,if_pos hel.2] at he
     refine c8 (a7 (d4 (a7 (a6 ?_))))
     refine cY b7 ?_; refine cY b7 ?_; refine cY (M8 rfl tt tt rfl rfl Tryz.runUnderlying9 b8 hc) ?_; refine cY j9 ?_; refine a8 ?_
     refine b9 tt rfl (fun h8=>?_) (fun h8=>?_)
     ·have h34:c.toNat=34:=by simp at h8; omega
      rw [if_pos h34] at he
      obtain ⟨n,rfl⟩:∃ n,e=a+1+n:=⟨e - (a+1),by omega⟩
      have he':a2F (s.drop (a+1))=some n:=by rw [he]; simp
      refine a7 (a6 ?_)
      refine cY b7 ?_; refine cY b7 ?_; refine cY m9 ?_; refine cY b7 ?_; refine cY (J2 (a:=(a+1)) (h:=(a+1+n)) rfl tt rfl Tryz.runUnderlying9 ⟨tt,_,_,rfl,by first|omega|(simp at hg; omega),by first|omega|(simp at hg; omega)⟩ ⟨tt,_,_,rfl,by first|omega|(simp at hg; omega),by first|omega|(simp at hg; omega)⟩ b8 b8) ?_; refine cY b2A ?_; refine cY b7 ?_; refine cY m9 ?_
      refine cD (i7 rfl tt tt rfl c6 Tryz.sizeOf227 j2 rfl rfl (nb rfl) ?_)
      refine cY c7 ?_; refine cY j1 ?_
      refine a8 (c9 ?_)
      exact ⟨_,o0 (rs:=[.cell 6 227,.tmp 7,.tmp 8]) (cs:=[_,_,_]) rfl ⟨⟨tt,_,_,_,rfl,rfl,.inr ⟨_,Tryz.isAgg227,Tryz.sizeOf227,nb rfl,rfl⟩⟩,⟨tt,c6⟩,⟨tt,c6⟩,tt⟩ (Nat.ne_of_beq_eq_false rfl),⟨(),.ret (X8 (by rw [J1,if_neg hk1,if_neg hk2,if_pos hk7,he']; rfl) (by repeat' (first|exact .val _|exact d8 _ _|exact d6 _ _|exact o8 _ _|exact tt | refine d7 ?_ | refine d9 ?_ | refine ⟨?_,?_⟩))),⟨.same (K7 _ _),tt⟩,Nat.le_refl _,tt⟩⟩
     ·have h34:¬ c.toNat=34:=by simp at h8; omega
      rw [if_neg h34] at he
      refine c8 (a6 ?_)
      refine cY b7 ?_; refine cY m9 ?_; refine cY c7 ?_; refine a8 ?_
      exact ⟨(e+1),_,⟨by omega,by omega,by omega,by rw [he]; cases a2F (s.drop (e+1)) <;> simp; omega⟩,⟨⟨tt,rfl⟩,⟨tt,rfl⟩,⟨tt,rfl⟩,⟨tt,rfl⟩,tt⟩,rfl⟩
    ·have hno:a2F (s.drop e)=none:=by
      rcases Nat.lt_or_ge e s.length with h | h
      ·rw [a69 (b0h h),if_neg]
       intro hh
       simp at h7
       omega
      ·exact b2H h
     rw [hno] at he
     refine m4 (a7 (a6 ?_))
     refine cY b52 ?_
     refine cD (i7 rfl tt tt rfl c6 Tryz.sizeOf227 j2 rfl rfl (nb rfl) ?_)
     refine cY j1 ?_; refine cY j1 ?_
     refine a8 (c9 ?_)
     exact ⟨_,o0 (rs:=[.cell 6 227,.tmp 7,.tmp 8]) (cs:=[_,_,_]) rfl ⟨⟨tt,_,_,_,rfl,rfl,.inr ⟨_,Tryz.isAgg227,Tryz.sizeOf227,nb rfl,rfl⟩⟩,⟨tt,c6⟩,⟨tt,c6⟩,tt⟩ (Nat.ne_of_beq_eq_false rfl),⟨(),.ret (X8 (by rw [J1,if_neg hk1,if_neg hk2,if_pos hk7,he]; rfl) (by repeat' (first|exact .val _|exact d8 _ _|exact d6 _ _|exact o8 _ _|exact tt | refine d7 ?_ | refine d9 ?_ | refine ⟨?_,?_⟩))),⟨.same (K7 _ _),tt⟩,Nat.le_refl _,tt⟩⟩
   ·have hk7:¬ A3 b.toNat=7:=by rw [← hm]; simpa using h6
    refine a7 (a6 ?_)
    refine cY j9 ?_; refine cY c7 ?_; refine a8 ?_
    refine b9 tt rfl (fun h9=>?_) (fun h9=>?_)
    ·have hk8:A3 b.toNat=8:=by rw [← hm]; simpa using h9
     refine a7 (a6 ?_)
     refine cY b7 ?_; refine cY m9 ?_; refine cY c7 ?_
     refine a8 (a7 (a7 (a6 ?_)))
     refine cY b7 ?_; refine cY b7 ?_; refine cY (J2 (a:=a) rfl tt rfl Tryz.runUnderlying9 ⟨tt,_,_,rfl,by first|omega|(simp at hg; omega),by first|omega|(simp at hg; omega)⟩ rfl b8 (Nat.le_refl _)) ?_; refine cY (i8 rfl Tryz.call224 ⟨tt,rfl,tt⟩ (a2h ((s.take s.length).drop a) [61,61] _) rfl) ?_; refine a8 ?_
     refine b9 tt rfl (fun h10=>?_) (fun h10=>?_)
     ·rw [List.take_length] at h10
      have hp2:=b1n h10
      rw [List.length_drop] at hp2
      have hp2:2≤s.length - a:=hp2
      refine a6 ?_; refine cY b7 ?_; refine cY m9 ?_; refine cY c7 ?_
      refine a8 (a7 (a6 ?_))
      refine cY b7 ?_; refine cY b7 ?_; refine cY b7 ?_; refine cY (J2 (a:=a) (h:=(a+2)) rfl tt rfl Tryz.runUnderlying9 ⟨tt,_,_,rfl,by first|omega|(simp at hg; omega),by first|omega|(simp at hg; omega)⟩ ⟨tt,_,_,rfl,by first|omega|(simp at hg; omega),by first|omega|(simp at hg; omega)⟩ b8 b8) ?_; refine cY b2A ?_; refine cY b7 ?_
      refine cD (i7 rfl tt tt rfl c6 Tryz.sizeOf227 j2 rfl rfl (nb rfl) ?_)
      refine cY c7 ?_; refine cY j1 ?_
      refine a8 (c9 ?_)
      exact ⟨_,o0 (rs:=[.cell 6 227,.tmp 7,.tmp 8]) (cs:=[_,_,_]) rfl ⟨⟨tt,_,_,_,rfl,rfl,.inr ⟨_,Tryz.isAgg227,Tryz.sizeOf227,nb rfl,rfl⟩⟩,⟨tt,c6⟩,⟨tt,c6⟩,tt⟩ (Nat.ne_of_beq_eq_false rfl),⟨(),.ret (X8 (by rw [J1,if_neg hk1,if_neg hk2,if_neg hk7,if_pos hk8,if_pos h10]; rfl) (by repeat' (first|exact .val _|exact d8 _ _|exact d6 _ _|exact o8 _ _|exact tt | refine d7 ?_ | refine d9 ?_ | refine ⟨?_,?_⟩))),⟨.same (K7 _ _),tt⟩,Nat.le_refl _,tt⟩⟩
     ·rw [List.take_length] at h10
      have hp0:¬ preB [61,61] (s.drop a)=true:=by rw [h10]; decide
      refine c8 (a7 (a6 ?_))
      refine cY b7 ?_; refine cY b7 ?_; refine cY b7 ?_; refine cY (J2 (a:=a) (h:=(a+1)) rfl tt rfl Tryz.runUnderlying9 ⟨tt,_,_,rfl,by first|omega|(simp at hg; omega),by first|omega|(simp at hg; omega)⟩ ⟨tt,_,_,rfl,by first|omega|(simp at hg; omega),by first|omega|(simp at hg; omega)⟩ b8 b8) ?_; refine cY b2A ?_; refine cY b7 ?_
      refine cD (i7 rfl tt tt rfl c6 Tryz.sizeOf227 j2 rfl rfl (nb rfl) ?_)
      refine cY c7 ?_; refine cY j1 ?_
      refine a8 (c9 ?_)
      exact ⟨_,o0 (rs:=[.cell 6 227,.tmp 7,.tmp 8]) (cs:=[_,_,_]) rfl ⟨⟨tt,_,_,_,rfl,rfl,.inr ⟨_,Tryz.isAgg227,Tryz.sizeOf227,nb rfl,rfl⟩⟩,⟨tt,c6⟩,⟨tt,c6⟩,tt⟩ (Nat.ne_of_beq_eq_false rfl),⟨(),.ret (X8 (by rw [J1,if_neg hk1,if_neg hk2,if_neg hk7,if_pos hk8,if_neg hp0]; rfl) (by repeat' (first|exact .val _|exact d8 _ _|exact d6 _ _|exact o8 _ _|exact tt | refine d7 ?_ | refine d9 ?_ | refine ⟨?_,?_⟩))),⟨.same (K7 _ _),tt⟩,Nat.le_refl _,tt⟩⟩
    ·have hk8:¬ A3 b.toNat=8:=by rw [← hm]; simpa using h9
     refine c8 (a7 (a6 ?_))
     refine cY b52 ?_
     refine cD (i7 rfl tt tt rfl c6 Tryz.sizeOf227 j2 rfl rfl (nb rfl) ?_)
     refine cY j1 ?_; refine cY j1 ?_
     refine a8 (c9 ?_)
     exact ⟨_,o0 (rs:=[.cell 6 227,.tmp 7,.tmp 8]) (cs:=[_,_,_]) rfl ⟨⟨tt,_,_,_,rfl,rfl,.inr ⟨_,Tryz.isAgg227,Tryz.sizeOf227,nb rfl,rfl⟩⟩,⟨tt,c6⟩,⟨tt,c6⟩,tt⟩ (Nat.ne_of_beq_eq_false rfl),⟨(),.ret (X8 (by rw [J1,if_neg hk1,if_neg hk2,if_neg hk7,if_neg hk8]; rfl) (by repeat' (first|exact .val _|exact d8 _ _|exact d6 _ _|exact o8 _ _|exact tt | refine d7 ?_ | refine d9 ?_ | refine ⟨?_,?_⟩))),⟨.same (K7 _ _),tt⟩,Nat.le_refl _,tt⟩⟩
theorem b4T {s:Str} {a:Nat} {b:UInt8} (hb:s[a]? = some b) {m:List (Int × Int)} (hm:KM m) (hs:s.length≤1000000000000) {σ:List c5} {q:Nat} (hq:σ[q]? = some (.map (gm kb kv m))):c4 CC 185 [(sv s),(.val (.int .i64 (a:Int))),.map q] σ fun r τ=>r = .ret (.tup [.agg (J1 s a b).1.cells,(.val (.int .i64 ((J1 s a b).2.1))),(.val (.int .i64 ((J1 s a b).2.2)))])∧τ=σ :=
 a5w hCC (b5o m) (by repeat' (first|exact .val _|exact d8 _ _|exact d6 _ _|exact o8 _ _|exact a14 _ _|exact tt | refine d7 ?_ | refine d9 ?_ | refine ⟨?_,?_⟩)) hq (.cons (.val _) (.cons (.val _) (.cons (.map rfl) .nil))) (b2j s a b hb m hm hs)
def V4 (s:Str) (a:Nat):Nat:=a+((s.drop a).takeWhile (· != 10)).length
theorem b1r:∀ (l:Str),(Go.Lib.indexByte l 10 < 0→(l.takeWhile (· != 10)).length=l.length)∧(0≤Go.Lib.indexByte l 10→Go.Lib.indexByte l 10=((l.takeWhile (· != 10)).length:Nat))
 | []=>⟨fun _=>rfl,fun h=>by rw [Go.Lib.indexByte] at h; omega⟩
 | b::l=>by
  have ih:=b1r l
  rw [Go.Lib.indexByte,List.takeWhile_cons]
  by_cases hb:b=10
  ·subst hb
   exact ⟨fun h=>by simp at h,fun h=>by simp⟩
  ·have h1:(b != 10)=true:=by simpa using hb
   have h2:(b == 10)=false:=by simpa using hb
   rw [h1,h2]
   have hg:=Go.Lib.indexByte_ge l 10
   simp only [if_true,if_false,List.length_cons,Bool.false_eq_true]
   by_cases h3:Go.Lib.indexByte l 10 = -1
   ·rw [h3]
    have:=ih.1 b8
    exact ⟨fun _=>by simp; omega,fun h=>by simp at h⟩
   ·rw [if_neg (by simpa using h3)]
    have:=ih.2 b8
    exact ⟨fun h=>by omega,fun _=>by omega⟩
theorem b4C {s:Str} {a:Nat} (h:a≤s.length):V4 s a≤s.length:=by
 unfold V4
 have:=(List.takeWhile_sublist (· != 10) (l:=s.drop a)).length_le
 rw [List.length_drop] at this
 omega
theorem b36 {s:Str} {a:Nat} {b:UInt8} (h:s[a]? = some b) (hb:A3 b.toNat=6):a < V4 s a:=by
 obtain ⟨hlt,rfl⟩:=List.getElem?_eq_some_iff.1 h
 unfold V4
 rw [List.drop_eq_getElem_cons hlt,List.takeWhile_cons]
 have:(s[a] != 10)=true:=by
  cases hq:(s[a] != 10) with
  | true=>rfl
  | false =>
   have:s[a]=10:=by simpa using hq
   rw [this] at hb
   revert hb; decide
 rw [this]
 simp
def a0M:Nat→Str→Nat→Option (List Tok)
 | 0,_,_=>none
 | f+1,s,i=>match s[s9 s i [5]]? with
  | none=>some [⟨5,[],0,(s9 s i [5]:Nat)⟩]
  | some b=>if A3 b.toNat=6 then a0M f s (V4 s (s9 s i [5]))
   else if (J1 s (s9 s i [5]) b).2.2≠0 then none
   else (a0M f s (J1 s (s9 s i [5]) b).2.1.toNat).map (({ (J1 s (s9 s i [5]) b).1 with at_:=(s9 s i [5]:Nat)}:Tok)::·)
def a3O (s:Str):Option (List Tok):=if 16384 < s.length then none else a0M (s.length+1) s 0
theorem b4V {f i i1:Nat} {s:Str} (h:i1=s9 s i [5]) (h2:s.length≤i1):a0M (f+1) s i=some [⟨5,[],0,(i1:Nat)⟩]:=by
 subst h
 rw [a0M,List.getElem?_eq_none h2]
theorem b4S {f i i1:Nat} {s:Str} {b:UInt8} (h:i1=s9 s i [5]) (h2:s[i1]? = some b) (h3:A3 b.toNat=6):a0M (f+1) s i=a0M f s (V4 s i1):=by
 subst h
 rw [a0M,h2]
 simp only
 rw [if_pos h3]
theorem b5s {f i i1:Nat} {s:Str} {b:UInt8} (h:i1=s9 s i [5]) (h2:s[i1]? = some b) (h3:¬ A3 b.toNat=6) (h4:(J1 s i1 b).2.2≠0):a0M (f+1) s i=none:=by
 subst h
 rw [a0M,h2]
 simp only
 rw [if_neg h3,if_pos h4]
theorem b34 {f i i1:Nat} {s:Str} {b:UInt8} (h:i1=s9 s i [5]) (h2:s[i1]? = some b) (h3:¬ A3 b.toNat=6) (h4:¬ (J1 s i1 b).2.2≠0):a0M (f+1) s i=(a0M f s (J1 s i1 b).2.1.toNat).map (({ (J1 s i1 b).1 with at_:=(i1:Nat)}:Tok)::·):=by
 subst h
 rw [a0M,h2]
 simp only
 rw [if_neg h3,if_neg h4]
theorem b08:∀ {l:Str} {n:Nat},a2F l=some n→n < l.length
 | [],n,h=>by cases h
 | b::l,n,h=>by
  rw [a2F] at h
  split at h
  ·split at h
   ·injection h with h; subst h; simp
   ·cases hq:a2F l with
    | none=>rw [hq] at h; cases h
    | some k=>rw [hq] at h; injection h with h; subst h; have:=b08 hq; simp; omega
  ·cases h
theorem a8L {s:Str} {a:Nat} {b:UInt8} {ks:List Int} (h:s[a]? = some b) (hk:inK ks b=true):a < s9 s a ks:=by
 rw [a5R h,if_pos hk]
 have:=(a0v (s:=s) (a:=a+1) (ks:=ks) (List.getElem?_eq_some_iff.1 h).1).1
 omega
theorem b3c {s:Str} {a:Nat} {b:UInt8} (h:s[a]? = some b) (h4:¬ (J1 s a b).2.2≠0):∃ e:Nat,(J1 s a b).2.1=e∧a < e∧e≤s.length:=by
 have hlt:=(List.getElem?_eq_some_iff.1 h).1
 unfold J1 at h4 ⊢
 split at h4
 ·rename_i hk
  rw [if_pos hk]
  split at h4
  ·simp at h4
  ·rename_i hn
   rw [if_neg hn]
   exact ⟨_,rfl,a8L h (by simp [inK,hk]),(a0v b8).2⟩
 ·rename_i hk
  rw [if_neg hk]
  split at h4
  ·rename_i hk2
   rw [if_pos hk2]
   split at h4
   ·simp at h4
   ·rename_i hn
    rw [if_neg hn]
    exact ⟨_,rfl,a8L h (by simp [inK,hk2]),(a0v b8).2⟩
  ·rename_i hk2
   rw [if_neg hk2]
   split at h4
   ·rename_i hk7
    rw [if_pos hk7]
    cases hq:a2F (s.drop (a+1)) with
    | none=>rw [hq] at h4; simp at h4
    | some n =>
     have:=b08 hq
     rw [List.length_drop] at this
     exact ⟨a+1+n+1,rfl,by omega,by omega⟩
   ·rename_i hk7
    rw [if_neg hk7]
    split at h4
    ·rename_i hk8
     rw [if_pos hk8]
     split
     ·rename_i hp
      have:=b1n hp
      rw [List.length_drop] at this
      have:2≤s.length - a:=this
      exact ⟨a+2,rfl,by omega,by omega⟩
     ·exact ⟨a+1,rfl,by omega,by omega⟩
    ·simp at h4
abbrev b6f:=List Tok × Bool × Int × Int
def b8b (s:Str) (x:b6f):Prop:=(a3O s=some x.1∧x.2.1=true∧x.2.2.1=0∧x.2.2.2=0)∨(a3O s=none∧x.1=[]∧x.2.1=false∧x.2.2.2≠0)
abbrev b7j (x:b6f):CV:=.tup [.list (x.1.map Tok.cv) x.2.1 none,.val (.int .i64 x.2.2.1),.val (.int .i64 x.2.2.2)]
set_option maxRecDepth 10000 in
theorem b0I (s:Str) (hs:s.length≤1000000000000):c4 CC 142 [(sv (s))] [] fun r τ=>∃ x:b6f,a1V 0 τ r (.ret (b7j x))∧b8b s x:=by
 refine (d5 Tryz.func142 rfl rfl ?_)
 refine a7 (a6 ?_)
 refine cY j1 ?_; refine cY j1 ?_; refine cY j1 ?_; refine a8 ?_
 refine b4o 0 (fun _ _ _=>False) rfl ?_ (fun _ _ _ h=>h.elim)
 refine a7 (a7 (a6 ?_))
 refine cY b7 ?_; refine cY I3 ?_; refine cY j9 ?_; refine a8 ?_
 refine b9 tt rfl (fun h1=>?_) (fun h1=>?_)
 ·have hl:16384 < s.length:=by simp at h1; omega
  refine a7 (a6 ?_)
  refine cY j1 ?_; refine cY j1 ?_; refine cY j1 ?_
  refine a8 (c9 ?_)
  exact ⟨_,o0 (rs:=[.tmp 2,.tmp 3,.tmp 4]) (cs:=[_,_,_]) rfl ⟨⟨tt,c6⟩,⟨tt,c6⟩,⟨tt,c6⟩,tt⟩ (Nat.ne_of_beq_eq_false rfl),⟨([],false,0,2),by exact .ret (.tups ⟨.old (K1 _ [] false),.old (.val _),.old (.val _),tt⟩),.inr ⟨by rw [a3O,if_pos hl],rfl,rfl,by decide⟩⟩⟩
 ·have hl:¬ 16384 < s.length:=by simp at h1; omega
  refine c8 (a7 (a6 ?_))
  refine cD (j3 rfl Tryz.call113 trivial (a4Z _) rfl ?_)
  intro m hm; refine cY c7 ?_
  refine a8 (a7 (a6 ?_))
  refine cY j1 ?_
  refine a8 (a7 ?_)
  refine b3Q ?_; refine d4 ?_; refine B2 hCC 1 rfl (α:=List Tok × Nat) (fun x=>[(0,(sv (s))),(2,(.list (x.1.map Tok.cv) (gnn x.1.length) (P3 x.1.length 1))),(5,.map 0),(6,(.val (.int .i64 ((x.2:Int)))))]) (fun x=>[.map (gm kb kv m),r6 x.1.length]) (fun x=>x.2≤s.length∧x.1.length≤x.2∧∃ f,s.length - x.2 < f∧a3O s=(a0M f s x.2).map (x.1++·)) (fun x=>s.length - x.2) ⟨([],0),[0,7],⟨Nat.zero_le _,Nat.le_refl _,s.length+1,by simp,by rw [a3O,if_neg hl]; simp⟩,⟨rfl,rfl⟩,⟨⟨tt,q_1⟩,⟨tt,q_1⟩,⟨tt,q_1⟩,⟨tt,q_1⟩,tt⟩,(by repeat' (first|exact tt|exact .inl rfl|exact .inr ⟨_,rfl,.same rfl s8⟩|exact .inr ⟨_,rfl,.same (gobj_snoc _ _ _) s8⟩|exact .inr ⟨_,rfl,.same rfl (by repeat' (first|exact tt|exact .val _|exact .ptr (nb rfl)|exact .map (nb rfl)|exact b6V | refine l2 ?_ | refine ⟨?_,?_⟩))⟩|exact .inr ⟨_,rfl,.box (by repeat' (first|exact tt|exact .same rfl b6G|exact .ptr rfl|exact .map rfl|exact .vec rfl|exact B4.grow (f:=Tok.cv) (fun _=>⟨.val _,.val _,.val _,.val _,tt⟩) rfl | refine ⟨?_,?_⟩))⟩ | refine ⟨?_,?_⟩))⟩ ?_; intro ⟨acc,i⟩ ⟨hi,ha,f,hf,hlx⟩
  dsimp only at hi ha hf hlx ⊢
  obtain ⟨f,rfl⟩:∃ f',f=f'+1:=⟨f - 1,by omega⟩
  obtain ⟨i1,hi1⟩:∃ i1,i1=s9 s i [5]:=⟨_,rfl⟩
  have hsp:=a0v (ks:=[5]) hi
  rw [← hi1] at hsp
  refine d4 (a7 (a6 ?_))
  refine cY b7 ?_; refine cY b7 ?_; refine cY b7 ?_; refine cY (y9 ([5].map icv) rfl ⟨rfl,tt⟩ Tryz.runUnderlying22 Tryz.sizeOf3 Tryz.zeroValue3 rfl rfl rfl rfl rfl rfl rfl rfl rfl) ?_; refine cY (i8 rfl Tryz.call114 ⟨tt,tt,tt,tt,tt⟩ ((by have:=a3w (ks:=[5]) (nn:=true) hm hi b8 j4 (σ:=[.map (gm kb kv m),r6 acc.length]) (q:=0) rfl; rw [← hi1] at this; exact this)) rfl) ?_; refine cY c7 ?_
  refine a8 (a7 (d4 (a7 (a6 ?_))))
  refine cY b7 ?_; refine cY b7 ?_; refine cY I3 ?_; refine cY r9 ?_; refine cY c7 ?_; refine a8 ?_
  refine b9 tt rfl (fun h2=>?_) (fun h2=>?_)
  ·have hend:i1=s.length:=by simp at h2; omega
   rw [b4V hi1 b8] at hlx
   refine a7 (a6 ?_)
   refine cY b7 ?_; refine cY b7 ?_; refine cY b2A ?_; refine cY (y9 [Tok.cv ⟨5,[],0,(i1:Nat)⟩] rfl ⟨tt,tt⟩ Tryz.runUnderlying180 Tryz.sizeOf227 Tryz.zeroValue227 rfl rfl rfl rfl rfl rfl rfl rfl rfl) ?_
   refine cD (H3 rfl tt tt rfl l7 q_3 Tryz.runUnderlying180 Tryz.sizeOf227 Tryz.typeInfo227 Tryz.zeroValue227 rfl (.inr rfl) Y9 (by have hb:Tryz.t227.bytes=40:=rfl; rw [hb]; first|omega|(simp; done)|(simp; omega)) K0 ((acc++[(⟨5,[],0,(i1:Nat)⟩:Tok)]).map Tok.cv) (acc++[(⟨5,[],0,(i1:Nat)⟩:Tok)]).length l7 l7 ?_)
   refine cY c7 ?_; refine cY j1 ?_; refine cY j1 ?_
   refine a8 (c9 ?_)
   exact ⟨_,o0 (rs:=[.tmp 2,.tmp 3,.tmp 4]) (cs:=[_,_,_]) rfl ⟨⟨tt,c6⟩,⟨tt,c6⟩,⟨tt,c6⟩,tt⟩ (Nat.ne_of_beq_eq_false rfl),⟨(acc++[(⟨5,[],0,(i1:Nat)⟩:Tok)],gnn (acc++[(⟨5,[],0,(i1:Nat)⟩:Tok)]).length,0,0),by exact .ret (.tups ⟨.tok (fun r hr c hc=>(D6 (f:=Tok.cv) (fun _=>L5.all ⟨.val _,.val _,.val _,.val _,tt⟩) _) r hr c hc),.old (.val _),.old (.val _),tt⟩),.inl ⟨hlx,by rw [List.length_append]; rfl,rfl,rfl⟩⟩⟩
  ·have hend:i1 < s.length:=by
    have:¬ (i1:Int)=s.length:=by simpa using h2
    omega
   obtain ⟨b,hb⟩:∃ b,s[i1]? = some b:=⟨s[i1]'b8,by simp⟩
   refine a7 (a6 ?_)
   refine cY b7 ?_; refine cY b7 ?_; refine cY b7 ?_; refine cY (M8 rfl tt tt rfl rfl Tryz.runUnderlying9 b8 hb) ?_; refine cY b77 ?_; refine cY j9 ?_; refine cY c7 ?_; refine a8 ?_
   refine b9 tt rfl (fun h3=>?_) (fun h3=>?_)
   ·have hk:A3 b.toNat=6:=by rw [← hm]; simpa using h3
    rw [b4S hi1 hb hk] at hlx
    have hl1:=b36 hb hk
    have hl2:=b4C (s:=s) (a:=i1) b8
    have hib:=b1r ((s.take s.length).drop i1)
    have hdl:((s.take s.length).drop i1).length=s.length - i1:=by simp
    have hle:V4 s i1=i1+(((s.take s.length).drop i1).takeWhile (· != 10)).length:=by rw [V4,List.take_length]
    have hig:=Go.Lib.indexByte_ge ((s.take s.length).drop i1) 10
    refine a7 (a6 ?_)
    refine cY b7 ?_; refine cY b7 ?_; refine cY (J2 (a:=i1) rfl tt rfl Tryz.runUnderlying9 ⟨tt,_,_,rfl,by first|omega|(simp at hg; omega),by first|omega|(simp at hg; omega)⟩ rfl b8 (Nat.le_refl _)) ?_; refine cY (i8 rfl Tryz.call184 ⟨tt,rfl,tt⟩ (a2f ((s.take s.length).drop i1) 10 _) rfl) ?_; refine cY c7 ?_
    refine a8 (a7 (a7 (a6 ?_)))
    refine cY b7 ?_; refine cY j9 ?_; refine a8 ?_
    refine b9 tt rfl (fun h4=>?_) (fun h4=>?_)
    ·have hneg:Go.Lib.indexByte ((s.take s.length).drop i1) 10 < 0:=by simpa using h4
     have:=hib.1 hneg
     have hle2:V4 s i1=s.length:=by omega
     refine a6 ?_; refine cY b7 ?_; refine cY I3 ?_; refine cY b7 ?_; refine cY (a4g rfl tt tt rfl rfl b8 b8) ?_; refine cY c7 ?_
     refine a8 (a7 (a6 ?_))
     refine cY b7 ?_; refine cY b7 ?_; refine cY a3o ?_; refine cY c7 ?_
     refine a8 (m4 ?_)
     exact ⟨(acc,V4 s i1),[0,1],⟨by omega,by omega,by show acc.length≤V4 s i1; omega,f,by show s.length - V4 s i1 < f; omega,hlx⟩,⟨rfl,rfl⟩,⟨⟨tt,q_1⟩,⟨tt,q_1⟩,⟨tt,q_1⟩,⟨tt,q_0⟩,tt⟩,(by repeat' (first|exact tt|exact .inl rfl|exact .inr ⟨_,rfl,.same rfl s8⟩|exact .inr ⟨_,rfl,.same (gobj_snoc _ _ _) s8⟩|exact .inr ⟨_,rfl,.same rfl (by repeat' (first|exact tt|exact .val _|exact .ptr (nb rfl)|exact .map (nb rfl)|exact b6V | refine l2 ?_ | refine ⟨?_,?_⟩))⟩|exact .inr ⟨_,rfl,.box (by repeat' (first|exact tt|exact .same rfl b6G|exact .ptr rfl|exact .map rfl|exact .vec rfl|exact B4.grow (f:=Tok.cv) (fun _=>⟨.val _,.val _,.val _,.val _,tt⟩) rfl | refine ⟨?_,?_⟩))⟩ | refine ⟨?_,?_⟩))⟩
    ·have hneg:¬ Go.Lib.indexByte ((s.take s.length).drop i1) 10 < 0:=by simpa using h4
     have:=hib.2 b8
     rw [this]
     refine c8 (a7 (a6 ?_))
     refine cY b7 ?_; refine cY b7 ?_; refine cY a3o ?_; refine cY c7 ?_
     refine a8 (m4 ?_)
     exact ⟨(acc,V4 s i1),[0,1],⟨by omega,by omega,by show acc.length≤V4 s i1; omega,f,by show s.length - V4 s i1 < f; omega,hlx⟩,⟨rfl,rfl⟩,⟨⟨tt,q_1⟩,⟨tt,q_1⟩,⟨tt,q_1⟩,⟨tt,q_0⟩,tt⟩,(by repeat' (first|exact tt|exact .inl rfl|exact .inr ⟨_,rfl,.same rfl s8⟩|exact .inr ⟨_,rfl,.same (gobj_snoc _ _ _) s8⟩|exact .inr ⟨_,rfl,.same rfl (by repeat' (first|exact tt|exact .val _|exact .ptr (nb rfl)|exact .map (nb rfl)|exact b6V | refine l2 ?_ | refine ⟨?_,?_⟩))⟩|exact .inr ⟨_,rfl,.box (by repeat' (first|exact tt|exact .same rfl b6G|exact .ptr rfl|exact .map rfl|exact .vec rfl|exact B4.grow (f:=Tok.cv) (fun _=>⟨.val _,.val _,.val _,.val _,tt⟩) rfl | refine ⟨?_,?_⟩))⟩ | refine ⟨?_,?_⟩))⟩
   ·have hk:¬ A3 b.toNat=6:=by rw [← hm]; simpa using h3
    refine c8 (a7 (a6 ?_))
    refine cY b7 ?_; refine cY b7 ?_; refine cY b7 ?_; refine cY (i8 rfl Tryz.call185 ⟨tt,tt,tt,tt⟩ (b4T hb hm b8 rfl) rfl) ?_; refine cY b7 ?_; refine cY v7 ?_; refine cY v7 ?_; refine cY v7 ?_
    refine cD (l5 rfl Tryz.zeroValue227 rfl j2 ?_)
    refine cD (i7 rfl tt tt rfl c6 Tryz.sizeOf227 j2 rfl rfl (nb rfl) ?_)
    refine cY c7 ?_; refine cY c7 ?_
    refine a8 (a7 (a7 (a6 ?_)))
    refine cY b7 ?_; refine cY j9 ?_; refine a8 ?_
    refine b9 tt rfl (fun h5=>?_) (fun h5=>?_)
    ·have he:(J1 s i1 b).2.2≠0:=by simpa using h5
     rw [b5s hi1 hb hk he] at hlx
     refine a7 (a6 ?_)
     refine cY b7 ?_; refine cY b7 ?_; refine cY j1 ?_; refine cY c7 ?_; refine cY c7 ?_
     refine a8 (c9 ?_)
     exact ⟨_,o0 (rs:=[.tmp 2,.tmp 3,.tmp 4]) (cs:=[_,_,_]) rfl ⟨⟨tt,c6⟩,⟨tt,c6⟩,⟨tt,c6⟩,tt⟩ (Nat.ne_of_beq_eq_false rfl),⟨([],false,i1,(J1 s i1 b).2.2),by exact .ret (.tups ⟨.old (K1 _ [] false),.old (.val _),.old (.val _),tt⟩),.inr ⟨hlx,rfl,rfl,he⟩⟩⟩
    ·have he:¬ (J1 s i1 b).2.2≠0:=by simpa using h5
     rw [b34 hi1 hb hk he] at hlx
     obtain ⟨e,he1,he2,he3⟩:=b3c hb he
     rw [he1] at hlx ⊢
     refine c8 (a7 (a6 ?_))
     refine cY b7 ?_; refine cY a1Z ?_
     refine cD (i7 rfl tt tt rfl c6 Tryz.sizeOf3 (.inl rfl) rfl rfl (nb rfl) ?_)
     refine a8 (a6 ?_)
     refine cY b7 ?_; refine cY C7 ?_; refine cY (y9 [Tok.cv ({ (J1 s i1 b).1 with at_:=(i1:Nat)}:Tok)] rfl ⟨tt,tt⟩ Tryz.runUnderlying180 Tryz.sizeOf227 Tryz.zeroValue227 rfl rfl rfl rfl rfl rfl rfl rfl rfl) ?_
     refine cD (H3 rfl tt tt rfl l7 q_3 Tryz.runUnderlying180 Tryz.sizeOf227 Tryz.typeInfo227 Tryz.zeroValue227 rfl (.inr rfl) Y9 (by have hb:Tryz.t227.bytes=40:=rfl; rw [hb]; first|omega|(simp; done)|(simp; omega)) K0 ((acc++[({ (J1 s i1 b).1 with at_:=(i1:Nat)}:Tok)]).map Tok.cv) (acc++[({ (J1 s i1 b).1 with at_:=(i1:Nat)}:Tok)]).length l7 l7 ?_)
     refine cY b7 ?_; refine cY c7 ?_; refine cY c7 ?_; refine a8 ?_
     exact ⟨(acc++[({ (J1 s i1 b).1 with at_:=(i1:Nat)}:Tok)],e),[0,3],⟨by show s.length - e < s.length - i; omega,he3,by simp; omega,f,by show s.length - e < f; omega,by rw [hlx]; simp [Function.comp_def]⟩,⟨rfl,rfl⟩,⟨⟨tt,q_1⟩,⟨tt,q_1⟩,⟨tt,q_1⟩,⟨tt,q_1⟩,tt⟩,(by repeat' (first|exact tt|exact .inl rfl|exact .inr ⟨_,rfl,.same rfl s8⟩|exact .inr ⟨_,rfl,.same (gobj_snoc _ _ _) s8⟩|exact .inr ⟨_,rfl,.same rfl (by repeat' (first|exact tt|exact .val _|exact .ptr (nb rfl)|exact .map (nb rfl)|exact b6V | refine l2 ?_ | refine ⟨?_,?_⟩))⟩|exact .inr ⟨_,rfl,.box (by repeat' (first|exact tt|exact .same rfl b6G|exact .ptr rfl|exact .map rfl|exact .vec rfl|exact B4.grow (f:=Tok.cv) (fun _=>⟨.val _,.val _,.val _,.val _,tt⟩) rfl | refine ⟨?_,?_⟩))⟩ | refine ⟨?_,?_⟩))⟩
theorem b2u (s:Str) (hs:s.length≤1000000000000) (σ:List c5):c4 CC 142 [(sv s)] σ fun r τ=>∃ x:b6f,r = .ret (b7j x)∧τ=σ∧b8b s x :=
 L8 (res:=fun x=>.ret (b7j x)) hCC (fun c hc=>by simp at hc; subst hc; exact .val _) (b0I s hs) (fun _ _=>(by repeat' (first|exact .val _|exact d8 _ _|exact d6 _ _|exact o8 _ _|exact a14 _ _|exact tt | refine d7 ?_ | refine d9 ?_ | refine ⟨?_,?_⟩))) σ
structure Ex where
 k:Int
 num:Int
 op:Int
 name:Str
 args:List Int
deriving DecidableEq
abbrev Ex.cells (x:Ex):List CV:=[.val (.int .i64 x.k),.val (.int .i64 x.num),.val (.int .i64 x.op),sv x.name,.list (x.args.map icv) (gnn x.args.length) none]
def Ex.cv (x:Ex):List CV:=x.cells
theorem Ex.pure (x:Ex):L5 x.cells:=⟨.val _,.val _,.val _,.val _,d8 _ _,tt⟩
theorem t7 (l:List Ex) (nn:Bool):o9 (.list (l.map Ex.cv) nn none):=K3 (f:=Ex.cv) Ex.pure l nn
theorem T6 (n:Nat) (l:List Ex) (nn:Bool):Old n (.list (l.map Ex.cv) nn none):=(t7 l nn).old
structure De where
 k:Int
 name:Str
 params:List Str
 body:List Ex
deriving DecidableEq
abbrev De.cells (x:De):List CV:=[.val (.int .i64 x.k),sv x.name,.list (x.params.map scv) (gnn x.params.length) none,.list (x.body.map Ex.cv) (gnn x.body.length) none]
def De.cv (x:De):List CV:=x.cells
theorem De.pure (x:De):L5 x.cells:=⟨.val _,.val _,d6 _ _,t7 _ _,tt⟩
theorem x0 (l:List De) (nn:Bool):o9 (.list (l.map De.cv) nn none):=K3 (f:=De.cv) De.pure l nn
theorem I5 (n:Nat) (l:List De) (nn:Bool):Old n (.list (l.map De.cv) nn none):=(x0 l nn).old
structure Src where
 pkg:Str
 imports:List Str
 decls:List De
deriving DecidableEq
abbrev Src.cells (x:Src):List CV:=[sv x.pkg,.list (x.imports.map scv) (gnn x.imports.length) none,.list (x.decls.map De.cv) (gnn x.decls.length) none]
theorem Src.pure (x:Src):L5 x.cells:=⟨.val _,d6 _ _,x0 _ _,tt⟩
abbrev pbx (T:List Tok) (n:Nat) (ps:List Str) (b:List Ex) (s:Nat):c5:=.box [.list (T.map Tok.cv) true none,.val (.int .i64 (n:Int)),.list (ps.map scv) (gnn ps.length) none,.list (b.map Ex.cv) (gnn b.length) (P3 b.length s)]
abbrev pst (T:List Tok) (n:Nat) (ps:List Str) (b:List Ex):List c5:=[pbx T n ps b 1,r6 b.length]
abbrev a2w (T:List Tok) (n:Nat) (ps:List Str) (b:List Ex):List c5:=[pbx T n ps b 2,.dead,r6 b.length]
theorem a7H {R:Nat→Nat→Prop} {T:List Tok} {n:Nat} {ps:List Str} {b:List Ex} {s s':Nat} (h:R s s'):D7 R (pbx T n ps b s) (pbx T n ps b s') :=
 .box (.cons (.pure (a14 _ _)) (.cons (.pure (.val _)) (.cons (.pure (d6 _ _)) (.cons (by
  refine .list rfl (fun i r r' h1 h2=>by rw [h1] at h2; injection h2 with h2; rw [h2]) (fun i j r r' c c' h1 h2 h3 h4=>?_) ?_
  ·rw [h1] at h2; injection h2 with h2; subst h2; rw [h3] at h4; injection h4 with h4; subst h4
   exact .pure (D6 (f:=Ex.cv) (fun a=>(Ex.pure a).all) _ r (List.mem_of_getElem? h1) c (List.mem_of_getElem? h3))
  ·cases hb:b.length with
   | zero=>exact .inl ⟨rfl,rfl⟩
   | succ m=>exact .inr ⟨s,s',rfl,rfl,h⟩) .nil))))
theorem a0E {R:Nat→Nat→Prop} (m:Nat):D7 R (r6 m) (r6 m):=by
 cases m with
 | zero=>exact .dead
 | succ m=>exact .tip _
def PAt (σ:List c5) (q s:Nat) (T:List Tok) (n:Nat) (ps:List Str) (b:List Ex):Prop:=σ[q]? = some (pbx T n ps b s)∧σ[s]? = some (r6 b.length)∧q≠s
abbrev a0e (at_ e:Int):CV:=.val (.iface 184 (.agg #[.int .i64 at_,.int .i64 e]))
def a09 {α:Type} (c:α→CV) (S:α→List c5) (P:α→Prop) (bad:Prop) (r:z6) (τ:List c5):Prop :=
 (∃ a,G8 2 τ r (.ret (c a)) (S a)∧P a)∨∃ x:Int × Int,G8 2 τ r (.pan (a0e x.1 x.2)) [.dead,.dead]∧(bad∧x.2≠0)
def a1j {α:Type} (c:α→CV) (S:α→List c5) (P:α→Prop) (σ:List c5) (q s:Nat) (bad:Prop) (r:z6) (τ:List c5):Prop :=
 (∃ a,r = .ret (c a)∧τ=S a∧P a)∨∃ x:Int × Int,r = .pan (a0e x.1 x.2)∧τ=(σ.set q .dead).set s .dead∧(bad∧x.2≠0)
theorem l4 {τ:List c5} {x y:Int}:G8 2 τ (.pan (a0e x y)) (.pan (a0e x y)) [.dead,.dead]:=⟨[0,1],rfl,rfl,.pan (.old (.val _)),.inl rfl,.inl rfl,tt⟩
theorem a1A {α:Type} {f:FuncId} {args:List CV} {c:α→CV} {N:α→Nat} {Z:α→List Str} {B:α→List Ex} {g:α→Bool} {P:α→Prop} {bad:Prop} {T:List Tok} {n:Nat} {ps:List Str} {b:List Ex} (hargs:∀ a∈args,o9 a) (hc:∀ a,o9 (c a))
 (h:c4 CC f (.ptr 0 0::args) (pst T n ps b) (a09 c (fun a=>if g a=true then a2w T (N a) (Z a) (B a) else pst T (N a) (Z a) (B a)) P bad)) {σ:List c5} {q s:Nat} (hσ:PAt σ q s T n ps b) :
 c4 CC f (.ptr q 0::args) σ (a1j c (fun a=>if g a=true then (σ.set q (pbx T (N a) (Z a) (B a) σ.length)).set s .dead++[r6 (B a).length] else (σ.set q (pbx T (N a) (Z a) (B a) s)).set s (r6 (B a).length)) P σ q s bad):=by
 obtain ⟨h1,h2,h3⟩:=hσ
 have hq:=(List.getElem?_eq_some_iff.1 h1).1
 have hs:=(List.getElem?_eq_some_iff.1 h2).1
 have h':c4 CC f (.ptr 0 0::args) (pst T n ps b) fun r τ=>(∃ a,r = .ret (c a)∧τ=(if g a=true then a2w T (N a) (Z a) (B a) else pst T (N a) (Z a) (B a))∧P a)∨∃ x:Int × Int,r = .pan (a0e x.1 x.2)∧τ=[.dead,.dead]∧(bad∧x.2≠0):=by
  refine L6 hCC (h.mono fun r τ hh=>?_)
  rcases hh with ⟨a,k1,k2⟩ | ⟨x,k1,k2⟩
  ·exact ⟨_,_,k1,.inl ⟨a,rfl,rfl,k2⟩⟩
  ·exact ⟨_,_,k1,.inr ⟨x,rfl,rfl,k2⟩⟩
 refine I0 [q,s] hCC rfl (fun i j k g1 g2=>?_) (fun i k ob g1 g2=>?_) (.cons (.ptr rfl) (K2 hargs)) h' fun r τ hk=>?_
 ·rcases i with _ | _ | i <;> rcases j with _ | _ | j <;> simp at g1 g2 <;> first|rfl|(exfalso; exact h3 (g1.trans g2.symm))|(exfalso; exact h3 (g2.trans g1.symm))
 ·rcases i with _ | _ | i
  ·simp at g1 g2
   subst g1 g2
   exact ⟨_,h1,a7H rfl⟩
  ·simp at g1 g2
   subst g1 g2
   exact ⟨_,h2,a0E _⟩
  ·simp at g1
 ·rcases hk with ⟨a,rfl,rfl,hp⟩ | ⟨x,rfl,rfl,hp⟩
  ·refine ⟨by split <;> simp,.ret (c a),(if g a=true then (σ.set q (pbx T (N a) (Z a) (B a) σ.length)).set s .dead++[r6 (B a).length] else (σ.set q (pbx T (N a) (Z a) (B a) s)).set s (r6 (B a).length)),.ret (.pure (hc a)),by split <;> simp,fun k hk hks=>?_,fun i k x ha hx=>?_,.inl ⟨a,rfl,rfl,hp⟩⟩
   ·have n1:q≠k:=fun e=>hks (by simp [e])
    have n2:s≠k:=fun e=>hks (by simp [e])
    split
    ·rw [List.getElem?_append_left (by simpa using hk)]
     simp [n1,n2]
    ·simp [n1,n2]
   ·split at hx <;> rename_i hg
    ·rcases ha with ha | ⟨ha,rfl⟩
     ·rcases i with _ | _ | i
      ·simp at ha hx
       subst ha hx
       refine ⟨pbx T (N a) (Z a) (B a) σ.length,?_,a7H (.inr ⟨by simp,by simp⟩)⟩
       rw [if_pos hg,List.getElem?_append_left (by simpa using hq),List.getElem?_set_ne h3.symm]
       simp [hq]
      ·simp at ha hx
       subst ha hx
       refine ⟨.dead,?_,.dead⟩
       rw [if_pos hg,List.getElem?_append_left (by simpa using hs)]
       simp [hs]
      ·simp at ha
     ·rcases i with _ | _ | _ | i
      ·simp at ha
      ·simp at ha
      ·simp at hx
       subst hx
       refine ⟨r6 (B a).length,?_,a0E _⟩
       rw [if_pos hg,List.getElem?_append_right l7]
       simp
      ·simp at hx
    ·rcases ha with ha | ⟨ha,rfl⟩
     ·rcases i with _ | _ | i
      ·simp at ha hx
       subst ha hx
       refine ⟨pbx T (N a) (Z a) (B a) s,?_,a7H (.inl rfl)⟩
       rw [if_neg hg,List.getElem?_set_ne h3.symm]
       simp [hq]
      ·simp at ha hx
       subst ha hx
       refine ⟨r6 (B a).length,?_,a0E _⟩
       rw [if_neg hg]
       simp [hs]
      ·simp at ha
     ·rcases i with _ | _ | i
      ·simp at ha
      ·simp at ha
      ·simp at hx
  ·refine ⟨Nat.le_refl _,.pan (a0e x.1 x.2),(σ.set q .dead).set s .dead,.pan (.pure (.val _)),by simp,fun k hk hks=>?_,fun i k y ha hx=>?_,.inr ⟨x,rfl,rfl,hp⟩⟩
   ·have n1:q≠k:=fun e=>hks (by simp [e])
    have n2:s≠k:=fun e=>hks (by simp [e])
    simp [n1,n2]
   ·rcases ha with ha | ⟨ha,rfl⟩
    ·rcases i with _ | _ | i
     ·simp at ha hx
      subst ha hx
      refine ⟨.dead,?_,.dead⟩
      rw [List.getElem?_set_ne h3.symm]
      simp [hq]
     ·simp at ha hx
      subst ha hx
      refine ⟨.dead,?_,.dead⟩
      simp [hs]
     ·simp at ha
    ·rcases i with _ | _ | i
     ·simp at ha
     ·simp at ha
     ·simp at hx
theorem a10 {T:List Tok} {n:Nat} {ps:List Str} {b:List Ex} {s L:Nat} (h:s < L):F0 L (pbx T n ps b s):=l2 ⟨K1 _ _ _,.val _,k8 _ _ _,.list (fun i j r c h1 h2=>(D6 (f:=Ex.cv) (fun a=>(Ex.pure a).all) _ r (List.mem_of_getElem? h1) c (List.mem_of_getElem? h2)).old) (fun k hk=>by
 cases hb:b.length with
 | zero=>rw [hb] at hk; cases hk
 | succ m=>rw [hb] at hk; injection hk with hk; omega),tt⟩
theorem S5 {τ rest:List c5} {T:List Tok} {n:Nat} {ps:List Str} {b:List Ex} {c:CV} (hτ:τ=pbx T n ps b 1::r6 b.length::rest) (hc:Old 2 c):G8 2 τ (.ret c) (.ret c) (pst T n ps b):=by
 subst hτ
 exact ⟨[0,1],rfl,rfl,.ret (.old hc),.inr ⟨_,rfl,.same rfl (a10 j4)⟩,.inr ⟨_,rfl,.same rfl s8⟩,tt⟩
theorem a23 {L:Nat} {sel:List Nat}:∀ {l:List CV},a7w L l→b0u L sel l l
 | [],_=>trivial
 | _::_,⟨h,t⟩=>⟨.old h,a23 t⟩
theorem O9 {τ:List c5} {T:List Tok} {n k:Nat} {ps:List Str} {b:List Ex} {c:CV} (h0:τ[0]? = some (pbx T n ps b k)) (hk:τ[k]? = some (r6 b.length)) (h2:2≤k) (hc:Old 2 c):G8 2 τ (.ret c) (.ret c) (a2w T n ps b):=by
 have k1:a3j 2 [0,1,k]=true:=rfl
 have k2:T3 [0,1,k]=true:=by
  have e0:(k == 0)=false:=by simp; omega
  have e1:(k == 1)=false:=by simp; omega
  have e2:(0 == k)=false:=by simp; omega
  have e3:(1 == k)=false:=by simp; omega
  simp [T3]
  omega
 refine ⟨[0,1,k],k1,k2,.ret (.old hc),.inr ⟨_,h0,.box ?_⟩,.inl rfl,.inr ⟨_,hk,.same rfl s8⟩,tt⟩
 refine ⟨.old (K1 _ _ _),.old (.val _),.old (k8 _ _ _),.list (fun r hr c hc=>(D6 (f:=Ex.cv) (fun a=>(Ex.pure a).all) _ r hr c hc).old) ?_,tt⟩
 intro j hj
 cases hb:b.length with
 | zero=>rw [hb] at hj; cases hj
 | succ m=>rw [hb] at hj; injection hj with hj; subst hj; exact ⟨k,rfl,rfl⟩
theorem a1E {α:Type} {l:List α} {i:Nat} {x:α} (h:l[i]? = some x):l.set i x=l:=by
 apply List.ext_getElem? fun j=>?_
 have hi:=(List.getElem?_eq_some_iff.1 h).1
 by_cases hj:i=j
 ·subst hj; rw [List.getElem?_set_self hi,h]
 ·rw [List.getElem?_set_ne hj]
theorem b0Z {f:FuncId} {args:List CV} {c:CV} {T:List Tok} {n:Nat} {ps:List Str} {b:List Ex} (hargs:∀ a∈args,o9 a) (hc:o9 c)
 (h:c4 CC f (.ptr 0 0::args) (pst T n ps b) fun r τ=>G8 2 τ r (.ret c) (pst T n ps b)) {σ:List c5} {q s:Nat} (hσ:PAt σ q s T n ps b):c4 CC f (.ptr q 0::args) σ fun r τ=>r = .ret c∧τ=σ:=by
 refine (a1A (α:=Unit) (c:=fun _=>c) (N:=fun _=>n) (B:=fun _=>b) (Z:=fun _=>ps) (g:=fun _=>false) (P:=fun _=>True) (bad:=False) hargs (fun _=>hc) (h.mono fun r τ hh=>.inl ⟨(),hh,tt⟩) hσ).mono fun r τ hh=>?_
 rcases hh with ⟨_,h1,h2,_⟩ | ⟨_,_,_,h3,_⟩
 ·refine ⟨h1,h2.trans ?_⟩
  show (σ.set q _).set s _=σ
  rw [a1E hσ.1,a1E hσ.2.1]
 ·exact h3.elim
theorem S6 {α:Type} {f:FuncId} {args:List CV} {c:α→CV} {N:α→Nat} {P:α→Prop} {bad:Prop} {T:List Tok} {n:Nat} {ps:List Str} {b:List Ex} (hargs:∀ a∈args,o9 a) (hc:∀ a,o9 (c a))
 (h:c4 CC f (.ptr 0 0::args) (pst T n ps b) (a09 c (fun a=>pst T (N a) ps b) P bad)) {σ:List c5} {q s:Nat} (hσ:PAt σ q s T n ps b) :
 c4 CC f (.ptr q 0::args) σ (a1j c (fun a=>σ.set q (pbx T (N a) ps b s)) P σ q s bad):=by
 refine (a1A (c:=c) (N:=N) (B:=fun _=>b) (Z:=fun _=>ps) (g:=fun _=>false) (P:=P) (bad:=bad) hargs hc (h.mono fun r τ hh=>?_) hσ).mono fun r τ hh=>?_
 ·rcases hh with ⟨a,h1,h2⟩ | h
  ·exact .inl ⟨a,h1,h2⟩
  ·exact .inr h
 ·rcases hh with ⟨a,h1,h2,h3⟩ | h
  ·refine .inl ⟨a,h1,h2.trans ?_,h3⟩
   refine a1E ?_
   rw [List.getElem?_set_ne hσ.2.2]
   exact hσ.2.1
  ·exact .inr h
theorem a0q {α:Type} {f:FuncId} {args:List CV} {c:α→CV} {N:α→Nat} {B:α→List Ex} {P:α→Prop} {bad:Prop} {T:List Tok} {n:Nat} {ps:List Str} {b:List Ex} (hargs:∀ a∈args,o9 a) (hc:∀ a,o9 (c a))
 (h:c4 CC f (.ptr 0 0::args) (pst T n ps b) (a09 c (fun a=>a2w T (N a) ps (B a)) P bad)) {σ:List c5} {q s:Nat} (hσ:PAt σ q s T n ps b) :
 c4 CC f (.ptr q 0::args) σ (a1j c (fun a=>(σ.set q (pbx T (N a) ps (B a) σ.length)).set s .dead++[r6 (B a).length]) P σ q s bad):=by
 refine (a1A (c:=c) (N:=N) (B:=B) (Z:=fun _=>ps) (g:=fun _=>true) (P:=P) (bad:=bad) hargs hc (h.mono fun r τ hh=>?_) hσ).mono fun r τ hh=>?_
 ·rcases hh with ⟨a,h1,h2⟩ | h
  ·exact .inl ⟨a,h1,h2⟩
  ·exact .inr h
 ·rcases hh with ⟨a,h1,h2,h3⟩ | h
  ·exact .inl ⟨a,h1,h2,h3⟩
  ·exact .inr h
theorem U0 (x:Tok):o9 (.agg x.cells):=d7 ⟨.val _,.val _,.val _,.val _,tt⟩
theorem a3b (n:Nat) (x:Tok):Old n (.agg x.cells):=(U0 x).old
def tk (T:List Tok) (n:Nat):Tok:=(T[n]?).getD ⟨5,[],0,0⟩
theorem b7w {T:List Tok} {n:Nat} (h:n < T.length):T[n]? = some (tk T n):=by simp [tk,h]
def a2A (T:List Tok):Prop:=∀ n,n < T.length→(tk T n).k≠5→n+1 < T.length
def isT (t:Tok) (k:Int) (s:Str):Bool:=(t.k == k) && decide (t.t=s)
theorem a7M {T:List Tok} {n:Nat} {k:Int} {s:Str} (h:isT (tk T n) k s=true) (hk:k≠5):(tk T n).k≠5:=by
 simp [isT] at h
 omega
def P9 (T:List Tok) (n:Nat) (k:Int):Option (Tok × Nat):=if (tk T n).k=k then some (tk T n,if k=5 then n else n+1) else none
def pIs (T:List Tok) (n:Nat) (k:Int) (s:Str):Option Nat:=if isT (tk T n) k s=true then some (n+1) else none
set_option maxRecDepth 10000 in
theorem b3N (t:Tok) (e:Int):c4 CC 190 [.agg t.cells,(.val (.int .i64 (e)))] [] fun r τ=>∃ _:Unit,a1V 0 τ r (.pan (a0e t.at_ e))∧True:=by
 refine (d5 Tryz.func190 rfl rfl ?_)
 refine a7 (a6 ?_)
 refine cD (A4 rfl tt c6 j2 ?_)
 refine a8 (a6 ?_)
 refine cY a1Z ?_; refine cY z8 ?_; refine cY b7 ?_; refine cY (t6 #[(0,1),(1,1)] rfl ⟨tt,tt,tt⟩ Tryz.runUnderlying184 Tryz.zeroValue184 rfl ⟨_,rfl⟩ (fun w=>by kernel_rfl) rfl rfl) ?_; refine cY (b2z (xs:=[.int .i64 t.at_,.int .i64 e]) rfl tt rfl (a96 Tryz.runUnderlying184 rfl)) ?_
 exact a0f rfl rfl (b6C rfl tt rfl (fun M w v h=>⟨_,_,n7 h⟩) ⟨(),.pan (.old (.val _)),tt⟩)
theorem F2 (t:Tok) (e:Int) (σ:List c5):c4 CC 190 [.agg t.cells,(.val (.int .i64 (e)))] σ fun r τ=>∃ _:Unit,r = .pan (a0e t.at_ e)∧τ=σ∧True :=
 L8 (res:=fun _=>.pan (a0e t.at_ e)) hCC (fun c hc=>by
  simp at hc
  rcases hc with rfl | rfl
  ·exact U0 _
  ·exact .val _) (b3N t e) (fun _ _=>.val _) σ
set_option maxRecDepth 10000 in
theorem b20 (T:List Tok) (n:Nat) (ps:List Str) (b:List Ex) (hT:T.length≤1000000) (hn:n < T.length):c4 CC 191 [.ptr 0 0] (pst T n ps b) (fun r τ=>G8 2 τ r (.ret (.agg (tk T n).cells)) (pst T n ps b)):=by
 refine (d5 Tryz.func191 rfl rfl ?_)
 refine a7 (a6 ?_)
 refine cD (l5 rfl Tryz.zeroValue227 rfl j2 ?_)
 refine a8 (a7 ?_)
 refine w8 10 [0,1,3,7,0,16,48,112,255,511,1023] j6 j6 rfl ?_; refine hY b7 ?_; refine hY o6 ?_; refine hY (l8 rfl tt rfl Tryz.runUnderlying188 rfl Tryz.sizeOf180 j4) ?_; refine hY (n8 rfl tt rfl Tryz.isAgg180 rfl rfl) ?_; refine hY b7 ?_; refine hY o6 ?_; refine hY O6 ?_; refine hY z8 ?_; refine hY (r5 rfl tt tt rfl rfl Tryz.runUnderlying180 Tryz.sizeOf227 b8 (m7 (b7w hn)) rfl) ?_; refine hY (Q2 rfl tt rfl Tryz.isAgg227 Tryz.sizeOf227 (nb rfl)) ?_; refine B6 ?_
 refine cD (i7 rfl tt tt rfl c6 Tryz.sizeOf227 j2 rfl rfl (nb rfl) ?_)
 refine a8 (c9 ?_)
 exact ⟨_,B5 rfl ⟨tt,_,_,_,rfl,rfl,.inr ⟨_,Tryz.isAgg227,Tryz.sizeOf227,nb rfl,rfl⟩⟩,S5 rfl (a3b _ _)⟩
theorem a1D {T:List Tok} {n:Nat} {ps:List Str} {b:List Ex} (hT:T.length≤1000000) (hn:n < T.length) {σ:List c5} {q s:Nat} (hσ:PAt σ q s T n ps b):c4 CC 191 [.ptr q 0] σ fun r τ=>r = .ret (.agg (tk T n).cells)∧τ=σ:=b0Z (fun _ h=>by cases h) (U0 _) (b20 T n ps b hT hn) hσ
set_option maxRecDepth 10000 in
theorem b7u (T:List Tok) (n:Nat) (ps:List Str) (b:List Ex) (hT:T.length≤1000000) (hn:n < T.length) (k:Int) (u:Str):c4 CC 189 [.ptr 0 0,(.val (.int .i64 (k))),(sv (u))] (pst T n ps b) (fun r τ=>G8 2 τ r (.ret (.val (.bool (isT (tk T n) (k) (u))))) (pst T n ps b)):=by
 refine (d5 Tryz.func189 rfl rfl ?_)
 refine a7 (a6 ?_)
 refine cY j1 ?_
 refine a8 (a7 (a6 ?_))
 refine cY b7 ?_; refine cY a9l ?_
 refine cD (l5 rfl Tryz.zeroValue227 rfl j2 ?_)
 refine cD (i7 rfl tt tt rfl c6 Tryz.sizeOf227 j2 rfl rfl (nb rfl) ?_)
 refine a8 (a7 (a6 ?_))
 refine cY a1Z ?_; refine cY z8 ?_; refine cY b7 ?_; refine cY r9 ?_; refine cY b7 ?_; refine cG b6E ?_; refine cG U7 ?_; refine cG o5 ?_; refine cG a3x ?_; refine cY t8 ?_; refine cY c7 ?_
 refine a8 (c9 ?_)
 exact ⟨_,l9 rfl tt c6,(by exact S5 rfl (.val _))⟩
theorem a6Y {T:List Tok} {n:Nat} {ps:List Str} {b:List Ex} (hT:T.length≤1000000) (hn:n < T.length) (k:Int) (u:Str) {σ:List c5} {q s:Nat} (hσ:PAt σ q s T n ps b):c4 CC 189 [.ptr q 0,(.val (.int .i64 (k))),(sv (u))] σ fun r τ=>r = .ret (.val (.bool (isT (tk T n) (k) (u))))∧τ=σ:=b0Z (fun _ h=>by simp at h; rcases h with rfl | rfl <;> exact .val _) (.val _) (b7u T n ps b hT hn k u) hσ
set_option maxRecDepth 10000 in
theorem b5l (T:List Tok) (n:Nat) (ps:List Str) (b:List Ex) (hT:T.length≤1000000) (hn:n < T.length) (hW:a2A T) (u:Str):c4 CC 188 [.ptr 0 0,(sv (u))] (pst T n ps b) (a09 (fun _:Nat=>.tup []) (fun a=>pst T a ps b) (fun a=>pIs T n 4 u=some a∧a < T.length) (pIs T n 4 u=none)):=by
 refine (d5 Tryz.func188 rfl rfl ?_)
 refine a7 (a7 (a6 ?_))
 refine cY b7 ?_; refine cY b7 ?_; refine cY (i8 rfl Tryz.call189 ⟨tt,rfl,tt,tt⟩ (a6Y hT hn 4 u ⟨rfl,rfl,by decide⟩) rfl) ?_; refine cY F6 ?_; refine a8 ?_
 refine b9 tt rfl (fun h1=>?_) (fun h1=>?_)
 ·have hb:isT (tk T n) 4 u=false:=by simpa using h1
  refine a6 ?_; refine cY b7 ?_; refine cY a9l ?_
  exact a0f rfl rfl (F4 rfl Tryz.call190 ⟨tt,rfl,tt⟩ (F2 _ _ _) rfl (fun _ _=>.inr ⟨(_,_),l4,by rw [pIs,if_neg (by rw [hb]; decide)],by simp⟩))
 ·have hb:isT (tk T n) 4 u=true:=by simpa using h1
  refine c8 (a6 ?_)
  refine cY b7 ?_; refine cY o6 ?_; refine cY O6 ?_; refine cY z8 ?_; refine cY m9 ?_; refine cY o6 ?_; refine cY O6 ?_
  refine cD (i7 rfl tt tt rfl c6 Tryz.sizeOf3 (.inl rfl) rfl rfl (nb rfl) ?_)
  refine a8 ?_
  exact ⟨_,o0 (rs:=[]) (cs:=[]) rfl tt (Nat.ne_of_beq_eq_false rfl),b79⟩
theorem I7 {T:List Tok} {n:Nat} {ps:List Str} {b:List Ex} (hT:T.length≤1000000) (hn:n < T.length) (hW:a2A T) (u:Str) {σ:List c5} {q s:Nat} (hσ:PAt σ q s T n ps b):c4 CC 188 [.ptr q 0,(sv (u))] σ (a1j (fun _:Nat=>.tup []) (fun a=>σ.set q (pbx T a ps b s)) (fun a=>pIs T n 4 u=some a∧a < T.length) σ q s (pIs T n 4 u=none)) :=
 S6 (c:=fun _:Nat=>.tup []) (N:=fun a=>a) (fun _ h=>by simp at h; subst h; exact .val _) (fun _=>d9 trivial) (b5l T n ps b hT hn hW u) hσ
set_option maxRecDepth 10000 in
theorem b30 (T:List Tok) (n:Nat) (ps:List Str) (b:List Ex) (hT:T.length≤1000000) (hn:n < T.length) (hW:a2A T) (u:Str):c4 CC 186 [.ptr 0 0,(sv (u))] (pst T n ps b) (a09 (fun _:Nat=>.tup []) (fun a=>pst T a ps b) (fun a=>pIs T n 1 u=some a∧a < T.length) (pIs T n 1 u=none)):=by
 refine (d5 Tryz.func186 rfl rfl ?_)
 refine a7 (a7 (a6 ?_))
 refine cY b7 ?_; refine cY b7 ?_; refine cY (i8 rfl Tryz.call189 ⟨tt,rfl,tt,tt⟩ (a6Y hT hn 1 u ⟨rfl,rfl,by decide⟩) rfl) ?_; refine cY F6 ?_; refine a8 ?_
 refine b9 tt rfl (fun h1=>?_) (fun h1=>?_)
 ·have hb:isT (tk T n) 1 u=false:=by simpa using h1
  refine a6 ?_; refine cY b7 ?_; refine cY a9l ?_
  exact a0f rfl rfl (F4 rfl Tryz.call190 ⟨tt,rfl,tt⟩ (F2 _ _ _) rfl (fun _ _=>.inr ⟨(_,_),l4,by rw [pIs,if_neg (by rw [hb]; decide)],by simp⟩))
 ·have hb:isT (tk T n) 1 u=true:=by simpa using h1
  refine c8 (a6 ?_)
  refine cY b7 ?_; refine cY o6 ?_; refine cY O6 ?_; refine cY z8 ?_; refine cY m9 ?_; refine cY o6 ?_; refine cY O6 ?_
  refine cD (i7 rfl tt tt rfl c6 Tryz.sizeOf3 (.inl rfl) rfl rfl (nb rfl) ?_)
  refine a8 ?_
  exact ⟨_,o0 (rs:=[]) (cs:=[]) rfl tt (Nat.ne_of_beq_eq_false rfl),b79⟩
theorem a7A {T:List Tok} {n:Nat} {ps:List Str} {b:List Ex} (hT:T.length≤1000000) (hn:n < T.length) (hW:a2A T) (u:Str) {σ:List c5} {q s:Nat} (hσ:PAt σ q s T n ps b):c4 CC 186 [.ptr q 0,(sv (u))] σ (a1j (fun _:Nat=>.tup []) (fun a=>σ.set q (pbx T a ps b s)) (fun a=>pIs T n 1 u=some a∧a < T.length) σ q s (pIs T n 1 u=none)) :=
 S6 (c:=fun _:Nat=>.tup []) (N:=fun a=>a) (fun _ h=>by simp at h; subst h; exact .val _) (fun _=>d9 trivial) (b30 T n ps b hT hn hW u) hσ
set_option maxRecDepth 10000 in
theorem b0C (T:List Tok) (n:Nat) (ps:List Str) (b:List Ex) (hT:T.length≤1000000) (hn:n < T.length) (hW:a2A T) (u:Str):c4 CC 263 [.ptr 0 0,(sv (u))] (pst T n ps b) (a09 (fun a:Bool × Nat=>(.val (.bool (a.1)))) (fun a=>pst T a.2 ps b) (fun a=>a.1=isT (tk T n) 4 u∧a.2=(if isT (tk T n) 4 u=true then n+1 else n)∧a.2 < T.length) False):=by
 refine (d5 Tryz.func263 rfl rfl ?_)
 refine a7 (a6 ?_)
 refine cY j1 ?_
 refine a8 (a7 (a7 (a6 ?_)))
 refine cY b7 ?_; refine cY b7 ?_; refine cY (i8 rfl Tryz.call189 ⟨tt,rfl,tt,tt⟩ (a6Y hT hn 4 u ⟨rfl,rfl,by decide⟩) rfl) ?_; refine cY F6 ?_; refine a8 ?_
 refine b9 tt rfl (fun h1=>?_) (fun h1=>?_)
 ·have hb:isT (tk T n) 4 u=false:=by simpa using h1
  refine a7 (a6 ?_)
  refine cY j1 ?_
  refine a8 (c9 ?_)
  exact ⟨_,l9 rfl tt c6,(by exact .inl ⟨(false,n),S5 rfl (.val _),hb.symm,by rw [if_neg (by rw [hb]; decide)],hn⟩)⟩
 ·have hb:isT (tk T n) 4 u=true:=by simpa using h1
  refine c8 (a7 (a6 ?_))
  refine cY b7 ?_; refine cY o6 ?_; refine cY O6 ?_; refine cY z8 ?_; refine cY m9 ?_; refine cY o6 ?_; refine cY O6 ?_
  refine cD (i7 rfl tt tt rfl c6 Tryz.sizeOf3 (.inl rfl) rfl rfl (nb rfl) ?_)
  refine a8 (a7 (a6 ?_))
  refine cY j1 ?_
  refine a8 (c9 ?_)
  exact ⟨_,l9 rfl tt c6,(by exact .inl ⟨(true,n+1),S5 rfl (.val _),hb.symm,by rw [if_pos hb],hW n hn (a7M hb j4)⟩)⟩
theorem X0 {T:List Tok} {n:Nat} {ps:List Str} {b:List Ex} (hT:T.length≤1000000) (hn:n < T.length) (hW:a2A T) (u:Str) {σ:List c5} {q s:Nat} (hσ:PAt σ q s T n ps b):c4 CC 263 [.ptr q 0,(sv (u))] σ fun r τ=>∃ a:Bool × Nat,r = .ret (.val (.bool (a.1)))∧τ=σ.set q (pbx T a.2 ps b s)∧a.1=isT (tk T n) 4 u∧a.2=(if isT (tk T n) 4 u=true then n+1 else n)∧a.2 < T.length :=
 (S6 (c:=fun a:Bool × Nat=>(.val (.bool a.1))) (N:=fun a:Bool × Nat=>a.2) (fun _ h=>by simp at h; subst h; exact .val _) (fun _=>.val _) (b0C T n ps b hT hn hW u) hσ).mono fun r τ h=>by
  rcases h with h | ⟨_,_,_,h,_⟩
  ·exact h
  ·exact h.elim
set_option maxRecDepth 10000 in
theorem b3K (T:List Tok) (n:Nat) (ps:List Str) (b:List Ex) (hT:T.length≤1000000) (hn:n < T.length) (hW:a2A T) (k:Int):c4 CC 225 [.ptr 0 0,(.val (.int .i64 (k)))] (pst T n ps b) (a09 (fun a:Tok × Nat=>.agg a.1.cells) (fun a=>pst T a.2 ps b) (fun a=>P9 T n k=some a∧a.2 < T.length) (P9 T n k=none)):=by
 refine (d5 Tryz.func225 rfl rfl ?_)
 refine a7 (a6 ?_)
 refine cD (l5 rfl Tryz.zeroValue227 rfl j2 ?_)
 refine a8 (a7 (a6 ?_))
 refine cY b7 ?_; refine cY a9l ?_
 refine cD (l5 rfl Tryz.zeroValue227 rfl j2 ?_)
 refine cD (i7 rfl tt tt rfl c6 Tryz.sizeOf227 j2 rfl rfl (nb rfl) ?_)
 refine a8 (a7 (a7 (a6 ?_)))
 refine cY a1Z ?_; refine cY z8 ?_; refine cY b7 ?_; refine cY r9 ?_; refine a8 ?_
 refine b9 tt rfl (fun h1=>?_) (fun h1=>?_)
 ·have hk:¬ (tk T n).k=k:=by simpa using h1
  refine a6 ?_; refine cY C7 ?_
  exact a0f rfl rfl (F4 rfl Tryz.call190 ⟨tt,rfl,tt⟩ (F2 _ _ _) rfl (fun _ _=>.inr ⟨(_,_),l4,by rw [P9,if_neg hk],by simp⟩))
 ·have hk:(tk T n).k=k:=by simpa using h1
  refine c8 (a7 (a7 (a6 ?_)))
  refine cY b7 ?_; refine cY j9 ?_; refine a8 ?_
  refine b9 tt rfl (fun h2=>?_) (fun h2=>?_)
  ·have h5:¬ k=5:=by simpa using h2
   refine a6 ?_; refine cY b7 ?_; refine cY o6 ?_; refine cY O6 ?_; refine cY z8 ?_; refine cY m9 ?_; refine cY o6 ?_; refine cY O6 ?_
   refine cD (i7 rfl tt tt rfl c6 Tryz.sizeOf3 (.inl rfl) rfl rfl (nb rfl) ?_)
   refine a8 (a7 (a6 ?_))
   refine cY C7 ?_
   refine cD (i7 rfl tt tt rfl c6 Tryz.sizeOf227 j2 rfl rfl (nb rfl) ?_)
   refine a8 (c9 ?_)
   exact ⟨_,B5 rfl ⟨tt,_,_,_,rfl,rfl,.inr ⟨_,Tryz.isAgg227,Tryz.sizeOf227,nb rfl,rfl⟩⟩,(by exact .inl ⟨(tk T n,n+1),S5 rfl (a3b _ _),by rw [P9,if_pos hk,if_neg h5],hW n hn (by rw [hk]; exact h5)⟩)⟩
  ·have h5:k=5:=by simpa using h2
   refine c8 (a7 (a6 ?_))
   refine cY C7 ?_
   refine cD (i7 rfl tt tt rfl c6 Tryz.sizeOf227 j2 rfl rfl (nb rfl) ?_)
   refine a8 (c9 ?_)
   exact ⟨_,B5 rfl ⟨tt,_,_,_,rfl,rfl,.inr ⟨_,Tryz.isAgg227,Tryz.sizeOf227,nb rfl,rfl⟩⟩,(by exact .inl ⟨(tk T n,n),S5 rfl (a3b _ _),by rw [P9,if_pos hk,if_pos h5],hn⟩)⟩
theorem a2T {T:List Tok} {n:Nat} {ps:List Str} {b:List Ex} (hT:T.length≤1000000) (hn:n < T.length) (hW:a2A T) (k:Int) {σ:List c5} {q s:Nat} (hσ:PAt σ q s T n ps b):c4 CC 225 [.ptr q 0,(.val (.int .i64 (k)))] σ (a1j (fun a:Tok × Nat=>.agg a.1.cells) (fun a=>σ.set q (pbx T a.2 ps b s)) (fun a=>P9 T n k=some a∧a.2 < T.length) σ q s (P9 T n k=none)) :=
 S6 (c:=fun a:Tok × Nat=>.agg a.1.cells) (N:=fun a=>a.2) (fun _ h=>by simp at h; subst h; exact .val _) (fun _=>U0 _) (b3K T n ps b hT hn hW k) hσ
def M6 (u:Str):Bool:=decide (u∈([[112,97,99,107,97,103,101],[105,109,112,111,114,116],[102,117,110,99],[116,101,115,116],[103,101,110],[105,102],[116,104,101,110],[101,108,115,101],[114,101,97,100],[115,105,122,101],[104,97,115],[101,110,118],[102,108,105,112]]:List Str))
set_option maxRecDepth 10000 in
theorem a9B (u:Str):c4 CC 226 [(sv (u))] [] fun r σ'=>r = .ret (.val (.bool (M6 u)))∧σ'=[]:=by
 refine j8 (d5 Tryz.func226 rfl rfl ?_)
 refine a7 (a6 ?_)
 refine cY j1 ?_
 refine a8 (a7 (a7 (a6 ?_)))
 refine cY b7 ?_
 refine a8 (d4 (a7 (a7 (a6 ?_))))
 refine cY K8 ?_; refine cY c7 ?_; refine a8 ?_
 refine b9 tt rfl (fun h1=>?_) (fun h1=>?_)
 ·have e:u=[112,97,99,107,97,103,101]:=by simpa using h1
  refine c8 ?_
  refine b9 tt rfl (fun h2=>?_) (fun h2=>?_)
  ·skip
   refine a7 (a6 ?_)
   refine cY j1 ?_
   refine a8 (c9 ?_)
   exact ⟨_,l9 rfl tt c6,_,_,rfl,rfl,m5 (show true=M6 u by rw [e]; decide)⟩
  ·exfalso
   rw [h1] at h2
   cases h2
 ·have e1:¬ u=[112,97,99,107,97,103,101]:=by simpa using h1
  refine a7 (a6 ?_)
  refine cY K8 ?_; refine cY c7 ?_; refine a8 ?_
  refine b9 tt rfl (fun h3=>?_) (fun h3=>?_)
  ·have e:u=[105,109,112,111,114,116]:=by simpa using h3
   refine c8 ?_
   refine b9 tt rfl (fun h4=>?_) (fun h4=>?_)
   ·skip
    refine a7 (a6 ?_)
    refine cY j1 ?_
    refine a8 (c9 ?_)
    exact ⟨_,l9 rfl tt c6,_,_,rfl,rfl,m5 (show true=M6 u by rw [e]; decide)⟩
   ·exfalso
    rw [h3] at h4
    cases h4
  ·have e2:¬ u=[105,109,112,111,114,116]:=by simpa using h3
   refine a7 (a6 ?_)
   refine cY K8 ?_; refine cY c7 ?_; refine a8 ?_
   refine b9 tt rfl (fun h5=>?_) (fun h5=>?_)
   ·have e:u=[102,117,110,99]:=by simpa using h5
    refine c8 ?_
    refine b9 tt rfl (fun h6=>?_) (fun h6=>?_)
    ·skip
     refine a7 (a6 ?_)
     refine cY j1 ?_
     refine a8 (c9 ?_)
     exact ⟨_,l9 rfl tt c6,_,_,rfl,rfl,m5 (show true=M6 u by rw [e]; decide)⟩
    ·exfalso
     rw [h5] at h6
     cases h6
   ·have e3:¬ u=[102,117,110,99]:=by simpa using h5
    refine a7 (a6 ?_)
    refine cY K8 ?_; refine cY c7 ?_; refine a8 ?_
    refine b9 tt rfl (fun h7=>?_) (fun h7=>?_)
    ·have e:u=[116,101,115,116]:=by simpa using h7
     refine c8 ?_
     refine b9 tt rfl (fun h8=>?_) (fun h8=>?_)
     ·skip
      refine a7 (a6 ?_)
      refine cY j1 ?_
      refine a8 (c9 ?_)
      exact ⟨_,l9 rfl tt c6,_,_,rfl,rfl,m5 (show true=M6 u by rw [e]; decide)⟩
     ·exfalso
      rw [h7] at h8
      cases h8
    ·have e4:¬ u=[116,101,115,116]:=by simpa using h7
     refine a7 (a6 ?_)
     refine cY K8 ?_; refine cY c7 ?_; refine a8 ?_
     refine b9 tt rfl (fun h9=>?_) (fun h9=>?_)
     ·have e:u=[103,101,110]:=by simpa using h9
      refine c8 ?_
      refine b9 tt rfl (fun h10=>?_) (fun h10=>?_)
      ·skip
       refine a7 (a6 ?_)
       refine cY j1 ?_
       refine a8 (c9 ?_)
       exact ⟨_,l9 rfl tt c6,_,_,rfl,rfl,m5 (show true=M6 u by rw [e]; decide)⟩
      ·exfalso
       rw [h9] at h10
       cases h10
     ·have e5:¬ u=[103,101,110]:=by simpa using h9
      refine a7 (a6 ?_)
      refine cY K8 ?_; refine cY c7 ?_; refine a8 ?_
      refine b9 tt rfl (fun h11=>?_) (fun h11=>?_)
      ·have e:u=[105,102]:=by simpa using h11
       refine c8 ?_
       refine b9 tt rfl (fun h12=>?_) (fun h12=>?_)
       ·skip
        refine a7 (a6 ?_)
        refine cY j1 ?_
        refine a8 (c9 ?_)
        exact ⟨_,l9 rfl tt c6,_,_,rfl,rfl,m5 (show true=M6 u by rw [e]; decide)⟩
       ·exfalso
        rw [h11] at h12
        cases h12
      ·have e6:¬ u=[105,102]:=by simpa using h11
       refine a7 (a6 ?_)
       refine cY K8 ?_; refine cY c7 ?_; refine a8 ?_
       refine b9 tt rfl (fun h13=>?_) (fun h13=>?_)
       ·have e:u=[116,104,101,110]:=by simpa using h13
        refine c8 ?_
        refine b9 tt rfl (fun h14=>?_) (fun h14=>?_)
        ·skip
         refine a7 (a6 ?_)
         refine cY j1 ?_
         refine a8 (c9 ?_)
         exact ⟨_,l9 rfl tt c6,_,_,rfl,rfl,m5 (show true=M6 u by rw [e]; decide)⟩
        ·exfalso
         rw [h13] at h14
         cases h14
       ·have e7:¬ u=[116,104,101,110]:=by simpa using h13
        refine a7 (a6 ?_)
        refine cY K8 ?_; refine cY c7 ?_; refine a8 ?_
        refine b9 tt rfl (fun h15=>?_) (fun h15=>?_)
        ·have e:u=[101,108,115,101]:=by simpa using h15
         refine c8 ?_
         refine b9 tt rfl (fun h16=>?_) (fun h16=>?_)
         ·skip
          refine a7 (a6 ?_)
          refine cY j1 ?_
          refine a8 (c9 ?_)
          exact ⟨_,l9 rfl tt c6,_,_,rfl,rfl,m5 (show true=M6 u by rw [e]; decide)⟩
         ·exfalso
          rw [h15] at h16
          cases h16
        ·have e8:¬ u=[101,108,115,101]:=by simpa using h15
         refine a7 (a6 ?_)
         refine cY K8 ?_; refine cY c7 ?_; refine a8 ?_
         refine b9 tt rfl (fun h17=>?_) (fun h17=>?_)
         ·have e:u=[114,101,97,100]:=by simpa using h17
          refine c8 ?_
          refine b9 tt rfl (fun h18=>?_) (fun h18=>?_)
          ·skip
           refine a7 (a6 ?_)
           refine cY j1 ?_
           refine a8 (c9 ?_)
           exact ⟨_,l9 rfl tt c6,_,_,rfl,rfl,m5 (show true=M6 u by rw [e]; decide)⟩
          ·exfalso
           rw [h17] at h18
           cases h18
         ·have e9:¬ u=[114,101,97,100]:=by simpa using h17
          refine a7 (a6 ?_)
          refine cY K8 ?_; refine cY c7 ?_; refine a8 ?_
          refine b9 tt rfl (fun h19=>?_) (fun h19=>?_)
          ·have e:u=[115,105,122,101]:=by simpa using h19
           refine c8 ?_
           refine b9 tt rfl (fun h20=>?_) (fun h20=>?_)
           ·skip
            refine a7 (a6 ?_)
            refine cY j1 ?_
            refine a8 (c9 ?_)
            exact ⟨_,l9 rfl tt c6,_,_,rfl,rfl,m5 (show true=M6 u by rw [e]; decide)⟩
           ·exfalso
            rw [h19] at h20
            cases h20
          ·have e10:¬ u=[115,105,122,101]:=by simpa using h19
           refine a7 (a6 ?_)
           refine cY K8 ?_; refine cY c7 ?_; refine a8 ?_
           refine b9 tt rfl (fun h21=>?_) (fun h21=>?_)
           ·have e:u=[104,97,115]:=by simpa using h21
            refine c8 ?_
            refine b9 tt rfl (fun h22=>?_) (fun h22=>?_)
            ·skip
             refine a7 (a6 ?_)
             refine cY j1 ?_
             refine a8 (c9 ?_)
             exact ⟨_,l9 rfl tt c6,_,_,rfl,rfl,m5 (show true=M6 u by rw [e]; decide)⟩
            ·exfalso
             rw [h21] at h22
             cases h22
           ·have e11:¬ u=[104,97,115]:=by simpa using h21
            refine a7 (a6 ?_)
            refine cY K8 ?_; refine cY c7 ?_; refine a8 ?_
            refine b9 tt rfl (fun h23=>?_) (fun h23=>?_)
            ·have e:u=[101,110,118]:=by simpa using h23
             refine c8 ?_
             refine b9 tt rfl (fun h24=>?_) (fun h24=>?_)
             ·skip
              refine a7 (a6 ?_)
              refine cY j1 ?_
              refine a8 (c9 ?_)
              exact ⟨_,l9 rfl tt c6,_,_,rfl,rfl,m5 (show true=M6 u by rw [e]; decide)⟩
             ·exfalso
              rw [h23] at h24
              cases h24
            ·have e12:¬ u=[101,110,118]:=by simpa using h23
             refine a6 ?_; refine cY K8 ?_; refine cY c7 ?_; refine a8 ?_
             refine b9 tt rfl (fun h25=>?_) (fun h25=>?_)
             ·have e:u=[102,108,105,112]:=by simpa using h25
              refine a7 (a6 ?_)
              refine cY j1 ?_
              refine a8 (c9 ?_)
              exact ⟨_,l9 rfl tt c6,_,_,rfl,rfl,m5 (show true=M6 u by rw [e]; decide)⟩
             ·have e13:¬ u=[102,108,105,112]:=by simpa using h25
              refine c8 (a7 (a6 ?_))
              refine cY j1 ?_
              refine a8 (c9 ?_)
              exact ⟨_,l9 rfl tt c6,_,_,rfl,rfl,m5 (show false=M6 u by simp [M6,e1,e2,e3,e4,e5,e6,e7,e8,e9,e10,e11,e12,e13])⟩
theorem a0l (u:Str) (σ:List c5):c4 CC 226 [(sv (u))] σ fun r σ'=>r = .ret (.val (.bool (M6 u)))∧σ'=σ :=
 c4.anyw hCC (by repeat' (first|exact .val _|exact d8 _ _|exact d6 _ _|exact tt | refine d7 ?_ | refine d9 ?_ | refine ⟨?_,?_⟩)) (by repeat' (first|exact .val _|exact d8 _ _|exact d6 _ _|exact tt | refine d7 ?_ | refine d9 ?_ | refine ⟨?_,?_⟩)) (a9B u) σ
def ixS:List Str→Str→Nat→Int
 | [],_,_=>-1
 | y::l,x,i=>if y=x then i else ixS l x (i+1)
theorem b4n {l:List Str} {i:Nat} {y:Str} (h:l[i]? = some y) (x:Str):ixS (l.drop i) x i=if y=x then (i:Int) else ixS (l.drop (i+1)) x (i+1):=by
 obtain ⟨hlt,rfl⟩:=List.getElem?_eq_some_iff.1 h
 rw [List.drop_eq_getElem_cons hlt]
 rfl
theorem a3E (x:Str):∀ (l:List Str) (i:Nat),(x∉l∧ixS l x i = -1)∨(x∈l∧(i:Int)≤ixS l x i∧ixS l x i < i+l.length)
 | [],_=>.inl ⟨by simp,rfl⟩
 | y::l,i=>by
  rw [ixS]
  by_cases h:y=x
  ·rw [if_pos h]
   exact .inr ⟨by simp [h],by omega,by simp; omega⟩
  ·rw [if_neg h]
   rcases a3E x l (i+1) with ⟨h1,h2⟩ | ⟨h1,h2,h3⟩
   ·exact .inl ⟨by simp [h1,Ne.symm h],h2⟩
   ·exact .inr ⟨by simp [h1],by omega,by simp; omega⟩
theorem b6d {l:List Str} {x:Str}:0≤ixS l x 0↔x∈l:=by
 rcases a3E x l 0 with ⟨h1,h2⟩ | ⟨h1,h2,_⟩
 ·rw [h2]; simp [h1]
 ·simp [h1]; omega
set_option maxRecDepth 10000 in
theorem b29 (l:List Str) (nn:Bool) (x:Str) (hl:l.length≤1000000000):c4 CC 200 [(.list (l.map scv) nn none),(sv (x))] [] fun r σ'=>r = .ret (.val (.int .i64 (ixS l x 0)))∧σ'=[]:=by
 refine j8 (d5 Tryz.func200 rfl rfl ?_)
 refine a7 (a6 ?_)
 refine cY j1 ?_
 refine a8 (a7 (a7 (a6 ?_)))
 refine cY b7 ?_; refine cY R1 ?_; refine cY A7 ?_
 refine a8 (d4 ?_)
 refine p9 hCC (α:=Nat) (fun i=>[(0,(.list (l.map scv) nn none)),(1,(sv (x))),(7,(.val (.int .i64 ((l.length:Int))))),(8,(.val (.int .i64 ((i:Int)))))]) (fun _=>[]) (fun i=>i≤l.length∧ixS l x 0=ixS (l.drop i) x i) (fun i=>l.length - i) 0 ⟨Nat.zero_le _,rfl⟩ ⟨⟨tt,rfl⟩,⟨tt,rfl⟩,⟨tt,rfl⟩,⟨tt,rfl⟩,tt⟩ (extra0:=[]) rfl A5 (fun a ha=>by repeat' (first|exact tt|exact .val _|exact .ptr (nb rfl)|exact .map (nb rfl)|exact k8 _ _ _ | refine l2 ?_ | refine ⟨?_,?_⟩)) ?_; intro i ⟨hi,hr⟩
 refine a7 (a6 ?_)
 refine cY r9 ?_
 refine a8 (a7 ?_)
 refine b9 tt rfl (fun h1=>?_) (fun h1=>?_)
 ·have hlt:(i:Int) < l.length:=by simpa using h1
  obtain ⟨y,hb⟩:∃ y,l[i]? = some y:=⟨l[i]'b8,by simp⟩
  rw [b4n hb] at hr
  refine c8 (a7 (d4 (a7 (a6 ?_))))
  refine cY b7 ?_; refine cY c7 ?_
  refine a8 (a7 (a6 ?_))
  refine cY b7 ?_; refine cY b7 ?_; refine cY b7 ?_; refine cY a7E ?_; refine cY M7 ?_; refine cY a3e ?_; refine a8 ?_
  refine b9 tt rfl (fun h2=>?_) (fun h2=>?_)
  ·have hx:y=x:=(show x=y by simpa using h2).symm
   rw [if_pos hx] at hr
   refine a7 (a6 ?_)
   refine cY b7 ?_; refine cY c7 ?_
   refine a8 (c9 ?_)
   exact ⟨_,l9 rfl tt c6,_,_,rfl,rfl,x9 hr.symm⟩
  ·have hx:¬ y=x:=fun e=>by subst e; simp at h2
   rw [if_neg hx] at hr
   refine c8 (a6 ?_)
   refine cY m9 ?_; refine cY b7 ?_; refine a8 ?_
   exact ⟨(i+1),_,⟨by omega,by omega,hr⟩,⟨⟨tt,rfl⟩,⟨tt,rfl⟩,⟨tt,rfl⟩,⟨tt,rfl⟩,tt⟩,rfl⟩
 ·have hge:i=l.length:=by
   have:¬ (i:Int) < l.length:=by simpa using h1
   omega
  refine m4 (a7 (a6 ?_))
  refine cY j1 ?_
  refine a8 (c9 ?_)
  exact ⟨_,l9 rfl tt c6,_,_,rfl,rfl,x9 (by rw [hr,hge,List.drop_length]; rfl)⟩
theorem a35 (l:List Str) (nn:Bool) (x:Str) (hl:l.length≤1000000000) (σ:List c5):c4 CC 200 [(.list (l.map scv) nn none),(sv (x))] σ fun r σ'=>r = .ret (.val (.int .i64 (ixS l x 0)))∧σ'=σ :=
 c4.anyw hCC (by repeat' (first|exact .val _|exact d8 _ _|exact d6 _ _|exact tt | refine d7 ?_ | refine d9 ?_ | refine ⟨?_,?_⟩)) (by repeat' (first|exact .val _|exact d8 _ _|exact d6 _ _|exact tt | refine d7 ?_ | refine d9 ?_ | refine ⟨?_,?_⟩)) (b29 l nn x hl) σ
set_option maxRecDepth 10000 in
theorem a22 (l:List Str) (nn:Bool) (x:Str) (hl:l.length≤1000000000):c4 CC 149 [(.list (l.map scv) nn none),(sv (x))] [] fun r σ'=>r = .ret (.val (.bool (decide (x∈l))))∧σ'=[]:=by
 refine j8 (d5 Tryz.func149 rfl rfl ?_)
 refine a7 (a6 ?_)
 refine cY j1 ?_
 refine a8 (a7 (a6 ?_))
 refine cY b7 ?_; refine cY b7 ?_; refine cY (i8 rfl Tryz.call200 ⟨tt,tt,tt⟩ (a35 l nn x hl _) rfl) ?_; refine cY j9 ?_; refine cY c7 ?_
 refine a8 (c9 ?_)
 exact ⟨_,l9 rfl tt c6,_,_,rfl,rfl,m5 (decide_eq_decide.2 b6d)⟩
theorem Q7 (l:List Str) (nn:Bool) (x:Str) (hl:l.length≤1000000000) (σ:List c5):c4 CC 149 [(.list (l.map scv) nn none),(sv (x))] σ fun r σ'=>r = .ret (.val (.bool (decide (x∈l))))∧σ'=σ :=
 c4.anyw hCC (by repeat' (first|exact .val _|exact d8 _ _|exact d6 _ _|exact tt | refine d7 ?_ | refine d9 ?_ | refine ⟨?_,?_⟩)) (by repeat' (first|exact .val _|exact d8 _ _|exact d6 _ _|exact tt | refine d7 ?_ | refine d9 ?_ | refine ⟨?_,?_⟩)) (a22 l nn x hl) σ
theorem a1u {T:List Tok} {n n1:Nat} {k:Int} {t:Tok} (h:P9 T n k=some (t,n1)):t=tk T n:=by
 unfold P9 at h
 split at h
 ·injection h with h; injection h with h _; exact h.symm
 ·cases h
def b7V (T:List Tok):Prop:=∀ n,(tk T n).t.length≤1000000
def U2 (T:List Tok) (n:Nat):Option (Tok × Nat):=(P9 T n 1).bind fun x=>if M6 x.1.t=true then none else some x
def X6 (T:List Tok) (n:Nat):Option (Tok × Nat):=(P9 T n 3).bind fun x=>if J6 x.1.t=true then some x else none
set_option maxRecDepth 10000 in
theorem b5D (T:List Tok) (n:Nat) (ps:List Str) (b:List Ex) (hT:T.length≤1000000) (hn:n < T.length) (hW:a2A T):c4 CC 187 [.ptr 0 0] (pst T n ps b) (a09 (fun a:Tok × Nat=>.agg a.1.cells) (fun a=>pst T a.2 ps b) (fun a=>U2 T n=some a∧a.2 < T.length) (U2 T n=none)):=by
 refine (d5 Tryz.func187 rfl rfl ?_)
 refine a7 (a6 ?_)
 refine cD (l5 rfl Tryz.zeroValue227 rfl j2 ?_)
 refine a8 (a7 (a6 ?_))
 refine cY b7 ?_
 refine cD (m8 rfl Tryz.call225 ⟨tt,rfl,tt⟩ (a2T hT hn hW 1 ⟨rfl,rfl,by decide⟩) rfl (fun x hx=>.inr ⟨x,l4,by rw [U2,hx.1]; rfl,hx.2⟩) ?_)
 rintro ⟨t,n1⟩ ⟨ht,hn1⟩
 have hte:=a1u ht
 subst hte
 dsimp only at ht hn1 ⊢
 refine cD (l5 rfl Tryz.zeroValue227 rfl j2 ?_)
 refine cD (i7 rfl tt tt rfl c6 Tryz.sizeOf227 j2 rfl rfl (nb rfl) ?_)
 refine a8 (a7 (a7 (a6 ?_)))
 refine cY V3 ?_; refine cY s7 ?_; refine cY (i8 rfl Tryz.call226 ⟨tt,tt⟩ (a0l (tk T n).t _) rfl) ?_; refine a8 ?_
 refine b9 tt rfl (fun h1=>?_) (fun h1=>?_)
 ·have hr:M6 (tk T n).t=true:=by simpa using h1
  refine a6 ?_; refine cY C7 ?_
  exact a0f rfl rfl (F4 rfl Tryz.call190 ⟨tt,rfl,tt⟩ (F2 _ _ _) rfl (fun _ _=>.inr ⟨(_,_),l4,by rw [U2,ht,Option.bind_some,if_pos hr],by simp⟩))
 ·have hr:M6 (tk T n).t=false:=by simpa using h1
  refine c8 (a7 (a6 ?_))
  refine cY C7 ?_
  refine cD (i7 rfl tt tt rfl c6 Tryz.sizeOf227 j2 rfl rfl (nb rfl) ?_)
  refine a8 (c9 ?_)
  exact ⟨_,B5 rfl ⟨tt,_,_,_,rfl,rfl,.inr ⟨_,Tryz.isAgg227,Tryz.sizeOf227,nb rfl,rfl⟩⟩,(by exact .inl ⟨(tk T n,n1),S5 rfl (a3b _ _),by rw [U2,ht,Option.bind_some,if_neg (by rw [hr]; decide)],hn1⟩)⟩
theorem a4N {T:List Tok} {n:Nat} {ps:List Str} {b:List Ex} (hT:T.length≤1000000) (hn:n < T.length) (hW:a2A T) {σ:List c5} {q s:Nat} (hσ:PAt σ q s T n ps b):c4 CC 187 [.ptr q 0] σ (a1j (fun a:Tok × Nat=>.agg a.1.cells) (fun a=>σ.set q (pbx T a.2 ps b s)) (fun a=>U2 T n=some a∧a.2 < T.length) σ q s (U2 T n=none)) :=
 S6 (c:=fun a:Tok × Nat=>.agg a.1.cells) (N:=fun a=>a.2) (fun _ h=>by cases h) (fun _=>U0 _) (b5D T n ps b hT hn hW) hσ
set_option maxRecDepth 10000 in
theorem b4H (T:List Tok) (n:Nat) (ps:List Str) (b:List Ex) (hT:T.length≤1000000) (hn:n < T.length) (hW:a2A T) (hL:b7V T):c4 CC 227 [.ptr 0 0] (pst T n ps b) (a09 (fun a:Tok × Nat=>.agg a.1.cells) (fun a=>pst T a.2 ps b) (fun a=>X6 T n=some a∧a.2 < T.length) (X6 T n=none)):=by
 refine (d5 Tryz.func227 rfl rfl ?_)
 refine a7 (a6 ?_)
 refine cD (l5 rfl Tryz.zeroValue227 rfl j2 ?_)
 refine a8 (a7 (a6 ?_))
 refine cY b7 ?_
 refine cD (m8 rfl Tryz.call225 ⟨tt,rfl,tt⟩ (a2T hT hn hW 3 ⟨rfl,rfl,by decide⟩) rfl (fun x hx=>.inr ⟨x,l4,by rw [X6,hx.1]; rfl,hx.2⟩) ?_)
 rintro ⟨t,n1⟩ ⟨ht,hn1⟩
 have hte:=a1u ht
 subst hte
 dsimp only at ht hn1 ⊢
 refine cD (l5 rfl Tryz.zeroValue227 rfl j2 ?_)
 refine cD (i7 rfl tt tt rfl c6 Tryz.sizeOf227 j2 rfl rfl (nb rfl) ?_)
 refine a8 (a7 (a7 (a6 ?_)))
 refine cY V3 ?_; refine cY s7 ?_; refine cY (i8 rfl Tryz.call66 ⟨tt,tt⟩ (S3 (tk T n).t (by have:=hL n; omega) _) rfl) ?_; refine cY F6 ?_; refine a8 ?_
 refine b9 tt rfl (fun h1=>?_) (fun h1=>?_)
 ·have hr:J6 (tk T n).t=false:=by simpa using h1
  refine a6 ?_; refine cY C7 ?_
  exact a0f rfl rfl (F4 rfl Tryz.call190 ⟨tt,rfl,tt⟩ (F2 _ _ _) rfl (fun _ _=>.inr ⟨(_,_),l4,by rw [X6,ht,Option.bind_some,if_neg (by rw [hr]; decide)],by simp⟩))
 ·have hr:J6 (tk T n).t=true:=by simpa using h1
  refine c8 (a7 (a6 ?_))
  refine cY C7 ?_
  refine cD (i7 rfl tt tt rfl c6 Tryz.sizeOf227 j2 rfl rfl (nb rfl) ?_)
  refine a8 (c9 ?_)
  exact ⟨_,B5 rfl ⟨tt,_,_,_,rfl,rfl,.inr ⟨_,Tryz.isAgg227,Tryz.sizeOf227,nb rfl,rfl⟩⟩,(by exact .inl ⟨(tk T n,n1),S5 rfl (a3b _ _),by rw [X6,ht,Option.bind_some,if_pos hr],hn1⟩)⟩
theorem a4F {T:List Tok} {n:Nat} {ps:List Str} {b:List Ex} (hT:T.length≤1000000) (hn:n < T.length) (hW:a2A T) (hL:b7V T) {σ:List c5} {q s:Nat} (hσ:PAt σ q s T n ps b):c4 CC 227 [.ptr q 0] σ (a1j (fun a:Tok × Nat=>.agg a.1.cells) (fun a=>σ.set q (pbx T a.2 ps b s)) (fun a=>X6 T n=some a∧a.2 < T.length) σ q s (X6 T n=none)) :=
 S6 (c:=fun a:Tok × Nat=>.agg a.1.cells) (N:=fun a=>a.2) (fun _ h=>by cases h) (fun _=>U0 _) (b4H T n ps b hT hn hW hL) hσ
def Z5 (b:List Ex) (x:Ex):Option (Nat × List Ex):=if b.length=256 then none else some (b.length,b++[x])
set_option maxRecDepth 10000 in
theorem b5i (T:List Tok) (n:Nat) (ps:List Str) (b:List Ex) (hT:T.length≤1000000) (hn:n < T.length) (hb:b.length≤256) (t:Tok) (x:Ex):c4 CC 265 [.ptr 0 0,.agg t.cells,.agg x.cells] (pst T n ps b) (a09 (fun a:Nat × List Ex=>(.val (.int .i64 ((a.1:Int))))) (fun a=>a2w T n ps a.2) (fun a=>Z5 b x=some a∧a.2.length≤256) (Z5 b x=none)):=by
 refine (d5 Tryz.func265 rfl rfl ?_)
 refine a7 (a6 ?_)
 refine cD (A4 rfl tt c6 j2 ?_)
 refine cD (A4 rfl tt c6 j2 ?_)
 refine cY j1 ?_
 refine a8 (a7 (a7 (a6 ?_)))
 refine cY b7 ?_; refine cY o6 ?_; refine cY a7c ?_; refine cY a0a ?_; refine cY a9Q ?_; refine cY j9 ?_; refine a8 ?_
 refine b9 tt rfl (fun h1=>?_) (fun h1=>?_)
 ·have h256:b.length=256:=by simp at h1; omega
  refine a6 ?_; refine cY C7 ?_
  exact a0f rfl rfl (F4 rfl Tryz.call190 ⟨tt,rfl,tt⟩ (F2 _ _ _) rfl (fun _ _=>.inr ⟨(_,_),l4,by rw [Z5,if_pos h256],by simp⟩))
 ·have h256:¬ b.length=256:=by simp at h1; omega
  have hl1:(b++[x]).length=b.length+1:=by simp
  refine c8 (a7 ?_)
  refine v8 [0,1,2,3,4,5,6,7,8,9,10] 7 [0,0,2,6,14,0,32,126,255,511,1023] [[0],[],[],[]] (hd1l:=[0,1,2,3,4,5,6]) (tll:=[(7,[0]),(8,[]),(9,[]),(10,[])]) j6 j6 rfl rfl rfl ?_; refine chf rfl x8 ?_; refine chf rfl x8 ?_; refine chf rfl a0G ?_; refine chf rfl (k7 rfl a7c) ?_; refine chf rfl (k7 rfl a0a) ?_; refine chf rfl (k7 rfl a2m) ?_; refine chf rfl (k7 rfl (y9 [Ex.cv x] rfl ⟨tt,tt⟩ Tryz.runUnderlying115 Tryz.sizeOf208 Tryz.zeroValue208 rfl rfl rfl rfl rfl rfl rfl rfl rfl)) ?_; refine y0 ?_
  refine u0 rfl rfl (H3 rfl tt tt rfl l7 q_3 Tryz.runUnderlying115 Tryz.sizeOf208 Tryz.typeInfo208 Tryz.zeroValue208 rfl (.inr rfl) Y9 (by have hb:Tryz.t208.bytes=64:=rfl; rw [hb]; first|omega|(simp; done)|(simp; omega)) K0 ((b++[x]).map Ex.cv) (b++[x]).length l7 l7 ?_)
  refine ⟨⟨A0,tt⟩,?_⟩
  refine w6 rfl a0G ⟨tt,?_⟩
  refine w6 rfl (k7 rfl a7c) ⟨tt,?_⟩
  refine u0 rfl rfl (i7 rfl tt tt rfl c6 Tryz.sizeOf115 (.inl rfl) rfl rfl (nb rfl) ?_)
  refine ⟨tt,?_⟩
  refine A8 (a7 (a6 ?_))
  refine cY b7 ?_; refine cY o6 ?_; refine cY a7c ?_; refine cY a0a ?_; refine cY a9Q ?_; refine cY R7 ?_; refine cY c7 ?_
  refine a8 (c9 ?_)
  exact ⟨_,l9 rfl tt c6,(by rw [show (((b++[x]).length:Int) - 1)=(b.length:Int) by omega]; exact .inl ⟨(b.length,b++[x]),O9 (k:=4) rfl rfl j4 (.val _),by rw [Z5,if_neg h256],by show (b++[x]).length≤256; omega⟩)⟩
theorem Q3 {T:List Tok} {n:Nat} {ps:List Str} {b:List Ex} (hT:T.length≤1000000) (hn:n < T.length) (hb:b.length≤256) (t:Tok) (x:Ex) {σ:List c5} {q s:Nat} (hσ:PAt σ q s T n ps b):c4 CC 265 [.ptr q 0,.agg t.cells,.agg x.cells] σ (a1j (fun a:Nat × List Ex=>(.val (.int .i64 ((a.1:Int))))) (fun a=>(σ.set q (pbx T n ps a.2 σ.length)).set s .dead++[r6 a.2.length]) (fun a=>Z5 b x=some a∧a.2.length≤256) σ q s (Z5 b x=none)) :=
 a0q (c:=fun a:Nat × List Ex=>(.val (.int .i64 ((a.1:Int))))) (N:=fun _=>n) (B:=fun a=>a.2) (fun _ h=>by simp at h; rcases h with rfl | rfl; exact U0 _; exact d7 x.pure) (fun _=>.val _) (b5i T n ps b hT hn hb t x) hσ
theorem b53 {τ rest:List c5} {T:List Tok} {n:Nat} {ps:List Str} {b:List Ex} {c c':CV} (hτ:τ=pbx T n ps b 1::r6 b.length::rest) (hc:B4 2 [0,1] c c'):G8 2 τ (.ret c) (.ret c') (pst T n ps b):=by
 subst hτ
 exact ⟨[0,1],rfl,rfl,.ret hc,.inr ⟨_,rfl,.same rfl (a10 j4)⟩,.inr ⟨_,rfl,.same rfl s8⟩,tt⟩
theorem W4 {α:Type} {f:α→List CV} {L:Nat} {sel:List Nat} {nn:Bool} {tok:Option Nat} (h:∀ a,L5 (f a)) (l:List α):B4 L sel (.list (l.map f) nn tok) (.list (l.map f) nn none) :=
 .list (fun r hr c hc=>(D6 (f:=f) (fun a=>(h a).all) _ r hr c hc).old) (fun j hj=>by cases hj)
def a4r:Nat→List Tok→Nat→List Str→Option (List Str × Nat)
 | 0,_,_,_=>none
 | f+1,T,n,l=>(U2 T n).bind fun x=>if l.length=8 then none else if x.1.t∈l then none else
  if isT (tk T x.2) 4 [44]=true then a4r f T (x.2+1) (l++[x.1.t]) else (pIs T x.2 4 [41]).bind fun m=>some (l++[x.1.t],m)
def N9 (T:List Tok) (n:Nat):Option (List Str × Nat):=(pIs T n 4 [40]).bind fun m=>if isT (tk T m) 4 [41]=true then some ([],m+1) else a4r 9 T m []
theorem a0L {α:Type} (l:List α) (x:α):(l++[x]).length=l.length+1:=by simp
set_option maxRecDepth 10000 in
theorem a5K (T:List Tok) (n:Nat) (ps:List Str) (b:List Ex) (hT:T.length≤1000000) (hn:n < T.length) (hW:a2A T):c4 CC 230 [.ptr 0 0] (pst T n ps b) (a09 (fun a:List Str × Nat=>.list (a.1.map scv) (gnn a.1.length) none) (fun a=>pst T a.2 ps b) (fun a=>N9 T n=some a∧a.2 < T.length∧a.1.length≤8) (N9 T n=none)):=by
 refine (d5 Tryz.func230 rfl rfl ?_)
 refine a7 (a6 ?_)
 refine cY j1 ?_
 refine a8 (a7 (a6 ?_))
 refine cY j1 ?_
 refine a8 (a7 (a6 ?_))
 refine cY b7 ?_
 refine cD (m8 rfl Tryz.call188 ⟨tt,rfl,tt⟩ (I7 hT hn hW [40] ⟨rfl,rfl,by decide⟩) rfl (fun x hx=>.inr ⟨x,l4,by rw [N9,hx.1]; rfl,hx.2⟩) ?_)
 rintro n1 ⟨hs1,hn1⟩
 dsimp only at hs1 hn1 ⊢
 refine a8 (a7 (a7 (a6 ?_)))
 refine cY b7 ?_
 refine cD (j3 rfl Tryz.call263 ⟨tt,rfl,tt⟩ (X0 hT hn1 hW [41] ⟨rfl,rfl,by decide⟩) rfl ?_)
 rintro ⟨ac,n2⟩ ⟨ha,hn2,hn2l⟩
 dsimp only at ha hn2 hn2l ⊢
 refine a8 ?_
 refine b9 tt rfl (fun h1=>?_) (fun h1=>?_)
 ·have hc:isT (tk T n1) 4 [41]=true:=by rw [← ha]; simpa using h1
  rw [if_pos hc] at hn2
  refine a7 (a6 ?_)
  refine cY j1 ?_
  refine a8 (c9 ?_)
  exact ⟨_,l9 rfl tt c6,(by exact .inl ⟨([],n2),S5 rfl (k8 _ [] false),by rw [N9,hs1,Option.bind_some,if_pos hc,hn2],hn2l,by show 0≤8; decide⟩)⟩
 ·have hc:¬ isT (tk T n1) 4 [41]=true:=by rw [← ha]; simpa using h1
  rw [if_neg hc] at hn2
  refine c8 (a7 (d4 ?_))
  refine B2 hCC 2 rfl (α:=List Str × Nat) (fun x=>[(0,.ptr 0 0),(3,(.list (x.1.map scv) (gnn x.1.length) (P3 x.1.length 2)))]) (fun x=>[pbx T x.2 ps b 1,r6 b.length,r6 x.1.length]) (fun x=>x.1.length≤8∧x.2 < T.length∧N9 T n=a4r (9 - x.1.length) T x.2 x.1) (fun x=>9 - x.1.length) ⟨([],n2),[0,1,7],⟨Nat.zero_le _,hn2l,by rw [N9,hs1,Option.bind_some,if_neg hc,hn2]; rfl⟩,⟨rfl,rfl⟩,⟨⟨tt,b5X⟩,⟨tt,b5X⟩,tt⟩,⟨.inr ⟨_,rfl,.same rfl (a10 j4)⟩,.inr ⟨_,rfl,.same rfl s8⟩,.inl rfl,tt⟩⟩ ?_; intro ⟨l,m⟩ ⟨hl,hm,hsp⟩
  dsimp only at hl hm hsp ⊢
  obtain ⟨f,hf⟩:∃ f,9 - l.length=f+1:=⟨8 - l.length,by omega⟩
  rw [hf,a4r] at hsp
  refine d4 (a7 (a6 ?_))
  refine cY b7 ?_
  refine cD (m8 rfl Tryz.call187 ⟨tt,tt⟩ (a4N hT hm hW ⟨rfl,rfl,by decide⟩) rfl (fun x hx=>.inr ⟨x,l4,by rw [hsp,hx.1]; rfl,hx.2⟩) ?_)
  rintro ⟨t,m1⟩ ⟨ht,hm1⟩
  dsimp only at ht hm1 ⊢
  rw [ht,Option.bind_some] at hsp
  dsimp only at hsp
  refine cD (l5 rfl Tryz.zeroValue227 rfl j2 ?_)
  refine cD (i7 rfl tt tt rfl c6 Tryz.sizeOf227 j2 rfl rfl (nb rfl) ?_)
  refine a8 (a7 (a7 (a6 ?_)))
  refine cY b7 ?_; refine cY R1 ?_; refine cY j9 ?_; refine a8 ?_
  refine b9 tt rfl (fun h2=>?_) (fun h2=>?_)
  ·have h8:l.length=8:=by simp at h2; omega
   rw [if_pos h8] at hsp
   refine a6 ?_; refine cY C7 ?_
   exact a0f rfl rfl (F4 rfl Tryz.call190 ⟨tt,rfl,tt⟩ (F2 _ _ _) rfl (fun _ _=>.inr ⟨(_,_),l4,hsp,by simp⟩))
  ·have h8:¬ l.length=8:=by simp at h2; omega
   rw [if_neg h8] at hsp
   refine c8 (a7 (a7 (a6 ?_)))
   refine cY b7 ?_; refine cY V3 ?_; refine cY s7 ?_; refine cY (i8 rfl Tryz.call149 ⟨tt,tt,tt⟩ (Q7 l (gnn l.length) t.t b8 _) rfl) ?_; refine a8 ?_
   refine b9 tt rfl (fun h3=>?_) (fun h3=>?_)
   ·have hi:t.t∈l:=by simpa using h3
    rw [if_pos hi] at hsp
    refine a6 ?_; refine cY C7 ?_
    exact a0f rfl rfl (F4 rfl Tryz.call190 ⟨tt,rfl,tt⟩ (F2 _ _ _) rfl (fun _ _=>.inr ⟨(_,_),l4,hsp,by simp⟩))
   ·have hi:¬ t.t∈l:=by simpa using h3
    rw [if_neg hi] at hsp
    have hls:=a0L l t.t
    refine c8 (a7 (a6 ?_))
    refine cY b7 ?_; refine cY V3 ?_; refine cY s7 ?_; refine cY (y9 [scv t.t] rfl ⟨tt,tt⟩ Tryz.runUnderlying26 Tryz.sizeOf9 Tryz.zeroValue9 rfl rfl rfl rfl rfl rfl rfl rfl rfl) ?_
    refine cD (H3 rfl tt tt rfl l7 q_3 Tryz.runUnderlying26 Tryz.sizeOf9 Tryz.typeInfo9 Tryz.zeroValue9 rfl (.inr rfl) Y9 a6i K0 ((l++[t.t]).map scv) (l++[t.t]).length l7 l7 ?_)
    refine cY c7 ?_
    refine a8 (a7 (a6 ?_))
    refine cY b7 ?_
    refine cD (j3 rfl Tryz.call263 ⟨tt,rfl,tt⟩ (X0 hT hm1 hW [44] ⟨rfl,rfl,by decide⟩) rfl ?_)
    rintro ⟨ac2,m2⟩ ⟨ha2,hm2,hm2l⟩
    dsimp only at ha2 hm2 hm2l ⊢
    refine cY F6 ?_; refine a8 ?_
    refine b9 tt rfl (fun h4=>?_) (fun h4=>?_)
    ·have hc2:¬ isT (tk T m1) 4 [44]=true:=by rw [← ha2]; simpa using h4
     rw [if_neg hc2] at hm2 hsp
     subst hm2
     refine m4 (a7 (a6 ?_))
     refine cY b7 ?_
     refine cD (m8 rfl Tryz.call188 ⟨tt,rfl,tt⟩ (I7 hT hm2l hW [41] ⟨rfl,rfl,by decide⟩) rfl (fun x hx=>.inr ⟨x,l4,by rw [hsp,hx.1]; rfl,hx.2⟩) ?_)
     rintro m3 ⟨hs3,hm3⟩
     dsimp only at hs3 hm3 ⊢
     refine a8 (a7 (a6 ?_))
     refine cY b7 ?_; refine cY c7 ?_
     refine a8 (c9 ?_)
     exact ⟨_,l9 rfl tt c6,(by exact .inl ⟨(l++[t.t],m3),b53 rfl (W4 (f:=scv) (fun _=>⟨.val _,tt⟩) _),by rw [hsp,hs3]; rfl,hm3,by show (l++[t.t]).length≤8; omega⟩)⟩
    ·have hc2:isT (tk T m1) 4 [44]=true:=by rw [← ha2]; simpa using h4
     rw [if_pos hc2] at hm2 hsp
     subst hm2; refine c8 ?_
     exact ⟨(l++[t.t],m1+1),[0,1,4],⟨by dsimp only; omega,by dsimp only; omega,hm2l,by dsimp only; rw [hsp,show 9 - (l++[t.t]).length=f by omega]⟩,⟨rfl,rfl⟩,⟨⟨tt,b5X⟩,⟨tt,b5X⟩,tt⟩,⟨.inr ⟨_,rfl,.same rfl (a10 j4)⟩,.inr ⟨_,rfl,.same rfl s8⟩,.inr ⟨_,rfl,.same rfl s8⟩,tt⟩⟩
theorem a6f {T:List Tok} {n:Nat} {ps:List Str} {b:List Ex} (hT:T.length≤1000000) (hn:n < T.length) (hW:a2A T) {σ:List c5} {q s:Nat} (hσ:PAt σ q s T n ps b):c4 CC 230 [.ptr q 0] σ (a1j (fun a:List Str × Nat=>.list (a.1.map scv) (gnn a.1.length) none) (fun a=>σ.set q (pbx T a.2 ps b s)) (fun a=>N9 T n=some a∧a.2 < T.length∧a.1.length≤8) σ q s (N9 T n=none)) :=
 S6 (c:=fun a:List Str × Nat=>.list (a.1.map scv) (gnn a.1.length) none) (N:=fun a=>a.2) (fun _ h=>by cases h) (fun _=>d6 _ _) (a5K T n ps b hT hn hW) hσ
def G0 (op:Int):Int:=if op=6∨op=7 then 1 else if op=1∨op=2 then 2 else 3
def S0:List (Int × Str):=[(1,[43]),(2,[45]),(3,[42]),(4,[47]),(5,[37]),(6,[60]),(7,[61,61])]
set_option maxRecDepth 10000 in
theorem b0M (op:Int):c4 CC 301 [(.val (.int .i64 (op)))] [] fun r σ'=>r = .ret (.val (.int .i64 (G0 op)))∧σ'=[]:=by
 refine j8 (d5 Tryz.func301 rfl rfl ?_)
 refine a7 (a6 ?_)
 refine cY j1 ?_
 refine a8 (a7 (a7 (a6 ?_)))
 refine cY b7 ?_
 refine a8 (d4 (a7 (a7 (a6 ?_))))
 refine cY j9 ?_; refine cY c7 ?_; refine a8 ?_
 refine b9 tt rfl (fun h1=>?_) (fun h1=>?_)
 ·have e:op=6:=by simpa using h1
  refine c8 ?_
  refine b9 tt rfl (fun h2=>?_) (fun h2=>?_)
  ·skip
   refine a7 (a6 ?_)
   refine cY j1 ?_
   refine a8 (c9 ?_)
   exact ⟨_,l9 rfl tt c6,_,_,rfl,rfl,x9 (show (1:Int)=G0 op by rw [G0,if_pos (.inl e)])⟩
  ·rw [h1] at h2
   cases h2
 ·have e6:¬ op=6:=by simpa using h1
  refine a6 ?_; refine cY j9 ?_; refine cY c7 ?_; refine a8 ?_
  refine b9 tt rfl (fun h6=>?_) (fun h6=>?_)
  ·have e:op=7:=by simpa using h6
   refine a7 (a6 ?_)
   refine cY j1 ?_
   refine a8 (c9 ?_)
   exact ⟨_,l9 rfl tt c6,_,_,rfl,rfl,x9 (show (1:Int)=G0 op by rw [G0,if_pos (.inr e)])⟩
  ·have e7:¬ op=7:=by simpa using h6
   refine a7 (a7 (a6 ?_))
   refine cY j9 ?_; refine cY c7 ?_; refine a8 ?_
   refine b9 tt rfl (fun h7=>?_) (fun h7=>?_)
   ·have e:op=1:=by simpa using h7
    refine c8 ?_
    refine b9 tt rfl (fun h8=>?_) (fun h8=>?_)
    ·skip
     refine a7 (a6 ?_)
     refine cY j1 ?_
     refine a8 (c9 ?_)
     exact ⟨_,l9 rfl tt c6,_,_,rfl,rfl,x9 (show (2:Int)=G0 op by rw [G0,if_neg b8,if_pos (.inl e)])⟩
    ·rw [h7] at h8
     cases h8
   ·have e1:¬ op=1:=by simpa using h7
    refine a6 ?_; refine cY j9 ?_; refine cY c7 ?_; refine a8 ?_
    refine b9 tt rfl (fun h9=>?_) (fun h9=>?_)
    ·have e:op=2:=by simpa using h9
     refine a7 (a6 ?_)
     refine cY j1 ?_
     refine a8 (c9 ?_)
     exact ⟨_,l9 rfl tt c6,_,_,rfl,rfl,x9 (show (2:Int)=G0 op by rw [G0,if_neg b8,if_pos (.inr e)])⟩
    ·have e2:¬ op=2:=by simpa using h9
     refine c8 (a7 (a6 ?_))
     refine cY j1 ?_
     refine a8 (c9 ?_)
     exact ⟨_,l9 rfl tt c6,_,_,rfl,rfl,x9 (show (3:Int)=G0 op by rw [G0,if_neg b8,if_neg b8])⟩
theorem a3v (op:Int) (σ:List c5):c4 CC 301 [(.val (.int .i64 (op)))] σ fun r σ'=>r = .ret (.val (.int .i64 (G0 op)))∧σ'=σ :=
 c4.anyw hCC (by repeat' (first|exact .val _|exact d8 _ _|exact d6 _ _|exact tt | refine d7 ?_ | refine d9 ?_ | refine ⟨?_,?_⟩)) (by repeat' (first|exact .val _|exact d8 _ _|exact d6 _ _|exact tt | refine d7 ?_ | refine d9 ?_ | refine ⟨?_,?_⟩)) (b0M op) σ
theorem b64 (m:List (Int × Str)):a07 (.map (gm kv sv m)):=fun x hx=>by
 obtain ⟨y,_,rfl⟩:=List.mem_map.1 hx
 exact ⟨.val _,.val _⟩
set_option maxRecDepth 10000 in
theorem b3h:c4 CC 292 [] [] fun r τ=>∃ _:Unit,a1V [c5.map (gm kv sv S0)].length τ r (.ret (.map 0))∧a6m [c5.map (gm kv sv S0)].length τ τ [c5.map (gm kv sv S0)]∧([]:List c5).length≤[c5.map (gm kv sv S0)].length∧True:=by
 refine (d5 Tryz.func292 rfl rfl ?_)
 refine a7 (a6 ?_)
 refine cY j1 ?_
 refine a8 (a7 (a6 ?_))
 refine cD (P5 rfl ?_)
 refine cD (m0 (vc:=sv) (l:=S0.take 0) R5 (.inr rfl) tt rfl rfl rfl rfl rfl Tryz.runUnderlying193 rfl ?_)
 refine cD (m0 (vc:=sv) (l:=S0.take 1) R5 (.inr rfl) tt rfl rfl rfl rfl rfl Tryz.runUnderlying193 rfl ?_)
 refine cD (m0 (vc:=sv) (l:=S0.take 2) R5 (.inr rfl) tt rfl rfl rfl rfl rfl Tryz.runUnderlying193 rfl ?_)
 refine cD (m0 (vc:=sv) (l:=S0.take 3) R5 (.inr rfl) tt rfl rfl rfl rfl rfl Tryz.runUnderlying193 rfl ?_)
 refine cD (m0 (vc:=sv) (l:=S0.take 4) R5 (.inr rfl) tt rfl rfl rfl rfl rfl Tryz.runUnderlying193 rfl ?_)
 refine cD (m0 (vc:=sv) (l:=S0.take 5) R5 (.inr rfl) tt rfl rfl rfl rfl rfl Tryz.runUnderlying193 rfl ?_)
 refine cD (m0 (vc:=sv) (l:=S0.take 6) R5 (.inr rfl) tt rfl rfl rfl rfl rfl Tryz.runUnderlying193 rfl ?_)
 refine cY b7 ?_; refine cY c7 ?_
 refine a8 (c9 ?_)
 exact ⟨_,l9 rfl tt c6,(by exact ⟨(),.ret (.old (.map (Nat.zero_lt_one))),⟨.same (b64 _).old,tt⟩,Nat.zero_le _,tt⟩)⟩
theorem a47 (σ:List c5):c4 CC 292 [] σ fun r τ=>∃ _:Unit,r = .ret (.map σ.length)∧τ=σ++[.map (gm kv sv S0)]∧True :=
 T4 (α:=Unit) (obs:=[]) (args:=[]) (res:=fun _=>.ret (.map 0)) (res':=fun _=>.ret (.map σ.length)) (S:=fun _=>[]) (N:=fun _=>[.map (gm kv sv S0)]) (P:=fun _=>True) [] hCC rfl (fun i j k h=>by simp at h) (fun i k h=>by simp at h) (fun ob h=>by cases h) ⟨rfl,fun i c c' h=>by simp at h⟩
  (T9 (res:=fun _=>.ret (.map 0)) (S:=fun _=>[.map (gm kv sv S0)]) (P:=fun _=>True) hCC b3h) (fun m _=>⟨rfl,fun ob h=>by simp at h; subst h; exact b64 _⟩) (fun m _=>.ret (.map (.inr ⟨Nat.zero_le _,rfl⟩)))
def opM (t:Tok) (lv:Int) (x:Int × Str):Bool:=(t.k == 4) && decide (t.t=x.2) && (G0 x.1 == lv)
def opS (t:Tok) (lv:Int):Int:=((S0.find? (opM t lv)).map (·.1)).getD 0
theorem b7o:∀ x∈S0,∀ y∈S0,x.2=y.2→x=y:=by decide
theorem b7x {t:Tok} {lv:Int} {x:Int × Str} (hx:x∈S0) (h:opM t lv x=true):opS t lv=x.1:=by
 unfold opS
 cases hf:S0.find? (opM t lv) with
 | none=>exact absurd h (by simpa using List.find?_eq_none.1 hf x hx)
 | some y =>
  have h1:=List.find?_some hf
  have h2:=List.mem_of_find?_eq_some hf
  simp [opM] at h h1
  have:=b7o x hx y h2 (by rw [← h.1.2,← h1.1.2])
  rw [this]; rfl
theorem b3U {t:Tok} {lv:Int} (h:∀ x∈S0,opM t lv x=false):opS t lv=0:=by
 unfold opS
 have:S0.find? (opM t lv)=none:=List.find?_eq_none.2 fun x hx=>by simp [h x hx]
 rw [this]; rfl
theorem a7t {α:Type} {l:List α} {i:Nat} {x y:α} (hy:l[i]? = some y) (h:x∈l):x=y∨x∈l.eraseIdx i:=by
 obtain ⟨j,hj⟩:=List.mem_iff_getElem?.1 h
 by_cases hji:j=i
 ·subst hji; rw [hy] at hj; injection hj with hj; exact .inl hj.symm
 ·exact .inr (List.mem_eraseIdx_iff_getElem?.2 ⟨j,hji,hj⟩)
set_option maxRecDepth 10000 in
theorem a7I (T:List Tok) (n:Nat) (ps:List Str) (b:List Ex) (hT:T.length≤1000000) (hn:n < T.length) (lv:Int):c4 CC 287 [.ptr 0 0,(.val (.int .i64 (lv)))] (pst T n ps b) (fun r τ=>G8 2 τ r (.ret (.val (.int .i64 (opS (tk T n) lv)))) (pst T n ps b)):=by
 refine (d5 Tryz.func287 rfl rfl ?_)
 refine a7 (a6 ?_)
 refine cY j1 ?_
 refine a8 (a7 (a6 ?_))
 refine cY b7 ?_; refine cY a9l ?_
 refine cD (l5 rfl Tryz.zeroValue227 rfl j2 ?_)
 refine cD (i7 rfl tt tt rfl c6 Tryz.sizeOf227 j2 rfl rfl (nb rfl) ?_)
 refine a8 (a7 (a7 (a6 ?_)))
 refine cD (j3 rfl Tryz.call292 trivial (a47 _) rfl ?_)
 intro _ _
 refine cD (b1E rfl tt rfl Tryz.runUnderlying193 rfl ?_)
 refine a8 (d4 ?_)
 refine p9 hCC (α:=List (Int × Str) × List (Int × Str)) (fun x=>[(1,(.val (.int .i64 (lv)))),(5,.ptr 2 0),(11,.ptr 4 0)]) (fun x=>[pbx T n ps b 1,r6 b.length,.box (tk T n).cells,.dead,.iter (gm kv sv x.1) (gm kv sv x.2)]) (fun x=>(∀ y∈x.2,y∈S0)∧∀ y∈S0,y∉x.2→opM (tk T n) lv y=false) (fun x=>x.2.length) ([],S0) ⟨fun y h=>h,fun y h h2=>absurd h h2⟩ ⟨⟨tt,rfl⟩,⟨tt,rfl⟩,⟨tt,rfl⟩,tt⟩ (extra0:=[]) rfl A5 (fun a ha=>by repeat' (first|exact tt|exact .val _|exact .ptr (nb rfl)|exact .map (nb rfl)|exact (by first|exact a10 (nb rfl)|exact a27 _ _|exact b3H _ _ _|exact l2 (show a7w _ _ from ⟨.val _,.val _,.val _,.val _,tt⟩)) | refine l2 ?_ | refine ⟨?_,?_⟩)) ?_; intro ⟨cur,left⟩ ⟨hls,hno⟩
 dsimp only at hls hno ⊢
 refine a7 (a6 ?_)
 refine cD (b5a rfl tt rfl rfl (fun hz=>?_) (fun i x hx=>?_))
 ·
  have hl0:left=[]:=by
   cases left with
   | nil=>rfl
   | cons y l=>cases hz
  subst hl0; refine cY v7 ?_
  refine a8 (a7 ?_)
  refine b9 tt rfl (fun h1=>?_) (fun h1=>?_)
  ·cases h1
  ·have hz0:=b3U (fun y hy=>hno y hy l7)
   refine m4 (a7 (a6 ?_))
   refine cY j1 ?_
   refine a8 (c9 ?_)
   exact ⟨_,l9 rfl tt c6,(by rw [hz0]; exact S5 rfl (.val _))⟩
 ·
  obtain ⟨⟨k,s⟩,hy,rfl⟩:=b3X hx
  rw [a8J]
  have hks:=hls _ (List.mem_of_getElem? hy)
  refine cY v7 ?_
  refine a8 (a7 ?_)
  refine b9 tt rfl (fun h3=>?_) (fun h3=>?_)
  ·skip
   refine c8 (d4 (a7 (a6 ?_)))
   refine cY (b1Y rfl tt rfl rfl) ?_; refine cY v7 ?_; refine cY v7 ?_; refine cY c7 ?_; refine cY c7 ?_
   refine a8 (a7 (a6 ?_))
   refine cY a1Z ?_; refine cY z8 ?_; refine cY j9 ?_; refine cY b7 ?_; refine cG b6E ?_; refine cG U7 ?_; refine cG o5 ?_; refine cG a3x ?_; refine cY t8 ?_; refine cY b7 ?_; refine cG o5 ?_; refine cG (fun hg=>i8 rfl Tryz.call301 ⟨hg,tt⟩ (a3v k _) rfl) ?_; refine cG o5 ?_; refine cG a4Q ?_; refine cY t8 ?_; refine a8 ?_
   refine b9 tt rfl (fun h4=>?_) (fun h4=>?_)
   ·have hm:opM (tk T n) lv (k,s)=true:=h4
    have hz1:=b7x hks hm
    refine a7 (a6 ?_)
    refine cY b7 ?_; refine cY c7 ?_
    refine a8 (c9 ?_)
    exact ⟨_,l9 rfl tt c6,(by rw [hz1]; exact S5 rfl (.val _))⟩
   ·have hm:opM (tk T n) lv (k,s)=false:=h4
    refine c8 ?_
    exact ⟨([(k,s)],left.eraseIdx i),_,⟨by dsimp only; rw [List.length_eraseIdx_of_lt (List.getElem?_eq_some_iff.1 hy).1]; have:=(List.getElem?_eq_some_iff.1 hy).1; omega,fun y hy'=>hls y (List.mem_of_mem_eraseIdx hy'),fun y hy1 hy2=>by
 by_cases hyl:y∈left
 ·rcases a7t hy hyl with rfl | h
  ·exact hm
  ·exact absurd h hy2
 ·exact hno y hy1 hyl⟩,⟨⟨tt,rfl⟩,⟨tt,rfl⟩,⟨tt,rfl⟩,tt⟩,rfl⟩
  ·cases h3
theorem a9c {T:List Tok} {n:Nat} {ps:List Str} {b:List Ex} (hT:T.length≤1000000) (hn:n < T.length) (lv:Int) {σ:List c5} {q s:Nat} (hσ:PAt σ q s T n ps b):c4 CC 287 [.ptr q 0,(.val (.int .i64 (lv)))] σ fun r τ=>r = .ret (.val (.int .i64 (opS (tk T n) lv)))∧τ=σ:=b0Z (fun _ h=>by simp at h; subst h; exact .val _) (.val _) (a7I T n ps b hT hn lv) hσ
abbrev PX:=Nat × Nat × List Ex
structure PF where
 ex:Nat→Nat→List Ex→Option PX
 bin:Nat→Nat→Nat→List Ex→Option PX
 lp:Nat→Nat→Nat→Nat→List Ex→Option PX
 fac:Nat→Nat→List Ex→Option PX
 ag:Nat→Nat→List Ex→List Int→Option (List Int × Nat × List Ex)
def a1X (T:List Tok) (F:PF) (d n:Nat) (b:List Ex):Option (List Int × Nat × List Ex) :=
 (pIs T n 4 [40]).bind fun n1=>if isT (tk T n1) 4 [41]=true then some ([],n1+1,b) else F.ag d n1 b []
def N7 (b:List Ex) (x:Ex) (m:Nat):Option PX:=(Z5 b x).bind fun w=>some (w.1,m,w.2)
def a0X (T:List Tok) (F:PF) (u:Str) (d n:Nat) (b:List Ex):Option PX :=
 (pIs T n 4 [40]).bind fun n1 =>
  if u=[114,101,97,100] then (X6 T n1).bind fun s=>(pIs T s.2 4 [44]).bind fun n2=>(F.ex (d+1) n2 b).bind fun x=>(pIs T x.2.1 4 [41]).bind fun m=>N7 x.2.2 ⟨6,0,0,s.1.t,[(x.1:Int)]⟩ m
  else if u=[115,105,122,101] then (X6 T n1).bind fun s=>(pIs T s.2 4 [41]).bind fun m=>N7 b ⟨7,0,0,s.1.t,[]⟩ m
  else if u=[104,97,115] then (X6 T n1).bind fun s=>(pIs T s.2 4 [41]).bind fun m=>N7 b ⟨8,0,0,s.1.t,[]⟩ m
  else if u=[101,110,118] then (P9 T n1 3).bind fun s=>if B8 s.1.t=true then (pIs T s.2 4 [41]).bind fun m=>N7 b ⟨9,0,0,s.1.t,[]⟩ m else none
  else (P9 T n1 2).bind fun s=>if 64≤s.1.n then none else (pIs T s.2 4 [41]).bind fun m=>N7 b ⟨10,s.1.n,0,[],[]⟩ m
def G7 (T:List Tok) (ps:List Str) (F:PF):PF where
 ex d n b:=if 32 < d then none else if isT (tk T n) 1 [105,102]=true then
  (F.ex (d+1) (n+1) b).bind fun x=>(pIs T x.2.1 1 [116,104,101,110]).bind fun n2=>(F.ex (d+1) n2 x.2.2).bind fun y=>(pIs T y.2.1 1 [101,108,115,101]).bind fun n3=>(F.ex (d+1) n3 y.2.2).bind fun z =>
   N7 z.2.2 ⟨5,0,0,[],[(x.1:Int),(y.1:Int),(z.1:Int)]⟩ z.2.1
  else F.bin 1 d n b
 bin lv d n b:=if lv=4 then F.fac d n b else (F.bin (lv+1) d n b).bind fun x=>F.lp lv d x.1 x.2.1 x.2.2
 lp lv d x n b:=if opS (tk T n) (lv:Int)=0 then some (x,n,b) else (F.bin (lv+1) d (n+1) b).bind fun y=>(Z5 y.2.2 ⟨4,0,opS (tk T n) (lv:Int),[],[(x:Int),(y.1:Int)]⟩).bind fun w =>
  if lv=1 then some (w.1,y.2.1,w.2) else F.lp lv d w.1 y.2.1 w.2
 fac d n b :=
  if (tk T n).k=2 then N7 b ⟨1,(tk T n).n,0,[],[]⟩ (n+1)
  else if isT (tk T n) 4 [45]=true then (P9 T (n+1) 2).bind fun y=>N7 b ⟨1,-y.1.n,0,[],[]⟩ y.2
  else if isT (tk T n) 4 [40]=true then (F.ex (d+1) (n+1) b).bind fun x=>(pIs T x.2.1 4 [41]).bind fun m=>some (x.1,m,x.2.2)
  else if (tk T n).k≠1 then none
  else if (tk T n).t=[114,101,97,100]∨(tk T n).t=[115,105,122,101]∨(tk T n).t=[104,97,115]∨(tk T n).t=[101,110,118]∨(tk T n).t=[102,108,105,112] then a0X T F (tk T n).t d (n+1) b
  else if M6 (tk T n).t=true then none
  else if isT (tk T (n+1)) 4 [40]=true then (a1X T F d (n+1) b).bind fun a=>N7 a.2.2 ⟨3,0,0,(tk T n).t,a.1⟩ a.2.1
  else if ixS ps (tk T n).t 0 < 0 then none else N7 b ⟨2,ixS ps (tk T n).t 0,0,[],[]⟩ (n+1)
 ag d n b acc:=(F.ex (d+1) n b).bind fun x=>if isT (tk T x.2.1) 4 [44]=true then F.ag d (x.2.1+1) x.2.2 (acc++[(x.1:Int)]) else (pIs T x.2.1 4 [41]).bind fun m=>some (acc++[(x.1:Int)],m,x.2.2)
def C4 (T:List Tok) (ps:List Str):Nat→PF
 | 0=>⟨fun _ _ _=>none,fun _ _ _ _=>none,fun _ _ _ _ _=>none,fun _ _ _=>none,fun _ _ _ _=>none⟩
 | f+1=>G7 T ps (C4 T ps f)
def EC (T:List Tok) (ps:List Str) (f:Nat):Prop:=∀ (d n:Nat) (b:List Ex),n < T.length→b.length≤256→d≤33→8*(T.length - n)+6≤f→∀ (σ:List c5) (q s:Nat),PAt σ q s T n ps b→c4 CC 231 [.ptr q 0,(.val (.int .i64 ((d:Int))))] σ (a1j (fun a:PX=>(.val (.int .i64 ((a.1:Int))))) (fun a:PX=>(σ.set q (pbx T a.2.1 ps a.2.2 σ.length)).set s .dead++[r6 a.2.2.length]) (fun a:PX=>(C4 T ps f).ex d n b=some a∧n < a.2.1∧a.2.1 < T.length∧a.2.2.length≤256) σ q s ((C4 T ps f).ex d n b=none))
def BC (T:List Tok) (ps:List Str) (f:Nat):Prop:=∀ (lv d n:Nat) (b:List Ex),n < T.length→b.length≤256→1≤lv→lv≤4→d≤32→8*(T.length - n)+6≤f+lv→∀ (σ:List c5) (q s:Nat),PAt σ q s T n ps b→c4 CC 264 [.ptr q 0,(.val (.int .i64 ((lv:Int)))),(.val (.int .i64 ((d:Int))))] σ (a1j (fun a:PX=>(.val (.int .i64 ((a.1:Int))))) (fun a:PX=>(σ.set q (pbx T a.2.1 ps a.2.2 σ.length)).set s .dead++[r6 a.2.2.length]) (fun a:PX=>(C4 T ps f).bin lv d n b=some a∧n < a.2.1∧a.2.1 < T.length∧a.2.2.length≤256) σ q s ((C4 T ps f).bin lv d n b=none))
def FC (T:List Tok) (ps:List Str) (f:Nat):Prop:=∀ (d n:Nat) (b:List Ex),n < T.length→b.length≤256→d≤32→8*(T.length - n)+1≤f→∀ (σ:List c5) (q s:Nat),PAt σ q s T n ps b→c4 CC 286 [.ptr q 0,(.val (.int .i64 ((d:Int))))] σ (a1j (fun a:PX=>(.val (.int .i64 ((a.1:Int))))) (fun a:PX=>(σ.set q (pbx T a.2.1 ps a.2.2 σ.length)).set s .dead++[r6 a.2.2.length]) (fun a:PX=>(C4 T ps f).fac d n b=some a∧n < a.2.1∧a.2.1 < T.length∧a.2.2.length≤256) σ q s ((C4 T ps f).fac d n b=none))
structure a1l (T:List Tok) (ps:List Str):Prop where
 len:T.length≤1000000
 w:a2A T
 l:b7V T
 ps:ps.length≤1000000
 nn:∀ i,0≤(tk T i).n∧(tk T i).n≤9007199254740993
theorem M3 {T:List Tok} {n m:Nat} {k:Int} {s:Str} (h:pIs T n k s=some m):m=n+1:=by
 unfold pIs at h
 split at h
 ·injection h with h; exact h.symm
 ·cases h
set_option maxRecDepth 10000 in
set_option maxHeartbeats 4000000 in
theorem b4F {T:List Tok} {ps:List Str} {f:Nat} (hc:a1l T ps) (hE:EC T ps f) (hB:BC T ps f) (d n:Nat) (b:List Ex) (hn:n < T.length) (hb:b.length≤256) (hd0:d≤33) (hf:8*(T.length - n)+6≤f+1):c4 CC 231 [.ptr 0 0,(.val (.int .i64 ((d:Int))))] (pst T n ps b) (a09 (fun a:PX=>(.val (.int .i64 ((a.1:Int))))) (fun a=>a2w T a.2.1 ps a.2.2) (fun a:PX=>(C4 T ps (f+1)).ex d n b=some a∧n < a.2.1∧a.2.1 < T.length∧a.2.2.length≤256) ((C4 T ps (f+1)).ex d n b=none)):=by
 have hT:=hc.len
 have hW:=hc.w
 have hsp:(C4 T ps (f+1)).ex d n b=(G7 T ps (C4 T ps f)).ex d n b:=rfl
 simp only [G7] at hsp
 refine (d5 Tryz.func231 rfl rfl ?_)
 refine a7 (a6 ?_)
 refine cY j1 ?_
 refine a8 (a7 (a6 ?_))
 refine cY b7 ?_; refine cY b7U ?_
 refine cD (l5 rfl Tryz.zeroValue227 rfl j2 ?_)
 refine cD (i7 rfl tt tt rfl c6 Tryz.sizeOf227 j2 rfl rfl (nb rfl) ?_)
 refine a8 (a7 (a7 (a6 ?_)))
 refine cY b7 ?_; refine cY j9 ?_; refine a8 ?_
 refine b9 tt rfl (fun h1=>?_) (fun h1=>?_)
 ·have hd:32 < d:=by simp at h1; omega
  rw [if_pos hd] at hsp
  refine a6 ?_; refine cY C7 ?_
  exact a0f rfl rfl (F4 rfl Tryz.call190 ⟨tt,rfl,tt⟩ (F2 _ _ _) rfl (fun _ _=>.inr ⟨(_,_),l4,hsp,by simp⟩))
 ·have hd:¬ 32 < d:=by simp at h1; omega
  rw [if_neg hd] at hsp
  refine c8 (a7 (a7 (a6 ?_)))
  refine cY b7 ?_; refine cY (i8 rfl Tryz.call189 ⟨tt,rfl,rfl,tt⟩ (a6Y hT hn 1 [105,102] ⟨rfl,rfl,Nat.ne_of_beq_eq_false rfl⟩) rfl) ?_; refine cY F6 ?_; refine a8 ?_
  refine b9 tt rfl (fun h2=>?_) (fun h2=>?_)
  ·have hi:isT (tk T n) 1 [105,102]=false:=by simpa using h2
   rw [if_neg (by rw [hi]; decide)] at hsp
   refine a7 (a6 ?_)
   refine cY b7 ?_; refine cY b7 ?_
   refine cD (m8 rfl Tryz.call264 ⟨tt,rfl,tt,tt⟩ (hB 1 d n b hn hb b8 b8 b8 b8 _ 0 1 ⟨rfl,rfl,Nat.ne_of_beq_eq_false rfl⟩) rfl (fun x hx=>.inr ⟨x,l4,by rw [hsp]; exact hx.1,hx.2⟩) ?_)
   rintro ⟨i,m,b2⟩ ⟨g1,g2,g3,g4⟩
   dsimp only at g1 g2 g3 g4 ⊢
   refine p7 [pbx T m ps b2 3,.dead,.box (tk T n).cells,r6 b2.length] rfl ?_; refine cY c7 ?_
   refine a8 (c9 ?_)
   exact ⟨_,l9 rfl tt c6,(by exact .inl ⟨(i,m,b2),O9 (k:=3) rfl rfl j4 (.val _),by rw [hsp]; exact g1,g2,g3,g4⟩)⟩
  ·have hi:isT (tk T n) 1 [105,102]=true:=by simpa using h2
   rw [if_pos hi] at hsp
   have hn1:=hW n hn (a7M hi j4)
   refine c8 (a7 (a6 ?_))
   refine cY b7 ?_; refine cY o6 ?_; refine cY O6 ?_; refine cY z8 ?_; refine cY m9 ?_; refine cY o6 ?_; refine cY O6 ?_
   refine cD (i7 rfl tt tt rfl c6 Tryz.sizeOf3 (.inl rfl) rfl rfl (nb rfl) ?_)
   refine a8 (a7 (a6 ?_))
   refine cY b7 ?_; refine cY b7 ?_; refine cY m9 ?_
   refine cD (m8 rfl Tryz.call231 ⟨tt,tt,tt⟩ (hE (d+1) (n+1) b hn1 hb b8 b8 _ 0 1 ⟨rfl,rfl,Nat.ne_of_beq_eq_false rfl⟩) rfl (fun x hx=>.inr ⟨x,l4,by rw [hsp,hx.1]; rfl,hx.2⟩) ?_)
   rintro ⟨i1,n1,b1⟩ ⟨x1,y1,z1,w1⟩
   dsimp only at x1 y1 z1 w1 ⊢
   rw [x1,Option.bind_some] at hsp
   dsimp only at hsp
   refine p7 [pbx T n1 ps b1 3,.dead,.box (tk T n).cells,r6 b1.length] rfl ?_; refine cY c7 ?_
   refine a8 (a7 (a6 ?_))
   refine cY b7 ?_
   refine cD (m8 rfl Tryz.call186 ⟨tt,rfl,tt⟩ (a7A hT z1 hW [116,104,101,110] ⟨rfl,rfl,Nat.ne_of_beq_eq_false rfl⟩) rfl (fun x hx=>.inr ⟨x,l4,by rw [hsp,hx.1]; rfl,hx.2⟩) ?_)
   rintro n2 ⟨x2,y2⟩
   dsimp only at x2 y2 ⊢
   rw [x2,Option.bind_some] at hsp
   have hn2:=M3 x2
   refine p7 [pbx T n2 ps b1 3,.dead,.box (tk T n).cells,r6 b1.length] rfl ?_
   refine a8 (a7 (a6 ?_))
   refine cY b7 ?_; refine cY b7 ?_; refine cY m9 ?_
   refine cD (m8 rfl Tryz.call231 ⟨tt,tt,tt⟩ (hE (d+1) n2 b1 y2 w1 b8 b8 _ 0 _ ⟨rfl,rfl,Nat.ne_of_beq_eq_false rfl⟩) rfl (fun x hx=>.inr ⟨x,l4,by rw [hsp,hx.1]; rfl,hx.2⟩) ?_)
   rintro ⟨i3,n3,b3⟩ ⟨x3,y3,z3,w3⟩
   dsimp only at x3 y3 z3 w3 ⊢
   rw [x3,Option.bind_some] at hsp
   dsimp only at hsp
   refine p7 [pbx T n3 ps b3 4,.dead,.box (tk T n).cells,.dead,r6 b3.length] rfl ?_; refine cY c7 ?_
   refine a8 (a7 (a6 ?_))
   refine cY b7 ?_
   refine cD (m8 rfl Tryz.call186 ⟨tt,rfl,tt⟩ (a7A hT z3 hW [101,108,115,101] ⟨rfl,rfl,Nat.ne_of_beq_eq_false rfl⟩) rfl (fun x hx=>.inr ⟨x,l4,by rw [hsp,hx.1]; rfl,hx.2⟩) ?_)
   rintro n4 ⟨x4,y4⟩
   dsimp only at x4 y4 ⊢
   rw [x4,Option.bind_some] at hsp
   have hn4:=M3 x4
   refine p7 [pbx T n4 ps b3 4,.dead,.box (tk T n).cells,.dead,r6 b3.length] rfl ?_
   refine a8 (a7 (a6 ?_))
   refine cY b7 ?_; refine cY b7 ?_; refine cY m9 ?_
   refine cD (m8 rfl Tryz.call231 ⟨tt,tt,tt⟩ (hE (d+1) n4 b3 y4 w3 b8 b8 _ 0 _ ⟨rfl,rfl,Nat.ne_of_beq_eq_false rfl⟩) rfl (fun x hx=>.inr ⟨x,l4,by rw [hsp,hx.1]; rfl,hx.2⟩) ?_)
   rintro ⟨i5,n5,b5⟩ ⟨x5,y5,z5,w5⟩
   dsimp only at x5 y5 z5 w5 ⊢
   rw [x5,Option.bind_some,N7] at hsp
   dsimp only at hsp
   refine p7 [pbx T n5 ps b5 5,.dead,.box (tk T n).cells,.dead,.dead,r6 b5.length] rfl ?_; refine cY c7 ?_
   refine a8 (a7 (a6 ?_))
   refine cY b7 ?_; refine cY C7 ?_; refine cY b7 ?_; refine cY b7 ?_; refine cY b7 ?_; refine cY (y9 ([(i1:Int),(i3:Int),(i5:Int)].map icv) rfl ⟨tt,tt,tt,tt⟩ Tryz.runUnderlying22 Tryz.sizeOf3 Tryz.zeroValue3 rfl rfl rfl rfl rfl rfl rfl rfl rfl) ?_; refine cY a79 ?_
   refine cD (m8 rfl Tryz.call265 ⟨tt,tt,tt,tt⟩ (Q3 hT z5 w5 (tk T n) ⟨5,0,0,[],[(i1:Int),(i3:Int),(i5:Int)]⟩ ⟨rfl,rfl,Nat.ne_of_beq_eq_false rfl⟩) rfl (fun x hx=>.inr ⟨x,l4,by rw [hsp,hx.1]; rfl,hx.2⟩) ?_)
   rintro ⟨i6,b6⟩ ⟨x6,y6⟩
   dsimp only at x6 y6 ⊢
   rw [x6,Option.bind_some] at hsp
   refine p7 [pbx T n5 ps b6 6,.dead,.box (tk T n).cells,.dead,.dead,.dead,r6 b6.length] rfl ?_; refine cY c7 ?_
   refine a8 (c9 ?_)
   exact ⟨_,l9 rfl tt c6,(by exact .inl ⟨(i6,n5,b6),O9 (k:=6) rfl rfl j4 (.val _),hsp,by dsimp only; omega,z5,y6⟩)⟩
theorem b5V {T:List Tok} {ps:List Str} {f:Nat} (hc:a1l T ps) (hE:EC T ps f) (hB:BC T ps f):EC T ps (f+1):=fun d n b hn hb hd hf σ q s hσ =>
 a0q (c:=fun a:PX=>(.val (.int .i64 ((a.1:Int))))) (N:=fun a=>a.2.1) (B:=fun a=>a.2.2) (fun _ h=>by simp at h; subst h; exact .val _) (fun _=>.val _) (b4F hc hE hB d n b hn hb hd hf) hσ
def kf (ph:Bool):Nat:=if ph=true then 3 else 2
def of1 (ph:Bool) (m:Nat):c5:=if ph=true then .dead else r6 m
def of2 (ph:Bool) (m:Nat):c5:=if ph=true then r6 m else .dead
theorem b7G {t:Tok} {lv:Int} (h:¬ opS t lv=0):t.k≠5:=fun h5=>h (b3U fun x _=>by simp [opM,h5])
theorem a5f {L:Nat} {sel:List Nat} {b:List Ex} {k p:Nat} (h:sel[p]? = some k):B4 L sel (.list (b.map Ex.cv) (gnn b.length) (P3 b.length k)) (.list (b.map Ex.cv) (gnn b.length) (P3 b.length p)) :=
 .list (fun r hr c hc=>(D6 (f:=Ex.cv) (fun a=>(Ex.pure a).all) _ r hr c hc).old) (fun j hj=>by
  cases hb:b.length with
  | zero=>rw [hb] at hj; cases hj
  | succ m=>rw [hb] at hj; injection hj with hj; subst hj; exact ⟨k,rfl,h⟩)
set_option maxRecDepth 10000 in
set_option maxHeartbeats 1000000 in
theorem b03 {T:List Tok} {ps:List Str} {f:Nat} (hc:a1l T ps) (hB:∀ g,g≤f→BC T ps g) (hF:FC T ps f) (lv d n:Nat) (b:List Ex) (hn:n < T.length) (hb:b.length≤256) (hl1:1≤lv) (hl4:lv≤4) (hd0:d≤32) (hf:8*(T.length - n)+6≤f+1+lv):c4 CC 264 [.ptr 0 0,(.val (.int .i64 ((lv:Int)))),(.val (.int .i64 ((d:Int))))] (pst T n ps b) (a09 (fun a:PX=>(.val (.int .i64 ((a.1:Int))))) (fun a=>a2w T a.2.1 ps a.2.2) (fun a:PX=>(C4 T ps (f+1)).bin lv d n b=some a∧n < a.2.1∧a.2.1 < T.length∧a.2.2.length≤256) ((C4 T ps (f+1)).bin lv d n b=none)):=by
 have hT:=hc.len
 have hW:=hc.w
 have hsp:(C4 T ps (f+1)).bin lv d n b=(G7 T ps (C4 T ps f)).bin lv d n b:=rfl
 simp only [G7] at hsp
 refine (d5 Tryz.func264 rfl rfl ?_)
 refine a7 (a6 ?_)
 refine cY j1 ?_
 refine a8 (a7 (a7 (a6 ?_)))
 refine cY b7 ?_; refine cY j9 ?_; refine a8 ?_
 refine b9 tt rfl (fun h1=>?_) (fun h1=>?_)
 ·have h4:lv=4:=by simp at h1; omega
  rw [if_pos h4] at hsp
  refine a7 (a6 ?_)
  refine cY b7 ?_; refine cY b7 ?_
  refine cD (m8 rfl Tryz.call286 ⟨tt,tt,tt⟩ (hF d n b hn hb hd0 b8 _ 0 1 ⟨rfl,rfl,Nat.ne_of_beq_eq_false rfl⟩) rfl (fun x hx=>.inr ⟨x,l4,by rw [hsp]; exact hx.1,hx.2⟩) ?_)
  rintro ⟨i,m,b2⟩ ⟨g1,g2,g3,g4⟩
  dsimp only at g1 g2 g3 g4 ⊢
  refine p7 [pbx T m ps b2 2,.dead,r6 b2.length] rfl ?_; refine cY c7 ?_
  refine a8 (c9 ?_)
  exact ⟨_,l9 rfl tt c6,(by exact .inl ⟨(i,m,b2),O9 (k:=2) rfl rfl j4 (.val _),by rw [hsp]; exact g1,g2,g3,g4⟩)⟩
 ·have h4:¬ lv=4:=by simp at h1; omega
  rw [if_neg h4] at hsp
  refine c8 (a7 (a6 ?_))
  refine cY b7 ?_; refine cY b7 ?_; refine cY m9 ?_; refine cY b7 ?_
  refine cD (m8 rfl Tryz.call264 ⟨tt,tt,tt,tt⟩ (hB f (Nat.le_refl _) (lv+1) d n b hn hb b8 b8 hd0 b8 _ 0 1 ⟨rfl,rfl,Nat.ne_of_beq_eq_false rfl⟩) rfl (fun x hx=>.inr ⟨x,l4,by rw [hsp,hx.1]; rfl,hx.2⟩) ?_)
  rintro ⟨i1,n1,b1⟩ ⟨x1,y1,z1,w1⟩
  dsimp only at x1 y1 z1 w1 ⊢
  rw [x1,Option.bind_some] at hsp
  dsimp only at hsp
  refine p7 [pbx T n1 ps b1 2,.dead,r6 b1.length] rfl ?_; refine cY c7 ?_
  refine a8 (d4 ?_)
  refine B2 hCC 3 rfl (α:=Nat × Nat × List Ex × Bool × Nat) (fun x=>[(0,.ptr 0 0),(1,(.val (.int .i64 ((lv:Int))))),(2,(.val (.int .i64 ((d:Int))))),(7,(.val (.int .i64 ((x.1:Int)))))]) (fun x=>[pbx T x.2.1 ps x.2.2.1 (kf x.2.2.2.1),.dead,of1 x.2.2.2.1 x.2.2.1.length,of2 x.2.2.2.1 x.2.2.1.length]) (fun x=>(C4 T ps (f+1)).bin lv d n b=(C4 T ps x.2.2.2.2).lp lv d x.1 x.2.1 x.2.2.1∧n < x.2.1∧x.2.1 < T.length∧x.2.2.1.length≤256∧x.2.2.2.2≤f∧8*(T.length - x.2.1)+3≤x.2.2.2.2) (fun x=>T.length - x.2.1) ⟨(i1,n1,b1,false,f),[0,1,2,7],⟨hsp,y1,z1,w1,Nat.le_refl _,by dsimp only; omega⟩,⟨rfl,rfl⟩,⟨⟨tt,a0D⟩,⟨tt,a0D⟩,⟨tt,a0D⟩,⟨tt,a0D⟩,tt⟩,⟨.inr ⟨_,rfl,.same rfl a39⟩,.inl rfl,.inr ⟨_,rfl,.same rfl s8⟩,.inl rfl,tt⟩⟩ ?_; intro ⟨x,m,b2,ph,g⟩ ⟨hlp,hnm,hm,hb2,hgf,hg⟩
  dsimp only at hlp hnm hm hb2 hgf hg ⊢
  obtain ⟨g,rfl⟩:∃ g',g=g'+1:=⟨g - 1,by omega⟩
  have hlp2:(C4 T ps (g+1)).lp lv d x m b2=(G7 T ps (C4 T ps g)).lp lv d x m b2:=rfl
  simp only [G7] at hlp2
  rw [hlp2] at hlp
  refine d4 (a7 (a6 ?_))
  refine cY b7 ?_; refine cY b7 ?_; refine cY (i8 rfl Tryz.call287 ⟨tt,tt,tt⟩ (a9c hT hm (lv:Int) (q:=0) (s:=kf ph) a8s) rfl) ?_; refine cY c7 ?_
  refine a8 (a7 (a7 (a6 ?_)))
  refine cY b7 ?_; refine cY j9 ?_; refine a8 ?_
  refine b9 tt rfl (fun h2=>?_) (fun h2=>?_)
  ·have h0:opS (tk T m) (lv:Int)=0:=by simpa using h2
   rw [if_pos h0] at hlp
   refine a7 (a6 ?_)
   refine cY b7 ?_; refine cY c7 ?_
   refine a8 (c9 ?_)
   exact ⟨_,l9 rfl tt c6,(by exact .inl ⟨(x,m,b2),(by cases ph; exact O9 (k:=2) rfl rfl j4 (.val _); exact O9 (k:=3) rfl rfl j4 (.val _)),hlp,hnm,hm,hb2⟩)⟩
  ·have h0:¬ opS (tk T m) (lv:Int)=0:=by simpa using h2
   rw [if_neg h0] at hlp
   have hm1:=hW m hm (b7G h0)
   refine c8 (a7 (a6 ?_))
   refine cY b7 ?_; refine cY (i8 rfl Tryz.call191 ⟨tt,tt⟩ (a1D hT hm (q:=0) (s:=kf ph) a8s) rfl) ?_
   refine cD (l5 rfl Tryz.zeroValue227 rfl j2 ?_)
   refine cD (i7 rfl tt tt rfl c6 Tryz.sizeOf227 j2 rfl rfl (nb rfl) ?_)
   refine a8 (a7 (a6 ?_))
   refine cY b7 ?_; refine cY o6 ?_; refine cY O6 ?_; refine cY z8 ?_; refine cY m9 ?_; refine cY o6 ?_; refine cY O6 ?_
   refine cD (i7 rfl tt tt rfl c6 Tryz.sizeOf3 (.inl rfl) rfl rfl (nb rfl) ?_)
   refine a8 (a7 (a6 ?_))
   refine cY b7 ?_; refine cY b7 ?_; refine cY m9 ?_; refine cY b7 ?_
   refine cD (m8 rfl Tryz.call264 ⟨tt,tt,tt,tt⟩ (hB g b8 (lv+1) d (m+1) b2 hm1 hb2 b8 b8 hd0 b8 _ 0 (kf ph) a8s) rfl (fun x hx=>.inr ⟨x,l4,by rw [hlp,hx.1]; rfl,hx.2⟩) ?_)
   rintro ⟨i3,n3,b3⟩ ⟨x3,y3,z3,w3⟩
   dsimp only at x3 y3 z3 w3 ⊢
   rw [x3,Option.bind_some] at hlp
   dsimp only at hlp
   refine p7 [pbx T n3 ps b3 5,.dead,.dead,.dead,.box (tk T m).cells,r6 b3.length] a0u ?_; refine cY c7 ?_
   refine a8 (a7 (a6 ?_))
   refine cY b7 ?_; refine cY C7 ?_; refine cY b7 ?_; refine cY b7 ?_; refine cY b7 ?_; refine cY (y9 ([(x:Int),(i3:Int)].map icv) rfl ⟨tt,tt,tt⟩ Tryz.runUnderlying22 Tryz.sizeOf3 Tryz.zeroValue3 rfl rfl rfl rfl rfl rfl rfl rfl rfl) ?_; refine cY b8U ?_
   refine cD (m8 rfl Tryz.call265 ⟨tt,tt,tt,tt⟩ (Q3 hT z3 w3 (tk T m) ⟨4,0,opS (tk T m) (lv:Int),[],[(x:Int),(i3:Int)]⟩ ⟨rfl,rfl,Nat.ne_of_beq_eq_false rfl⟩) rfl (fun x hx=>.inr ⟨x,l4,by rw [hlp,hx.1]; rfl,hx.2⟩) ?_)
   rintro ⟨i4,b4⟩ ⟨x4,y4⟩
   dsimp only at x4 y4 ⊢
   rw [x4,Option.bind_some] at hlp
   dsimp only at hlp
   refine p7 [pbx T n3 ps b4 6,.dead,.dead,.dead,.box (tk T m).cells,.dead,r6 b4.length] rfl ?_; refine cY c7 ?_
   refine a8 (a7 (a6 ?_))
   refine cY b7 ?_; refine cY j9 ?_; refine a8 ?_
   refine b9 tt rfl (fun h3=>?_) (fun h3=>?_)
   ·have hl1:lv=1:=by simp at h3; omega
    rw [if_pos hl1] at hlp
    refine a7 (a6 ?_)
    refine cY b7 ?_; refine cY c7 ?_
    refine a8 (c9 ?_)
    exact ⟨_,l9 rfl tt c6,(by exact .inl ⟨(i4,n3,b4),O9 (k:=6) rfl rfl j4 (.val _),hlp,by dsimp only; omega,z3,y4⟩)⟩
   ·have hl1:¬ lv=1:=by simp at h3; omega
    rw [if_neg hl1] at hlp
    refine c8 ?_
    exact ⟨(i4,n3,b4,true,g),[0,1,2,6],⟨by dsimp only; omega,hlp,by dsimp only; omega,z3,y4,by dsimp only; omega,by dsimp only; omega⟩,⟨rfl,rfl⟩,⟨⟨tt,a0D⟩,⟨tt,a0D⟩,⟨tt,a0D⟩,⟨tt,a0D⟩,tt⟩,⟨.inr ⟨_,rfl,.box ⟨.old (K1 _ _ _),.old (.val _),.old (k8 _ _ _),a5f rfl,tt⟩⟩,.inl rfl,.inl rfl,.inr ⟨_,rfl,.same rfl s8⟩,tt⟩⟩
theorem b3b {T:List Tok} {ps:List Str} {f:Nat} (hc:a1l T ps) (hB:∀ g,g≤f→BC T ps g) (hF:FC T ps f):BC T ps (f+1):=fun lv d n b hn hb hl1 hl4 hd hf σ q s hσ =>
 a0q (c:=fun a:PX=>(.val (.int .i64 ((a.1:Int))))) (N:=fun a=>a.2.1) (B:=fun a=>a.2.2) (fun _ h=>by simp at h; rcases h with rfl | rfl <;> exact .val _) (fun _=>.val _) (b03 hc hB hF lv d n b hn hb hl1 hl4 hd hf) hσ
theorem a1U {T:List Tok} {n m:Nat} {k:Int} {t:Tok} (h:P9 T n k=some (t,m)) (hk:k≠5):m=n+1:=by
 unfold P9 at h
 rw [if_neg hk] at h
 split at h
 ·injection h with h; injection h with _ h; exact h.symm
 ·cases h
theorem a2U {T:List Tok} {n m:Nat} {t:Tok} (h:X6 T n=some (t,m)):m=n+1:=by
 unfold X6 at h
 cases hq:P9 T n 3 with
 | none=>rw [hq] at h; cases h
 | some x =>
  rw [hq,Option.bind_some] at h
  split at h
  ·injection h with h; subst h; exact a1U hq j4
  ·cases h
theorem a5V {T:List Tok} {n m:Nat} {t:Tok} (h:U2 T n=some (t,m)):m=n+1:=by
 unfold U2 at h
 cases hq:P9 T n 1 with
 | none=>rw [hq] at h; cases h
 | some x =>
  rw [hq,Option.bind_some] at h
  split at h
  ·cases h
  ·injection h with h; subst h; exact a1U hq j4
set_option maxRecDepth 10000 in
set_option maxHeartbeats 2000000 in
theorem a9u {T:List Tok} {ps:List Str} {f:Nat} (hc:a1l T ps) (hE:EC T ps f) (t:Tok) (d n:Nat) (b:List Ex) (R:Option PX) (hsp:R=a0X T (C4 T ps f) t.t d n b) (hn:n < T.length) (hb:b.length≤256) (hd0:d≤32) (hf:8*(T.length - n)+6≤f):c4 CC 299 [.ptr 0 0,.agg t.cells,(.val (.int .i64 ((d:Int))))] (pst T n ps b) (a09 (fun a:PX=>(.val (.int .i64 ((a.1:Int))))) (fun a=>a2w T a.2.1 ps a.2.2) (fun a:PX=>R=some a∧n < a.2.1∧a.2.1 < T.length∧a.2.2.length≤256) (R=none)):=by
 have hT:=hc.len
 have hW:=hc.w
 unfold a0X at hsp
 refine (d5 Tryz.func299 rfl rfl ?_)
 refine a7 (a6 ?_)
 refine cD (A4 rfl tt c6 j2 ?_)
 refine cY j1 ?_
 refine a8 (a7 (a6 ?_))
 refine cY b7 ?_
 refine cD (m8 rfl Tryz.call188 ⟨tt,rfl,tt⟩ (I7 hT hn hW [40] ⟨rfl,rfl,Nat.ne_of_beq_eq_false rfl⟩) rfl (fun x hx=>.inr ⟨x,l4,by rw [hsp,hx.1]; rfl,hx.2⟩) ?_)
 rintro n1 ⟨sn1,kn1⟩
 dsimp only at sn1 kn1 ⊢
 rw [sn1,Option.bind_some] at hsp
 have en1:=M3 sn1
 refine a8 (a7 (a6 ?_))
 refine cD (l5 rfl Tryz.zeroValue208 rfl j2 ?_)
 refine a8 (a7 (a7 (a6 ?_)))
 refine cY V3 ?_; refine cY s7 ?_
 refine a8 (d4 (a7 (a6 ?_)))
 refine cY K8 ?_; refine cY c7 ?_; refine a8 ?_
 refine b9 tt rfl (fun h1=>?_) (fun h1=>?_)
 ·have u1:t.t=[114,101,97,100]:=by simpa using h1
  rw [if_pos u1] at hsp
  refine a7 (a6 ?_)
  refine cY b7 ?_
  refine cD (m8 rfl Tryz.call227 ⟨tt,tt⟩ (a4F hT kn1 hW hc.l ⟨rfl,rfl,Nat.ne_of_beq_eq_false rfl⟩) rfl (fun x hx=>.inr ⟨x,l4,by rw [hsp,hx.1]; rfl,hx.2⟩) ?_)
  rintro ⟨p,n2⟩ ⟨s2,k2⟩
  dsimp only at s2 k2 ⊢
  rw [s2,Option.bind_some] at hsp
  dsimp only at hsp
  have e2:=a2U s2
  refine cY b1A ?_; refine cY a79 ?_
  refine cD (i7 rfl tt tt rfl c6 Tryz.sizeOf208 j2 rfl rfl (nb rfl) ?_)
  refine a8 (a7 (a6 ?_))
  refine cY b7 ?_
  refine cD (m8 rfl Tryz.call188 ⟨tt,rfl,tt⟩ (I7 hT k2 hW [44] ⟨rfl,rfl,Nat.ne_of_beq_eq_false rfl⟩) rfl (fun x hx=>.inr ⟨x,l4,by rw [hsp,hx.1]; rfl,hx.2⟩) ?_)
  rintro n3 ⟨sn3,kn3⟩
  dsimp only at sn3 kn3 ⊢
  rw [sn3,Option.bind_some] at hsp
  have en3:=M3 sn3
  refine a8 (a6 ?_)
  refine cY b7 ?_; refine cY b7 ?_; refine cY m9 ?_
  refine cD (m8 rfl Tryz.call231 ⟨tt,tt,tt⟩ (hE (d+1) n3 b kn3 hb b8 b8 _ 0 1 ⟨rfl,rfl,Nat.ne_of_beq_eq_false rfl⟩) rfl (fun x hx=>.inr ⟨x,l4,by rw [hsp,hx.1]; rfl,hx.2⟩) ?_)
  rintro ⟨i4,n4,b4⟩ ⟨x4,y4,z4,w4⟩
  dsimp only at x4 y4 z4 w4 ⊢
  rw [x4,Option.bind_some] at hsp
  dsimp only at hsp
  refine cY (y9 ([(i4:Int)].map icv) rfl ⟨tt,tt⟩ Tryz.runUnderlying22 Tryz.sizeOf3 Tryz.zeroValue3 rfl rfl rfl rfl rfl rfl rfl rfl rfl) ?_; refine cY a1g ?_
  refine cD (i7 rfl tt tt rfl c6 Tryz.sizeOf22 (.inl rfl) rfl rfl (nb rfl) ?_)
  refine a8 (a7 (a6 ?_))
  refine cY b7 ?_
  refine cD (m8 rfl Tryz.call188 ⟨tt,rfl,tt⟩ (I7 hT z4 hW [41] ⟨rfl,rfl,Nat.ne_of_beq_eq_false rfl⟩) rfl (fun x hx=>.inr ⟨x,l4,by rw [hsp,hx.1]; rfl,hx.2⟩) ?_)
  rintro n5 ⟨sn5,kn5⟩
  dsimp only at sn5 kn5 ⊢
  rw [sn5,Option.bind_some] at hsp
  have en5:=M3 sn5
  refine a8 (a7 (a6 ?_))
  refine cY b7 ?_; refine cY C7 ?_; refine cY a2m ?_
  refine cD (m8 rfl Tryz.call265 ⟨tt,tt,tt,tt⟩ (Q3 hT kn5 w4 t ⟨6,0,0,p.t,[(i4:Int)]⟩ ⟨rfl,rfl,Nat.ne_of_beq_eq_false rfl⟩) rfl (fun x hx=>.inr ⟨x,l4,by rw [hsp,N7,hx.1]; rfl,hx.2⟩) ?_)
  rintro ⟨i6,b6⟩ ⟨x6,y6⟩
  dsimp only at x6 y6 ⊢
  rw [N7,x6,Option.bind_some] at hsp
  refine cY c7 ?_
  refine a8 (c9 ?_)
  exact ⟨_,l9 rfl tt c6,b5R⟩
 ·have u1:¬ t.t=[114,101,97,100]:=by simpa using h1
  rw [if_neg u1] at hsp
  refine a7 (a6 ?_)
  refine cY K8 ?_; refine cY c7 ?_; refine a8 ?_
  refine b9 tt rfl (fun h2=>?_) (fun h2=>?_)
  ·have u2:t.t=[115,105,122,101]:=by simpa using h2
   rw [if_pos u2] at hsp
   refine a6 ?_; refine cY b7 ?_
   refine cD (m8 rfl Tryz.call227 ⟨tt,tt⟩ (a4F hT kn1 hW hc.l ⟨rfl,rfl,Nat.ne_of_beq_eq_false rfl⟩) rfl (fun x hx=>.inr ⟨x,l4,by rw [hsp,hx.1]; rfl,hx.2⟩) ?_)
   rintro ⟨p,n2⟩ ⟨s2,k2⟩
   dsimp only at s2 k2 ⊢
   rw [s2,Option.bind_some] at hsp
   dsimp only at hsp
   have e2:=a2U s2
   refine cY b1A ?_; refine cY a79 ?_
   refine cD (i7 rfl tt tt rfl c6 Tryz.sizeOf208 j2 rfl rfl (nb rfl) ?_)
   refine a8 (a7 (a6 ?_))
   refine cY b7 ?_
   refine cD (m8 rfl Tryz.call188 ⟨tt,rfl,tt⟩ (I7 hT k2 hW [41] ⟨rfl,rfl,Nat.ne_of_beq_eq_false rfl⟩) rfl (fun x hx=>.inr ⟨x,l4,by rw [hsp,hx.1]; rfl,hx.2⟩) ?_)
   rintro n5 ⟨sn5,kn5⟩
   dsimp only at sn5 kn5 ⊢
   rw [sn5,Option.bind_some] at hsp
   have en5:=M3 sn5
   refine a8 (a7 (a6 ?_))
   refine cY b7 ?_; refine cY C7 ?_; refine cY a2m ?_
   refine cD (m8 rfl Tryz.call265 ⟨tt,tt,tt,tt⟩ (Q3 hT kn5 hb t ⟨7,0,0,p.t,[]⟩ ⟨rfl,rfl,Nat.ne_of_beq_eq_false rfl⟩) rfl (fun x hx=>.inr ⟨x,l4,by rw [hsp,N7,hx.1]; rfl,hx.2⟩) ?_)
   rintro ⟨i6,b6⟩ ⟨x6,y6⟩
   dsimp only at x6 y6 ⊢
   rw [N7,x6,Option.bind_some] at hsp
   refine cY c7 ?_
   refine a8 (c9 ?_)
   exact ⟨_,l9 rfl tt c6,b5R⟩
  ·have u2:¬ t.t=[115,105,122,101]:=by simpa using h2
   rw [if_neg u2] at hsp
   refine a7 (a6 ?_)
   refine cY K8 ?_; refine cY c7 ?_; refine a8 ?_
   refine b9 tt rfl (fun h3=>?_) (fun h3=>?_)
   ·have u3:t.t=[104,97,115]:=by simpa using h3
    rw [if_pos u3] at hsp
    refine a6 ?_; refine cY b7 ?_
    refine cD (m8 rfl Tryz.call227 ⟨tt,tt⟩ (a4F hT kn1 hW hc.l ⟨rfl,rfl,Nat.ne_of_beq_eq_false rfl⟩) rfl (fun x hx=>.inr ⟨x,l4,by rw [hsp,hx.1]; rfl,hx.2⟩) ?_)
    rintro ⟨p,n2⟩ ⟨s2,k2⟩
    dsimp only at s2 k2 ⊢
    rw [s2,Option.bind_some] at hsp
    dsimp only at hsp
    have e2:=a2U s2
    refine cY b1A ?_; refine cY a79 ?_
    refine cD (i7 rfl tt tt rfl c6 Tryz.sizeOf208 j2 rfl rfl (nb rfl) ?_)
    refine a8 (a7 (a6 ?_))
    refine cY b7 ?_
    refine cD (m8 rfl Tryz.call188 ⟨tt,rfl,tt⟩ (I7 hT k2 hW [41] ⟨rfl,rfl,Nat.ne_of_beq_eq_false rfl⟩) rfl (fun x hx=>.inr ⟨x,l4,by rw [hsp,hx.1]; rfl,hx.2⟩) ?_)
    rintro n5 ⟨sn5,kn5⟩
    dsimp only at sn5 kn5 ⊢
    rw [sn5,Option.bind_some] at hsp
    have en5:=M3 sn5
    refine a8 (a7 (a6 ?_))
    refine cY b7 ?_; refine cY C7 ?_; refine cY a2m ?_
    refine cD (m8 rfl Tryz.call265 ⟨tt,tt,tt,tt⟩ (Q3 hT kn5 hb t ⟨8,0,0,p.t,[]⟩ ⟨rfl,rfl,Nat.ne_of_beq_eq_false rfl⟩) rfl (fun x hx=>.inr ⟨x,l4,by rw [hsp,N7,hx.1]; rfl,hx.2⟩) ?_)
    rintro ⟨i6,b6⟩ ⟨x6,y6⟩
    dsimp only at x6 y6 ⊢
    rw [N7,x6,Option.bind_some] at hsp
    refine cY c7 ?_
    refine a8 (c9 ?_)
    exact ⟨_,l9 rfl tt c6,b5R⟩
   ·have u3:¬ t.t=[104,97,115]:=by simpa using h3
    rw [if_neg u3] at hsp
    refine a7 (a6 ?_)
    refine cY K8 ?_; refine cY c7 ?_; refine a8 ?_
    refine b9 tt rfl (fun h4=>?_) (fun h4=>?_)
    ·have u4:t.t=[101,110,118]:=by simpa using h4
     rw [if_pos u4] at hsp
     refine a7 (a6 ?_)
     refine cY b7 ?_
     refine cD (m8 rfl Tryz.call225 ⟨tt,rfl,tt⟩ (a2T hT kn1 hW 3 ⟨rfl,rfl,Nat.ne_of_beq_eq_false rfl⟩) rfl (fun x hx=>.inr ⟨x,l4,by rw [hsp,hx.1]; rfl,hx.2⟩) ?_)
     rintro ⟨p,n2⟩ ⟨s2,k2⟩
     dsimp only at s2 k2 ⊢
     rw [s2,Option.bind_some] at hsp
     dsimp only at hsp
     have e2:=a1U s2 j4
     have hp:=a1u s2
     refine cD (l5 rfl Tryz.zeroValue227 rfl j2 ?_)
     refine cD (i7 rfl tt tt rfl c6 Tryz.sizeOf227 j2 rfl rfl (nb rfl) ?_)
     refine a8 (a7 (a7 (a6 ?_)))
     refine cY V3 ?_; refine cY s7 ?_; refine cY (i8 rfl Tryz.call64 ⟨tt,tt⟩ (W8 p.t (by have:=hc.l n1; rw [hp]; omega) _) rfl) ?_; refine cY F6 ?_; refine a8 ?_
     refine b9 tt rfl (fun h5=>?_) (fun h5=>?_)
     ·have hq:B8 p.t=false:=by simpa using h5
      rw [if_neg (by rw [hq]; decide)] at hsp
      refine a6 ?_; refine cY C7 ?_
      exact a0f rfl rfl (F4 rfl Tryz.call190 ⟨tt,rfl,tt⟩ (F2 _ _ _) rfl (fun _ _=>.inr ⟨(_,_),l4,hsp,by simp⟩))
     ·have hq:B8 p.t=true:=by simpa using h5
      rw [if_pos hq] at hsp
      refine c8 (a6 ?_)
      refine cY V3 ?_; refine cY s7 ?_; refine cY a79 ?_
      refine cD (i7 rfl tt tt rfl c6 Tryz.sizeOf208 j2 rfl rfl (nb rfl) ?_)
      refine a8 (a7 (a6 ?_))
      refine cY b7 ?_
      refine cD (m8 rfl Tryz.call188 ⟨tt,rfl,tt⟩ (I7 hT k2 hW [41] ⟨rfl,rfl,Nat.ne_of_beq_eq_false rfl⟩) rfl (fun x hx=>.inr ⟨x,l4,by rw [hsp,hx.1]; rfl,hx.2⟩) ?_)
      rintro n5 ⟨sn5,kn5⟩
      dsimp only at sn5 kn5 ⊢
      rw [sn5,Option.bind_some] at hsp
      have en5:=M3 sn5
      refine a8 (a7 (a6 ?_))
      refine cY b7 ?_; refine cY C7 ?_; refine cY a2m ?_
      refine cD (m8 rfl Tryz.call265 ⟨tt,tt,tt,tt⟩ (Q3 hT kn5 hb t ⟨9,0,0,p.t,[]⟩ ⟨rfl,rfl,Nat.ne_of_beq_eq_false rfl⟩) rfl (fun x hx=>.inr ⟨x,l4,by rw [hsp,N7,hx.1]; rfl,hx.2⟩) ?_)
      rintro ⟨i6,b6⟩ ⟨x6,y6⟩
      dsimp only at x6 y6 ⊢
      rw [N7,x6,Option.bind_some] at hsp
      refine cY c7 ?_
      refine a8 (c9 ?_)
      exact ⟨_,l9 rfl tt c6,b5R⟩
    ·have u4:¬ t.t=[101,110,118]:=by simpa using h4
     rw [if_neg u4] at hsp
     refine a7 (a6 ?_)
     refine cY b7 ?_
     refine cD (m8 rfl Tryz.call225 ⟨tt,rfl,tt⟩ (a2T hT kn1 hW 2 ⟨rfl,rfl,Nat.ne_of_beq_eq_false rfl⟩) rfl (fun x hx=>.inr ⟨x,l4,by rw [hsp,hx.1]; rfl,hx.2⟩) ?_)
     rintro ⟨p,n2⟩ ⟨s2,k2⟩
     dsimp only at s2 k2 ⊢
     rw [s2,Option.bind_some] at hsp
     dsimp only at hsp
     have e2:=a1U s2 j4
     have hp:=a1u s2
     refine cD (l5 rfl Tryz.zeroValue227 rfl j2 ?_)
     refine cD (i7 rfl tt tt rfl c6 Tryz.sizeOf227 j2 rfl rfl (nb rfl) ?_)
     refine a8 (a7 (a7 (a6 ?_)))
     refine cY a1Z ?_; refine cY z8 ?_; refine cY j9 ?_; refine a8 ?_
     refine b9 tt rfl (fun h6=>?_) (fun h6=>?_)
     ·have hq:64≤p.n:=by simpa using h6
      rw [if_pos hq] at hsp
      refine a6 ?_; refine cY C7 ?_
      exact a0f rfl rfl (F4 rfl Tryz.call190 ⟨tt,rfl,tt⟩ (F2 _ _ _) rfl (fun _ _=>.inr ⟨(_,_),l4,hsp,by simp⟩))
     ·have hq:¬ 64≤p.n:=by simpa using h6
      rw [if_neg hq] at hsp
      refine c8 (a6 ?_)
      refine cY a1Z ?_; refine cY z8 ?_; refine cY a79 ?_
      refine cD (i7 rfl tt tt rfl c6 Tryz.sizeOf208 j2 rfl rfl (nb rfl) ?_)
      refine a8 (a7 (a6 ?_))
      refine cY b7 ?_
      refine cD (m8 rfl Tryz.call188 ⟨tt,rfl,tt⟩ (I7 hT k2 hW [41] ⟨rfl,rfl,Nat.ne_of_beq_eq_false rfl⟩) rfl (fun x hx=>.inr ⟨x,l4,by rw [hsp,hx.1]; rfl,hx.2⟩) ?_)
      rintro n5 ⟨sn5,kn5⟩
      dsimp only at sn5 kn5 ⊢
      rw [sn5,Option.bind_some] at hsp
      have en5:=M3 sn5
      refine a8 (a7 (a6 ?_))
      refine cY b7 ?_; refine cY C7 ?_; refine cY a2m ?_
      refine cD (m8 rfl Tryz.call265 ⟨tt,tt,tt,tt⟩ (Q3 hT kn5 hb t ⟨10,p.n,0,[],[]⟩ ⟨rfl,rfl,Nat.ne_of_beq_eq_false rfl⟩) rfl (fun x hx=>.inr ⟨x,l4,by rw [hsp,N7,hx.1]; rfl,hx.2⟩) ?_)
      rintro ⟨i6,b6⟩ ⟨x6,y6⟩
      dsimp only at x6 y6 ⊢
      rw [N7,x6,Option.bind_some] at hsp
      refine cY c7 ?_
      refine a8 (c9 ?_)
      exact ⟨_,l9 rfl tt c6,b5R⟩
def UC (T:List Tok) (ps:List Str) (f:Nat):Prop:=∀ (t:Tok) (d n:Nat) (b:List Ex),n < T.length→b.length≤256→d≤32→8*(T.length - n)+6≤f→∀ (σ:List c5) (q s:Nat),PAt σ q s T n ps b→c4 CC 299 [.ptr q 0,.agg t.cells,(.val (.int .i64 ((d:Int))))] σ (a1j (fun a:PX=>(.val (.int .i64 ((a.1:Int))))) (fun a:PX=>(σ.set q (pbx T a.2.1 ps a.2.2 σ.length)).set s .dead++[r6 a.2.2.length]) (fun a:PX=>(a0X T (C4 T ps f) t.t d n b)=some a∧n < a.2.1∧a.2.1 < T.length∧a.2.2.length≤256) σ q s ((a0X T (C4 T ps f) t.t d n b)=none))
theorem b0L {T:List Tok} {ps:List Str} {f:Nat} (hc:a1l T ps) (hE:EC T ps f):UC T ps f:=fun t d n b hn hb hd hf σ q s hσ =>
 a0q (c:=fun a:PX=>(.val (.int .i64 ((a.1:Int))))) (N:=fun a=>a.2.1) (B:=fun a=>a.2.2) (fun _ h=>by simp at h; rcases h with rfl | rfl; exact U0 _; exact .val _) (fun _=>.val _) (a9u hc hE t d n b _ rfl hn hb hd hf) hσ
def ka (ph:Bool):Nat:=if ph=true then 2 else 1
def oa1 (ph:Bool) (m:Nat):c5:=if ph=true then .dead else r6 m
def oa2 (ph:Bool) (m:Nat):c5:=if ph=true then r6 m else .dead
theorem a7F {τ:List c5} {T:List Tok} {n k:Nat} {ps:List Str} {b:List Ex} {c c':CV} (h0:τ[0]? = some (pbx T n ps b k)) (hk:τ[k]? = some (r6 b.length)) (h2:2≤k) (hc:∀ sel,B4 2 sel c c'):G8 2 τ (.ret c) (.ret c') (a2w T n ps b):=by
 obtain ⟨sel,a1,a2,_,a4⟩:=O9 h0 hk h2 (.val (.int .i64 0))
 exact ⟨sel,a1,a2,.ret (hc sel),a4⟩
theorem b7Y {τ:List c5} {T:List Tok} {n k:Nat} {ps:List Str} {b:List Ex} {c c':CV} {l:List Int} {x:Int} (h0:τ[0]? = some (pbx T n ps b k)) (hk:τ[k]? = some (r6 b.length)) (h2:2≤k) (hc:∀ sel,B4 2 sel c c'):G8 2 τ (.ret c) (.ret c') (if (!(l++[x]).isEmpty)=true then a2w T n ps b else pst T n ps b):=by
 rw [if_pos l7]
 exact a7F h0 hk h2 hc
def AC (T:List Tok) (ps:List Str) (f:Nat):Prop:=∀ (d n:Nat) (b:List Ex),n < T.length→b.length≤256→d≤32→8*(T.length - n)+6≤f→∀ (σ:List c5) (q s:Nat),PAt σ q s T n ps b→c4 CC 300 [.ptr q 0,(.val (.int .i64 ((d:Int))))] σ (a1j (fun a:List Int × Nat × List Ex=>(.list (a.1.map icv) (gnn a.1.length) none))
 (fun a=>if (!a.1.isEmpty)=true then (σ.set q (pbx T a.2.1 ps a.2.2 σ.length)).set s .dead++[r6 a.2.2.length] else (σ.set q (pbx T a.2.1 ps a.2.2 s)).set s (r6 a.2.2.length)) (fun a:List Int × Nat × List Ex=>a1X T (C4 T ps f) d n b=some a∧n < a.2.1∧a.2.1 < T.length∧a.2.2.length≤256∧a.1.length≤1000000) σ q s (a1X T (C4 T ps f) d n b=none))
set_option maxRecDepth 10000 in
set_option maxHeartbeats 1000000 in
theorem a6e {T:List Tok} {ps:List Str} {f:Nat} (hc:a1l T ps) (hE:∀ g,g≤f→EC T ps g) (d n:Nat) (b:List Ex) (hn:n < T.length) (hb:b.length≤256) (hd0:d≤32) (hf:8*(T.length - n)+6≤f):c4 CC 300 [.ptr 0 0,(.val (.int .i64 ((d:Int))))] (pst T n ps b) (a09 (fun a:List Int × Nat × List Ex=>(.list (a.1.map icv) (gnn a.1.length) none)) (fun a=>if (!a.1.isEmpty)=true then a2w T a.2.1 ps a.2.2 else pst T a.2.1 ps a.2.2) (fun a:List Int × Nat × List Ex=>a1X T (C4 T ps f) d n b=some a∧n < a.2.1∧a.2.1 < T.length∧a.2.2.length≤256∧a.1.length≤1000000) (a1X T (C4 T ps f) d n b=none)):=by
 have hT:=hc.len
 have hW:=hc.w
 have hsp:a1X T (C4 T ps f) d n b=a1X T (C4 T ps f) d n b:=rfl
 conv at hsp=>rhs; unfold a1X
 refine (d5 Tryz.func300 rfl rfl ?_)
 refine a7 (a6 ?_)
 refine cY j1 ?_
 refine a8 (a7 (a6 ?_))
 refine cY j1 ?_
 refine a8 (a7 (a6 ?_))
 refine cY b7 ?_
 refine cD (m8 rfl Tryz.call188 ⟨tt,rfl,tt⟩ (I7 hT hn hW [40] ⟨rfl,rfl,Nat.ne_of_beq_eq_false rfl⟩) rfl (fun x hx=>.inr ⟨x,l4,by rw [hsp,hx.1]; rfl,hx.2⟩) ?_)
 rintro n1 ⟨hs1,hn1⟩
 dsimp only at hs1 hn1 ⊢
 rw [hs1,Option.bind_some] at hsp
 have e1:=M3 hs1
 refine a8 (a7 (a7 (a6 ?_)))
 refine cY b7 ?_
 refine cD (j3 rfl Tryz.call263 ⟨tt,rfl,tt⟩ (X0 hT hn1 hW [41] ⟨rfl,rfl,Nat.ne_of_beq_eq_false rfl⟩) rfl ?_)
 rintro ⟨ac,n2⟩ ⟨ha,hn2,hn2l⟩
 dsimp only at ha hn2 hn2l ⊢
 refine a8 ?_
 refine b9 tt rfl (fun h1=>?_) (fun h1=>?_)
 ·have hc1:isT (tk T n1) 4 [41]=true:=by rw [← ha]; simpa using h1
  rw [if_pos hc1] at hn2 hsp
  refine a7 (a6 ?_)
  refine cY j1 ?_
  refine a8 (c9 ?_)
  exact ⟨_,l9 rfl tt c6,(by exact .inl ⟨([],n2,b),S5 rfl (D4 _ [] false),by rw [hsp,hn2],by dsimp only; omega,hn2l,hb,by show 0≤1000000; decide⟩)⟩
 ·have hc1:¬ isT (tk T n1) 4 [41]=true:=by rw [← ha]; simpa using h1
  rw [if_neg hc1] at hn2 hsp
  subst hn2
  refine c8 (a7 (d4 ?_))
  refine B2 hCC 2 rfl (α:=List Int × Nat × List Ex × Bool × Nat) (fun x=>[(0,.ptr 0 0),(1,(.val (.int .i64 ((d:Int))))),(5,(.list (x.1.map icv) (gnn x.1.length) (P3 x.1.length 3)))]) (fun x=>[pbx T x.2.1 ps x.2.2.1 (ka x.2.2.2.1),oa1 x.2.2.2.1 x.2.2.1.length,oa2 x.2.2.2.1 x.2.2.1.length,r6 x.1.length]) (fun x=>a1X T (C4 T ps f) d n b=(C4 T ps x.2.2.2.2).ag d x.2.1 x.2.2.1 x.1∧x.1.length≤x.2.1∧n < x.2.1∧x.2.1 < T.length∧x.2.2.1.length≤256∧x.2.2.2.2≤f∧8*(T.length - x.2.1)+7≤x.2.2.2.2) (fun x=>T.length - x.2.1) ⟨([],n2,b,false,f),[0,1,7,8],⟨hsp,Nat.zero_le _,by dsimp only; omega,hn2l,hb,Nat.le_refl _,by dsimp only; omega⟩,⟨rfl,rfl⟩,⟨⟨tt,b2x⟩,⟨tt,b2x⟩,⟨tt,b2x⟩,tt⟩,⟨.inr ⟨_,rfl,.same rfl a39⟩,.inr ⟨_,rfl,.same rfl s8⟩,.inl rfl,.inl rfl,tt⟩⟩ ?_; intro ⟨l,m,b2,ph,g⟩ ⟨hlp,hlm,hnm,hm,hb2,hgf,hg⟩
  dsimp only at hlp hlm hnm hm hb2 hgf hg ⊢
  obtain ⟨g,rfl⟩:∃ g',g=g'+1:=⟨g - 1,by omega⟩
  have hlp2:(C4 T ps (g+1)).ag d m b2 l=(G7 T ps (C4 T ps g)).ag d m b2 l:=rfl
  simp only [G7] at hlp2
  rw [hlp2] at hlp
  refine d4 (a7 (a6 ?_))
  refine cY b7 ?_; refine cY b7 ?_; refine cY b7 ?_; refine cY m9 ?_
  refine cD (m8 rfl Tryz.call231 ⟨tt,tt,tt⟩ (hE g b8 (d+1) m b2 hm hb2 b8 b8 _ 0 (ka ph) a8s) rfl (fun x hx=>.inr ⟨x,l4,by rw [hlp,hx.1]; rfl,hx.2⟩) ?_)
  rintro ⟨i3,n3,b3⟩ ⟨x3,y3,z3,w3⟩
  dsimp only at x3 y3 z3 w3 ⊢
  rw [x3,Option.bind_some] at hlp
  dsimp only at hlp
  refine p7 [pbx T n3 ps b3 4,.dead,.dead,r6 l.length,r6 b3.length] a0u ?_
  have hls:=a0L l (i3:Int)
  refine cY (y9 [icv (i3:Int)] rfl ⟨tt,tt⟩ Tryz.runUnderlying22 Tryz.sizeOf3 Tryz.zeroValue3 rfl rfl rfl rfl rfl rfl rfl rfl rfl) ?_
  refine cD (H3 rfl tt tt rfl l7 q_3 Tryz.runUnderlying22 Tryz.sizeOf3 Tryz.typeInfo3 Tryz.zeroValue3 rfl (.inr rfl) Y9 (by have hb:Tryz.t3.bytes=8:=rfl; rw [hb]; first|omega|(simp; done)|(simp; omega)) K0 ((l++[(i3:Int)]).map icv) (l++[(i3:Int)]).length l7 l7 ?_)
  refine cY c7 ?_
  refine a8 (a7 (a6 ?_))
  refine cY b7 ?_
  refine cD (j3 rfl Tryz.call263 ⟨tt,rfl,tt⟩ (X0 hT z3 hW [44] ⟨rfl,rfl,Nat.ne_of_beq_eq_false rfl⟩) rfl ?_)
  rintro ⟨ac2,m2⟩ ⟨ha2,hm2,hm2l⟩
  dsimp only at ha2 hm2 hm2l ⊢
  refine cY F6 ?_; refine a8 ?_
  refine b9 tt rfl (fun h2=>?_) (fun h2=>?_)
  ·have hc2:¬ isT (tk T n3) 4 [44]=true:=by rw [← ha2]; simpa using h2
   rw [if_neg hc2] at hm2 hlp
   subst hm2
   refine m4 (a7 (a6 ?_))
   refine cY b7 ?_
   refine cD (m8 rfl Tryz.call188 ⟨tt,rfl,tt⟩ (I7 hT hm2l hW [41] ⟨rfl,rfl,Nat.ne_of_beq_eq_false rfl⟩) rfl (fun x hx=>.inr ⟨x,l4,by rw [hlp,hx.1]; rfl,hx.2⟩) ?_)
   rintro m3 ⟨hs3,hm3⟩
   dsimp only at hs3 hm3 ⊢
   have e3:=M3 hs3
   rw [hs3,Option.bind_some] at hlp
   refine a8 (a7 (a6 ?_))
   refine cY b7 ?_; refine cY c7 ?_
   refine a8 (c9 ?_)
   exact ⟨_,l9 rfl tt c6,(by exact .inl ⟨(l++[(i3:Int)],m3,b3),b7Y (k:=4) rfl rfl j4 (fun _=>W4 (f:=icv) (fun _=>⟨.val _,tt⟩) _),hlp,by dsimp only; omega,hm3,w3,by dsimp only; omega⟩)⟩
  ·have hc2:isT (tk T n3) 4 [44]=true:=by rw [← ha2]; simpa using h2
   rw [if_pos hc2] at hm2 hlp
   subst hm2; refine c8 ?_
   exact ⟨(l++[(i3:Int)],n3+1,b3,true,g),[0,1,4,5],⟨by dsimp only; omega,hlp,by dsimp only; omega,by dsimp only; omega,hm2l,w3,by dsimp only; omega,by dsimp only; omega⟩,⟨rfl,rfl⟩,⟨⟨tt,b2x⟩,⟨tt,b2x⟩,⟨tt,b2x⟩,tt⟩,⟨.inr ⟨_,rfl,.box ⟨.old (K1 _ _ _),.old (.val _),.old (k8 _ _ _),a5f rfl,tt⟩⟩,.inl rfl,.inr ⟨_,rfl,.same rfl s8⟩,.inr ⟨_,rfl,.same rfl s8⟩,tt⟩⟩
theorem a7i {T:List Tok} {ps:List Str} {f:Nat} (hc:a1l T ps) (hE:∀ g,g≤f→EC T ps g):AC T ps f:=fun d n b hn hb hd hf σ q s hσ =>
 a1A (c:=fun a:List Int × Nat × List Ex=>(.list (a.1.map icv) (gnn a.1.length) none)) (N:=fun a=>a.2.1) (B:=fun a=>a.2.2) (Z:=fun _=>ps) (g:=fun a=>!a.1.isEmpty) (fun _ h=>by simp at h; subst h; exact .val _) (fun _=>d8 _ _) (a6e hc hE d n b hn hb hd hf) hσ
theorem a2a {C:Ctx} {ops:Array Oper} {Q:s0→Env→List c5→Prop} {S:List (List c5→Prop)} {l:List (Nat × List Nat)} {fl:List Nat} {E:Env} {σ:List c5} (τ:List c5) (h:σ=τ) (k:M9 S τ fl∧a1s C ops Q S l E τ):M9 S σ fl∧a1s C ops Q S l E σ:=h ▸ k
def kc (ph:Bool):Nat:=if ph=true then 3 else 1
def oc1 (ph:Bool) (m:Nat):c5:=if ph=true then .dead else r6 m
def oc2 (ph:Bool) (m:Nat):List c5:=if ph=true then [r6 m] else []
set_option maxRecDepth 10000 in
set_option maxHeartbeats 4000000 in
theorem b0b {T:List Tok} {ps:List Str} {f:Nat} (hc:a1l T ps) (hE:EC T ps f) (hA:AC T ps f) (hU:UC T ps f) (d n:Nat) (b:List Ex) (hn:n < T.length) (hb:b.length≤256) (hd0:d≤32) (hf:8*(T.length - n)+1≤f+1):c4 CC 286 [.ptr 0 0,(.val (.int .i64 ((d:Int))))] (pst T n ps b) (a09 (fun a:PX=>(.val (.int .i64 ((a.1:Int))))) (fun a=>a2w T a.2.1 ps a.2.2) (fun a:PX=>(C4 T ps (f+1)).fac d n b=some a∧n < a.2.1∧a.2.1 < T.length∧a.2.2.length≤256) ((C4 T ps (f+1)).fac d n b=none)):=by
 have hT:=hc.len
 have hW:=hc.w
 have hsp:(C4 T ps (f+1)).fac d n b=(G7 T ps (C4 T ps f)).fac d n b:=rfl
 simp only [G7] at hsp
 refine (d5 Tryz.func286 rfl rfl ?_)
 refine a7 (a6 ?_)
 refine cY j1 ?_
 refine a8 (a7 (a6 ?_))
 refine cY b7 ?_; refine cY b7U ?_
 refine cD (l5 rfl Tryz.zeroValue227 rfl j2 ?_)
 refine cD (i7 rfl tt tt rfl c6 Tryz.sizeOf227 j2 rfl rfl (nb rfl) ?_)
 refine a8 (a7 (d4 (a7 (a6 ?_))))
 refine cY a1Z ?_; refine cY z8 ?_; refine cY j9 ?_; refine cY c7 ?_; refine a8 ?_
 refine b9 tt rfl (fun h1=>?_) (fun h1=>?_)
 ·have u1:(tk T n).k=2:=by simpa using h1
  rw [if_pos u1] at hsp
  have hn1:=hW n hn (by rw [u1]; decide)
  refine a7 (a6 ?_)
  refine cY b7 ?_; refine cY o6 ?_; refine cY O6 ?_; refine cY z8 ?_; refine cY m9 ?_; refine cY o6 ?_; refine cY O6 ?_
  refine cD (i7 rfl tt tt rfl c6 Tryz.sizeOf3 (.inl rfl) rfl rfl (nb rfl) ?_)
  refine a8 (a7 (a6 ?_))
  refine cY b7 ?_; refine cY C7 ?_; refine cY a1Z ?_; refine cY z8 ?_; refine cY a79 ?_
  refine cD (m8 rfl Tryz.call265 ⟨tt,tt,tt,tt⟩ (Q3 hT hn1 hb (tk T n) ⟨1,(tk T n).n,0,[],[]⟩ ⟨rfl,rfl,Nat.ne_of_beq_eq_false rfl⟩) rfl (fun x hx=>.inr ⟨x,l4,by rw [hsp,N7,hx.1]; rfl,hx.2⟩) ?_)
  rintro ⟨i6,b6⟩ ⟨x6,y6⟩
  dsimp only at x6 y6 ⊢
  rw [N7,x6,Option.bind_some] at hsp
  refine cY c7 ?_
  refine a8 (c9 ?_)
  exact ⟨_,l9 rfl tt c6,b8c⟩
 ·have u1:¬ (tk T n).k=2:=by simpa using h1
  rw [if_neg u1] at hsp
  refine a7 (a6 ?_)
  refine cY b7 ?_
  refine cD (j3 rfl Tryz.call263 ⟨tt,rfl,tt⟩ (X0 hT hn hW [45] ⟨rfl,rfl,Nat.ne_of_beq_eq_false rfl⟩) rfl ?_)
  rintro ⟨ac,n2⟩ ⟨ha,hn2,hn2l⟩
  dsimp only at ha hn2 hn2l ⊢
  refine cY c7 ?_; refine a8 ?_
  refine b9 tt rfl (fun h2=>?_) (fun h2=>?_)
  ·have u2:isT (tk T n) 4 [45]=true:=by rw [← ha]; simpa using h2
   rw [if_pos u2] at hn2 hsp
   subst hn2; refine a7 ?_; refine v8 [0,1,2,3,4,5,6,7,8] 3 [0,0,0,4,12,28,60,127,255] [[0,1],[0,1],[0,1],[0,1],[],[]] (hd1l:=[0,1,2]) (tll:=[(3,[0,1]),(4,[0,1]),(5,[0,1]),(6,[0,1]),(7,[]),(8,[])]) j6 j6 rfl rfl rfl ?_; refine chf rfl x8 ?_; refine chf rfl (k7 rfl C7) ?_; refine chf rfl x8 ?_; refine y0 ?_
   refine u0 rfl rfl (m8 rfl Tryz.call225 ⟨tt,rfl,tt⟩ (a2T hT hn2l hW 2 ⟨rfl,rfl,Nat.ne_of_beq_eq_false rfl⟩) rfl (fun x hx _=>.inr ⟨x,l4,by rw [hsp,hx.1]; rfl,hx.2⟩) ?_)
   rintro ⟨p,n3⟩ ⟨s2,k2⟩
   dsimp only at s2 k2 ⊢
   rw [s2,Option.bind_some] at hsp
   dsimp only at hsp
   have e2:=a1U s2 j4
   have hpn:=hc.nn (n+1)
   rw [← a1u s2] at hpn
   have ew : -p.n=IntKind.i64.wrap (0 - p.n):=by rw [a72 b8 b8]; omega
   rw [ew] at hsp
   refine ⟨⟨A0,b3q,tt⟩,?_⟩
   refine w6 rfl (k7 rfl (a19 rfl tt rfl Tryz.runUnderlying227 rfl Tryz.isAgg3 rfl)) ⟨⟨A0,b3q,tt⟩,?_⟩
   refine w6 rfl (k7 rfl (b82 rfl tt rfl)) ⟨⟨A0,b3q,tt⟩,?_⟩
   refine w6 rfl (k7 rfl a79) ⟨⟨A0,b3q,tt⟩,?_⟩
   refine u0 rfl rfl (m8 rfl Tryz.call265 ⟨tt,tt,tt,tt⟩ (Q3 hT k2 hb (tk T n) ⟨1,IntKind.i64.wrap (0 - p.n),0,[],[]⟩ ⟨rfl,rfl,Nat.ne_of_beq_eq_false rfl⟩) rfl (fun x hx _=>.inr ⟨x,l4,by rw [hsp,N7,hx.1]; rfl,hx.2⟩) ?_)
   rintro ⟨i6,b6⟩ ⟨x6,y6⟩
   dsimp only at x6 y6 ⊢
   rw [N7,x6,Option.bind_some] at hsp
   refine ⟨tt,?_⟩
   refine w6 rfl a1e ⟨tt,?_⟩
   refine A8 (c9 ?_)
   exact ⟨_,l9 rfl tt c6,(by exact .inl ⟨(i6,n3,b6),O9 rfl rfl (nb rfl) (.val _),hsp,by dsimp only; omega,k2,y6⟩)⟩
  ·have u2:¬ isT (tk T n) 4 [45]=true:=by rw [← ha]; simpa using h2
   rw [if_neg u2] at hn2 hsp
   replace hn2:=hn2.symm
   subst hn2
   refine a7 (a6 ?_)
   refine cY b7 ?_
   refine cD (j3 rfl Tryz.call263 ⟨tt,rfl,tt⟩ (X0 hT hn hW [40] ⟨rfl,rfl,Nat.ne_of_beq_eq_false rfl⟩) rfl ?_)
   rintro ⟨ac3,n3⟩ ⟨ha3,hn3,hn3l⟩
   dsimp only at ha3 hn3 hn3l ⊢
   refine cY c7 ?_; refine a8 ?_
   refine b9 tt rfl (fun h3=>?_) (fun h3=>?_)
   ·have u3:isT (tk T n) 4 [40]=true:=by rw [← ha3]; simpa using h3
    rw [if_pos u3] at hn3 hsp
    subst hn3
    refine a7 (a6 ?_)
    refine cY b7 ?_; refine cY b7 ?_; refine cY m9 ?_
    refine cD (m8 rfl Tryz.call231 ⟨tt,tt,tt⟩ (hE (d+1) (n+1) b hn3l hb b8 b8 _ 0 1 ⟨rfl,rfl,Nat.ne_of_beq_eq_false rfl⟩) rfl (fun x hx=>.inr ⟨x,l4,by rw [hsp,hx.1]; rfl,hx.2⟩) ?_)
    rintro ⟨i4,n4,b4⟩ ⟨x4,y4,z4,w4⟩
    dsimp only at x4 y4 z4 w4 ⊢
    rw [x4,Option.bind_some] at hsp
    dsimp only at hsp
    refine p7 [pbx T n4 ps b4 3,.dead,.box (tk T n).cells,r6 b4.length] rfl ?_; refine cY c7 ?_
    refine a8 (a7 (a6 ?_))
    refine cY b7 ?_
    refine cD (m8 rfl Tryz.call188 ⟨tt,rfl,tt⟩ (I7 hT z4 hW [41] ⟨rfl,rfl,Nat.ne_of_beq_eq_false rfl⟩) rfl (fun x hx=>.inr ⟨x,l4,by rw [hsp,hx.1]; rfl,hx.2⟩) ?_)
    rintro n5 ⟨s5,k5⟩
    dsimp only at s5 k5 ⊢
    rw [s5,Option.bind_some] at hsp
    have e5:=M3 s5
    refine a8 (a7 (a6 ?_))
    refine cY b7 ?_; refine cY c7 ?_
    refine a8 (c9 ?_)
    exact ⟨_,l9 rfl tt c6,(by exact .inl ⟨(i4,n5,b4),O9 rfl rfl (nb rfl) (.val _),hsp,by dsimp only; omega,k5,w4⟩)⟩
   ·have u3:¬ isT (tk T n) 4 [40]=true:=by rw [← ha3]; simpa using h3
    rw [if_neg u3] at hn3 hsp
    replace hn3:=hn3.symm
    subst hn3
    refine a7 (a6 ?_)
    refine cY a1Z ?_; refine cY z8 ?_; refine cY j9 ?_; refine cY c7 ?_; refine a8 ?_
    refine b9 tt rfl (fun h4=>?_) (fun h4=>?_)
    ·have u4:(tk T n).k≠1:=by simpa using h4
     rw [if_pos u4] at hsp
     refine a6 ?_; refine cY C7 ?_
     exact a0f rfl rfl (F4 rfl Tryz.call190 ⟨tt,rfl,tt⟩ (F2 _ _ _) rfl (fun _ _=>.inr ⟨(_,_),l4,hsp,by simp⟩))
    ·have u4:(tk T n).k=1:=by simpa using h4
     rw [if_neg (fun h=>h u4)] at hsp
     have hn1:=hW n hn (by rw [u4]; decide)
     refine c8 (a7 (a6 ?_))
     refine cY b7 ?_; refine cY o6 ?_; refine cY O6 ?_; refine cY z8 ?_; refine cY m9 ?_; refine cY o6 ?_; refine cY O6 ?_
     refine cD (i7 rfl tt tt rfl c6 Tryz.sizeOf3 (.inl rfl) rfl rfl (nb rfl) ?_)
     refine a8 (a7 (a7 (a6 ?_)))
     refine cY V3 ?_; refine cY s7 ?_
     refine a8 (d4 (a7 (a7 (a6 ?_))))
     refine cY K8 ?_; refine cY c7 ?_; refine a8 ?_
     refine b9 tt rfl (fun h5=>?_) (fun h5=>?_)
     ·have u5:(tk T n).t=[114,101,97,100]:=by simpa using h5
      have uu:(tk T n).t=[114,101,97,100]∨(tk T n).t=[115,105,122,101]∨(tk T n).t=[104,97,115]∨(tk T n).t=[101,110,118]∨(tk T n).t=[102,108,105,112]:=.inl u5
      rw [if_pos uu] at hsp
      refine c8 ?_
      refine b9 tt rfl (fun h6=>?_) (fun h6=>?_)
      ·skip
       refine a7 (a6 ?_)
       refine cY b7 ?_; refine cY C7 ?_; refine cY b7 ?_
       refine cD (m8 rfl Tryz.call299 ⟨tt,tt,tt,tt⟩ (hU (tk T n) d (n+1) b hn1 hb hd0 b8 _ 0 1 ⟨rfl,rfl,Nat.ne_of_beq_eq_false rfl⟩) rfl (fun x hx=>.inr ⟨x,l4,by rw [hsp]; exact hx.1,hx.2⟩) ?_)
       rintro ⟨i,m,b2⟩ ⟨g1,g2,g3,g4⟩
       dsimp only at g1 g2 g3 g4 ⊢
       refine p7 [pbx T m ps b2 3,.dead,.box (tk T n).cells,r6 b2.length] rfl ?_; refine cY c7 ?_
       refine a8 (c9 ?_)
       exact ⟨_,l9 rfl tt c6,b3v⟩
      ·exact absurd u5 (by simpa using h6)
     ·have u5:¬ (tk T n).t=[114,101,97,100]:=by simpa using h5
      refine a7 (a6 ?_)
      refine cY K8 ?_; refine cY c7 ?_; refine a8 ?_
      refine b9 tt rfl (fun h7=>?_) (fun h7=>?_)
      ·have u7:(tk T n).t=[115,105,122,101]:=by simpa using h7
       have uu:(tk T n).t=[114,101,97,100]∨(tk T n).t=[115,105,122,101]∨(tk T n).t=[104,97,115]∨(tk T n).t=[101,110,118]∨(tk T n).t=[102,108,105,112]:=.inr (.inl u7)
       rw [if_pos uu] at hsp
       refine c8 ?_
       refine b9 tt rfl (fun h8=>?_) (fun h8=>?_)
       ·skip
        refine a7 (a6 ?_)
        refine cY b7 ?_; refine cY C7 ?_; refine cY b7 ?_
        refine cD (m8 rfl Tryz.call299 ⟨tt,tt,tt,tt⟩ (hU (tk T n) d (n+1) b hn1 hb hd0 b8 _ 0 1 ⟨rfl,rfl,Nat.ne_of_beq_eq_false rfl⟩) rfl (fun x hx=>.inr ⟨x,l4,by rw [hsp]; exact hx.1,hx.2⟩) ?_)
        rintro ⟨i,m,b2⟩ ⟨g1,g2,g3,g4⟩
        dsimp only at g1 g2 g3 g4 ⊢
        refine p7 [pbx T m ps b2 3,.dead,.box (tk T n).cells,r6 b2.length] rfl ?_; refine cY c7 ?_
        refine a8 (c9 ?_)
        exact ⟨_,l9 rfl tt c6,b3v⟩
       ·exact absurd u7 (by simpa using h8)
      ·have u7:¬ (tk T n).t=[115,105,122,101]:=by simpa using h7
       refine a7 (a6 ?_)
       refine cY K8 ?_; refine cY c7 ?_; refine a8 ?_
       refine b9 tt rfl (fun h9=>?_) (fun h9=>?_)
       ·have u9:(tk T n).t=[104,97,115]:=by simpa using h9
        have uu:(tk T n).t=[114,101,97,100]∨(tk T n).t=[115,105,122,101]∨(tk T n).t=[104,97,115]∨(tk T n).t=[101,110,118]∨(tk T n).t=[102,108,105,112]:=.inr (.inr (.inl u9))
        rw [if_pos uu] at hsp
        refine c8 ?_
        refine b9 tt rfl (fun h10=>?_) (fun h10=>?_)
        ·skip
         refine a7 (a6 ?_)
         refine cY b7 ?_; refine cY C7 ?_; refine cY b7 ?_
         refine cD (m8 rfl Tryz.call299 ⟨tt,tt,tt,tt⟩ (hU (tk T n) d (n+1) b hn1 hb hd0 b8 _ 0 1 ⟨rfl,rfl,Nat.ne_of_beq_eq_false rfl⟩) rfl (fun x hx=>.inr ⟨x,l4,by rw [hsp]; exact hx.1,hx.2⟩) ?_)
         rintro ⟨i,m,b2⟩ ⟨g1,g2,g3,g4⟩
         dsimp only at g1 g2 g3 g4 ⊢
         refine p7 [pbx T m ps b2 3,.dead,.box (tk T n).cells,r6 b2.length] rfl ?_; refine cY c7 ?_
         refine a8 (c9 ?_)
         exact ⟨_,l9 rfl tt c6,b3v⟩
        ·exact absurd u9 (by simpa using h10)
       ·have u9:¬ (tk T n).t=[104,97,115]:=by simpa using h9
        refine a7 (a6 ?_)
        refine cY K8 ?_; refine cY c7 ?_; refine a8 ?_
        refine b9 tt rfl (fun h11=>?_) (fun h11=>?_)
        ·have u11:(tk T n).t=[101,110,118]:=by simpa using h11
         have uu:(tk T n).t=[114,101,97,100]∨(tk T n).t=[115,105,122,101]∨(tk T n).t=[104,97,115]∨(tk T n).t=[101,110,118]∨(tk T n).t=[102,108,105,112]:=.inr (.inr (.inr (.inl u11)))
         rw [if_pos uu] at hsp
         refine c8 ?_
         refine b9 tt rfl (fun h12=>?_) (fun h12=>?_)
         ·skip
          refine a7 (a6 ?_)
          refine cY b7 ?_; refine cY C7 ?_; refine cY b7 ?_
          refine cD (m8 rfl Tryz.call299 ⟨tt,tt,tt,tt⟩ (hU (tk T n) d (n+1) b hn1 hb hd0 b8 _ 0 1 ⟨rfl,rfl,Nat.ne_of_beq_eq_false rfl⟩) rfl (fun x hx=>.inr ⟨x,l4,by rw [hsp]; exact hx.1,hx.2⟩) ?_)
          rintro ⟨i,m,b2⟩ ⟨g1,g2,g3,g4⟩
          dsimp only at g1 g2 g3 g4 ⊢
          refine p7 [pbx T m ps b2 3,.dead,.box (tk T n).cells,r6 b2.length] rfl ?_; refine cY c7 ?_
          refine a8 (c9 ?_)
          exact ⟨_,l9 rfl tt c6,b3v⟩
         ·exact absurd u11 (by simpa using h12)
        ·have u11:¬ (tk T n).t=[101,110,118]:=by simpa using h11
         refine a6 ?_; refine cY K8 ?_; refine cY c7 ?_; refine a8 ?_
         refine b9 tt rfl (fun h13=>?_) (fun h13=>?_)
         ·have u13:(tk T n).t=[102,108,105,112]:=by simpa using h13
          have uu:(tk T n).t=[114,101,97,100]∨(tk T n).t=[115,105,122,101]∨(tk T n).t=[104,97,115]∨(tk T n).t=[101,110,118]∨(tk T n).t=[102,108,105,112]:=.inr (.inr (.inr (.inr (u13))))
          rw [if_pos uu] at hsp
          refine a7 (a6 ?_)
          refine cY b7 ?_; refine cY C7 ?_; refine cY b7 ?_
          refine cD (m8 rfl Tryz.call299 ⟨tt,tt,tt,tt⟩ (hU (tk T n) d (n+1) b hn1 hb hd0 b8 _ 0 1 ⟨rfl,rfl,Nat.ne_of_beq_eq_false rfl⟩) rfl (fun x hx=>.inr ⟨x,l4,by rw [hsp]; exact hx.1,hx.2⟩) ?_)
          rintro ⟨i,m,b2⟩ ⟨g1,g2,g3,g4⟩
          dsimp only at g1 g2 g3 g4 ⊢
          refine p7 [pbx T m ps b2 3,.dead,.box (tk T n).cells,r6 b2.length] rfl ?_; refine cY c7 ?_
          refine a8 (c9 ?_)
          exact ⟨_,l9 rfl tt c6,b3v⟩
         ·have h13':¬ (tk T n).t=[102,108,105,112]:=by simpa using h13
          have un:¬ ((tk T n).t=[114,101,97,100]∨(tk T n).t=[115,105,122,101]∨(tk T n).t=[104,97,115]∨(tk T n).t=[101,110,118]∨(tk T n).t=[102,108,105,112]):=fun hh=>by rcases hh with h | h | h | h | h; exact u5 h; exact u7 h; exact u9 h; exact u11 h; exact h13' h
          rw [if_neg un] at hsp
          refine c8 (a7 (a7 (a6 ?_)))
          refine cY V3 ?_; refine cY s7 ?_; refine cY (i8 rfl Tryz.call226 ⟨tt,tt⟩ (a0l (tk T n).t _) rfl) ?_; refine a8 ?_
          refine b9 tt rfl (fun h14=>?_) (fun h14=>?_)
          ·have u14:M6 (tk T n).t=true:=by simpa using h14
           rw [if_pos u14] at hsp
           refine a6 ?_; refine cY C7 ?_
           exact a0f rfl rfl (F4 rfl Tryz.call190 ⟨tt,rfl,tt⟩ (F2 _ _ _) rfl (fun _ _=>.inr ⟨(_,_),l4,hsp,by simp⟩))
          ·have u14:¬ M6 (tk T n).t=true:=by simpa using h14
           rw [if_neg u14] at hsp
           refine c8 (a7 (a7 (a6 ?_)))
           refine cY b7 ?_; refine cY (i8 rfl Tryz.call189 ⟨tt,rfl,rfl,tt⟩ (a6Y hT hn1 4 [40] ⟨rfl,rfl,Nat.ne_of_beq_eq_false rfl⟩) rfl) ?_; refine a8 ?_
           refine b9 tt rfl (fun h15=>?_) (fun h15=>?_)
           ·have u15:isT (tk T (n+1)) 4 [40]=true:=by simpa using h15
            rw [if_pos u15] at hsp
            refine a7 ?_; refine v8 [0,1,2,3,4,5,6,7,8,9] 6 [0,0,0,4,0,0,48,124,255,511] [[0,1,2,3],[0,1],[],[]] (hd1l:=[0,1,2,3,4,5]) (tll:=[(6,[0,1,2,3]),(7,[0,1]),(8,[]),(9,[])]) j6 j6 rfl rfl rfl ?_; refine chf rfl x8 ?_; refine chf rfl (k7 rfl C7) ?_; refine chf rfl (k7 rfl V3) ?_; refine chf rfl a6n ?_; refine chf rfl x8 ?_; refine chf rfl x8 ?_; refine y0 ?_
            refine u0 rfl rfl (m8 rfl Tryz.call300 ⟨tt,tt,tt⟩ (hA d (n+1) b hn1 hb hd0 b8 _ 0 1 ⟨rfl,rfl,Nat.ne_of_beq_eq_false rfl⟩) rfl (fun x hx _=>.inr ⟨x,l4,by rw [hsp,hx.1]; rfl,hx.2⟩) ?_)
            rintro ⟨l,m,b2⟩ ⟨g1,g2,g3,g4,_⟩
            dsimp only at g1 g2 g3 g4 ⊢
            rw [g1,Option.bind_some] at hsp
            dsimp only at hsp
            generalize (!l.isEmpty)=ph
            refine a2a ([pbx T m ps b2 (kc ph),oc1 ph b2.length,.box (tk T n).cells]++oc2 ph b2.length) a0u ?_
            refine ⟨⟨A0,b3q,(by exact k7 rfl V3),a1x,tt⟩,?_⟩
            refine w6 rfl (k7 rfl b8U) ⟨⟨A0,b3q,tt⟩,?_⟩
            refine u0 rfl rfl (m8 rfl Tryz.call265 ⟨tt,tt,tt,tt⟩ (Q3 hT g3 g4 (tk T n) ⟨3,0,0,(tk T n).t,l⟩ (q:=0) (s:=kc ph) a8s) rfl (fun x hx _=>.inr ⟨x,l4,by rw [hsp,N7,hx.1]; rfl,hx.2⟩) ?_)
            rintro ⟨i6,b6⟩ ⟨x6,y6⟩
            dsimp only at x6 y6 ⊢
            rw [N7,x6,Option.bind_some] at hsp
            refine ⟨tt,?_⟩
            refine w6 rfl a1e ⟨tt,?_⟩
            refine A8 (c9 ?_)
            exact ⟨_,l9 rfl tt c6,(by exact .inl ⟨(i6,m,b6),(by cases ph; exact O9 (k:=3) rfl rfl j4 (.val _); exact O9 (k:=4) rfl rfl j4 (.val _)),hsp,by dsimp only; omega,g3,y6⟩)⟩
           ·have u15:¬ isT (tk T (n+1)) 4 [40]=true:=by simpa using h15
            rw [if_neg u15] at hsp
            refine c8 (a7 ?_)
            refine w8 8 [0,1,3,7,0,16,63,127] j6 j6 rfl ?_; refine hY b7 ?_; refine hY o6 ?_; refine hY (l8 rfl tt rfl Tryz.runUnderlying188 rfl Tryz.sizeOf26 j4) ?_; refine hY R2 ?_; refine hY V3 ?_; refine hY s7 ?_; refine hY (i8 rfl Tryz.call200 ⟨tt,tt,tt⟩ (a35 ps (gnn ps.length) (tk T n).t (by have:=hc.ps; omega) _) rfl) ?_; refine hY c7 ?_
            refine B6 (a8 (a7 (a7 (a6 ?_))))
            refine cY b7 ?_; refine cY j9 ?_; refine a8 ?_
            refine b9 tt rfl (fun h16=>?_) (fun h16=>?_)
            ·have u16:ixS ps (tk T n).t 0 < 0:=by simpa using h16
             rw [if_pos u16] at hsp
             refine a6 ?_; refine cY C7 ?_
             exact a0f rfl rfl (F4 rfl Tryz.call190 ⟨tt,rfl,tt⟩ (F2 _ _ _) rfl (fun _ _=>.inr ⟨(_,_),l4,hsp,by simp⟩))
            ·have u16:¬ ixS ps (tk T n).t 0 < 0:=by simpa using h16
             rw [if_neg u16] at hsp
             refine c8 (a7 (a6 ?_))
             refine cY b7 ?_; refine cY C7 ?_; refine cY b7 ?_; refine cY a79 ?_
             refine cD (m8 rfl Tryz.call265 ⟨tt,tt,tt,tt⟩ (Q3 hT hn1 hb (tk T n) ⟨2,ixS ps (tk T n).t 0,0,[],[]⟩ ⟨rfl,rfl,Nat.ne_of_beq_eq_false rfl⟩) rfl (fun x hx=>.inr ⟨x,l4,by rw [hsp,N7,hx.1]; rfl,hx.2⟩) ?_)
             rintro ⟨i6,b6⟩ ⟨x6,y6⟩
             dsimp only at x6 y6 ⊢
             rw [N7,x6,Option.bind_some] at hsp
             refine cY c7 ?_
             refine a8 (c9 ?_)
             exact ⟨_,l9 rfl tt c6,b8c⟩
theorem b2T {T:List Tok} {ps:List Str} {f:Nat} (hc:a1l T ps) (hE:EC T ps f) (hA:AC T ps f) (hU:UC T ps f):FC T ps (f+1):=fun d n b hn hb hd hf σ q s hσ =>
 a0q (c:=fun a:PX=>(.val (.int .i64 ((a.1:Int))))) (N:=fun a=>a.2.1) (B:=fun a=>a.2.2) (fun _ h=>by simp at h; subst h; exact .val _) (fun _=>.val _) (b0b hc hE hA hU d n b hn hb hd hf) hσ
theorem b4l {T:List Tok} {ps:List Str} (hc:a1l T ps):∀ f,(∀ g,g≤f→EC T ps g)∧(∀ g,g≤f→BC T ps g)∧(∀ g,g≤f→FC T ps g)
 | 0=>by
  refine ⟨fun g hg d n b hn _ _ hf=>?_,fun g hg lv d n b hn _ _ h4 _ hf=>?_,fun g hg d n b hn _ _ hf=>?_⟩ <;> exfalso <;> omega
 | f+1=>by
  obtain ⟨hE,hB,hF⟩:=b4l hc f
  have e1:=b5V hc (hE f (Nat.le_refl _)) (hB f (Nat.le_refl _))
  have b1:=b3b hc hB (hF f (Nat.le_refl _))
  have f1:=b2T hc (hE f (Nat.le_refl _)) (a7i hc hE) (b0L hc (hE f (Nat.le_refl _)))
  have up:∀ {P:Nat→Prop},(∀ g,g≤f→P g)→P (f+1)→∀ g,g≤f+1→P g:=fun {P} h h1 g hg=>by
   rcases Nat.lt_or_ge f g with hlt | hge
   ·rw [show g=f+1 by omega]; exact h1
   ·exact h g hge
  exact ⟨up hE e1,up hB b1,up hF f1⟩
def ixP {α:Type} (p:α→Bool):List α→Nat→Int
 | [],_=>-1
 | y::l,i=>if p y=true then i else ixP p l (i+1)
theorem b47 {α:Type} {l:List α} {i:Nat} {y:α} (h:l[i]? = some y) (p:α→Bool):ixP p (l.drop i) i=if p y=true then (i:Int) else ixP p (l.drop (i+1)) (i+1):=by
 obtain ⟨hlt,he⟩:=List.getElem?_eq_some_iff.1 h
 rw [List.drop_eq_getElem_cons hlt,he]
 rfl
theorem b1R {α:Type} (p:α→Bool):∀ (l:List α) (i:Nat),decide (0≤ixP p l i)=l.any p
 | [],_=>rfl
 | y::l,i=>by
  rw [ixP,List.any_cons]
  cases hp:p y with
  | true=>simp
  | false=>simpa using b1R p l (i+1)
set_option maxRecDepth 10000 in
theorem a7Q {g:FuncId} {caps:List CV} {p:De→Bool} (l:List De) (nn:Bool) {σ:List c5} (hl:l.length≤1000000) (hg:∀ args w,(callFunc g args).run CC.P w = .ok (.enter g args) w) (H:∀ x∈l,c4 CC g ([.agg x.cells]++caps) σ fun r σ'=>r = .ret (.val (.bool (p x)))∧σ'=σ):c4 CC 262 [(.list (l.map De.cv) nn none),.clo g caps] σ fun r σ'=>r = .ret (.val (.int .i64 (ixP p l 0)))∧σ'=σ:=by
 refine (d5 Tryz.func262 rfl rfl ?_)
 refine a7 (a6 ?_)
 refine cY j1 ?_
 refine a8 (a7 (a7 (a6 ?_)))
 refine cY b7 ?_; refine cY a6N ?_; refine cY A7 ?_
 refine a8 (d4 ?_)
 refine O1 (α:=Nat) (fun i=>[(0,(.list (l.map De.cv) nn none)),(1,(.clo g caps)),(7,(.val (.int .i64 ((l.length:Int))))),(8,(.val (.int .i64 ((i:Int)))))]) (fun _=>σ) (fun i=>i≤l.length∧ixP p l 0=ixP p (l.drop i) i) (fun i=>l.length - i) 0 ⟨Nat.zero_le _,rfl⟩ ⟨⟨tt,rfl⟩,⟨tt,rfl⟩,⟨tt,rfl⟩,⟨tt,rfl⟩,tt⟩ rfl ?_; intro i E0 ⟨hi,hr⟩
 refine a7 (a6 ?_)
 refine cY r9 ?_
 refine a8 (a7 ?_)
 refine b9 tt rfl (fun h1=>?_) (fun h1=>?_)
 ·have hlt:(i:Int) < l.length:=by simpa using h1
  obtain ⟨y,hb⟩:∃ y,l[i]? = some y:=⟨l[i]'b8,by simp⟩
  rw [b47 hb] at hr
  refine c8 (a7 (d4 (a7 (a6 ?_))))
  refine cY b7 ?_; refine cY c7 ?_
  refine a8 (a7 (a6 ?_))
  refine cY b7 ?_; refine cY b7 ?_; refine cY b7 ?_; refine cY (r5 rfl tt tt rfl rfl Tryz.runUnderlying67 Tryz.sizeOf117 b8 (m7 hb) rfl) ?_; refine cY a6H ?_; refine cY (a6A rfl tt rfl hg ⟨tt,tt⟩ (H y (List.mem_of_getElem? hb)) rfl) ?_; refine a8 ?_
  refine b9 tt rfl (fun h2=>?_) (fun h2=>?_)
  ·have hx:p y=true:=by simpa using h2
   rw [if_pos hx] at hr
   refine a7 (a6 ?_)
   refine cY b7 ?_; refine cY c7 ?_
   refine a8 (c9 ?_)
   exact ⟨_,l9 rfl tt c6,(by exact ⟨by rw [hr],rfl⟩)⟩
  ·have hx:¬ p y=true:=by simpa using h2
   rw [if_neg hx] at hr
   refine c8 (a6 ?_)
   refine cY m9 ?_; refine cY b7 ?_; refine a8 ?_
   exact ⟨(i+1),b8,⟨by omega,hr⟩,⟨⟨tt,rfl⟩,⟨tt,rfl⟩,⟨tt,rfl⟩,⟨tt,rfl⟩,tt⟩,rfl⟩
 ·have hge:i=l.length:=by
   have:¬ (i:Int) < l.length:=by simpa using h1
   omega
  refine m4 (a7 (a6 ?_))
  refine cY j1 ?_
  refine a8 (c9 ?_)
  exact ⟨_,l9 rfl tt c6,(by exact ⟨by rw [hr,hge,List.drop_length]; rfl,rfl⟩)⟩
set_option maxRecDepth 10000 in
theorem a4A {g:FuncId} {caps:List CV} {p:De→Bool} (l:List De) (nn:Bool) {σ:List c5} (hl:l.length≤1000000) (hg:∀ args w,(callFunc g args).run CC.P w = .ok (.enter g args) w) (H:∀ x∈l,c4 CC g ([.agg x.cells]++caps) σ fun r σ'=>r = .ret (.val (.bool (p x)))∧σ'=σ):c4 CC 228 [(.list (l.map De.cv) nn none),.clo g caps] σ fun r σ'=>r = .ret (.val (.bool (l.any p)))∧σ'=σ:=by
 refine (d5 Tryz.func228 rfl rfl ?_)
 refine a7 (a6 ?_)
 refine cY j1 ?_
 refine a8 (a7 (a6 ?_))
 refine cY b7 ?_; refine cY b7 ?_; refine cY (i8 rfl Tryz.call262 ⟨tt,tt,tt⟩ (a7Q l nn hl hg H) rfl) ?_; refine cY j9 ?_; refine cY c7 ?_
 refine a8 (c9 ?_)
 exact ⟨_,l9 rfl tt c6,(by exact ⟨by rw [← b1R p l 0],rfl⟩)⟩
theorem W5 {α:Type} {σ:List α} {q:Nat} {x:α} (h:σ[q]? = some x) (l:List α):(σ++l)[q]? = some x:=by
 rw [List.getElem?_append_left (List.getElem?_eq_some_iff.1 h).1]; exact h
theorem b1I {α:Type} (σ:List α) (x:α):(σ++[x])[σ.length]? = some x:=by simp
set_option maxRecDepth 10000 in
theorem b4c (x:De) (t:Tok) (kd:Int) {σ:List c5} {q s:Nat} (hq:σ[q]? = some (.box [(.val (.int .i64 (kd)))])) (hs:σ[s]? = some (.box t.cells)):c4 CC 229 ([.agg x.cells]++[.ptr q 0,.ptr s 0]) σ fun r σ'=>r = .ret (.val (.bool ((x.k == kd) && decide (x.name=t.t))))∧σ'=σ:=by
 refine j8 (d5 Tryz.func229 rfl rfl ?_)
 refine a7 (a6 ?_)
 refine cD (A4 rfl tt c6 j2 ?_)
 refine cY j1 ?_
 refine a8 (a7 (a6 ?_))
 refine cY a6o ?_; refine cY b8T ?_; refine cY b8T ?_; refine cY r9 ?_; refine cY b7 ?_; refine cG (fun hg=>l8 rfl tt rfl Tryz.runUnderlying117 rfl Tryz.sizeOf9 j4) ?_; refine cG b84 ?_; refine cG b6E ?_; refine cG b84 ?_; refine cG a3x ?_; refine cY t8 ?_; refine cY c7 ?_
 refine a8 (c9 ?_)
 exact ⟨_,l9 rfl tt c6,_,_,rfl,rfl,m5 rfl⟩
end Go.Proofs.YtoblbdedgjfeaaaGreatDoor
