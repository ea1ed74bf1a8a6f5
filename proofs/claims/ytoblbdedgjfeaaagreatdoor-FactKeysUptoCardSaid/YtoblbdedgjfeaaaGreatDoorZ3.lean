/- Part 3 of what the claim needs: values without addresses, and what the program's functions do with them. -/
import Derived.Sort.Grow
import Derived.Deep.Draws
import Derived.Lib.LaidTab
import Derived.Lib.MakeNoZero
import Derived.Shelf.Lays
import Derived.Sort.AssemblyPlain
import Derived.Sort.EveryDepth
import Derived.Shelf.Sort.WalkASIn
import Derived.Shelf.Sort.Walk7sIn
import Derived.Shelf.Sort.Walk11sIn
import Derived.Shelf.Sort.WalkC5sIn
import Derived.Shelf.Sort.WalkC4sIn
import Derived.Shelf.Sort.WalkB3sIn
import Derived.Shelf.Sort.Walk13sIn
import Derived.Shelf.Sort.WalkTopsIn
import Derived.Shelf.Sort.So_math_bits_LenInS
import Derived.Shelf.RegionOpen
import Derived.Shelf.AbstractIn
import Derived.Shelf.SlSortCmp.NoneTotal
import Derived.Test.YtoblbdedgjfeaaaGreatDoorProg
import Derived.Test.YtoblbdedgjfeaaaGreatDoorZ2
namespace Go.Cl
open Go.Sort
theorem a1f {C:Ctx} {M:l3} {σ:List c5} {w:World} (hr:Rel C M σ w) (k:Nat) (os:Array Obj):Ext M w M (grow (w.drewN k) os)∧Rel C M σ (grow (w.drewN k) os):=by
 have hold:∀ b,b < w.heap.size→(grow (w.drewN k) os).heap[b]? = w.heap[b]?:=fun b hb=>by
  show (w.heap++os)[b]? = _
  exact Array.getElem?_append_left hb
 have hsz:w.heap.size≤(grow (w.drewN k) os).heap.size:=by
  show w.heap.size≤(w.heap++os).size
  rw [Array.size_append]; omega
 have hx:Ext M w M (grow (w.drewN k) os):=⟨⟨[],by simp⟩,fun _ h=>h,fun _ _ h=>.inr h,fun b h=>hold b (hr.blk b 0 (.inl h)),fun b o h=>B5 (hold b (hr.blk b o (.inr h))),hsz,G5,rfl,rfl,rfl,fun b h=>⟨h,hold b (hr.kep b h),id,fun _=>id⟩⟩
 refine ⟨hx,hr.len,fun b o h=>Nat.lt_of_lt_of_le (hr.blk b o h) hsz,fun j p ob hp hs=>?_,hr.inj,fun g cells hg=>(hr.glob g cells hg).mono hx,fun b h=>Nat.lt_of_lt_of_le (hr.kep b h) hsz,hr.nk⟩
 obtain ⟨h1,h2⟩:=hr.obj j p ob hp hs
 refine ⟨?_,h2⟩
 by_cases hl:ob.live=true
 ·exact h1.mono hx (hold _ (h1.lt hl)) (fun _ _ _ _ h=>h)
 ·cases ob <;> first | trivial | simp [c5.live] at hl
theorem a49 {C:Ctx} {f:FuncId} {args:List CV} {v:Value} (h:∀ (M:l3) (σ:List c5) (w:World) (vs:Array Value),Rel C M σ w→vs.size=args.length→(∀ (i:Nat) (c:CV),args[i]? = some c→RV M w c (vs.getD i undef)) →
 Calls C.P f vs w fun e w'=>e = .returned v∧∃ k os,w'=grow (w.drewN k) os) (σ:List c5):b8 C f args σ fun r σ'=>r = .ret (.val v)∧σ'=σ:=fun M w vs hr hn hx=>by
 refine (h M σ w vs hr hn hx).mono fun e w' ⟨he,k,os,hw⟩=>?_; subst he hw
 obtain ⟨h1,h2⟩:=a1f hr k os
 exact ⟨_,_,_,h1,h2,.val _,rfl,rfl⟩
theorem GV.tab {C:Ctx} {M:l3} {w:World} {name:String} {g:Nat} {k:IntKind} {zs:List Int} (hg:GV M w (zs.map fun z=>.val (.int k z)) g) (hn:C.P.globalNamed name=some g):Lib.TabIs C.P w name k zs:=by
 obtain ⟨arr,ty,fr,h1,h2⟩:=hg.sz
 have he:arr=(zs.map fun z=>Value.int k z).toArray:=by
  have hc:=hg.rv
  generalize hv:Value.pointer (some ⟨g,0,none⟩)=v at hc
  cases hc with
  | cptr vals q1 q2 q3 =>
   injection hv with hv
   injection hv with hv
   injection hv with e1 e2 e3
   subst e1; refine Array.ext_getElem? fun i=>?_
   by_cases hi:i < zs.length
   ·have hci:(zs.map fun z=>CV.val (.int k z))[i]? = some (.val (.int k zs[i])):=by rw [List.getElem?_map,List.getElem?_eq_getElem hi]; rfl
    have hz:=(q2 i _ hci).2
    have hy:=n8 (q3 i _ hci)
    rw [hy] at hz
    simp only [← e2,Nat.zero_add] at hz
    simp only [World.cell?,h1,Option.isSome_none,Bool.false_eq_true,if_false] at hz
    rw [hz]
    simp [hi]
   ·have:arr.size≤i:=by rw [h2]; simp; omega
    rw [Array.getElem?_eq_none this,Array.getElem?_eq_none (by simp; omega)]
 unfold Lib.TabIs World.var?
 rw [hn]
 simp only [Option.bind_some,h1,he]
end Go.Cl
namespace Go.Cl
section
variable {C:Ctx} {σ:List c5} {E:Env} {o:Oper}
theorem a60 {f : FuncId} {fn : Func} {ps : Array TypeId} {t e : TypeId} {ts : Array TypeId} {x : Operand} {n : Nat} {K : v7 → List c5 → Prop} (ho : o.op = .call { callee := .value (.func f), args := #[x], argTypes := ts }) (hf : C.P.funcs[f]? = some fn) (hname : (fn.name == "runtime.NumGoroutine") = false) (hb : fn.body.isNone = true) (hn : Extern.findNext fn = none) (he : Extern.find fn = some (Extern.BytealgMakeNoZero.makeNoZero ps #[t]))
 (ht:C.P.underlying t=some (.slice e)) (hx:E.valid x) (ex:E.val C x = .val (.int .i64 n)) (hn0:n≤140737488355328) (h:K (.ret (.vec σ.length 0 n)) (σ++[.tipT (some e) 0])):C2 C σ E o K:=fun M w ρ hr hh=>by
 have h1:=n8 (ex ▸ hh x (by simp [ho,Op.operands,Call.operands]) hx)
 have hfn:=n8 (hh (.func f) (by simp [ho,Op.operands,Call.operands]) tt)
 obtain ⟨cs,hrun,hle,hmax⟩:=Lib.run_makeNoZero (P:=C.P) w ps t e ht n (by omega)
 have hc:=V2 (args:=#[.int .i64 n]) (v:=.slice (some ⟨w.heap.size,0,none⟩) n cs.size) (w:=w) hf hname hb hn he
 have hcall:(callFunc f #[.int .i64 n]).run C.P w = .ok (.value (.slice (some ⟨w.heap.size,0,none⟩) n cs.size)) (w.drew.drew.alloc (.cells cs e)):=by
  simp only [callFunc,Sem.run_bind,run_program,Result.andThen_ok,hf,hname,hb,hn,he]
  simp [hrun]
 have hex:(execOp ρ o).run C.P w = .ok (.value (.slice (some ⟨w.heap.size,0,none⟩) n cs.size)) (w.drew.drew.alloc (.cells cs e)):=by
  simp [execOp,ho,resolve,hfn,h1,Deferred.ofValue,invoke,hcall]
 rw [hex]
 obtain ⟨hr1,hx1⟩:=hr.drewN
 obtain ⟨hr2,hx2⟩:=hr1.drewN
 have hcm:cs.size≤maxLen:=hmax (by unfold maxLen; omega)
 have hx3:=Ext.alloc hr2 ⟨w.heap.size,cs.size,1⟩ (.cells cs e)
 have hr3:=hr2.alloc ⟨w.heap.size,cs.size,1⟩ (.cells cs e) (.tipT (some e) 0) rfl ⟨Nat.zero_le _,hcm,⟨fun o' ho'=>by have:=hr2.blk _ _ (.inr ho'); simp only at this; exact absurd this (Nat.lt_irrefl _),fun _=>rfl⟩,cs,e,s9 _ _,by simp⟩
 refine ⟨_,_,_,(hx1.trans hx2).trans hx3,hr3,?_,h⟩
 have hp:(M.add ⟨w.heap.size,cs.size,1⟩).pl[σ.length]? = some ⟨w.heap.size,cs.size,1⟩:=by simp [l3.add,← hr.len]
 have:=RV.vec (w:=w.drew.drew.alloc (.cells cs e)) (off:=0) (len:=n) (a:=⟨w.heap.size,0,none⟩) hp (by simpa using hle) hcm (fun _=>by simp)
 simpa using this
theorem a89 {t e:TypeId} {x v:Operand} {k n s:Nat} {kd:IntKind} (ho:o.op = .slice t x none (some v) none) (hx:E.valid x) (hv:E.valid v) (ex:E.val C x = .vec k 0 n) (ev:E.val C v = .val (.int kd 0)) (hn:1≤n) (hu:∀ w,(underlying t).run C.P w = .ok (.slice e) w) (hs:∀ w,(sizeOf e).run C.P w = .ok s w):m6 C σ E o (.list [] true (some k)) :=
 j7 fun M w ρ hr hh=>by
  have hx':=hh x (by simp [ho,Op.operands]) hx
  have hv':=n8 (ev ▸ hh v (by simp [ho,Op.operands]) hv)
  rw [ex] at hx'
  generalize hw:ρ x=u at hx'
  cases hx' with
  | vec hp g1 g2 g3 =>
   rename_i p a
   have hc:0 < p.cap:=by omega
   have ha:=g3 hc
   rw [Nat.zero_mul] at ha
   subst ha
   have hb:(Instr.sliceBounds true n (p.cap - 0) none (some (.int kd 0)) none).run C.P w = .ok (0,0,p.cap - 0) w:=by
    simp [Instr.sliceBounds,Instr.sliceBound,asIntOf]
   have hne:¬ p.cap=0:=by omega
   have hrun:(execOp ρ o).run C.P w = .ok (.value (.slice (some ⟨p.block,0,none⟩) 0 p.cap)) w:=by
    simp only [Nat.sub_zero] at hb hw
    simp [execOp,ho,Instr.sliceAt,Instr.slice,hu,hw,hv',hb,hs,hne,J8]
   refine ⟨_,hrun,?_⟩
   exact RV.list' (L:=0) (b:=p.block) (off:=0) (s:=0) rfl (fun _ _=>undef) (Nat.zero_le _) g2 rfl (fun h=>by cases h) (fun _=>rfl) (fun r hr=>by simp at hr) (fun r hr=>by simp at hr) (fun i j r c hi=>by simp at hi) (fun i j r c hi=>by simp at hi) (fun k' hk'=>by
    injection hk' with hk'
    subst hk'
    exact ⟨p.size,hp,rfl,rfl,fun h=>absurd rfl h⟩)
theorem b7u {t t' e:TypeId} {x y:Operand} {tok:Option Nat} {s:Nat} {K:v7→List c5→Prop} (ho:o.op = .call { callee:=.builtin .copy,args:=#[x,y],argTypes:=#[t,t']}) (hx:E.valid x) (hy:E.valid y) (ex:E.val C x = .list [] true tok) (ey:E.val C y = .list [] false none)
 (hu:∀ w,(underlying t).run C.P w = .ok (.slice e) w) (hs:∀ w,(sizeOf e).run C.P w = .ok s w) (h:K (.ret (.val (.int .i64 0))) σ):C2 C σ E o K:=fun M w ρ hr hh=>by
 have h1:=hh x (by simp [ho,Op.operands,Call.operands]) hx
 have h2:=hh y (by simp [ho,Op.operands,Call.operands]) hy
 rw [ex] at h1
 rw [ey] at h2
 obtain ⟨a,cap,b,off,s1,vals,hv,_,_,hnn,_⟩:=h1.list_inv
 obtain ⟨a2,cap2,b2,off2,s2,vals2,hv2,_,_,hnn2,_⟩:=h2.list_inv
 have ha2:a2=none:=by cases a2 <;> first|rfl | simp at hnn2
 obtain ⟨a1,ha1⟩:∃ a1,a=some a1:=by cases a with | none=>simp at hnn | some a=>exact ⟨a,rfl⟩
 subst ha2 ha1
 have hrun:(execOp ρ o).run C.P w = .ok (.value (.int .i64 0)) w:=by
  simp [execOp,ho,resolve,invoke,builtin,hv,hv2,Builtin.copy_,Builtin.lenOf,Builtin.firstCells,hu,hs,storeCells,goInt]
 rw [hrun]
 exact ⟨_,_,_,Ext.refl _ _,hr,.val _,h⟩
theorem b5z {t e:TypeId} {x:Operand} (ho:o.op = .call { callee:=.builtin .cap,args:=#[x],argTypes:=#[t]}) (hx:E.valid x) (ex:E.val C x = .list [] false none) (hu:∀ w,(underlying t).run C.P w = .ok (.slice e) w):m6 C σ E o (.val (.int .i64 0)) :=
 j7 fun M w ρ _ h=>by
  have h1:=h x (by simp [ho,Op.operands,Call.operands]) hx
  rw [ex] at h1
  obtain ⟨a,cap,b,off,s,vals,hv,_,_,_,hn0,_⟩:=h1.list_inv
  have:=hn0 rfl
  subst this
  exact ⟨.int .i64 0,by simp [execOp,ho,resolve,invoke,builtin,Builtin.cap_,hu,hv,goInt],.val _⟩
theorem b7k {t t2 e:TypeId} {x y:Operand} {new:Str} {p:Nat} {ti:TypeInfo} {z:Value} {K:v7→List c5→Prop} (ho:o.op = .call { callee:=.builtin .append,args:=#[x,y],argTypes:=#[t,t2]}) (hx:E.valid x) (hy:E.valid y) (ex:E.val C x = .list [] true (some p))
 (hsrc:∀ M w v,Rel C M σ w→RV M w (E.val C y) v→b0U C w M (new.map bcv) 1 v) (hu:∀ w,(underlying t).run C.P w = .ok (.slice e) w) (hs:∀ w,(sizeOf e).run C.P w = .ok 1 w) (hti:∀ w,(typeInfo e).run C.P w = .ok ti w) (hz:∀ w,(zeroValue e).run C.P w = .ok z w) (hzs:z.cells.size=1)
 (hu2:(∀ w,(underlying t2).run C.P w = .ok (.slice e) w)∨∀ w,(underlying t2).run C.P w = .ok .string w) (hb1:ti.bytes=1)
 (happ:σ[p]? = some (.tipT (some e) 0)) (hne:new≠[]) (hb:new.length≤140737488355328)
 (hk:K (.ret (Y5 new σ.length)) (σ.set p .dead++[r2 e new.length])):C2 C σ E o K:=by
 have hne':new.map bcv≠[]:=by simpa using hne
 refine a4q ho hx hy ex hsrc hu hs hti hz hzs hu2 (.inr rfl) (fun _=>rfl) (.inr ⟨rfl,rfl,p,rfl,happ⟩) (by simp) hne' (by rw [hb1]; simp only [List.length_map,List.length_nil]; omega) (by simp only [List.length_map,List.length_nil]; omega) ?_
 rcases new with _ | ⟨c,new⟩
 ·exact absurd rfl hne
 ·have e1:([]:List (List CV)).length+((c::new).map bcv).length=new.length+1:=by simp
  rw [e1,List.nil_append]
  exact hk
end
end Go.Cl
namespace Go.Cl
section
variable {C:Ctx} {σ:List c5} {E:Env} {o:Oper}
theorem wr8 {z:Int} (h0:0≤z) (h1:z < 256):IntKind.u8.wrap z=z:=by
 have:z%256=z:=Int.emod_eq_of_lt h0 h1
 simp [IntKind.wrap,IntKind.signed,IntKind.bits]
 omega
theorem b97 {t t':TypeId} {x y:Operand} {a b:Nat} (ho:o.op = .binOp .or t x y t') (hx:E.valid x) (hy:E.valid y) (ex:E.val C x = .val (.int .u8 (a:Int))) (ey:E.val C y = .val (.int .u8 (b:Int))) (ha:a < 256) (hb:b < 256):m6 C σ E o (.val (.int .u8 ((a ||| b:Nat):Int))) :=
 j7 fun M w ρ _ h=>by
  have h1:=h x (by simp [ho,Op.operands]) hx
  have h2:=h y (by simp [ho,Op.operands]) hy
  rw [ex] at h1
  rw [ey] at h2
  have e1:∀ n:Nat,n < 256→(BitVec.ofInt 8 (n:Int)).toNat=n:=fun n hn=>by
   rw [BitVec.ofInt_natCast,BitVec.toNat_ofNat]; exact Nat.mod_eq_of_lt (by omega)
  have e2:a ||| b < 2^8:=Nat.or_lt_two_pow (by omega) (by omega)
  have e3:(BitVec.ofInt IntKind.u8.bits (a:Int) ||| BitVec.ofInt IntKind.u8.bits (b:Int)).toNat=a ||| b:=by
   show (BitVec.ofInt 8 (a:Int) ||| BitVec.ofInt 8 (b:Int)).toNat=_
   rw [BitVec.toNat_or,e1 a ha,e1 b hb]
  have e4:(Op.intBits .or .u8 (a:Int) (b:Int)).run C.P w = .ok (.int .u8 ((a ||| b:Nat):Int)) w:=by
   unfold Op.intBits
   simp only [Sem.run_pure,e3]
   rw [wr8 (by omega) (by omega)]
  refine ⟨_,?_,.val _⟩
  simp [execOp,ho,n8 h1,n8 h2,eqGuard,binOp,e4]
theorem b79 {t t':TypeId} {x y:Operand} {k k':IntKind} {a b:Int} {m:Nat} (ho:o.op = .binOp .shr t x y t') (hx:E.valid x) (hy:E.valid y) (ex:E.val C x = .val (.int k a)) (ey:E.val C y = .val (.int k' (m:Int))) (hk:m≤k.bits) (hb:a / 2^m=b):m6 C σ E o (.val (.int k b)) :=
 j7 fun M w ρ _ h=>by
  have h1:=h x (by simp [ho,Op.operands]) hx
  have h2:=h y (by simp [ho,Op.operands]) hy
  rw [ex] at h1
  rw [ey] at h2
  refine ⟨.int k b,?_,.val _⟩
  have e:min (m:Int).toNat k.bits=m:=by rw [Int.toNat_natCast]; omega
  have h0:¬ ((m:Int) < 0):=by omega
  have e2:a.fdiv (2^m)=b:=by
   have:(0:Int)≤2^m:=Int.le_of_lt (Int.pow_pos (by decide))
   rw [Int.fdiv_eq_ediv_of_nonneg _ this,hb]
  have e3:min m k.bits=m:=by omega
  simp [execOp,ho,n8 h1,n8 h2,eqGuard,binOp,Op.shift,e3,e2]
  intro h
  omega
end
end Go.Cl
namespace Go.Cl
section
variable {C:Ctx} {σ:List c5} {E:Env} {o:Oper}
theorem b63 {t e:TypeId} {x:Operand} {v z:Value} {K:v7→List c5→Prop} (ho:o.op = .buildSlice t 1 #[(0,x)]) (hx:E.valid x) (ex:E.val C x = .val v) (hv:v.oneCell'=true) (hu:∀ w,(underlying t).run C.P w = .ok (.slice e) w) (hs:∀ w,(sizeOf e).run C.P w = .ok 1 w) (hz:∀ w,(zeroValue e).run C.P w = .ok z w) (hz1:z.oneCell'=true)
 (hk:K (.ret (.vec σ.length 0 1)) (σ++[.vec 1 [[.val v]]])):C2 C σ E o K:=fun M w ρ hr hh=>by
 have h1:=n8 (ex ▸ hh x (by simp [ho,Op.operands]) hx)
 have hvc:v.cells = #[v]:=by cases v <;> first|rfl | simp [Value.oneCell'] at hv
 have hzc:z.cells = #[z]:=by cases z <;> first|rfl | simp [Value.oneCell'] at hz1
 have hrun:(execOp ρ o).run C.P w = .ok (.value (.slice (some ⟨w.heap.size,0,none⟩) 1 1)) (w.alloc (.cells #[v] e)):=by
  have er:Array.range 1 = #[0]:=rfl
  simp only [execOp,ho,Instr.buildSlice,Sem.run_bind,hu,Result.andThen_ok,hs,hz]
  simp [er,Instr.fill,newRow,h1,hvc,hzc,hz]
 rw [hrun]
 have hx2:=Ext.alloc hr ⟨w.heap.size,1,1⟩ (.cells #[v] e)
 have hr2:=hr.alloc ⟨w.heap.size,1,1⟩ (.cells #[v] e) (.vec 1 [[.val v]]) rfl ⟨rfl,Nat.le_refl _,by unfold maxLen; simp,fun r hr=>by simp at hr; subst hr; rfl,fun r hr c hc=>by simp at hr; subst hr; simp at hc; subst hc; exact hv,#[v],e,s9 _ _,rfl,fun i j r c hi hj=>by
  rcases i with _ | i
  ·injection hi with hi
   subst hi
   rcases j with _ | j
   ·injection hj with hj
    subst hj
    exact .val _
   ·simp at hj
  ·simp at hi⟩
 refine ⟨_,_,_,hx2,hr2,?_,hk⟩
 have hp:(M.add ⟨w.heap.size,1,1⟩).pl[σ.length]? = some ⟨w.heap.size,1,1⟩:=by simp [l3.add,← hr.len]
 have:=RV.vec (w:=w.alloc (.cells #[v] e)) (off:=0) (len:=1) (a:=⟨w.heap.size,0,none⟩) hp (Nat.le_refl _) (by unfold maxLen; simp) (fun _=>by simp)
 simpa using this
end
end Go.Cl
namespace Go.Proofs
open Go.Shelf Go.Sort
theorem a9F {P:Program} {ρ:Ren} (Ly:Lays.n190 P ρ) (blk off cap:Nat) (ss:List (List UInt8)) (w:World) (hH:Holds encStr w blk off ss.toArray) (hb:blk < w.heap.size) (hn:ss.length < 4611686018427387904) :
 Calls P (ρ.f 190) #[.slice (some ⟨blk,off,none⟩) ss.length cap] w fun e w'=>e = .returned (.tuple #[])∧∃ n os,w'=grow (putRow encStr (Sort.ahead w n) blk off (ss.mergeSort fun x y=>decide (x≤y)).toArray) os :=
 calls_of_every_depth fun D=>by
  have parts:Any.Callees13sIn P ρ D:={
   heap:=AnyS.heapSort_stringIn { Ly with} D,rev:=AnyS.reverseRange_stringIn { Ly with} D,ins:=AnyS.insertionSort_strIn { Ly with} D,brk:=AnyS.breakPatterns_strIn { Ly with} D,
   piv:=AnyS.choosePivot_strIn { Ly with} D,par:=AnyS.partialInsertionSort_strIn { Ly with} D,peq:=AnyS.partitionEqualOrdered_stringIn { Ly with} D,prt:=AnyS.partitionOrdered_stringIn { Ly with} D}
  have laws:Plain13s:={ swo:=swo_ltStr,ins:=insertionSort_holds,par:=partialInsertionSort_holds,prt:=partition_holds _,peq:=partitionEqual_holds _,pdq:=pdq_sorts _}
  have quick:Any.pdqWalkIn_str P ρ D:=fun rm b' o' c' x y lim d w' h1 h2 h3 h4 h5 h6 h7 h8=>AnyS.pdqsort_stringIn { Ly with} D parts laws (y - x+1) rm b' o' c' x y lim d w' (by omega) h1 h2 h3 h4 h5 h6 h7 h8
  have lens:Any.lenWalkInS P ρ D:=fun n w' h=>by
   have h1:=AnyS.bits_LenInS { Ly with} D (n:Int) w' (by omega) (by omega)
   rwa [Int.toNat_natCast,bitLen_eq _ (by omega)] at h1
  have h:=AnyS.Sort_strIn { Ly with} D quick lens blk off cap ss.toArray w hH hb (by simpa using hn)
  rw [← sortStr ss]
  simpa using h
end Go.Proofs
namespace Go.Cl
open Go.Sort Go.Proofs
def Y7 (ss:List Str):List Str:=ss.mergeSort fun x y=>decide (x≤y)
theorem b7f {w:World} {b:Nat} {arr:Array Value} {ty:TypeId} {fr:Nat × Nat} {d:Array (List UInt8)} (h:w.heap[b]? = some (.cells arr ty fr)):putRow encStr w b 0 d=World.putObj w b (.cells (putCells encStr 0 d arr) ty fr):=by
 have hb:b < w.heap.size:=(Array.getElem?_eq_some_iff.1 h).1
 have hg:w.heap[b] = .cells arr ty fr:=(Array.getElem?_eq_some_iff.1 h).2
 unfold putRow mapBlock World.putObj
 congr 1
 apply Array.ext_getElem?
 intro i
 rw [Array.getElem?_modify,Array.getElem?_setIfInBounds]
 by_cases hi:b=i
 ·subst hi
  simp [hb,hg,onCells]
 ·simp [hi]
theorem b6S {d:Array (List UInt8)} {arr:Array Value} {i:Nat} (hi:i < d.size) (ha:i < arr.size):(putCells encStr 0 d arr).getD i undef=encStr d[i]:=by
 unfold putCells
 rw [Array.getD_eq_getD_getElem?,Array.getElem?_mapIdx,Array.getElem?_eq_getElem ha]
 simp [hi]
theorem b4x {C:Ctx} {f:FuncId} (hcall:∀ (blk off cap:Nat) (ss:List (List UInt8)) (w:World),Holds encStr w blk off ss.toArray→blk < w.heap.size→ss.length < 4611686018427387904 →
 Calls C.P f #[.slice (some ⟨blk,off,none⟩) ss.length cap] w fun e w'=>e = .returned (.tuple #[])∧∃ n os,w'=grow (putRow encStr (Sort.ahead w n) blk off (ss.mergeSort fun x y=>decide (x≤y)).toArray) os)
 {σ:List c5} {k:Nat} {ss:List Str} (hne:ss≠[]) (hlen:ss.length < 4611686018427387904) (hk:σ[k]? = some (.vec 1 (ss.map fun s=>[sv s]))):b8 C f [.vec k 0 ss.length] σ fun r τ=>r = .ret (.tup [])∧τ=σ.set k (.vec 1 ((Y7 ss).map fun s=>[sv s])):=fun M w vs hr hn hx=>by
 have hl:0 < ss.length:=List.length_pos_iff.2 hne
 have h0:=hx 0 _ rfl
 have hs:vs.size=1:=hn
 obtain ⟨v,rfl⟩:∃ v,vs = #[v]:=⟨vs[0]'(by omega),Array.ext (by simp [hs]) fun i h1 h2=>by
  have:i=0:=by omega
  subst this
  simp⟩
 have h0:RV M w (.vec k 0 ss.length) v:=h0
 cases h0 with
 | vec hp g1 g2 g3 =>
  rename_i p a
  obtain ⟨⟨e0,e1,e2,e3,e4,arr,ty,e5,e6,e7⟩,hf,hcl⟩:=hr.obj k p _ hp hk
  rw [List.length_map] at e1
  rw [e0,Nat.mul_one] at e6
  have ha:=g3 (by omega)
  rw [Nat.zero_mul] at ha
  subst ha
  have hb:p.block < w.heap.size:=(Array.getElem?_eq_some_iff.1 e5).1
  have hget:∀ j (hj:j < ss.length),arr.getD j undef=encStr ss[j]:=fun j hj=>by
   have h1:(ss.map fun s=>[sv s])[j]? = some [sv ss[j]]:=by rw [List.getElem?_map,List.getElem?_eq_getElem hj]; rfl
   have:=n8 (e7 j 0 _ _ h1 rfl)
   rw [e0,Nat.mul_one,Nat.add_zero] at this
   exact this
  have hH:Holds encStr w p.block 0 ss.toArray:=fun j hj=>by
   have hj':j < ss.length:=by simpa using hj
   have hja:j < arr.size:=by omega
   refine ⟨?_,by simp [World.frozen?,e5]⟩
   have:=hget j hj'
   rw [Array.getD_eq_getD_getElem?,Array.getElem?_eq_getElem hja] at this
   simp only [Option.getD_some] at this
   rw [Nat.zero_add,getElem!_pos _ _ (by simpa using hj')]
   simp [World.cell?,e5,hja,this]
  refine (hcall p.block 0 (p.cap - 0) ss w hH hb hlen).mono fun e w' ⟨he,n,os,hw⟩=>?_; subst he hw
  obtain ⟨hx1,hr1⟩:=a1f hr n #[]
  have ew:grow (w.drewN n) #[]=Sort.ahead w n:=by simp [grow,World.drewN,Sort.ahead]
  rw [ew] at hx1 hr1
  have e5':(Sort.ahead w n).heap[p.block]? = some (.cells arr ty (0,0)):=e5
  rw [b7f e5']
  have hperm:(Y7 ss).length=ss.length:=List.length_mergeSort _
  have hd:((Y7 ss).toArray).size=ss.length:=by simp [hperm]
  have hasz:(putCells encStr 0 (Y7 ss).toArray arr).size=arr.size:=by simp [putCells]
  have hx2:=Ext.putObj (w:=Sort.ahead w n) (.cells (putCells encStr 0 (Y7 ss).toArray arr) ty (0,0)) (hr1.nk k p _ hp hk rfl) hf hcl
  have hr2:=hr1.putObj (ob:=.vec 1 ((Y7 ss).map fun s=>[sv s])) hp hk rfl hf hcl (.cells (putCells encStr 0 (Y7 ss).toArray arr) ty (0,0)) ⟨e0,by rw [List.length_map,hperm]; exact e1,e2,fun r hr=>by
   obtain ⟨s,_,rfl⟩:=List.mem_map.1 hr
   rw [e0]; rfl,fun r hr c hc=>by
   obtain ⟨s,_,rfl⟩:=List.mem_map.1 hr
   simp at hc; subst hc; rfl,_,ty,World.putObj_same _ _ (by exact hb),by rw [hasz,e0,Nat.mul_one]; exact e6,fun i j r c hi hj=>by
   rw [List.getElem?_map,Option.map_eq_some_iff] at hi
   obtain ⟨s,hs',rfl⟩:=hi
   rcases j with _ | j
   ·injection hj with hj
    subst hj
    have hil:=(List.getElem?_eq_some_iff.1 hs').1
    rw [e0,Nat.mul_one,Nat.add_zero,b6S (by simpa using hil) (by omega)]
    have:(Y7 ss)[i]=s:=(List.getElem?_eq_some_iff.1 hs').2
    simp only [List.getElem_toArray,this]
    exact .val _
   ·cases hj⟩
  obtain ⟨hx3,hr3⟩:=a1f hr2 0 os
  have ew2:∀ u:World,u.drewN 0=u:=fun u=>rfl
  rw [ew2] at hx3 hr3
  exact ⟨_,_,_,(hx1.trans hx2).trans hx3,hr3,.tup rfl (fun i c h=>by simp at h),rfl,rfl⟩
theorem a8o {α:Type} [Inhabited α] {enc:α→Value} {w:World} {b:Nat} {arr:Array Value} {ty:TypeId} {fr:Nat × Nat} {d:Array α} (h:w.heap[b]? = some (.cells arr ty fr)):putRow enc w b 0 d=World.putObj w b (.cells (putCells enc 0 d arr) ty fr):=by
 have hb:b < w.heap.size:=(Array.getElem?_eq_some_iff.1 h).1
 have hg:w.heap[b] = .cells arr ty fr:=(Array.getElem?_eq_some_iff.1 h).2
 unfold putRow mapBlock World.putObj
 congr 1
 apply Array.ext_getElem?
 intro i
 rw [Array.getElem?_modify,Array.getElem?_setIfInBounds]
 by_cases hi:b=i
 ·subst hi
  simp [hb,hg,onCells]
 ·simp [hi]
theorem b0S {F:Array Value} {arr:Array Value} {i:Nat} (hi:i < F.size) (ha:i < arr.size):(putCells id 0 F arr).getD i undef=F[i]!:=by
 unfold putCells
 rw [Array.getD_eq_getD_getElem?,Array.getElem?_mapIdx,Array.getElem?_eq_getElem ha]
 simp [hi]
theorem a8f {W W':World} {M':l3} (h:Ext (whole W) W M' W'):∃ q os',W'=grow (W.drewN q) os':=by
 refine ⟨W'.drawn - W.drawn,W'.heap.extract W.heap.size W'.heap.size,?_⟩
 have hd:W.drawn+(W'.drawn - W.drawn)=W'.drawn:=by have:=h.drew; omega
 have hh:W'.heap=W.heap++W'.heap.extract W.heap.size W'.heap.size:=by
  apply Array.ext_getElem?
  intro i
  rw [Array.getElem?_append]
  split
  ·rename_i hi
   exact h.same i hi
  ·rename_i hi
   rw [Array.getElem?_extract]
   have hs:=h.size
   split
   ·congr 1; omega
   ·rename_i h2
    rw [Array.getElem?_eq_none]; omega
 have h1:=h.os; have h2:=h.tape; have h3:=h.output
 show W'=⟨_,_,_,_,_⟩
 cases W'
 simp only at hd hh h1 h2 h3 ⊢
 subst h1 h2 h3
 simp only [World.drewN,World.mk.injEq,true_and,and_true]
 exact ⟨hh,hd.symm⟩
theorem b0i {C:Ctx} {f:FuncId} {cvs:List CV} {W:World} {args:Array Value} {u:Value}
 (hg:∀ g cells,C.glob g=some cells→GV (whole W) W cells g)
 (hn:args.size=cvs.length) (ha:∀ (i:Nat) (c:CV),cvs[i]? = some c→RV (whole W) W c (args.getD i undef))
 (h:b8 C f cvs [] fun r σ'=>r = .ret (.val u)∧σ'=[]):Calls C.P f args W fun e W'=>e = .returned u∧∃ q os',W'=grow (W.drewN q) os':=by
 refine (h (whole W) W args (a6r hg) hn ha).mono fun e W' he=>?_
 cases e with
 | returned v =>
  obtain ⟨c,σ',M',h1,h2,h3,h4,h5⟩:=he
  cases h4
  cases h3
  exact ⟨rfl,a8f h1⟩
 | panicked ch =>
  obtain ⟨c,v,σ',M',-,-,-,-,h4,-⟩:=he
  cases h4
 | outgrown=>exact he.elim
theorem b28 {C:Ctx} {M:l3} {σ:List c5} {w W:World} {b:Nat} (hv:∀ g cells,C.glob g=some cells→∀ c∈cells,∃ v,c=CV.val v) (hr:Rel C M σ w) (hb:¬ M.full b) (hs:w.heap.size≤W.heap.size)
 (hh:∀ x,x < w.heap.size→x≠b→W.heap[x]? = w.heap[x]?) (g:Nat) (cells:List CV) (hg:C.glob g=some cells):GV (whole W) W cells g:=by
 obtain ⟨rv,full,sz⟩:=hr.glob g cells hg
 have hlt:g < w.heap.size:=hr.blk g 0 (.inl full)
 have hne:g≠b:=fun e=>hb (e ▸ full)
 have hs1:=hh g hlt hne
 cases rv with
 | cptr vals a1 a2 a3 =>
  refine ⟨.cptr vals a1 (fun j c hj=>⟨.inl (Nat.lt_of_lt_of_le hlt hs),?_⟩) (fun j c hj=>?_),Nat.lt_of_lt_of_le hlt hs,?_⟩
  ·rw [B5 hs1]
   exact (a2 j c hj).2
  ·obtain ⟨v,rfl⟩:=hv g cells hg c (List.mem_of_getElem? hj)
   have:=a3 j _ hj
   cases this
   exact .val _
  ·rw [hs1]; exact sz
theorem a6K {α:Type} [Inhabited α] {enc:α→List Value} {s:Nat} {w:World} {b m:Nat} {dk:Array α} {os:Array Obj}:w.heap.size≤(sortWorldK enc s w b 0 m dk os).heap.size∧∀ x,x < w.heap.size→x≠b→(sortWorldK enc s w b 0 m dk os).heap[x]? = w.heap[x]?:=by
 refine ⟨by unfold sortWorldK; rw [size_grow,size_putRowK]; exact Nat.le_add_right _ _,fun x hx hne=>?_⟩
 unfold sortWorldK grow putRowK putRow mapBlock
 show (Array.modify w.heap b _++os)[x]? = _
 rw [Array.getElem?_append_left (by simpa using hx),Array.getElem?_modify,if_neg (fun e=>hne e.symm)]
theorem b1r {M:l3} {w:World} {l:List Value} (h1:∀ v∈l,v.oneCell'=true):RV M w (.agg (l.map .val)) (.agg l.toArray):=by
 refine .agg (by simp) (fun c hc=>?_) (fun i c hi=>?_)
 ·obtain ⟨v,hv,rfl⟩:=List.mem_map.1 hc
  exact h1 v hv
 ·rw [List.getElem?_map,Option.map_eq_some_iff] at hi
  obtain ⟨v,hv,rfl⟩:=hi
  have:l.toArray.getD i undef=v:=by rw [Array.getD_eq_getD_getElem?,List.getElem?_toArray,hv]; rfl
  rw [this]
  exact .val _
theorem b5t {C:Ctx} {g:FuncId} {α:Type} [Inhabited α] {enc:α→List Value} {s:Nat} {cf:α→α→Int} (h1:∀ x,∀ v∈enc x,v.oneCell'=true) (hcmp:∀ x y:α,b8 C g [.agg ((enc x).map .val),.agg ((enc y).map .val)] [] fun r τ=>r = .ret (.val (.int .i64 (cf x y)))∧τ=[])
 (hv:∀ g cells,C.glob g=some cells→∀ c∈cells,∃ v,c=CV.val v) {M:l3} {σ:List c5} {w:World} {b size:Nat} (hr:Rel C M σ w) (hb:¬ M.full b):CmpLays C.P g #[] enc s cf b 0 size w:=fun m os dk hs x y=>by
 refine b0i (b28 hv hr hb a6K.1 a6K.2) rfl (fun i c hi=>?_) (hcmp x y)
 rcases i with _ | _ | i
 ·injection hi with hi; subst hi; exact b1r (h1 x)
 ·injection hi with hi; subst hi; exact b1r (h1 y)
 ·cases hi
theorem a52 {α:Type} [Inhabited α] {enc:α→List Value} {s:Nat} {l:List α} {i j:Nat} {x:α} (hx:l[i]? = some x) (hj:j < s) (hk:(enc x).length=s):(flatK enc s l.toArray)[i*s+j]! = (enc x)[j]!∧i*s+j < l.length*s:=by
 have hi:=(List.getElem?_eq_some_iff.1 hx).1
 have lt:i*s+j < l.length*s:=by
  have:=Nat.mul_le_mul_right s (show i+1≤l.length from hi); rw [Nat.add_mul,Nat.one_mul] at this; omega
 have e1:(i*s+j) / s=i:=(blk_iff s i _ (by omega)).1 ⟨by omega,by omega⟩
 have e2:(i*s+j)%s=j:=by rw [Nat.mod_eq_sub_div_mul,e1]; omega
 refine ⟨?_,lt⟩
 rw [get_flatK _ _ _ _ (by simpa using lt),e1,e2]
 have:l.toArray[i]! = x:=by simp [hi,(List.getElem?_eq_some_iff.1 hx).2]
 rw [this]
def a42 {α:Type} (cf:α→α→Int) (l:List α):List α:=l.mergeSort fun x y=>!(ltOf cf) y x
set_option maxHeartbeats 1000000 in
theorem b2N {C:Ctx} {f g:FuncId} {α:Type} [Inhabited α] {enc:α→List Value} {s:Nat} {cf:α→α→Int} (hs0:0 < s) (hk0:∀ x,(enc x).length=s) (h1:∀ x,∀ v∈enc x,v.oneCell'=true)
 (hcall:∀ (blk off cap:Nat) (d:Array α) (w:World),CmpLays C.P g #[] enc s cf blk off d.size w→HoldsK enc s w blk off d→blk < w.heap.size→d.size < 4611686018427387904 →
  Calls C.P f #[.slice (some ⟨blk,off,none⟩) d.size cap,.func (.func g) #[] #[]] w fun e w'=>e = .returned (.tuple #[])∧∃ n os,w'=sortWorldK enc s w blk off n (d.toList.mergeSort fun x y=>!(ltOf cf) y x).toArray os)
 (hcmp:∀ x y:α,b8 C g [.agg ((enc x).map .val),.agg ((enc y).map .val)] [] fun r τ=>r = .ret (.val (.int .i64 (cf x y)))∧τ=[])
 (hv:∀ g cells,C.glob g=some cells→∀ c∈cells,∃ v,c=CV.val v)
 {σ:List c5} {k:Nat} {l:List α} (hne:l≠[]) (hlen:l.length < 4611686018427387904) (hk:σ[k]? = some (.vec s (l.map fun x=>(enc x).map .val))) :
 b8 C f [.vec k 0 l.length,.val (.func (.func g) #[] #[])] σ fun r τ=>r = .ret (.tup [])∧τ=σ.set k (.vec s ((a42 cf l).map fun x=>(enc x).map .val)):=fun M w vs hr hn hx=>by
 have hl:0 < l.length:=List.length_pos_iff.2 hne
 have hs:vs.size=2:=hn
 obtain ⟨v,v2,rfl⟩:∃ v v2,vs = #[v,v2]:=⟨vs[0]'(by omega),vs[1]'(by omega),Array.ext (by simp [hs]) fun i h1 h2=>by
  have:i=0∨i=1:=by omega
  rcases this with rfl | rfl <;> simp⟩
 have h0:RV M w (.vec k 0 l.length) v:=hx 0 _ rfl
 have h2:RV M w (.val (.func (.func g) #[] #[])) v2:=hx 1 _ rfl
 cases h2
 cases h0 with
 | vec hp g1 g2 g3 =>
  rename_i p a
  obtain ⟨⟨e0,e1,e2,e3,e4,arr,ty,e5,e6,e7⟩,hf,hcl⟩:=hr.obj k p _ hp hk
  rw [List.length_map] at e1
  rw [e0] at e6
  have ha:=g3 (by omega)
  rw [Nat.zero_mul] at ha
  subst ha
  have hb:p.block < w.heap.size:=(Array.getElem?_eq_some_iff.1 e5).1
  have hcs:l.length*s≤arr.size:=by rw [e6]; exact Nat.mul_le_mul_right s e1
  have hget:∀ t,t < l.length*s→arr.getD t undef=(flatK enc s l.toArray)[t]!:=fun t ht=>by
   have hd:t / s < l.length:=(Nat.div_lt_iff_lt_mul hs0).2 ht
   have hm:t%s < s:=Nat.mod_lt _ hs0
   have ht2:t / s*s+t%s=t:=by rw [Nat.mul_comm]; exact Nat.div_add_mod t s
   have hx:l[t / s]? = some l[t / s]:=List.getElem?_eq_getElem hd
   have hkk:=hk0 l[t / s]
   have h3:=(a52 (enc:=enc) hx hm hkk).1
   rw [ht2] at h3
   rw [h3]
   have h4:(l.map fun x=>(enc x).map CV.val)[t / s]? = some ((enc l[t / s]).map .val):=by rw [List.getElem?_map,hx]; rfl
   have h5:((enc l[t / s]).map CV.val)[t%s]? = some (.val (enc l[t / s])[t%s]!):=by
    rw [List.getElem?_map,List.getElem?_eq_getElem (by omega)]
    simp [hkk,hm]
   have:=n8 (e7 _ _ _ _ h4 h5)
   rw [e0,ht2] at this
   exact this
  have hH:HoldsK enc s w p.block 0 l.toArray:=fun j hj=>by
   have hj':j < l.length*s:=by simpa using hj
   have hja:j < arr.size:=by omega
   refine ⟨?_,by simp [World.frozen?,e5]⟩
   have:=hget j hj'
   rw [Array.getD_eq_getD_getElem?,Array.getElem?_eq_getElem hja] at this
   simp only [Option.getD_some] at this
   rw [Nat.zero_add]
   simp [World.cell?,e5,hja,this]
  have hC:=b5t (s:=s) (size:=l.toArray.size) h1 hcmp hv hr hf
  have hcc:=hcall p.block 0 (p.cap - 0) l.toArray w hC hH hb (by simpa using hlen)
  rw [show l.toArray.size=l.length by simp,show l.toArray.toList=l by simp] at hcc
  refine hcc.mono fun e w' ⟨he,n,os,hw⟩=>?_; subst he hw
  obtain ⟨hx1,hr1⟩:=a1f hr n #[]
  have ew:grow (w.drewN n) #[]=Sort.ahead w n:=by simp [grow,World.drewN,Sort.ahead]
  rw [ew] at hx1 hr1
  have e5':(Sort.ahead w n).heap[p.block]? = some (.cells arr ty (0,0)):=e5
  unfold sortWorldK putRowK
  rw [a8o e5']
  have hperm:(a42 cf l).length=l.length:=List.length_mergeSort _
  change a0m C M w _ _ (grow (World.putObj (Sort.ahead w n) p.block (.cells (putCells id 0 (flatK enc s (a42 cf l).toArray) arr) ty (0,0))) os)
  generalize hF:flatK enc s (a42 cf l).toArray=F
  have hFs:F.size=l.length*s:=by rw [← hF,size_flatK]; simp [hperm]
  have hasz:(putCells id 0 F arr).size=arr.size:=by simp [putCells]
  have hx2:=Ext.putObj (w:=Sort.ahead w n) (.cells (putCells id 0 F arr) ty (0,0)) (hr1.nk k p _ hp hk rfl) hf hcl
  have hr2:=hr1.putObj (ob:=.vec s ((a42 cf l).map fun x=>(enc x).map .val)) hp hk rfl hf hcl (.cells (putCells id 0 F arr) ty (0,0)) ⟨e0,by rw [List.length_map,hperm]; exact e1,e2,fun r hr=>by
   obtain ⟨x,_,rfl⟩:=List.mem_map.1 hr
   rw [e0,List.length_map]; exact hk0 x,fun r hr c hc=>by
   obtain ⟨x,_,rfl⟩:=List.mem_map.1 hr
   obtain ⟨v,hv,rfl⟩:=List.mem_map.1 hc
   exact h1 x v hv,_,ty,World.putObj_same _ _ (by exact hb),by rw [hasz,e0]; exact e6,fun i j r c hi hj=>by
   rw [List.getElem?_map,Option.map_eq_some_iff] at hi
   obtain ⟨x,hs',rfl⟩:=hi
   rw [List.getElem?_map,Option.map_eq_some_iff] at hj
   obtain ⟨v,hj',rfl⟩:=hj
   have hjs:j < s:=by have:=(List.getElem?_eq_some_iff.1 hj').1; rw [hk0] at this; exact this
   obtain ⟨h3,h4⟩:=a52 (enc:=enc) hs' hjs (hk0 x)
   rw [hF] at h3
   rw [hperm] at h4
   rw [e0,b0S (by omega) (by omega),h3,List.getElem!_eq_getElem?_getD,hj']
   exact .val _⟩
  obtain ⟨hx3,hr3⟩:=a1f hr2 0 os
  have ew2:∀ u:World,u.drewN 0=u:=fun u=>rfl
  rw [ew2] at hx3 hr3
  exact ⟨_,_,_,(hx1.trans hx2).trans hx3,hr3,.tup rfl (fun i c h=>by simp at h),rfl,rfl⟩
end Go.Cl
namespace Go.Cl
section
variable {C:Ctx} {σ:List c5} {E:Env} {o:Oper}
theorem a6N {t t' e:TypeId} {x y:Operand} {k off len off2 len2 s:Nat} {rows:List (List CV)} {K:v7→List c5→Prop} (ho:o.op = .call { callee:=.builtin .copy,args:=#[x,y],argTypes:=#[t,t']}) (hx:E.valid x) (hy:E.valid y) (ex:E.val C x = .vec k off len) (ey:E.val C y = .vec k off2 len2)
 (hu:∀ w,(underlying t).run C.P w = .ok (.slice e) w) (hs:∀ w,(sizeOf e).run C.P w = .ok s w) (hk':σ[k]? = some (.vec s rows)) (hle:len≤len2) (hl:off+len≤rows.length) (hl2:off2+len≤rows.length)
 (hk:K (.ret (.val (.int .i64 len))) (σ.set k (.vec s (C0 rows off ((rows.drop off2).take len))))):C2 C σ E o K:=fun M w ρ hr hh=>by
 have h1:=hh x (by simp [ho,Op.operands,Call.operands]) hx
 have h2:=hh y (by simp [ho,Op.operands,Call.operands]) hy
 rw [ex] at h1
 rw [ey] at h2
 generalize hv:ρ x=v at h1
 generalize hv2:ρ y=v2 at h2
 have hnl:((rows.drop off2).take len).length=len:=by simp; omega
 cases h1 with
 | vec hp g1 g2 g3 =>
  rename_i p a
  cases h2 with
  | vec hp2 i1 i2 i3 =>
   rename_i p2 a2
   obtain rfl:=Option.some.inj (hp.symm.trans hp2)
   have hsn:=a2g (len:=len) hr (.vec (w:=w) hp2 (by omega) i2 i3) hk' hl2
   obtain ⟨an,cn,hvn,_,hns,arr,hfn,hszn,hrvn⟩:=hsn
   have hobj:=(hr.obj k p _ hp hk').1
   have hcap:rows.length≤p.cap:=hobj.2.1
   have hps:p.size=s:=hobj.1
   obtain ⟨w',hst,hx',hr'⟩:=a2b hr hp hk' (p:=off) (new:=(rows.drop off2).take len) (by omega) (by omega) hns hszn hrvn
   have hmin:Nat.min len2 len=len:=Nat.min_eq_right hle
   rw [hnl] at hfn
   have hfn2:(Builtin.firstCells s len (.slice (some a2) len2 (p.cap - off2))).run C.P w = .ok arr w:=by
    simpa [Builtin.firstCells] using hfn
   have hst':(storeCells a arr.toList).run C.P w = .ok () w':=by
    rcases Nat.eq_zero_or_pos len with h0 | h0
    ·have h00:arr.toList=[]:=List.eq_nil_of_length_eq_zero (by rw [hnl] at hszn; simp [hszn,h0])
     rw [h00] at hst ⊢
     exact hst
    ·rw [g3 (by omega),hps]; exact hst
   have hrun:(execOp ρ o).run C.P w = .ok (.value (.int .i64 len)) w':=by
    simp [execOp,ho,resolve,invoke,builtin,Builtin.copy_,hu,hs,hv,hv2,Builtin.lenOf,hmin,hfn2,hst',goInt]
   rw [hrun]
   exact ⟨_,_,M,hx',hr',.val _,hk⟩
end
end Go.Cl
namespace Go.Cl
theorem a36 {R:Nat→Nat→Prop} {s:Nat} {rows:List (List CV)} (h:∀ r∈rows,∀ c∈r,p5 c):B2 R (.vec s rows) (.vec s rows) :=
 .vec rfl fun i r r' h1 h2=>by
  rw [h1] at h2; injection h2 with h2; subst h2
  exact E9 (h r (List.mem_of_getElem? h1))
theorem a5n {α:Type} {C:Ctx} {f:FuncId} {s n:Nat} {rows:List (List CV)} {args:List CV} {g:α→Bool} {rows':α→List (List CV)} {off len:α→Nat} {P:α→Prop} (hC:C.plain) (hp:∀ r∈rows,∀ c∈r,p5 c) (hargs:∀ a∈args,p5 a)
 (hp':∀ a,P a→∀ r∈rows' a,∀ c∈r,p5 c)
 (h:b8 C f (.vec 0 0 n::args) [.vec s rows] fun r τ=>∃ a,L2 1 τ r (.ret (.vec (if g a=true then 1 else 0) (off a) (len a))) (if g a=true then [.dead,.vec s (rows' a)] else [.vec s (rows' a)])∧P a) {σ:List c5} {q:Nat} (hq:σ[q]? = some (.vec s rows)) :
 b8 C f (.vec q 0 n::args) σ fun r τ=>∃ a,r = .ret (.vec (if g a=true then σ.length else q) (off a) (len a))∧τ=(if g a=true then σ.set q .dead++[.vec s (rows' a)] else σ.set q (.vec s (rows' a)))∧P a:=by
 have hql:=(List.getElem?_eq_some_iff.1 hq).1
 have h':b8 C f (.vec 0 0 n::args) [.vec s rows] fun r τ=>∃ a,r = .ret (.vec (if g a=true then 1 else 0) (off a) (len a))∧τ=(if g a=true then [.dead,.vec s (rows' a)] else [.vec s (rows' a)])∧P a :=
  J5 hC (h.mono fun r τ ⟨a,k1,k2⟩=>⟨_,_,k1,a,rfl,rfl,k2⟩)
 refine B4 [q] hC rfl (fun i j k g1 g2=>?_) (fun i k ob g1 g2=>?_) (.cons (.vec rfl) (E9 hargs)) h' fun r τ hk=>?_
 ·rcases i with _ | i <;> rcases j with _ | j <;> simp at g1 g2 <;> rfl
 ·rcases i with _ | i
  ·simp at g1 g2
   subst g1 g2
   exact ⟨_,hq,a36 hp⟩
  ·simp at g1
 ·obtain ⟨a,rfl,rfl,hpa⟩:=hk
  by_cases hg:g a=true
  all_goals simp only [hg,if_true,if_false,Bool.false_eq_true]
  rotate_left
  ·refine ⟨by simp,.ret (.vec q (off a) (len a)),σ.set q (.vec s (rows' a)),.ret (.vec (.inl (by simp))),by simp,fun k hk hks=>?_,fun i k x ha hx=>?_,a,by simp [hg],by simp [hg],hpa⟩
   ·have n1:q≠k:=fun e=>hks (by simp [e])
    simp [n1]
   ·rcases ha with ha | ⟨ha,rfl⟩
    ·rcases i with _ | i
     ·simp at ha hx
      subst ha hx
      exact ⟨_,by simp [hql],a36 (hp' a hpa)⟩
     ·simp at ha
    ·rcases i with _ | i
     ·simp at ha
     ·simp at hx
  ·refine ⟨by simp,.ret (.vec σ.length (off a) (len a)),σ.set q .dead++[.vec s (rows' a)],.ret (.vec (.inr ⟨by simp,by simp⟩)),by simp,fun k hk hks=>?_,fun i k x ha hx=>?_,a,by simp [hg],by simp [hg],hpa⟩
   ·have n1:q≠k:=fun e=>hks (by simp [e])
    rw [List.getElem?_append_left (by simpa using hk)]
    simp [n1]
   ·rcases ha with ha | ⟨ha,rfl⟩
    ·rcases i with _ | i
     ·simp at ha hx
      subst ha hx
      exact ⟨.dead,by rw [List.getElem?_append_left (by simpa using hql)]; simp [hql],.dead⟩
     ·simp at ha
    ·rcases i with _ | _ | i
     ·simp at ha
     ·simp at hx
      subst hx
      exact ⟨_,by rw [List.getElem?_append_right (by simp)]; simp,a36 (hp' a hpa)⟩
     ·simp at hx
section
variable {C:Ctx} {E:Env} {σ:List c5} {o:Oper}
def b1I (C:Ctx) (c:CV) (cargs:List CV) (σ:List c5) (r:CV):Prop :=
 (∃ f,c = .val (.func (.func f) #[] #[])∧(∀ args w,(callFunc f args).run C.P w = .ok (.enter f args) w)∧b8 C f cargs σ fun r' σ'=>r' = .ret r∧σ'=σ) ∨
 ∃ f caps,c = .clo f caps∧(∀ args w,(callFunc f args).run C.P w = .ok (.enter f args) w)∧b8 C f (cargs++caps) σ fun r' σ'=>r' = .ret r∧σ'=σ
theorem b2C {cx:Operand} {xs:Array Operand} {ts:Array TypeId} {cargs:List CV} {c r:CV} (ho:o.op = .call { callee:=.value cx,args:=xs,argTypes:=ts}) (hc:E.valid cx) (ec:E.val C cx=c) (hv:E.valids xs.toList) (h:b1I C c cargs σ r) (ea:E.vals C xs.toList=cargs):m6 C σ E o r:=by
 rcases h with ⟨f,h1,h2,h3⟩ | ⟨f,caps,h1,h2,h3⟩
 ·exact b7x ho hc (ec.trans h1) h2 (Env.valids_mem hv) (Env.vals_map _) (ea ▸ h3)
 ·exact a6E ho hc (ec.trans h1) h2 hv h3 ea
end
end Go.Cl
namespace Go.Cl
section
variable {C:Ctx} {n:Nat} {ops:Array Oper} {Q:s8→Env→List c5→Prop} {E:Env} {σ:List c5}
theorem cY {o:Oper} {l:List Oper} {c:CV} (hy:m6 C σ E o c) (h:O2 C n ops Q l (E.put o.dst c True) σ) (hg:o.guard=none:=by rfl) (hd:(match o.dst with | some d=>Nat.blt d n | none=>true)=true:=by rfl):O2 C n ops Q (o::l) E σ:=c0d hg hd hy h
theorem cD {o:Oper} {l:List Oper} (h:C2 C σ E o fun r σ'=>match r with | .ret c=>O2 C n ops Q l (E.put o.dst c True) σ' | .pan c=>Q (.pan c) E σ') (hg:o.guard=none:=by rfl) (hd:(match o.dst with | some d=>Nat.blt d n | none=>true)=true:=by rfl):O2 C n ops Q (o::l) E σ:=Y1 hg hd h
theorem cG {o:Oper} {l:List Oper} {j t:Nat} {want b:Bool} {c:CV} (hy:b=want→m6 C σ E o c) (h:O2 C n ops Q l (E.put o.dst c (b=want)) σ) (hg:o.guard=some (j,want):=by rfl) (ht:(ops[j]?).bind (·.dst)=some t:=by rfl) (hv:E.ok t:=by exact tt) (hb:E.f t = .val (.bool b):=by rfl)
 (hd:(match o.dst with | some d=>Nat.blt d n | none=>true)=true:=by rfl):O2 C n ops Q (o::l) E σ:=c0g hg ht hv hb hd hy h
theorem hY {K:Env→Prop} {o:Oper} {l:List Oper} {c:CV} (k:m6 C σ E o c) (h:a0S C σ ops K l (E.put o.dst c True)) (hg:o.guard=none:=by rfl):a0S C σ ops K (o::l) E:=c0f hg k h
end
end Go.Cl
namespace Go.Proofs.YtoblbdedgjfeaaaGreatDoor
open Go Go.Cl
def b0T:List CV:=[1,10,100,1000,10000,100000,1000000,10000000,100000000,1000000000,10000000000,100000000000,1000000000000,10000000000000,100000000000000,1000000000000000,10000000000000000,100000000000000000,1000000000000000000,10000000000000000000].map fun z:Int=>.val (.int .u64 z)
noncomputable def CC:Ctx:={ P:=Tryz.prog,glob:=fun g=>match g with | 1=>some b0T | _=>none}
theorem hCC:CC.plain:=fun g cells h=>by
 have:cells=b0T:=by
  simp only [CC] at h
  split at h
  ·exact (Option.some.inj h).symm
  ·cases h
 subst this; intro c hc
 obtain ⟨z,_,rfl⟩:=List.mem_map.1 hc
 exact .val _
def icv (x:Int):List CV:=[.val (.int .i64 x)]
def scv (x:Str):List CV:=[sv x]
theorem d4 (l:List Int) (nn:Bool):p5 (.list (l.map icv) nn none):=I2 (f:=icv) (fun _=>⟨.val _,tt⟩) l nn
theorem c9 (l:List Str) (nn:Bool):p5 (.list (l.map scv) nn none):=I2 (f:=scv) (fun _=>⟨.val _,tt⟩) l nn
theorem t6 (n:Nat) (l:List Int) (nn:Bool):Old n (.list (l.map icv) nn none):=(d4 l nn).old
theorem m4 (n:Nat) (l:List Str) (nn:Bool):Old n (.list (l.map scv) nn none):=(c9 l nn).old
def b7d:Str:=[97,98,99,100,101,102,103,104,105,106,107,108,109,110,111,112,113,114,115,116,117,118,119,120,121,122]
def c0h:Str:=[48,49,50,51,52,53,54,55,56,57]
def b9U:Str:=[59,44,40,41,43,45,42,47,37,60,61]
def M0:List (Int × Str):=[(1,b7d),(2,c0h),(3,[95]),(4,[46]),(5,[9,10,13,32]),(6,[35]),(7,[34]),(8,b9U)]
def p3 (c:Int):Int :=
 if 97≤c∧c≤122 then 1 else if 48≤c∧c≤57 then 2 else if c=95 then 3 else if c=46 then 4 else if c=9∨c=10∨c=13∨c=32 then 5 else if c=35 then 6 else if c=34 then 7
 else if c=59∨c=44∨c=40∨c=41∨c=43∨c=45∨c=42∨c=47∨c=37∨c=60∨c=61 then 8 else 0
abbrev kb (a:Int):CV:=.val (.int .u8 a)
abbrev kv (a:Int):CV:=.val (.int .i64 a)
theorem b7t:I6 (α:=Int) CC.P 5 kb (fun a=>.int .u8 a):=b3O .u8 Tryz.runUnderlying5
theorem P5:I6 (α:=Int) CC.P 3 kv (fun a=>.int .i64 a):=b3O .i64 Tryz.runUnderlying3
theorem a8z:I6 (α:=Str) CC.P 9 sv (fun a=>.string (str a)):=b8u Tryz.runUnderlying9
def KM (m:List (Int × Int)):Prop:=∀ c,(glk m c).getD 0=p3 c
theorem I3 (n:Nat) (m:List (Int × Int)):C8 n (.map (gm kb kv m)):=fun x hx=>by
 obtain ⟨y,_,rfl⟩:=List.mem_map.1 hx
 exact ⟨.val _,.val _⟩
theorem b5j (n:Nat) (a b:List (Int × Str)):C8 n (.iter (gm kv sv a) (gm kv sv b)):=⟨fun x hx=>by
 obtain ⟨y,_,rfl⟩:=List.mem_map.1 hx
 exact ⟨.val _,.val _⟩,fun x hx=>by
 obtain ⟨y,_,rfl⟩:=List.mem_map.1 hx
 exact ⟨.val _,.val _⟩⟩
theorem b46 (m:List (Int × Int)):a0L (.map (gm kb kv m)):=fun x hx=>by
 obtain ⟨y,_,rfl⟩:=List.mem_map.1 hx
 exact ⟨.val _,.val _⟩
def InB (s:Str) (c:Int):Prop:=∃ b∈s,(b.toNat:Int)=c
instance (s:Str) (c:Int):Decidable (InB s c):=by unfold InB; exact inferInstance
def KL (m:List (Int × Int)) (left:List (Int × Str)):Prop:=left.Nodup∧(∀ x∈left,x∈M0)∧∀ c,(glk m c).getD 0=if ∃ x∈left,InB x.2 c then 0 else p3 c
theorem b6K:∀ x∈M0,∀ b∈x.2,p3 (b.toNat:Int)=x.1:=by decide
theorem b6g:∀ x∈M0,∀ y∈M0,x≠y→∀ b∈x.2,b∉y.2:=by decide
theorem b30:M0.Nodup:=by decide
set_option maxRecDepth 100000 in
theorem b8h:∀ c:Fin 256,p3 (c.val:Int)≠0→∃ x∈M0,∃ b∈x.2,(b.toNat:Int)=(c.val:Int):=by decide
theorem b6l {c:Int} (h:p3 c≠0):∃ x∈M0,∃ b∈x.2,(b.toNat:Int)=c:=by
 have hr:0≤c∧c < 256:=by
  unfold p3 at h
  split at h; · omega
  split at h; · omega
  split at h; · omega
  split at h; · omega
  split at h; · omega
  split at h; · omega
  split at h; · omega
  split at h
  ·omega
  ·exact absurd rfl h
 obtain ⟨n,rfl⟩:∃ n:Nat,c=n:=⟨c.toNat,by omega⟩
 exact b8h ⟨n,by omega⟩ h
theorem KL.start:KL [] M0:=by
 refine ⟨b30,fun x h=>h,fun c=>?_⟩
 split
 ·rfl
 ·rename_i hno
  have:p3 c=0:=by
   rcases Int.decEq (p3 c) 0 with h | h
   ·exact absurd (b6l h) hno
   ·exact h
  rw [this]; rfl
theorem KL.done {m:List (Int × Int)} (h:KL m []):KM m:=fun c=>by
 rw [h.2.2 c,if_neg m5]
theorem KL.step {m m':List (Int × Int)} {left:List (Int × Str)} {i:Nat} {x:Int × Str} (h:KL m left) (hx:left[i]? = some x) (hm:∀ c,(glk m' c).getD 0=if InB x.2 c then x.1 else (glk m c).getD 0):KL m' (left.eraseIdx i):=by
 obtain ⟨h1,h2,h3⟩:=h
 have hxm:=h2 x (List.mem_of_getElem? hx)
 have hsub:∀ y,y∈left.eraseIdx i↔y∈left∧y≠x:=fun y=>by
  have hlt:=(List.getElem?_eq_some_iff.1 hx).1
  have hxe:=(List.getElem?_eq_some_iff.1 hx).2
  constructor
  ·intro hy
   obtain ⟨j,hj,hji⟩:=List.mem_eraseIdx_iff_getElem?.1 hy
   refine ⟨List.mem_of_getElem? hji,fun e=>?_⟩
   subst e
   exact hj ((List.getElem?_inj (List.getElem?_eq_some_iff.1 hji).1 h1).1 (by rw [hji,hx]))
  ·rintro ⟨hy,hne⟩
   obtain ⟨j,hj⟩:=List.mem_iff_getElem?.1 hy
   refine List.mem_eraseIdx_iff_getElem?.2 ⟨j,fun e=>?_,hj⟩
   subst e
   rw [hx] at hj
   exact hne (Option.some.inj hj).symm
 refine ⟨h1.sublist (List.eraseIdx_sublist _ _),fun y hy=>h2 y ((hsub y).1 hy).1,fun c=>?_⟩
 rw [hm c,h3 c]
 by_cases hc:InB x.2 c
 ·rw [if_pos hc,if_neg]
  ·obtain ⟨b,hb,rfl⟩:=hc
   exact (b6K x hxm b hb).symm
  ·rintro ⟨y,hy,b',hb',he⟩
   obtain ⟨b,hb,hbc⟩:=hc
   obtain ⟨hyl,hne⟩:=(hsub y).1 hy
   have:b'=b:=UInt8.toNat_inj.1 c4
   subst this
   exact b6g y (h2 y hyl) x hxm hne b' hb' hb
 ·rw [if_neg hc]
  have hiff:(∃ y∈left,InB y.2 c)↔∃ y∈left.eraseIdx i,InB y.2 c:=by
   constructor
   ·rintro ⟨y,hy,hb⟩
    exact ⟨y,(hsub y).2 ⟨hy,fun e=>hc (e ▸ hb)⟩,hb⟩
   ·rintro ⟨y,hy,hb⟩
    exact ⟨y,((hsub y).1 hy).1,hb⟩
  by_cases hh:∃ y∈left,InB y.2 c
  ·rw [if_pos hh,if_pos (hiff.1 hh)]
  ·rw [if_neg hh,if_neg (fun h=>hh (hiff.2 h))]
theorem a9j {α β:Type} {kc:α→CV} {vc:β→CV} (l:List (α × β)) (i:Nat):(gm kc vc l).eraseIdx i=gm kc vc (l.eraseIdx i):=by
 induction l generalizing i with
 | nil=>rfl
 | cons x l ih =>
  cases i with
  | zero=>rfl
  | succ i=>exact congrArg _ (ih i)
theorem b4z {α β:Type} {kc:α→CV} {vc:β→CV} {l:List (α × β)} {i:Nat} {x:CV × CV} (h:(gm kc vc l)[i]? = some x):∃ y,l[i]? = some y∧x=(kc y.1,vc y.2):=by
 unfold gm at h
 rw [List.getElem?_map,Option.map_eq_some_iff] at h
 obtain ⟨y,h1,h2⟩:=h
 exact ⟨y,h1,h2.symm⟩
theorem a0H (l:Str) (nn:Bool):p5 (.list (l.map bcv) nn none):=I2 (f:=bcv) (fun _=>⟨.val _,tt⟩) l nn
theorem P8 (n:Nat) (l:Str) (nn:Bool):Old n (.list (l.map bcv) nn none):=(a0H l nn).old
theorem b80:∀ x∈M0,x.2.length≤26:=by decide
theorem b49 {m m1:List (Int × Int)} {s:Str} {j:Nat} {b:UInt8} {k:Int} (hb:s[j]? = some b) (h:∀ c,(glk m1 c).getD 0=if InB (s.take j) c then k else (glk m c).getD 0) :
 ∀ c,(glk (P4 m1 (b.toNat:Int) k) c).getD 0=if InB (s.take (j+1)) c then k else (glk m c).getD 0:=fun c=>by
 have ht:s.take (j+1)=s.take j++[b]:=by
  obtain ⟨hlt,rfl⟩:=List.getElem?_eq_some_iff.1 hb
  exact (List.take_append_getElem hlt).symm
 rw [O4,ht]
 by_cases hc:c=(b.toNat:Int)
 ·rw [if_pos hc,if_pos ⟨b,by simp,hc.symm⟩]; rfl
 ·rw [if_neg hc,h c]
  have hiff:InB (s.take j) c↔InB (s.take j++[b]) c:=by
   constructor
   ·rintro ⟨y,hy,e⟩; exact ⟨y,by simp [hy],e⟩
   ·rintro ⟨y,hy,e⟩
    rcases List.mem_append.1 hy with hy | hy
    ·exact ⟨y,hy,e⟩
    ·rw [List.mem_singleton.1 hy] at e; exact absurd e.symm hc
  by_cases hh:InB (s.take j) c
  ·rw [if_pos hh,if_pos (hiff.1 hh)]
  ·rw [if_neg hh,if_neg (fun h=>hh (hiff.2 h))]
set_option maxRecDepth 10000 in
theorem b2w:b8 CC 113 [] [] fun r τ=>∃ m:List (Int × Int),a1i [c5.map (gm kb kv m)].length τ r (.ret (.map 0))∧a3U [c5.map (gm kb kv m)].length τ τ [.map (gm kb kv m)]∧([]:List c5).length≤[c5.map (gm kb kv m)].length∧KM m:=by
 refine (d8 Tryz.func113 rfl rfl ?_)
 refine a7 (a6 ?_)
 refine cY i7 ?_
 refine a8 (a7 (a6 ?_))
 refine cD (N8 rfl ?_)
 refine cY c7 ?_
 refine a8 (a7 (a7 (a6 ?_)))
 refine cD (N8 rfl ?_)
 refine cD (l8 (vc:=sv) (l:=M0.take 0) P5 (.inr rfl) tt rfl rfl rfl rfl rfl Tryz.runUnderlying193 rfl ?_)
 refine cD (l8 (vc:=sv) (l:=M0.take 1) P5 (.inr rfl) tt rfl rfl rfl rfl rfl Tryz.runUnderlying193 rfl ?_)
 refine cD (l8 (vc:=sv) (l:=M0.take 2) P5 (.inr rfl) tt rfl rfl rfl rfl rfl Tryz.runUnderlying193 rfl ?_)
 refine cD (l8 (vc:=sv) (l:=M0.take 3) P5 (.inr rfl) tt rfl rfl rfl rfl rfl Tryz.runUnderlying193 rfl ?_)
 refine cD (l8 (vc:=sv) (l:=M0.take 4) P5 (.inr rfl) tt rfl rfl rfl rfl rfl Tryz.runUnderlying193 rfl ?_)
 refine cD (l8 (vc:=sv) (l:=M0.take 5) P5 (.inr rfl) tt rfl rfl rfl rfl rfl Tryz.runUnderlying193 rfl ?_)
 refine cD (l8 (vc:=sv) (l:=M0.take 6) P5 (.inr rfl) tt rfl rfl rfl rfl rfl Tryz.runUnderlying193 rfl ?_)
 refine cD (l8 (vc:=sv) (l:=M0.take 7) P5 (.inr rfl) tt rfl rfl rfl rfl rfl Tryz.runUnderlying193 rfl ?_)
 refine cY b7 ?_
 refine cD (b1u rfl tt rfl Tryz.runUnderlying193 rfl ?_)
 refine a8 (d9 ?_)
 refine r6 hCC (α:=List (Int × Int) × List (Int × Str) × List (Int × Str)) (fun _=>[(1,.map 0),(9,.ptr 2 0)]) (fun x=>[.map (gm kb kv x.1),.dead,.iter (gm kv sv x.2.1) (gm kv sv x.2.2)]) (fun x=>KL x.1 x.2.2) (fun x=>x.2.2.length) ([],[],M0) KL.start ⟨⟨tt,rfl⟩,⟨tt,rfl⟩,tt⟩ (extra0:=[]) rfl y9 (fun a ha=>by repeat' (first|exact tt|exact .val _|exact .ptr (nb rfl)|exact .map (nb rfl)|exact b9R | refine l2 ?_ | refine ⟨?_,?_⟩)) ?_; intro ⟨m,cur,left⟩ hkl
 dsimp only at hkl ⊢
 refine a7 (a6 ?_)
 refine cD (b3Y rfl tt rfl rfl (fun hz=>?_) (fun i x hx=>?_))
 ·
  have hl0:left=[]:=by
   cases left with
   | nil=>rfl
   | cons y l=>cases hz
  subst hl0; refine cY A0 ?_
  refine a8 (a7 ?_)
  refine b9 tt rfl (fun h1=>?_) (fun h1=>?_)
  ·cases h1
  ·skip
   refine m8 (a7 (a6 ?_))
   refine cY b7 ?_; refine cY c7 ?_
   refine a8 (d5 ?_)
   exact ⟨_,l4 rfl tt c6,⟨m,.ret (.old (.map (Nat.zero_lt_one))),⟨.same (I3 _ _),tt⟩,Nat.zero_le _,hkl.done⟩⟩
 ·
  obtain ⟨⟨k,s⟩,hy,rfl⟩:=b4z hx
  rw [a9j]
  have hks:=hkl.2.1 _ (List.mem_of_getElem? hy)
  have hsl:s.length≤26:=b80 _ hks
  refine cY A0 ?_
  refine a8 (a7 ?_)
  refine b9 tt rfl (fun h3=>?_) (fun h3=>?_)
  ·skip
   refine c8 (d9 (a7 (a6 ?_)))
   refine cY (b16 rfl tt rfl rfl) ?_; refine cY A0 ?_; refine cY A0 ?_; refine cY c7 ?_; refine cY c7 ?_
   refine a8 (a7 (a6 ?_))
   refine cY b7 ?_; refine cY (b7R rfl tt rfl Tryz.runUnderlying9 Tryz.runUnderlying139 Tryz.runUnderlying5 a1k) ?_; refine cY b05 ?_; refine cY z8 ?_
   refine a8 (d9 ?_)
   refine r6 hCC (α:=List (Int × Int) × Nat) (fun x=>[(1,.map 0),(2,(.val (.int .i64 (k)))),(9,.ptr 2 0),(16,(.list (s.map bcv) true none)),(17,(.val (.int .i64 ((s.length:Int))))),(18,(.val (.int .i64 ((x.2:Int)))))]) (fun x=>[.map (gm kb kv x.1),.dead,.iter (gm kv sv [(k,s)]) (gm kv sv (left.eraseIdx i))]) (fun x=>x.2≤s.length∧∀ c,(glk x.1 c).getD 0=if InB (s.take x.2) c then k else (glk m c).getD 0) (fun x=>s.length - x.2) (m,0) ⟨Nat.zero_le _,fun c=>by rw [if_neg (by simp [InB])]⟩ ⟨⟨tt,rfl⟩,⟨tt,rfl⟩,⟨tt,rfl⟩,⟨tt,rfl⟩,⟨tt,rfl⟩,⟨tt,rfl⟩,tt⟩ (extra0:=[]) rfl y9 (fun a ha=>by repeat' (first|exact tt|exact .val _|exact .ptr (nb rfl)|exact .map (nb rfl)|exact b9R | refine l2 ?_ | refine ⟨?_,?_⟩)) ?_; intro ⟨m1,j⟩ ⟨hj,hm1⟩
   dsimp only at hj hm1 ⊢
   refine a7 (a6 ?_)
   refine cY p8 ?_
   refine a8 (a7 ?_)
   refine b9 tt rfl (fun h4=>?_) (fun h4=>?_)
   ·have hjl:(j:Int) < s.length:=by simpa using h4
    obtain ⟨b,hb⟩:∃ b,s[j]? = some b:=⟨s[j]'c4,by simp⟩
    refine c8 (a7 (d9 (a7 (a6 ?_))))
    refine cY (o9 rfl tt tt rfl rfl Tryz.runUnderlying139 Tryz.sizeOf5 c4 (l6 hb) rfl) ?_; refine cY (K7 rfl tt rfl Tryz.isAgg5 rfl) ?_; refine cY c7 ?_
    refine a8 (a6 ?_)
    refine cY b7 ?_; refine cY b7 ?_; refine cY b7 ?_
    refine cD (l8 (vc:=kv) (l:=m1) (a:=(b.toNat:Int)) (b:=k) b7t (.inl rfl) tt tt trivial rfl rfl rfl Tryz.runUnderlying155 rfl ?_)
    refine a8 (a6 ?_)
    refine cY n9 ?_; refine cY b7 ?_; refine a8 ?_
    exact ⟨(P4 m1 (b.toNat:Int) k,j+1),_,⟨by dsimp only; omega,by dsimp only; omega,b49 hb hm1⟩,⟨⟨tt,rfl⟩,⟨tt,rfl⟩,⟨tt,rfl⟩,⟨tt,rfl⟩,⟨tt,rfl⟩,⟨tt,rfl⟩,tt⟩,rfl⟩
   ·have hjl:s.length≤j:=by
     have:¬ (j:Int) < s.length:=by simpa using h4
     omega
    rw [List.take_of_length_le hjl] at hm1
    refine m8 ?_
    exact ⟨(m1,[(k,s)],left.eraseIdx i),_,⟨by dsimp only; rw [List.length_eraseIdx_of_lt (List.getElem?_eq_some_iff.1 hy).1]; have:=(List.getElem?_eq_some_iff.1 hy).1; omega,hkl.step hy hm1⟩,⟨⟨tt,rfl⟩,⟨tt,rfl⟩,tt⟩,rfl⟩
  ·cases h3
theorem a5c (σ:List c5):b8 CC 113 [] σ fun r τ=>∃ m:List (Int × Int),r = .ret (.map σ.length)∧τ=σ++[.map (gm kb kv m)]∧KM m :=
 R0 (α:=List (Int × Int)) (obs:=[]) (args:=[]) (res:=fun _=>.ret (.map 0)) (res':=fun _=>.ret (.map σ.length)) (S:=fun _=>[]) (N:=fun m=>[.map (gm kb kv m)]) (P:=KM) [] hCC rfl (fun i j k h=>by simp at h) (fun i k h=>by simp at h) (fun ob h=>by cases h) ⟨rfl,fun i c c' h=>by simp at h⟩
  (R2 (res:=fun _=>.ret (.map 0)) (S:=fun m=>[.map (gm kb kv m)]) (P:=KM) hCC b2w) (fun m _=>⟨rfl,fun ob h=>by simp at h; subst h; exact b46 m⟩) (fun m _=>.ret (.map (.inr ⟨Nat.zero_le _,rfl⟩)))
def inK (ks:List Int) (b:UInt8):Bool:=ks.any fun k=>decide (p3 b.toNat=k)
def r7 (s:Str) (a:Nat) (ks:List Int):Nat:=a+((s.drop a).takeWhile (inK ks)).length
theorem b2T {s:Str} {a:Nat} {ks:List Int} (h:s.length≤a):r7 s a ks=a:=by
 unfold r7
 rw [List.drop_eq_nil_of_le h]; rfl
theorem a4s {s:Str} {a:Nat} {ks:List Int} {b:UInt8} (h:s[a]? = some b):r7 s a ks=if inK ks b=true then r7 s (a+1) ks else a:=by
 obtain ⟨hlt,rfl⟩:=List.getElem?_eq_some_iff.1 h
 unfold r7
 rw [List.drop_eq_getElem_cons hlt,List.takeWhile_cons]
 split
 ·rw [List.length_cons]; omega
 ·rfl
theorem a0j {s:Str} {a:Nat} {ks:List Int} (h:a≤s.length):a≤r7 s a ks∧r7 s a ks≤s.length:=by
 unfold r7
 have:=(List.takeWhile_sublist (inK ks) (l:=s.drop a)).length_le
 rw [List.length_drop] at this
 omega
theorem b5q {ks:List Int} {j:Nat} {k:Int} (h:ks[j]? = some k) (p:Int→Bool):(ks.take (j+1)).any p=((ks.take j).any p || p k):=by
 obtain ⟨hlt,rfl⟩:=List.getElem?_eq_some_iff.1 h
 rw [← List.take_append_getElem hlt,List.any_append]
 simp
set_option maxRecDepth 10000 in
theorem b5n (s:Str) (at_:Nat) (ks:List Int) (nn:Bool) (m:List (Int × Int)) (hm:KM m) (ha:at_≤s.length) (hs:s.length≤1000000000000) (hkl:ks.length≤1000000000000):b8 CC 114 [(sv (s)),(.val (.int .i64 ((at_:Int)))),.map 0,(.list (ks.map icv) nn none)] [c5.map (gm kb kv m)] fun r τ=>∃ _:Unit,a1i [c5.map (gm kb kv m)].length τ r (.ret (.val (.int .i64 ((r7 s at_ ks:Int)))))∧a3U [c5.map (gm kb kv m)].length τ τ [c5.map (gm kb kv m)]∧[c5.map (gm kb kv m)].length≤[c5.map (gm kb kv m)].length∧True:=by
 refine (d8 Tryz.func114 rfl rfl ?_)
 refine a7 (a6 ?_)
 refine cY i7 ?_
 refine a8 (a7 (d9 ?_))
 refine r6 hCC (α:=Nat) (fun i=>[(0,(sv (s))),(1,(.val (.int .i64 ((i:Int))))),(2,.map 0),(3,(.list (ks.map icv) nn none))]) (fun _=>[c5.map (gm kb kv m)]) (fun i=>i≤s.length∧r7 s at_ ks=r7 s i ks) (fun i=>s.length - i) at_ ⟨ha,rfl⟩ ⟨⟨tt,rfl⟩,⟨tt,rfl⟩,⟨tt,rfl⟩,⟨tt,rfl⟩,tt⟩ (extra0:=[]) rfl y9 (fun a ha=>by repeat' (first|exact tt|exact .val _|exact .ptr (nb rfl)|exact .map (nb rfl)|exact b3p | refine l2 ?_ | refine ⟨?_,?_⟩)) ?_; intro i ⟨hi,hsp⟩
 refine a7 (a7 (a6 ?_))
 refine cY b7 ?_; refine cY b7 ?_; refine cY E4 ?_; refine cY p8 ?_; refine a8 ?_
 refine b9 tt rfl (fun h1=>?_) (fun h1=>?_)
 ·have hil:(i:Int) < s.length:=by simpa using h1
  obtain ⟨b,hb⟩:∃ b,s[i]? = some b:=⟨s[i]'c4,by simp⟩
  rw [a4s hb] at hsp
  refine c8 (d9 (a7 (a6 ?_)))
  refine cY i7 ?_
  refine a8 (a7 (a7 (a6 ?_)))
  refine cY b7 ?_; refine cY a7O ?_; refine cY z8 ?_
  refine a8 (d9 ?_)
  refine r6 hCC (α:=Nat) (fun j=>[(0,(sv (s))),(1,(.val (.int .i64 ((i:Int))))),(2,.map 0),(3,(.list (ks.map icv) nn none)),(9,(.val (.bool (((ks.take j).any fun k=>decide (p3 b.toNat=k)))))),(16,(.list (ks.map icv) nn none)),(17,(.val (.int .i64 ((ks.length:Int))))),(18,(.val (.int .i64 ((j:Int)))))]) (fun _=>[c5.map (gm kb kv m)]) (fun j=>j≤ks.length) (fun j=>ks.length - j) 0 (Nat.zero_le _) ⟨⟨tt,rfl⟩,⟨tt,rfl⟩,⟨tt,rfl⟩,⟨tt,rfl⟩,⟨tt,rfl⟩,⟨tt,rfl⟩,⟨tt,rfl⟩,⟨tt,rfl⟩,tt⟩ (extra0:=[]) rfl y9 (fun a ha=>by repeat' (first|exact tt|exact .val _|exact .ptr (nb rfl)|exact .map (nb rfl)|exact b3p | refine l2 ?_ | refine ⟨?_,?_⟩)) ?_; intro j hj
  refine a7 (a6 ?_)
  refine cY p8 ?_
  refine a8 (a7 ?_)
  refine b9 tt rfl (fun h2=>?_) (fun h2=>?_)
  ·have hjl:(j:Int) < ks.length:=by simpa using h2
   obtain ⟨k,hk⟩:∃ k,ks[j]? = some k:=⟨ks[j]'c4,by simp⟩
   refine c8 (a7 (d9 (a7 (a6 ?_))))
   refine cY (o9 rfl tt tt rfl rfl Tryz.runUnderlying22 Tryz.sizeOf3 c4 (l6 hk) rfl) ?_; refine cY W4 ?_; refine cY c7 ?_
   refine a8 (a6 ?_)
   refine cY b7 ?_; refine cY b7 ?_; refine cG o6 ?_; refine cG o6 ?_; refine cG o6 ?_; refine cG b9Q ?_; refine cG (fun hg=>H5 (vc:=kv) (l:=m) (a:=(b.toNat:Int)) b7t rfl hg hg rfl rfl Tryz.runUnderlying155 Tryz.zeroValue3 rfl rfl (a7v _ _)) ?_; refine cG o6 ?_; refine cG a4C ?_; refine cY J0 ?_; refine cY c7 ?_
   refine a8 (a6 ?_)
   refine cY n9 ?_; refine cY b7 ?_; refine a8 ?_
   exact ⟨(j+1),_,⟨by omega,by omega⟩,⟨⟨tt,rfl⟩,⟨tt,rfl⟩,⟨tt,rfl⟩,⟨tt,rfl⟩,⟨tt,(by rw [b5q hk,← hm]; rfl)⟩,⟨tt,rfl⟩,⟨tt,rfl⟩,⟨tt,rfl⟩,tt⟩,rfl⟩
  ·have hjl:ks.length≤j:=by
    have:¬ (j:Int) < ks.length:=by simpa using h2
    omega
   refine m8 (a7 (a7 (a6 ?_)))
   refine cY b7 ?_; refine cY F1 ?_; refine a8 ?_
   refine b9 tt rfl (fun h3=>?_) (fun h3=>?_)
   ·have hno:inK ks b=false:=by
     have:((ks.take j).any fun k=>decide (p3 b.toNat=k))=false:=by simpa using h3
     rwa [List.take_of_length_le hjl] at this
    rw [hno] at hsp
    refine m8 (a7 (a6 ?_))
    refine cY b7 ?_; refine cY c7 ?_
    refine a8 (d5 ?_)
    exact ⟨_,l4 rfl tt c6,⟨(),.ret (r3 (by rw [hsp]; rfl)),⟨.same (I3 _ _),tt⟩,Nat.le_refl _,tt⟩⟩
   ·have hyes:inK ks b=true:=by
     have:((ks.take j).any fun k=>decide (p3 b.toNat=k))=true:=by simpa using h3
     rwa [List.take_of_length_le hjl] at this
    rw [hyes] at hsp
    refine c8 (a6 ?_)
    refine cY b7 ?_; refine cY n9 ?_; refine cY c7 ?_; refine a8 ?_
    exact ⟨(i+1),_,⟨by omega,by omega,hsp⟩,⟨⟨tt,rfl⟩,⟨tt,rfl⟩,⟨tt,rfl⟩,⟨tt,rfl⟩,tt⟩,rfl⟩
 ·have hge:s.length≤i:=by
   have:¬ (i:Int) < s.length:=by simpa using h1
   omega
  rw [b2T hge] at hsp
  refine m8 (a7 (a6 ?_))
  refine cY b7 ?_; refine cY c7 ?_
  refine a8 (d5 ?_)
  exact ⟨_,l4 rfl tt c6,⟨(),.ret (r3 (by rw [hsp])),⟨.same (I3 _ _),tt⟩,Nat.le_refl _,tt⟩⟩
theorem a2y {s:Str} {at_:Nat} {ks:List Int} {nn:Bool} {m:List (Int × Int)} (hm:KM m) (ha:at_≤s.length) (hs:s.length≤1000000000000) (hkl:ks.length≤1000000000000) {σ:List c5} {q:Nat} (hq:σ[q]? = some (.map (gm kb kv m))):b8 CC 114 [(sv s),(.val (.int .i64 (at_:Int))),.map q,(.list (ks.map icv) nn none)] σ fun r τ=>r = .ret (.val (.int .i64 (r7 s at_ ks:Int)))∧τ=σ :=
 a4N hCC (b46 m) (.val _) hq (.cons (.val _) (.cons (.val _) (.cons (.map rfl) (.cons (.pure (d4 _ _)) .nil)))) (b5n s at_ ks nn m hm ha hs hkl)
def t8 (s:Str):Bool:=match s with
 | []=>false
 | b::_=>decide (s.length≤24) && decide (p3 b.toNat=1) && s.all (inK [1,2,3])
theorem a2t {s:Str} {ks:List Int}:r7 s 0 ks=s.length↔s.all (inK ks)=true:=by
 unfold r7
 rw [List.drop_zero,Nat.zero_add]
 generalize inK ks=p
 induction s with
 | nil=>simp
 | cons b s ih =>
  rw [List.takeWhile_cons,List.all_cons]
  cases hp:p b with
  | false=>simp
  | true =>
   simp only [if_true,List.length_cons,Nat.add_right_cancel_iff,Bool.true_and]
   exact ih
theorem b5I {s:Str} (h:1≤s.length):s[(0:Int).toNat]? = some (s.headD 0):=by
 cases s with
 | nil=>simp at h
 | cons b s=>rfl
theorem b6Y (s:Str) {m:List (Int × Int)} (hm:KM m) {x y z w:Bool} (h1:x=decide ((s.length:Int)≥1)) (h2:y=decide ((s.length:Int)≤24)) (h3:z=((glk m ((s.headD 0).toNat:Int)).getD 0 == 1)) (h4:w=((r7 s 0 [1,2,3]:Int) == (s.length:Int))):(((x && y) && z) && w)=t8 s:=by
 subst h1 h2 h3 h4
 rw [hm]
 have h5:((r7 s 0 [1,2,3]:Int) == (s.length:Int))=s.all (inK [1,2,3]):=by
  cases h:s.all (inK [1,2,3]) with
  | true=>exact decide_eq_true (by have:=a2t.2 h; omega)
  | false =>
   refine decide_eq_false fun e=>?_
   have:=a2t.1 (show r7 s 0 [1,2,3]=s.length by omega)
   rw [h] at this; cases this
 rw [h5]
 cases s with
 | nil=>rfl
 | cons b s =>
  have h6:decide (((b::s).length:Int)≥1)=true:=by simp; omega
  have h7:decide (((b::s).length:Int)≤24)=decide ((b::s).length≤24):=decide_eq_decide.2 c4
  rw [h6,h7]
  rfl
set_option maxRecDepth 10000 in
theorem b6p (s:Str) (hs:s.length≤1000000000000):b8 CC 64 [(sv (s))] [] fun r σ'=>r = .ret (.val (.bool (t8 s)))∧σ'=[]:=by
 refine j4 (d8 Tryz.func64 rfl rfl ?_)
 refine a7 (a6 ?_)
 refine cY i7 ?_
 refine a8 (a7 (a6 ?_))
 refine cD (k8 rfl Tryz.call113 trivial (a5c _) rfl ?_)
 intro m hm; refine cY c7 ?_
 refine a8 (a7 (a6 ?_))
 refine cY b7 ?_; refine cY E4 ?_; refine cY k7 ?_; refine cY b7 ?_; refine cG o6 ?_; refine cG a2L ?_; refine cG A6 ?_; refine cY p9 ?_; refine cY b7 ?_; refine cG o6 ?_; refine cG o6 ?_; refine cG b9C ?_; refine cG (fun hg=>H5 (vc:=kv) (l:=m) (a:=((s.headD 0).toNat:Int)) b7t rfl hg hg rfl rfl Tryz.runUnderlying155 Tryz.zeroValue3 rfl rfl (a7v _ _)) ?_; refine cG A6 ?_; refine cY p9 ?_; refine cY b7 ?_; refine cG o6 ?_; refine cG o6 ?_; refine cG (fun hg=>y7 ([1,2,3].map icv) rfl ⟨rfl,rfl,rfl,tt⟩ Tryz.runUnderlying22 Tryz.sizeOf3 Tryz.zeroValue3 rfl rfl rfl rfl rfl rfl rfl rfl rfl) ?_; refine cG (fun hg=>i8 rfl Tryz.call114 ⟨hg,rfl,hg,hg,tt⟩ (a2y hm (Nat.zero_le _) hs j5 rfl) rfl) ?_; refine cG o6 ?_; refine cG a2L ?_; refine cG a4C ?_; refine cY p9 ?_; refine cY c7 ?_
 refine a8 (d5 ?_)
 exact ⟨_,l4 rfl tt c6,_,_,rfl,rfl,j8 (b6Y s hm rfl rfl rfl rfl)⟩
theorem U2 (s:Str) (hs:s.length≤1000000000000) (σ:List c5):b8 CC 64 [(sv (s))] σ fun r σ'=>r = .ret (.val (.bool (t8 s)))∧σ'=σ :=
 b8.anyw hCC (by repeat' (first|exact .val _|exact d4 _ _|exact c9 _ _|exact tt | refine d6 ?_ | refine d7 ?_ | refine ⟨?_,?_⟩)) (by repeat' (first|exact .val _|exact d4 _ _|exact c9 _ _|exact tt | refine d6 ?_ | refine d7 ?_ | refine ⟨?_,?_⟩)) (b6p s hs) σ
set_option maxRecDepth 10000 in
theorem a7h (s:Str) (c:UInt8):b8 CC 223 [(sv (s)),(.val (.int .u8 ((c.toNat:Int))))] [] fun r σ'=>r = .ret (.val (.int .i64 (Go.Lib.indexByte s c)))∧σ'=[]:=by
 refine j4 (d8 Tryz.func223 rfl rfl ?_)
 refine a7 (a6 ?_)
 refine cY i7 ?_
 refine a8 (a7 (a6 ?_))
 refine cY b7 ?_; refine cY b7 ?_; refine cY (b0j (e:=Extern.BytealgIndexByte.indexByte) rfl Tryz.func260 rfl rfl rfl rfl tt tt rfl rfl (fun w=>b2l s c w)) ?_; refine cY c7 ?_
 refine a8 (d5 ?_)
 exact ⟨_,l4 rfl tt c6,_,_,rfl,rfl,r3 rfl⟩
theorem a1p (s:Str) (c:UInt8) (σ:List c5):b8 CC 223 [(sv (s)),(.val (.int .u8 ((c.toNat:Int))))] σ fun r σ'=>r = .ret (.val (.int .i64 (Go.Lib.indexByte s c)))∧σ'=σ :=
 b8.anyw hCC (by repeat' (first|exact .val _|exact d4 _ _|exact c9 _ _|exact tt | refine d6 ?_ | refine d7 ?_ | refine ⟨?_,?_⟩)) (by repeat' (first|exact .val _|exact d4 _ _|exact c9 _ _|exact tt | refine d6 ?_ | refine d7 ?_ | refine ⟨?_,?_⟩)) (a7h s c) σ
set_option maxRecDepth 10000 in
theorem a2n (s:Str) (c:UInt8):b8 CC 184 [(sv (s)),(.val (.int .u8 ((c.toNat:Int))))] [] fun r σ'=>r = .ret (.val (.int .i64 (Go.Lib.indexByte s c)))∧σ'=[]:=by
 refine j4 (d8 Tryz.func184 rfl rfl ?_)
 refine a7 (a6 ?_)
 refine cY i7 ?_
 refine a8 (a7 (a6 ?_))
 refine cY b7 ?_; refine cY b7 ?_; refine cY (i8 rfl Tryz.call223 ⟨tt,tt,tt⟩ (a1p s c _) rfl) ?_; refine cY c7 ?_
 refine a8 (d5 ?_)
 exact ⟨_,l4 rfl tt c6,_,_,rfl,rfl,r3 rfl⟩
theorem a1T (s:Str) (c:UInt8) (σ:List c5):b8 CC 184 [(sv (s)),(.val (.int .u8 ((c.toNat:Int))))] σ fun r σ'=>r = .ret (.val (.int .i64 (Go.Lib.indexByte s c)))∧σ'=σ :=
 b8.anyw hCC (by repeat' (first|exact .val _|exact d4 _ _|exact c9 _ _|exact tt | refine d6 ?_ | refine d7 ?_ | refine ⟨?_,?_⟩)) (by repeat' (first|exact .val _|exact d4 _ _|exact c9 _ _|exact tt | refine d6 ?_ | refine d7 ?_ | refine ⟨?_,?_⟩)) (a2n s c) σ
set_option maxRecDepth 10000 in
theorem b3b (s:Str) (c:UInt8):b8 CC 254 [(sv (s)),(sv ([c]))] [] fun r σ'=>r = .ret (.val (.int .i64 (Go.Lib.indexByte s c)))∧σ'=[]:=by
 refine j4 (d8 Tryz.func254 rfl rfl ?_)
 refine a7 (a6 ?_)
 refine cY i7 ?_
 refine a8 (a7 (a6 ?_))
 refine cY b7 ?_; refine cY E4 ?_; refine cY c7 ?_
 refine a8 (a7 (d9 (a7 (a6 ?_))))
 refine cY b7 ?_; refine cY k7 ?_; refine cY b7 ?_; refine cG o6 ?_; refine cG o6 ?_; refine cG a3s ?_; refine cY J0 ?_; refine cY c7 ?_; refine a8 ?_
 refine b9 tt rfl (fun h1=>?_) (fun h1=>?_)
 ·have hs:s=[c]:=by simp at h1; exact h1.symm
  subst hs
  refine a7 (a6 ?_)
  refine cY i7 ?_
  refine a8 (d5 ?_)
  exact ⟨_,l4 rfl tt c6,_,_,rfl,rfl,r3 (by simp [Go.Lib.indexByte])⟩
 ·skip
  refine a7 (a6 ?_)
  refine cY b7 ?_; refine cY k7 ?_; refine cY c7 ?_; refine a8 ?_
  refine b9 tt rfl (fun h2=>?_) (fun h2=>?_)
  ·skip
   refine a7 (a6 ?_)
   refine cY b7 ?_; refine cY b7 ?_; refine cY (U9 rfl tt rfl rfl rfl Tryz.runUnderlying9 c4 rfl) ?_; refine cY (i8 rfl Tryz.call223 ⟨tt,tt,tt⟩ (a1p s c _) rfl) ?_; refine cY c7 ?_
   refine a8 (d5 ?_)
   exact ⟨_,l4 rfl tt c6,_,_,rfl,rfl,r3 rfl⟩
  ·simp at h2
theorem a8T (s:Str) (c:UInt8) (σ:List c5):b8 CC 254 [(sv (s)),(sv ([c]))] σ fun r σ'=>r = .ret (.val (.int .i64 (Go.Lib.indexByte s c)))∧σ'=σ :=
 b8.anyw hCC (by repeat' (first|exact .val _|exact d4 _ _|exact c9 _ _|exact tt | refine d6 ?_ | refine d7 ?_ | refine ⟨?_,?_⟩)) (by repeat' (first|exact .val _|exact d4 _ _|exact c9 _ _|exact tt | refine d6 ?_ | refine d7 ?_ | refine ⟨?_,?_⟩)) (b3b s c) σ
set_option maxRecDepth 10000 in
theorem a4u (s:Str) (c:UInt8):b8 CC 204 [(sv (s)),(sv ([c]))] [] fun r σ'=>r = .ret (.val (.int .i64 (Go.Lib.indexByte s c)))∧σ'=[]:=by
 refine j4 (d8 Tryz.func204 rfl rfl ?_)
 refine a7 (a6 ?_)
 refine cY i7 ?_
 refine a8 (a7 (a6 ?_))
 refine cY b7 ?_; refine cY b7 ?_; refine cY (i8 rfl Tryz.call254 ⟨tt,tt,tt⟩ (a8T s c _) rfl) ?_; refine cY c7 ?_
 refine a8 (d5 ?_)
 exact ⟨_,l4 rfl tt c6,_,_,rfl,rfl,r3 rfl⟩
theorem a29 (s:Str) (c:UInt8) (σ:List c5):b8 CC 204 [(sv (s)),(sv ([c]))] σ fun r σ'=>r = .ret (.val (.int .i64 (Go.Lib.indexByte s c)))∧σ'=σ :=
 b8.anyw hCC (by repeat' (first|exact .val _|exact d4 _ _|exact c9 _ _|exact tt | refine d6 ?_ | refine d7 ?_ | refine ⟨?_,?_⟩)) (by repeat' (first|exact .val _|exact d4 _ _|exact c9 _ _|exact tt | refine d6 ?_ | refine d7 ?_ | refine ⟨?_,?_⟩)) (a4u s c) σ
set_option maxRecDepth 10000 in
theorem a5h (s:Str) (c:UInt8):b8 CC 203 [(sv (s)),(sv ([c]))] [] fun r σ'=>r = .ret (.val (.int .i64 ((s.count c:Nat))))∧σ'=[]:=by
 refine j4 (d8 Tryz.func203 rfl rfl ?_)
 refine a7 (a6 ?_)
 refine cY i7 ?_
 refine a8 (a7 (a7 (a6 ?_)))
 refine cY b7 ?_; refine cY E4 ?_; refine cY k7 ?_; refine a8 ?_
 refine b9 tt rfl (fun h1=>?_) (fun h1=>?_)
 ·simp at h1
 ·skip
  refine c8 (a7 (a7 (a6 ?_)))
  refine cY b7 ?_; refine cY E4 ?_; refine cY k7 ?_; refine a8 ?_
  refine b9 tt rfl (fun h2=>?_) (fun h2=>?_)
  ·skip
   refine a7 (a6 ?_)
   refine cY b7 ?_; refine cY b7 ?_; refine cY (U9 rfl tt rfl rfl rfl Tryz.runUnderlying9 c4 rfl) ?_; refine cY (b0j (e:=Extern.BytealgCount.count) rfl Tryz.func253 rfl rfl rfl rfl tt tt rfl rfl (fun w=>b2s s c w)) ?_; refine cY c7 ?_
   refine a8 (d5 ?_)
   exact ⟨_,l4 rfl tt c6,_,_,rfl,rfl,r3 rfl⟩
  ·simp at h2
theorem a3d (s:Str) (c:UInt8) (σ:List c5):b8 CC 203 [(sv (s)),(sv ([c]))] σ fun r σ'=>r = .ret (.val (.int .i64 ((s.count c:Nat))))∧σ'=σ :=
 b8.anyw hCC (by repeat' (first|exact .val _|exact d4 _ _|exact c9 _ _|exact tt | refine d6 ?_ | refine d7 ?_ | refine ⟨?_,?_⟩)) (by repeat' (first|exact .val _|exact d4 _ _|exact c9 _ _|exact tt | refine d6 ?_ | refine d7 ?_ | refine ⟨?_,?_⟩)) (a5h s c) σ
def r4 (c:UInt8):Str→List Str
 | []=>[[]]
 | b::l=>if b=c then []::r4 c l else match r4 c l with
  | x::xs=>(b::x)::xs
  | []=>[[b]]
theorem Q2 (c:UInt8) (s:Str):r4 c s≠[]:=by
 cases s with
 | nil=>simp [r4]
 | cons b l =>
  rw [r4]
  split
  ·simp
  ·split <;> simp
theorem Q8 (c:UInt8) (s:Str):(r4 c s).length=s.count c+1:=by
 induction s with
 | nil=>rfl
 | cons b l ih =>
  rw [r4,List.count_cons]
  by_cases h:b=c
  ·rw [if_pos h,List.length_cons,ih,if_pos a16]
  ·rw [if_neg h,if_neg a16]
   cases hs:r4 c l with
   | nil=>exact absurd hs (Q2 c l)
   | cons x xs=>rw [hs] at ih; simpa using ih
theorem a1a {c:UInt8}:∀ {s:Str},Go.Lib.indexByte s c = -1→r4 c s=[s]
 | [],_=>rfl
 | b::l,h=>by
  rw [Go.Lib.indexByte] at h
  by_cases hb:b=c
  ·rw [if_pos (by simpa using hb)] at h; omega
  ·rw [if_neg (by simpa using hb)] at h
   have hl:Go.Lib.indexByte l c = -1:=by
    have:=Go.Lib.indexByte_ge l c
    split at h
    ·rename_i e; simpa using e
    ·omega
   rw [r4,if_neg hb,a1a hl]
theorem a1v {c:UInt8}:∀ {s:Str} {m:Nat},Go.Lib.indexByte s c=m→m < s.length∧r4 c s=s.take m::r4 c (s.drop (m+1))
 | [],m,h=>by rw [Go.Lib.indexByte] at h; omega
 | b::l,m,h=>by
  rw [Go.Lib.indexByte] at h
  by_cases hb:b=c
  ·rw [if_pos (by simpa using hb)] at h
   have hm:m=0:=by omega
   subst hm
   exact ⟨by simp,by rw [r4,if_pos hb]; rfl⟩
  ·rw [if_neg (by simpa using hb)] at h
   have hg:=Go.Lib.indexByte_ge l c
   split at h
   ·omega
   ·rename_i e
    have e':Go.Lib.indexByte l c≠-1:=by simpa using e
    obtain ⟨k,hk⟩:∃ k:Nat,Go.Lib.indexByte l c=k:=⟨(Go.Lib.indexByte l c).toNat,by omega⟩
    have hmk:m=k+1:=by omega
    subst hmk
    obtain ⟨h1,h2⟩:=a1v hk
    refine ⟨by simp; omega,?_⟩
    rw [r4,if_neg hb,h2]
    rfl
theorem a9m (n:Nat) {d:List Str} {k:Nat}:C8 n (.vec 1 (d.map scv++List.replicate k (scv []))):=fun r hr c hc=>by
 rcases List.mem_append.1 hr with hr | hr
 ·obtain ⟨x,_,rfl⟩:=List.mem_map.1 hr
  simp [scv] at hc; subst hc; exact .val _
 ·have:=List.eq_of_mem_replicate hr
  subst this
  simp [scv] at hc; subst hc; exact .val _
theorem b3R {d:List Str} {k:Nat} (hk:0 < k):(d.map scv++List.replicate k (scv []))[0+((d.length:Int)).toNat]? = some (scv []):=by
 rw [Nat.zero_add,Int.toNat_natCast,List.getElem?_append_right m5]
 simp [hk]
theorem b51 {d:List Str} {n:Nat} {x:Str} (hk:d.length < n):(d.map scv++List.replicate (n - d.length) (scv [])).set (0+((d.length:Int)).toNat) (scv x)=(d++[x]).map scv++List.replicate (n - (d++[x]).length) (scv []):=by
 rw [Nat.zero_add,Int.toNat_natCast,List.set_append,if_neg m5]
 obtain ⟨j,hj⟩:∃ j,n - d.length=j+1:=⟨n - d.length - 1,by omega⟩
 have h2:n - (d++[x]).length=j:=by simp; omega
 rw [hj,h2]
 simp [List.replicate_succ]
set_option maxRecDepth 10000 in
theorem a2J (s:Str) (c:UInt8) (hs:s.length≤1000000000):b8 CC 153 [(sv (s)),(sv ([c])),(.val (.int .i64 (0))),(.val (.int .i64 (-1)))] [] fun r σ'=>r = .ret (.list ((r4 c s).map scv) true none)∧σ'=[]:=by
 have hcnt:=s.count_le_length (a:=c)
 have hc1:([c]:Str).length=1:=rfl
 refine j4 (d8 Tryz.func153 rfl rfl ?_)
 refine a7 (a6 ?_)
 refine cY i7 ?_
 refine a8 (a7 (a7 (a6 ?_)))
 refine cY b7 ?_; refine cY k7 ?_; refine a8 ?_
 refine b9 tt rfl (fun h1=>?_) (fun h1=>?_)
 ·simp at h1
 ·skip
  refine c8 (a7 (a7 (a6 ?_)))
  refine cY b7 ?_; refine cY I7 ?_; refine a8 ?_
  refine b9 tt rfl (fun h2=>?_) (fun h2=>?_)
  ·simp at h2
  ·skip
   refine c8 ?_; refine R1 hCC (α:=Unit) (fun _=>[(0,(sv (s))),(1,(sv ([c]))),(2,(.val (.int .i64 (0)))),(3,(.val (.int .i64 (((s.count c:Nat):Int)+1))))]) (fun _=>[]) (fun _=>True) y9 (fun a ha=>by repeat' (first|exact tt|exact .val _|exact .ptr (nb rfl)|exact .map (nb rfl)|exact (by first|exact .vec (nb rfl)|exact a9m _|exact m4 _ _ _) | refine l2 ?_ | refine ⟨?_,?_⟩)) ?_ ?_
   ·
    refine a7 (a6 ?_)
    refine cY b7 ?_; refine cY k7 ?_; refine a8 ?_
    refine b9 tt rfl (fun h3=>?_) (fun h3=>?_)
    ·skip
     refine a6 ?_; refine cY b7 ?_; refine cY b7 ?_; refine cY (i8 rfl Tryz.call203 ⟨tt,tt,tt⟩ (a3d s c _) rfl) ?_; refine cY n9 ?_; refine cY c7 ?_; refine a8 ?_
     exact ⟨(),_,tt,⟨⟨tt,rfl⟩,⟨tt,rfl⟩,⟨tt,rfl⟩,⟨tt,rfl⟩,tt⟩,rfl⟩
    ·simp at h3
   ·intro _ _
    refine a7 (a6 ?_)
    refine cY b7 ?_; refine cY b7 ?_; refine cY E4 ?_; refine cY n9 ?_; refine cY (b7Z rfl tt tt rfl rfl) ?_; refine cY c7 ?_
    refine a8 (a7 (a6 ?_))
    refine cY b7 ?_
    refine cD (a9Z rfl tt tt rfl rfl (n:=(s.count c+1)) (c:=(s.count c+1)) c4 c4 Tryz.runUnderlying26 Tryz.sizeOf9 Tryz.typeInfo9 Tryz.zeroValue9 rfl (a1I rfl) rfl c4 L1 b3q ?_)
    refine cY c7 ?_
    refine a8 (a7 (a6 ?_))
    refine cY b7 ?_; refine cY T4 ?_; refine cY c7 ?_
    refine a8 (a7 (a6 ?_))
    refine cY i7 ?_
    refine a8 (a7 (d9 ?_))
    refine r6 hCC (α:=List Str × Str) (fun x=>[(0,(sv (x.2))),(1,(sv ([c]))),(2,(.val (.int .i64 (0)))),(3,(.val (.int .i64 (((s.count c:Nat):Int))))),(9,.vec 0 0 (s.count c+1)),(10,(.val (.int .i64 ((x.1.length:Int)))))]) (fun x=>[.vec 1 (x.1.map scv++List.replicate (s.count c+1 - x.1.length) (scv []))]) (fun x=>x.1.length≤s.count c∧r4 c s=x.1++r4 c x.2∧x.2.length≤s.length) (fun x=>s.count c+1 - x.1.length) ([],s) ⟨Nat.zero_le _,rfl,Nat.le_refl _⟩ ⟨⟨tt,rfl⟩,⟨tt,rfl⟩,⟨tt,rfl⟩,⟨tt,congrArg (fun z:Int=>(CV.val (.int .i64 z))) c4⟩,⟨tt,rfl⟩,⟨tt,rfl⟩,tt⟩ (extra0:=[]) rfl y9 (fun a ha=>by repeat' (first|exact tt|exact .val _|exact .ptr (nb rfl)|exact .map (nb rfl)|exact (by first|exact .vec (nb rfl)|exact a9m _|exact m4 _ _ _) | refine l2 ?_ | refine ⟨?_,?_⟩)) ?_; intro ⟨d,u⟩ ⟨hd,hsp,hul⟩
    dsimp only at hd hsp hul ⊢
    have hlen:=Q8 c s
    rw [hsp,List.length_append,Q8 c u] at hlen
    refine a7 (a7 (a6 ?_))
    refine cY b7 ?_; refine cY b7 ?_; refine cY p8 ?_; refine a8 ?_
    refine b9 tt rfl (fun h4=>?_) (fun h4=>?_)
    ·have hdl:d.length < s.count c:=by simp at h4; omega
     refine c8 (d9 (a7 (a6 ?_)))
     refine cY b7 ?_; refine cY b7 ?_; refine cY (i8 rfl Tryz.call204 ⟨tt,tt,tt⟩ (a29 u c _) rfl) ?_; refine cY c7 ?_
     refine a8 (a7 (a7 (a6 ?_)))
     refine cY b7 ?_; refine cY k7 ?_; refine a8 ?_
     refine b9 tt rfl (fun h5=>?_) (fun h5=>?_)
     ·exfalso
      have hneg:Go.Lib.indexByte u c = -1:=by
       have:=Go.Lib.indexByte_ge u c
       have h5':Go.Lib.indexByte u c < 0:=by simpa using h5
       omega
      have h6:=Q8 c u
      rw [a1a hneg] at h6
      simp at h6
      omega
     ·have hm0:¬ Go.Lib.indexByte u c < 0:=by simpa using h5
      obtain ⟨m,hm⟩:∃ m:Nat,Go.Lib.indexByte u c=m:=⟨(Go.Lib.indexByte u c).toNat,by omega⟩
      obtain ⟨hml,hsu⟩:=a1v hm
      rw [hm]
      refine c8 (a7 (a6 ?_))
      refine cY b7 ?_; refine cY b7 ?_; refine cY b7 ?_; refine cY b7 ?_; refine cY b7 ?_; refine cY a2z ?_; refine cY (K1 (h:=m) rfl tt rfl Tryz.runUnderlying9 rfl ⟨tt,_,_,rfl,by omega,by omega⟩ (by first|omega | simp) (by first|omega | simp)) ?_; refine cY (N3 rfl tt tt rfl rfl Tryz.runUnderlying26 Tryz.sizeOf9 rfl c4 c4) ?_
      refine cD (F9 ((d++[u.take m]).map scv++List.replicate (s.count c+1 - (d++[u.take m]).length) (scv [])) rfl tt tt rfl c6 Tryz.sizeOf9 (.inl rfl) rfl (b3R (d:=d) (k:=s.count c+1 - d.length) c4) rfl (nb rfl) (by exact b51 (d:=d) (x:=u.take m) (n:=s.count c+1) c4) rfl ?_)
      refine a8 (a7 (a6 ?_))
      refine cY b7 ?_; refine cY b7 ?_; refine cY b7 ?_; refine cY E4 ?_; refine cY a2z ?_; refine cY (K1 (a:=(m+1)) rfl tt rfl Tryz.runUnderlying9 ⟨tt,_,_,rfl,by omega,by omega⟩ rfl (by first|omega | simp) (by first|omega | simp)) ?_; refine cY c7 ?_
      refine a8 (a6 ?_)
      refine cY b7 ?_; refine cY n9 ?_; refine cY c7 ?_; refine a8 ?_
      exact ⟨(d++[u.take m],u.drop (m+1)),_,⟨by simp; omega,by simp; omega,by rw [hsp,hsu]; simp,by simp; omega⟩,⟨⟨tt,(congrArg sv (show (u.take u.length).drop (m+1)=u.drop (m+1) by rw [List.take_length]))⟩,⟨tt,rfl⟩,⟨tt,rfl⟩,⟨tt,rfl⟩,⟨tt,rfl⟩,⟨tt,congrArg (fun z:Int=>(CV.val (.int .i64 z))) m5⟩,tt⟩,rfl⟩
    ·have hdl:d.length=s.count c:=by
      have:¬ (d.length:Int) < ((s.count c:Nat):Int):=by simpa using h4
      omega
     have hu1:r4 c u=[u]:=by
      apply a1a
      have h6:=Q8 c u
      have hg:=Go.Lib.indexByte_ge u c
      rcases Int.lt_or_le (Go.Lib.indexByte u c) 0 with h | h
      ·omega
      ·obtain ⟨m,hm⟩:∃ m:Nat,Go.Lib.indexByte u c=m:=⟨(Go.Lib.indexByte u c).toNat,by omega⟩
       obtain ⟨_,h7⟩:=a1v hm
       have h8:=congrArg List.length h7
       have h9:=Q2 c (u.drop (m+1))
       have h10:=List.length_pos_iff.2 h9
       simp only [List.length_cons] at h8
       omega
     rw [hu1] at hsp
     refine m8 (a7 (a6 ?_))
     refine cY b7 ?_; refine cY b7 ?_; refine cY b7 ?_; refine cY (N3 rfl tt tt rfl rfl Tryz.runUnderlying26 Tryz.sizeOf9 rfl c4 c4) ?_
     refine cD (F9 ((d++[u]).map scv++List.replicate (s.count c+1 - (d++[u]).length) (scv [])) rfl tt tt rfl c6 Tryz.sizeOf9 (.inl rfl) rfl (b3R (d:=d) (k:=s.count c+1 - d.length) c4) rfl (nb rfl) (by exact b51 (d:=d) (x:=u) (n:=s.count c+1) c4) rfl ?_)
     refine a8 (a7 (a6 ?_))
     refine cY b7 ?_; refine cY b7 ?_; refine cY n9 ?_; refine cY (N7 (h:=(d.length+1)) rfl tt rfl Tryz.runUnderlying26 Tryz.sizeOf9 rfl rfl ⟨tt,_,_,rfl,by omega,by omega⟩ a0U (by first|(simp; done)|(simp; omega))) ?_; refine cY c7 ?_
     refine a8 (d5 ?_)
     exact ⟨_,l4 rfl tt c6,_,_,rfl,rfl,.vecs (Nat.zero_le _) rfl (by first|(simp; done)|(simp; omega)) (by rw [hsp,List.drop_zero]; exact List.take_left' m5) (fun r hr c hc=>(A4 (f:=scv) (fun _=>H6.all ⟨.val _,tt⟩) _) r hr c hc)⟩
theorem a1U (s:Str) (c:UInt8) (hs:s.length≤1000000000) (σ:List c5):b8 CC 153 [(sv (s)),(sv ([c])),(.val (.int .i64 (0))),(.val (.int .i64 (-1)))] σ fun r σ'=>r = .ret (.list ((r4 c s).map scv) true none)∧σ'=σ :=
 b8.anyw hCC (by repeat' (first|exact .val _|exact d4 _ _|exact c9 _ _|exact tt | refine d6 ?_ | refine d7 ?_ | refine ⟨?_,?_⟩)) (by repeat' (first|exact .val _|exact d4 _ _|exact c9 _ _|exact tt | refine d6 ?_ | refine d7 ?_ | refine ⟨?_,?_⟩)) (a2J s c hs) σ
set_option maxRecDepth 10000 in
theorem a4T (s:Str) (c:UInt8) (hs:s.length≤1000000000):b8 CC 116 [(sv (s)),(sv ([c]))] [] fun r σ'=>r = .ret (.list ((r4 c s).map scv) true none)∧σ'=[]:=by
 refine j4 (d8 Tryz.func116 rfl rfl ?_)
 refine a7 (a6 ?_)
 refine cY i7 ?_
 refine a8 (a7 (a6 ?_))
 refine cY b7 ?_; refine cY b7 ?_; refine cY (i8 rfl Tryz.call153 ⟨tt,tt,rfl,rfl,tt⟩ (a1U s c hs _) rfl) ?_; refine cY c7 ?_
 refine a8 (d5 ?_)
 exact ⟨_,l4 rfl tt c6,_,_,rfl,rfl,(F8 rfl (c9 _ _))⟩
theorem a3o (s:Str) (c:UInt8) (hs:s.length≤1000000000) (σ:List c5):b8 CC 116 [(sv (s)),(sv ([c]))] σ fun r σ'=>r = .ret (.list ((r4 c s).map scv) true none)∧σ'=σ :=
 b8.anyw hCC (by repeat' (first|exact .val _|exact d4 _ _|exact c9 _ _|exact tt | refine d6 ?_ | refine d7 ?_ | refine ⟨?_,?_⟩)) (by repeat' (first|exact .val _|exact d4 _ _|exact c9 _ _|exact tt | refine d6 ?_ | refine d7 ?_ | refine ⟨?_,?_⟩)) (a4T s c hs) σ
def a0T (p:Str):Bool:=decide (1≤p.length) && decide (p.length≤24) && p.all (inK [1,2,3,4])
def C1 (s:Str):Bool:=decide (s.length≤80) && decide ((r4 47 s).length≤8) && (r4 47 s).all a0T
theorem b2S {c:UInt8} {s:Str}:∀ p∈r4 c s,p.length≤s.length:=by
 induction s with
 | nil=>intro p hp; simp [r4] at hp; subst hp; simp
 | cons b l ih =>
  intro p hp
  rw [r4] at hp
  by_cases h:b=c
  ·rw [if_pos h] at hp
   rcases List.mem_cons.1 hp with rfl | hp
   ·simp
   ·have:=ih p hp; simp; omega
  ·rw [if_neg h] at hp
   cases hs:r4 c l with
   | nil=>exact absurd hs (Q2 c l)
   | cons x xs =>
    rw [hs] at hp ih
    rcases List.mem_cons.1 hp with rfl | hp
    ·have:=ih x m5; simp; omega
    ·have:=ih p (by simp [hp]); simp; omega
theorem b1m (p:Str) {x y z:Bool} (h1:x=decide ((p.length:Int) < 1)) (h2:y=decide ((p.length:Int) > 24)) (h3:z = !((r7 p 0 [1,2,3,4]:Int) == (p.length:Int))):((x || y) || z) = !a0T p:=by
 subst h1 h2 h3
 have h5:((r7 p 0 [1,2,3,4]:Int) == (p.length:Int))=p.all (inK [1,2,3,4]):=by
  cases h:p.all (inK [1,2,3,4]) with
  | true=>exact decide_eq_true (by have:=a2t.2 h; omega)
  | false =>
   refine decide_eq_false fun e=>?_
   have:=a2t.1 (show r7 p 0 [1,2,3,4]=p.length by omega)
   rw [h] at this; cases this
 rw [h5,a0T]
 have h6:decide ((p.length:Int) < 1) = !decide (1≤p.length):=by by_cases h:1≤p.length <;> simp [h] <;> omega
 have h7:decide ((p.length:Int) > 24) = !decide (p.length≤24):=by by_cases h:p.length≤24 <;> simp [h] <;> omega
 rw [h6,h7]
 simp [Bool.not_and]
set_option maxRecDepth 10000 in
theorem b6i (s:Str) (hs:s.length≤1000000000):b8 CC 66 [(sv (s))] [] fun r σ'=>r = .ret (.val (.bool (C1 s)))∧σ'=[]:=by
 refine j4 (d8 Tryz.func66 rfl rfl ?_)
 refine a7 (a6 ?_)
 refine cY i7 ?_
 refine a8 (a7 (a6 ?_))
 refine cY b7 ?_; refine cY (i8 rfl Tryz.call116 ⟨tt,rfl,tt⟩ (a3o s 47 hs _) rfl) ?_; refine cY c7 ?_
 refine a8 (a7 (a7 (a6 ?_)))
 refine cY b7 ?_; refine cY E4 ?_; refine cY k7 ?_; refine cY b7 ?_; refine cG o6 ?_; refine cG (fun hg=>S3 rfl hg rfl Tryz.runUnderlying26 a2q rfl) ?_; refine cG A6 ?_; refine cY J0 ?_; refine a8 ?_
 refine b9 tt rfl (fun h1=>?_) (fun h1=>?_)
 ·have hno:C1 s=false:=by
   unfold C1
   have h1':(decide ((s.length:Int) > 80) || decide (((r4 47 s).length:Int) > 8))=true:=h1
   by_cases h:s.length≤80
   ·have h2:¬ (r4 47 s).length≤8:=by
     intro h2
     have e1:decide ((s.length:Int) > 80)=false:=decide_eq_false c4
     have e2:decide (((r4 47 s).length:Int) > 8)=false:=decide_eq_false c4
     rw [e1,e2] at h1'; cases h1'
    simp [h2]
   ·simp [h]
  refine a7 (a6 ?_)
  refine cY i7 ?_
  refine a8 (d5 ?_)
  exact ⟨_,l4 rfl tt c6,_,_,rfl,rfl,j8 hno.symm⟩
 ·have hok:s.length≤80∧(r4 47 s).length≤8:=by
   have h1':(decide ((s.length:Int) > 80) || decide (((r4 47 s).length:Int) > 8))=false:=h1
   simp only [Bool.or_eq_false_iff,decide_eq_false_iff_not] at h1'
   omega
  refine c8 (a7 (a6 ?_))
  refine cD (k8 rfl Tryz.call113 trivial (a5c _) rfl ?_)
  intro m hm; refine cY c7 ?_
  refine a8 (a7 (a7 (a6 ?_)))
  refine cY b7 ?_; refine cY Y4 ?_; refine cY z8 ?_
  refine a8 (d9 ?_)
  refine r6 hCC (α:=Nat) (fun i=>[(4,.map 0),(18,(.list ((r4 47 s).map scv) true none)),(19,(.val (.int .i64 (((r4 47 s).length:Int))))),(20,(.val (.int .i64 ((i:Int)))))]) (fun _=>[.map (gm kb kv m)]) (fun i=>i≤(r4 47 s).length∧((r4 47 s).take i).all a0T=true) (fun i=>(r4 47 s).length - i) 0 ⟨Nat.zero_le _,rfl⟩ ⟨⟨tt,rfl⟩,⟨tt,rfl⟩,⟨tt,rfl⟩,⟨tt,rfl⟩,tt⟩ (extra0:=[]) rfl y9 (fun a ha=>by repeat' (first|exact tt|exact .val _|exact .ptr (nb rfl)|exact .map (nb rfl)|exact b3p | refine l2 ?_ | refine ⟨?_,?_⟩)) ?_; intro i ⟨hi,hall⟩
  refine a7 (a6 ?_)
  refine cY p8 ?_
  refine a8 (a7 ?_)
  refine b9 tt rfl (fun h2=>?_) (fun h2=>?_)
  ·have hil:(i:Int) < (r4 47 s).length:=by simpa using h2
   obtain ⟨p,hp⟩:∃ p,(r4 47 s)[i]? = some p:=⟨(r4 47 s)[i]'c4,by simp⟩
   have hpl:=b2S p (List.mem_of_getElem? hp)
   refine c8 (a7 (d9 (a7 (a6 ?_))))
   refine cY (o9 rfl tt tt rfl rfl Tryz.runUnderlying26 Tryz.sizeOf9 c4 (l6 hp) rfl) ?_; refine cY R4 ?_; refine cY c7 ?_
   refine a8 (a7 (a6 ?_))
   refine cY b7 ?_; refine cY E4 ?_; refine cY k7 ?_; refine cY b7 ?_; refine cG o6 ?_; refine cG a2L ?_; refine cG A6 ?_; refine cY J0 ?_; refine cY b7 ?_; refine cG o6 ?_; refine cG o6 ?_; refine cG (fun hg=>y7 ([1,2,3,4].map icv) rfl ⟨rfl,rfl,rfl,rfl,tt⟩ Tryz.runUnderlying22 Tryz.sizeOf3 Tryz.zeroValue3 rfl rfl rfl rfl rfl rfl rfl rfl rfl) ?_; refine cG (fun hg=>i8 rfl Tryz.call114 ⟨hg,rfl,hg,hg,tt⟩ (a2y hm (Nat.zero_le _) c4 j5 rfl) rfl) ?_; refine cG o6 ?_; refine cG a2L ?_; refine cG a4C ?_; refine cY J0 ?_; refine a8 ?_
   refine b9 tt rfl (fun h3=>?_) (fun h3=>?_)
   ·have hbad:a0T p=false:=by
     have h3':true = !a0T p:=Eq.trans (Eq.symm h3) (b1m p rfl rfl rfl)
     simpa using h3'.symm
    have hno:C1 s=false:=by
     unfold C1
     have:(r4 47 s).all a0T=false:=by
      rw [Bool.eq_false_iff]
      intro hh
      have:=List.all_eq_true.1 hh p (List.mem_of_getElem? hp)
      rw [hbad] at this; cases this
     rw [this]; simp
    refine a7 (a6 ?_)
    refine cY i7 ?_
    refine a8 (d5 ?_)
    exact ⟨_,l4 rfl tt c6,_,_,rfl,rfl,j8 hno.symm⟩
   ·have hgood:a0T p=true:=by
     have h3':false = !a0T p:=Eq.trans (Eq.symm h3) (b1m p rfl rfl rfl)
     simpa using h3'.symm
    refine c8 (a6 ?_)
    refine cY n9 ?_; refine cY b7 ?_; refine a8 ?_
    exact ⟨(i+1),_,⟨by omega,by omega,by
 obtain ⟨hlt,he⟩:=List.getElem?_eq_some_iff.1 hp
 rw [← List.take_append_getElem hlt,List.all_append,hall,he]
 simp [hgood]⟩,⟨⟨tt,rfl⟩,⟨tt,rfl⟩,⟨tt,rfl⟩,⟨tt,rfl⟩,tt⟩,rfl⟩
  ·have hge:(r4 47 s).length≤i:=by
    have:¬ (i:Int) < (r4 47 s).length:=by simpa using h2
    omega
   rw [List.take_of_length_le hge] at hall
   refine m8 (a7 (a6 ?_))
   refine cY i7 ?_
   refine a8 (d5 ?_)
   exact ⟨_,l4 rfl tt c6,_,_,rfl,rfl,j8 (by rw [C1,hall]; simp [hok.1,hok.2])⟩
theorem Q6 (s:Str) (hs:s.length≤1000000000) (σ:List c5):b8 CC 66 [(sv (s))] σ fun r σ'=>r = .ret (.val (.bool (C1 s)))∧σ'=σ :=
 b8.anyw hCC (by repeat' (first|exact .val _|exact d4 _ _|exact c9 _ _|exact tt | refine d6 ?_ | refine d7 ?_ | refine ⟨?_,?_⟩)) (by repeat' (first|exact .val _|exact d4 _ _|exact c9 _ _|exact tt | refine d6 ?_ | refine d7 ?_ | refine ⟨?_,?_⟩)) (b6i s hs) σ
theorem b4V (c:Int):(decide (c≥97) && decide (c≤122))=decide (p3 c=1):=by
 by_cases h:97≤c∧c≤122
 ·have e:p3 c=1:=by unfold p3; rw [if_pos h]
  simp [e,h.1,h.2]
 ·have e:p3 c≠1:=by
   unfold p3
   rw [if_neg h]
   repeat' split
   all_goals omega
  have e2:¬ (c≥97∧c≤122):=h
  simp only [decide_eq_false e]
  by_cases h1:c≥97
  ·have h2:¬ c≤122:=fun h2=>h ⟨h1,h2⟩
   simp [h2]
  ·simp [h1]
theorem b6X (b:UInt8) {x y z:Bool} (hx:x=decide (p3 b.toNat=1)) (hy:y=(decide ((b.toNat:Int)≥48) && decide ((b.toNat:Int)≤57))) (hz:z=((b.toNat:Int) == 95)):((x || y) || z)=inK [1,2,3] b:=by
 subst hx hy hz
 unfold inK
 generalize (b.toNat:Int)=c
 have h2:(decide (c≥48) && decide (c≤57))=decide (p3 c=2):=by
  by_cases h:48≤c∧c≤57
  ·have e:p3 c=2:=by unfold p3; rw [if_neg c4,if_pos h]
   simp [e,h.1,h.2]
  ·have e:p3 c≠2:=by
    unfold p3
    repeat' split
    all_goals omega
   simp only [decide_eq_false e]
   by_cases h1:c≥48
   ·have h2:¬ c≤57:=fun h2=>h ⟨h1,h2⟩
    simp [h2]
   ·simp [h1]
 have h3:(c == 95)=decide (p3 c=3):=by
  by_cases h:c=95
  ·subst h; rfl
  ·have e:p3 c≠3:=by
    unfold p3
    repeat' split
    all_goals omega
   rw [decide_eq_false e]
   simp [h]
 rw [h2,h3]
 simp [Bool.or_assoc]
set_option maxRecDepth 10000 in
theorem b3I (b:UInt8):b8 CC 117 [(.val (.int .u8 ((b.toNat:Int))))] [] fun r σ'=>r = .ret (.val (.bool (decide (p3 b.toNat=1))))∧σ'=[]:=by
 refine j4 (d8 Tryz.func117 rfl rfl ?_)
 refine a7 (a6 ?_)
 refine cY i7 ?_
 refine a8 (a7 (a6 ?_))
 refine cY b7 ?_; refine cY k7 ?_; refine cY b7 ?_; refine cG o6 ?_; refine cG A6 ?_; refine cY p9 ?_; refine cY c7 ?_
 refine a8 (d5 ?_)
 exact ⟨_,l4 rfl tt c6,_,_,rfl,rfl,j8 (b4V _)⟩
theorem a3C (b:UInt8) (σ:List c5):b8 CC 117 [(.val (.int .u8 ((b.toNat:Int))))] σ fun r σ'=>r = .ret (.val (.bool (decide (p3 b.toNat=1))))∧σ'=σ :=
 b8.anyw hCC (by repeat' (first|exact .val _|exact d4 _ _|exact c9 _ _|exact tt | refine d6 ?_ | refine d7 ?_ | refine ⟨?_,?_⟩)) (by repeat' (first|exact .val _|exact d4 _ _|exact c9 _ _|exact tt | refine d6 ?_ | refine d7 ?_ | refine ⟨?_,?_⟩)) (b3I b) σ
set_option maxRecDepth 10000 in
theorem b4r (b:UInt8):b8 CC 112 [(.val (.int .u8 ((b.toNat:Int))))] [] fun r σ'=>r = .ret (.val (.bool (inK [1,2,3] b)))∧σ'=[]:=by
 refine j4 (d8 Tryz.func112 rfl rfl ?_)
 refine a7 (a6 ?_)
 refine cY i7 ?_
 refine a8 (a7 (a6 ?_))
 refine cY b7 ?_; refine cY (i8 rfl Tryz.call117 ⟨tt,tt⟩ (a3C b _) rfl) ?_; refine cY b7 ?_; refine cG o6 ?_; refine cG A6 ?_; refine cG (fun hg=>a0B rfl hg c6) ?_; refine b7S rfl rfl (fun h=>h) rfl rfl (fun hk hg=>a0B rfl tt c6) ?_; refine b7S rfl rfl (fun h=>h) rfl rfl (fun hk hg=>a1u rfl ⟨hk,hg⟩ rfl rfl rfl rfl) ?_; refine cG (fun hg=>a2j rfl hg rfl (fun hp=>⟨hg,hp⟩) (fun _=>rfl)) ?_; refine cY J0 ?_; refine cY b7 ?_; refine cG o6 ?_; refine cG A6 ?_; refine cY J0 ?_; refine cY c7 ?_
 refine a8 (d5 ?_)
 exact ⟨_,l4 rfl tt c6,_,_,rfl,rfl,j8 (b6X b rfl rfl rfl)⟩
theorem a4w (b:UInt8) (σ:List c5):b8 CC 112 [(.val (.int .u8 ((b.toNat:Int))))] σ fun r σ'=>r = .ret (.val (.bool (inK [1,2,3] b)))∧σ'=σ :=
 b8.anyw hCC (by repeat' (first|exact .val _|exact d4 _ _|exact c9 _ _|exact tt | refine d6 ?_ | refine d7 ?_ | refine ⟨?_,?_⟩)) (by repeat' (first|exact .val _|exact d4 _ _|exact c9 _ _|exact tt | refine d6 ?_ | refine d7 ?_ | refine ⟨?_,?_⟩)) (b4r b) σ
theorem b9T {s:Str} (h:(((decide ((s.length:Int) < 1)) || decide ((s.length:Int) > 24)) || !decide (p3 ((s.headD 0).toNat:Int)=1))=true):t8 s=false:=by
 cases s with
 | nil=>rfl
 | cons b l =>
  unfold t8
  by_cases h1:(b::l).length≤24
  ·have e1:decide (((b::l).length:Int) > 24)=false:=decide_eq_false c4
   have e2:decide (((b::l).length:Int) < 1)=false:=decide_eq_false Z4
   rw [e1,e2] at h
   have h3:p3 (b.toNat:Int)≠1:=by simpa using h
   simp [h3]
  ·simp only [decide_eq_false h1,Bool.false_and]
theorem b9I {s:Str} (h:(((decide ((s.length:Int) < 1)) || decide ((s.length:Int) > 24)) || !decide (p3 ((s.headD 0).toNat:Int)=1))=false) (ha:s.all (inK [1,2,3])=true):t8 s=true:=by
 cases s with
 | nil=>simp at h
 | cons b l =>
  simp only [Bool.or_eq_false_iff,decide_eq_false_iff_not,Bool.not_eq_false'] at h
  unfold t8
  have h1:(b::l).length≤24:=by omega
  have h3:p3 (b.toNat:Int)=1:=by simpa using h.2
  rw [ha]
  simp only [decide_eq_true h1,decide_eq_true h3]
  rfl
theorem b6r {s:Str} {i:Nat} {b:UInt8} (hb:s[i]? = some b) (h:inK [1,2,3] b=false):t8 s=false:=by
 cases s with
 | nil=>rfl
 | cons x l =>
  unfold t8
  have:(x::l).all (inK [1,2,3])=false:=by
   rw [Bool.eq_false_iff]
   intro hh
   have:=List.all_eq_true.1 hh b (List.mem_of_getElem? hb)
   rw [h] at this; cases this
  rw [this]
  show (_ && false)=false
  rw [Bool.and_false]
theorem b6e {s:Str} {i:Nat} {b:UInt8} {p:UInt8→Bool} (hb:s[i]? = some b) (ha:(s.take i).all p=true) (h:p b=true):(s.take (i+1)).all p=true:=by
 obtain ⟨hlt,rfl⟩:=List.getElem?_eq_some_iff.1 hb
 rw [← List.take_append_getElem hlt,List.all_append,ha]
 simp [h]
set_option maxRecDepth 10000 in
theorem b62 (s:Str) (hs:s.length≤1000000000000):b8 CC 67 [(sv (s))] [] fun r σ'=>r = .ret (.val (.bool (t8 s)))∧σ'=[]:=by
 refine j4 (d8 Tryz.func67 rfl rfl ?_)
 refine a7 (a6 ?_)
 refine cY i7 ?_
 refine a8 (a7 (a7 (a6 ?_)))
 refine cY b7 ?_; refine cY E4 ?_; refine cY k7 ?_; refine cY b7 ?_; refine cG o6 ?_; refine cG a2L ?_; refine cG A6 ?_; refine cY J0 ?_; refine cY b7 ?_; refine cG o6 ?_; refine cG b9C ?_; refine cG (fun hg=>i8 rfl Tryz.call117 ⟨hg,tt⟩ (a3C (s.headD 0) _) rfl) ?_; refine cG (fun hg=>a5U rfl hg rfl) ?_; refine cY J0 ?_; refine a8 ?_
 refine b9 tt rfl (fun h1=>?_) (fun h1=>?_)
 ·have hno:t8 s=false:=b9T h1
  refine a7 (a6 ?_)
  refine cY i7 ?_
  refine a8 (d5 ?_)
  exact ⟨_,l4 rfl tt c6,_,_,rfl,rfl,j8 hno.symm⟩
 ·have hok:=b9I h1
  refine c8 (a7 (a7 (a6 ?_)))
  refine cY i7 ?_
  refine a8 (d9 ?_)
  refine r6 hCC (α:=Nat) (fun i=>[(0,(sv (s))),(3,(.val (.int .i64 ((i:Int)))))]) (fun _=>[]) (fun i=>i≤s.length∧(s.take i).all (inK [1,2,3])=true) (fun i=>s.length - i) 0 ⟨Nat.zero_le _,rfl⟩ ⟨⟨tt,rfl⟩,⟨tt,rfl⟩,tt⟩ (extra0:=[]) rfl y9 (fun a ha=>by repeat' (first|exact tt|exact .val _|exact .ptr (nb rfl)|exact .map (nb rfl)|exact b3p | refine l2 ?_ | refine ⟨?_,?_⟩)) ?_; intro i ⟨hi,hall⟩
  refine a7 (a7 (a6 ?_))
  refine cY b7 ?_; refine cY b7 ?_; refine cY E4 ?_; refine cY p8 ?_; refine a8 ?_
  refine b9 tt rfl (fun h2=>?_) (fun h2=>?_)
  ·have hil:(i:Int) < s.length:=by simpa using h2
   obtain ⟨b,hb⟩:∃ b,s[i]? = some b:=⟨s[i]'c4,by simp⟩
   refine c8 (a7 (d9 (a7 (a6 ?_))))
   refine cY b7 ?_; refine cY b7 ?_; refine cY a9z ?_; refine cY (i8 rfl Tryz.call112 ⟨tt,tt⟩ (a4w b _) rfl) ?_; refine cY F1 ?_; refine a8 ?_
   refine b9 tt rfl (fun h3=>?_) (fun h3=>?_)
   ·have hno:t8 s=false:=b6r hb (by simpa using h3)
    refine a7 (a6 ?_)
    refine cY i7 ?_
    refine a8 (d5 ?_)
    exact ⟨_,l4 rfl tt c6,_,_,rfl,rfl,j8 hno.symm⟩
   ·skip
    refine c8 (a6 ?_)
    refine cY b7 ?_; refine cY n9 ?_; refine cY c7 ?_; refine a8 ?_
    exact ⟨(i+1),_,⟨by omega,by omega,b6e hb hall (by simpa using h3)⟩,⟨⟨tt,rfl⟩,⟨tt,rfl⟩,tt⟩,rfl⟩
  ·have hge:s.length≤i:=by
    have:¬ (i:Int) < s.length:=by simpa using h2
    omega
   rw [List.take_of_length_le hge] at hall
   refine m8 (a7 (a6 ?_))
   refine cY i7 ?_
   refine a8 (d5 ?_)
   exact ⟨_,l4 rfl tt c6,_,_,rfl,rfl,j8 (by rw [hok hall])⟩
theorem a6C (s:Str) (hs:s.length≤1000000000000) (σ:List c5):b8 CC 67 [(sv (s))] σ fun r σ'=>r = .ret (.val (.bool (t8 s)))∧σ'=σ :=
 b8.anyw hCC (by repeat' (first|exact .val _|exact d4 _ _|exact c9 _ _|exact tt | refine d6 ?_ | refine d7 ?_ | refine ⟨?_,?_⟩)) (by repeat' (first|exact .val _|exact d4 _ _|exact c9 _ _|exact tt | refine d6 ?_ | refine d7 ?_ | refine ⟨?_,?_⟩)) (b62 s hs) σ
theorem b7P (b:UInt8) {x y:Bool} (hx:x=inK [1,2,3] b) (hy:y=((b.toNat:Int) == 46)):(x || y)=inK [1,2,3,4] b:=by
 subst hx hy
 unfold inK
 generalize (b.toNat:Int)=c
 have h4:(c == 46)=decide (p3 c=4):=by
  by_cases h:c=46
  ·subst h; rfl
  ·have e:p3 c≠4:=by
    unfold p3
    repeat' split
    all_goals omega
   rw [decide_eq_false e]
   simp [h]
 rw [h4]
 simp [Bool.or_assoc]
def U8 (long parts:Nat) (u:Str):Bool:=match r4 47 u with
 | []=>false
 | p::ps=>decide (1≤long+p.length) && decide (long+p.length≤24) && p.all (inK [1,2,3,4]) && ps.all a0T && decide (parts+ps.length≤8)
theorem b0Y {s:Str} (h:s.length≤80):C1 s=U8 0 1 s:=by
 unfold C1 U8
 cases hs:r4 47 s with
 | nil=>exact absurd hs (Q2 47 s)
 | cons p ps =>
  have e1:decide ((p::ps).length≤8)=decide (1+ps.length≤8):=by rw [List.length_cons,Nat.add_comm]
  rw [e1,decide_eq_true h]
  simp only [List.all_cons,a0T,Nat.zero_add,Bool.true_and]
  cases decide (1+ps.length≤8) <;> simp
theorem b4P {long parts:Nat}:U8 long parts []=(decide (1≤long) && decide (long≤24) && decide (parts≤8)):=by
 simp [U8,r4]
theorem a99 {long parts:Nat} {u:Str} (h:long≤24):U8 long parts (47::u)=(decide (1≤long) && U8 0 (parts+1) u):=by
 unfold U8
 rw [r4,if_pos rfl]
 cases hs:r4 47 u with
 | nil=>exact absurd hs (Q2 47 u)
 | cons p ps =>
  have e:decide (parts+(p::ps).length≤8)=decide (parts+1+ps.length≤8):=decide_eq_decide.2 Z4
  simp only [e,List.all_cons,a0T,Nat.zero_add,List.length_nil,Nat.add_zero,decide_eq_true h,List.all_nil,Bool.and_true,Bool.and_assoc]
theorem b7s {long parts:Nat} {b:UInt8} {u:Str} (hb:b≠47) (hk:inK [1,2,3,4] b=true):U8 long parts (b::u)=U8 (long+1) parts u:=by
 unfold U8
 rw [r4,if_neg hb]
 cases hs:r4 47 u with
 | nil=>exact absurd hs (Q2 47 u)
 | cons p ps =>
  have e:long+(b::p).length=long+1+p.length:=by simp; omega
  simp only [e,List.all_cons,hk,Bool.true_and]
theorem b3Z {long parts:Nat} {b:UInt8} {u:Str} (hb:b≠47) (hk:inK [1,2,3,4] b=false):U8 long parts (b::u)=false:=by
 unfold U8
 rw [r4,if_neg hb]
 cases hs:r4 47 u with
 | nil=>exact absurd hs (Q2 47 u)
 | cons p ps=>simp [hk]
theorem b2i {long parts:Nat} {u:Str} (h:24 < long):U8 long parts u=false:=by
 unfold U8
 split
 ·rfl
 ·rename_i p ps _
  have:¬ long+p.length≤24:=by omega
  simp [this]
theorem b3N {s:Str} {i:Nat} {b:UInt8} (h:s[i]? = some b):s.drop i=b::s.drop (i+1):=by
 obtain ⟨hlt,rfl⟩:=List.getElem?_eq_some_iff.1 h
 exact List.drop_eq_getElem_cons hlt
theorem b5B {long parts:Nat}:(decide ((long:Int) > 0) && decide ((parts:Int)≤8))=(decide (1≤long) && decide (parts≤8)):=by
 have e1:decide ((long:Int) > 0)=decide (1≤long):=decide_eq_decide.2 c4
 have e2:decide ((parts:Int)≤8)=decide (parts≤8):=decide_eq_decide.2 c4
 rw [e1,e2]
set_option maxRecDepth 10000 in
theorem b7a (s:Str):b8 CC 59 [(sv (s))] [] fun r σ'=>r = .ret (.val (.bool (C1 s)))∧σ'=[]:=by
 refine j4 (d8 Tryz.func59 rfl rfl ?_)
 refine a7 (a6 ?_)
 refine cY i7 ?_
 refine a8 (a7 (a6 ?_))
 refine cY i7 ?_; refine cY i7 ?_
 refine a8 (a7 (a7 (a6 ?_)))
 refine cY b7 ?_; refine cY E4 ?_; refine cY k7 ?_; refine a8 ?_
 refine b9 tt rfl (fun h1=>?_) (fun h1=>?_)
 ·have h80:¬ s.length≤80:=by
   have:(s.length:Int) > 80:=by simpa using h1
   omega
  refine a7 (a6 ?_)
  refine cY i7 ?_
  refine a8 (d5 ?_)
  exact ⟨_,l4 rfl tt c6,_,_,rfl,rfl,j8 (by simp [C1,h80])⟩
 ·have h80:s.length≤80:=by
   have:¬ (s.length:Int) > 80:=by simpa using h1
   omega
  refine c8 (a7 (a7 (a6 ?_)))
  refine cY i7 ?_
  refine a8 (d9 ?_)
  refine r6 hCC (α:=Nat × Nat × Nat) (fun x=>[(0,(sv (s))),(3,(.val (.int .i64 ((x.2.1:Int))))),(4,(.val (.int .i64 ((x.2.2:Int))))),(5,(.val (.int .i64 ((x.1:Int)))))]) (fun _=>[]) (fun x=>x.1≤s.length∧x.2.2≤24∧x.2.1≤x.1+1∧C1 s=U8 x.2.2 x.2.1 (s.drop x.1)) (fun x=>s.length - x.1) (0,1,0) ⟨Nat.zero_le _,by decide,by decide,b0Y h80⟩ ⟨⟨tt,rfl⟩,⟨tt,rfl⟩,⟨tt,rfl⟩,⟨tt,rfl⟩,tt⟩ (extra0:=[]) rfl y9 (fun a ha=>by repeat' (first|exact tt|exact .val _|exact .ptr (nb rfl)|exact .map (nb rfl)|exact a9h | refine l2 ?_ | refine ⟨?_,?_⟩)) ?_; intro ⟨i,parts,long⟩ ⟨hi,hlo,hpa,hrest⟩
  dsimp only at hi hlo hpa hrest ⊢
  refine a7 (a7 (a6 ?_))
  refine cY b7 ?_; refine cY b7 ?_; refine cY E4 ?_; refine cY p8 ?_; refine a8 ?_
  refine b9 tt rfl (fun h2=>?_) (fun h2=>?_)
  ·have hil:(i:Int) < s.length:=by simpa using h2
   obtain ⟨b,hb⟩:∃ b,s[i]? = some b:=⟨s[i]'c4,by simp⟩
   rw [b3N hb] at hrest
   refine c8 (a7 (d9 (a7 (d9 (a7 (a6 ?_))))))
   refine cY b7 ?_; refine cY b7 ?_; refine cY a9z ?_; refine cY k7 ?_; refine cY c7 ?_; refine a8 ?_
   refine b9 tt rfl (fun h3=>?_) (fun h3=>?_)
   ·have hb47:b=47:=by
     have h47:(b.toNat:Int)=47:=by simpa using h3
     have h48:(47:UInt8).toNat=47:=rfl
     exact UInt8.toNat_inj.1 c4
    subst hb47
    rw [a99 hlo] at hrest
    refine a7 (a7 (a6 ?_))
    refine cY b7 ?_; refine cY k7 ?_; refine a8 ?_
    refine b9 tt rfl (fun h4=>?_) (fun h4=>?_)
    ·have hl0:long=0:=by
      have:(long:Int)=0:=by simpa using h4
      omega
     subst hl0
     refine a7 (a6 ?_)
     refine cY i7 ?_
     refine a8 (d5 ?_)
     exact ⟨_,l4 rfl tt c6,_,_,rfl,rfl,j8 (show false=C1 s by rw [hrest]; rfl)⟩
    ·have hl0:1≤long:=by
      have:¬ (long:Int)=0:=by simpa using h4
      omega
     rw [decide_eq_true hl0,Bool.true_and] at hrest
     refine c8 (a6 ?_)
     refine cY b7 ?_; refine cY n9 ?_; refine cY c7 ?_; refine cY i7 ?_
     refine a8 (a7 (a6 ?_))
     refine cY b7 ?_; refine cY k7 ?_; refine a8 ?_
     refine b9 tt rfl (fun h5=>?_) (fun h5=>?_)
     ·exfalso
      simp at h5
     ·skip
      refine c8 (a6 ?_)
      refine cY b7 ?_; refine cY n9 ?_; refine cY c7 ?_; refine a8 ?_
      exact ⟨(i+1,parts+1,0),_,⟨by dsimp only; omega,by dsimp only; omega,by dsimp only; omega,by dsimp only; omega,hrest⟩,⟨⟨tt,rfl⟩,⟨tt,rfl⟩,⟨tt,rfl⟩,⟨tt,rfl⟩,tt⟩,rfl⟩
   ·have hb47:b≠47:=by
     intro e; subst e
     simp at h3
    refine a7 (a6 ?_)
    refine cY b7 ?_; refine cY b7 ?_; refine cY a9z ?_; refine cY (i8 rfl Tryz.call112 ⟨tt,tt⟩ (a4w b _) rfl) ?_; refine cY b7 ?_; refine cG o6 ?_; refine cG o6 ?_; refine cG b9Q ?_; refine cG A6 ?_; refine cY J0 ?_; refine cY c7 ?_; refine a8 ?_
    refine b9 tt rfl (fun h6=>?_) (fun h6=>?_)
    ·have hin:inK [1,2,3,4] b=true:=Eq.trans (Eq.symm (b7P b rfl rfl)) h6
     rw [b7s hb47 hin] at hrest
     refine a6 ?_; refine cY b7 ?_; refine cY n9 ?_; refine cY c7 ?_
     refine a8 (a7 (a6 ?_))
     refine cY b7 ?_; refine cY k7 ?_; refine a8 ?_
     refine b9 tt rfl (fun h7=>?_) (fun h7=>?_)
     ·have hbig:24 < long+1:=by
       have:((long:Int)+1) > 24:=by simpa using h7
       omega
      refine a7 (a6 ?_)
      refine cY i7 ?_
      refine a8 (d5 ?_)
      exact ⟨_,l4 rfl tt c6,_,_,rfl,rfl,j8 (show false=C1 s by rw [hrest,b2i hbig])⟩
     ·have hbig:long+1≤24:=by
       have:¬ ((long:Int)+1) > 24:=by simpa using h7
       omega
      refine c8 (a6 ?_)
      refine cY b7 ?_; refine cY n9 ?_; refine cY c7 ?_; refine a8 ?_
      exact ⟨(i+1,parts,long+1),_,⟨by dsimp only; omega,by dsimp only; omega,hbig,by dsimp only; omega,hrest⟩,⟨⟨tt,rfl⟩,⟨tt,rfl⟩,⟨tt,rfl⟩,⟨tt,rfl⟩,tt⟩,rfl⟩
    ·have hin:inK [1,2,3,4] b=false:=Eq.trans (Eq.symm (b7P b rfl rfl)) h6
     rw [b3Z hb47 hin] at hrest
     refine a7 (a6 ?_)
     refine cY i7 ?_
     refine a8 (d5 ?_)
     exact ⟨_,l4 rfl tt c6,_,_,rfl,rfl,j8 (show false=C1 s from hrest.symm)⟩
  ·have hge:s.length≤i:=by
    have:¬ (i:Int) < s.length:=by simpa using h2
    omega
   rw [List.drop_eq_nil_of_le hge,b4P,decide_eq_true hlo,Bool.and_true] at hrest
   refine m8 (a7 (a6 ?_))
   refine cY b7 ?_; refine cY k7 ?_; refine cY b7 ?_; refine cG o6 ?_; refine cG A6 ?_; refine cY p9 ?_; refine cY c7 ?_
   refine a8 (d5 ?_)
   exact ⟨_,l4 rfl tt c6,_,_,rfl,rfl,j8 (Eq.trans b5B hrest.symm)⟩
theorem b2k (s:Str) (σ:List c5):b8 CC 59 [(sv (s))] σ fun r σ'=>r = .ret (.val (.bool (C1 s)))∧σ'=σ :=
 b8.anyw hCC (by repeat' (first|exact .val _|exact d4 _ _|exact c9 _ _|exact tt | refine d6 ?_ | refine d7 ?_ | refine ⟨?_,?_⟩)) (by repeat' (first|exact .val _|exact d4 _ _|exact c9 _ _|exact tt | refine d6 ?_ | refine d7 ?_ | refine ⟨?_,?_⟩)) (b7a s) σ
structure Ky where
 k:Int
 a:Str
 b:Str
deriving DecidableEq
abbrev Ky.cells (x:Ky):List CV:=[.val (.int .i64 x.k),sv x.a,sv x.b]
def Ky.cv (x:Ky):List CV:=x.cells
theorem j9 (l:List Ky) (nn:Bool):p5 (.list (l.map Ky.cv) nn none):=I2 (f:=Ky.cv) (fun _=>⟨.val _,.val _,.val _,tt⟩) l nn
theorem C6 (n:Nat) (l:List Ky) (nn:Bool):Old n (.list (l.map Ky.cv) nn none):=(j9 l nn).old
theorem K5 (n:Nat) (x:Ky):C8 n (.box x.cells):=l2 ⟨.val _,.val _,.val _,tt⟩
def F4 (x:Ky):Bool :=
 if (x.k == 1 || x.k == 2)=true then t8 x.a && t8 x.b else if (x.k == 3 || x.k == 4)=true then C1 x.a && decide (x.b=[]) else if (x.k == 5 || x.k == 6 || x.k == 7)=true then t8 x.a && decide (x.b=[]) else false
set_option maxRecDepth 10000 in
theorem b5P (x:Ky) (ha:x.a.length≤1000000000) (hb0:x.b.length≤1000000000):b8 CC 31 [.agg x.cells] [] fun r σ'=>r = .ret (.val (.bool (F4 x)))∧σ'=[]:=by
 refine j4 (d8 Tryz.func31 rfl rfl ?_)
 refine a7 (a6 ?_)
 refine cD (w9 rfl tt c6 j3 ?_)
 refine cY i7 ?_
 refine a8 (a7 (a7 (a6 ?_)))
 refine cY a1x ?_; refine cY t7 ?_
 refine a8 (d9 ?_)
 refine R1 hCC (α:=Bool) (fun b=>[(1,.ptr 0 0),(4,(.val (.int .i64 (x.k)))),(5,(.val (.bool (b))))]) (fun _=>[.box x.cells]) (fun b=>b=(x.k == 1 || x.k == 2)) y9 (fun a ha=>by repeat' (first|exact tt|exact .val _|exact .ptr (nb rfl)|exact .map (nb rfl)|exact a9h | refine l2 ?_ | refine ⟨?_,?_⟩)) ?_ ?_
 ·
  refine a7 (a6 ?_)
  refine cY k7 ?_; refine cY c7 ?_; refine a8 ?_
  refine b9 tt rfl (fun h1=>?_) (fun h1=>?_)
  ·skip
   refine c8 ?_
   exact ⟨(x.k == 1),_,(by simp_all),⟨⟨tt,rfl⟩,⟨tt,rfl⟩,⟨tt,rfl⟩,tt⟩,rfl⟩
  ·skip
   refine a6 ?_; refine cY k7 ?_; refine cY c7 ?_; refine a8 ?_
   exact ⟨(x.k == 2),_,(by simp_all),⟨⟨tt,rfl⟩,⟨tt,rfl⟩,⟨tt,rfl⟩,tt⟩,rfl⟩
 ·intro b hb
  refine b9 tt rfl (fun h2=>?_) (fun h2=>?_)
  ·skip
   refine a7 (a6 ?_)
   refine cY A8 ?_; refine cY p7 ?_; refine cY b1y ?_; refine cY b7 ?_; refine cG a5H ?_; refine cG N5 ?_; refine cG (fun hg=>i8 rfl Tryz.call64 ⟨hg,tt⟩ (U2 x.b c4 _) rfl) ?_; refine cY p9 ?_; refine cY c7 ?_
   refine a8 (d5 ?_)
   exact ⟨_,l4 rfl tt c6,_,_,rfl,rfl,j8 (show (t8 x.a && t8 x.b)=F4 x by simp_all [F4])⟩
  ·skip
   refine R1 hCC (α:=Bool) (fun b=>[(1,.ptr 0 0),(4,(.val (.int .i64 (x.k)))),(16,(.val (.bool (b))))]) (fun _=>[.box x.cells]) (fun b=>b=(x.k == 3 || x.k == 4)) y9 (fun a ha=>by repeat' (first|exact tt|exact .val _|exact .ptr (nb rfl)|exact .map (nb rfl)|exact a9h | refine l2 ?_ | refine ⟨?_,?_⟩)) ?_ ?_
   ·
    refine a7 (a6 ?_)
    refine cY k7 ?_; refine cY c7 ?_; refine a8 ?_
    refine b9 tt rfl (fun h3=>?_) (fun h3=>?_)
    ·skip
     refine c8 ?_
     exact ⟨(x.k == 3),_,(by simp_all),⟨⟨tt,rfl⟩,⟨tt,rfl⟩,⟨tt,rfl⟩,tt⟩,rfl⟩
    ·skip
     refine a6 ?_; refine cY k7 ?_; refine cY c7 ?_; refine a8 ?_
     exact ⟨(x.k == 4),_,(by simp_all),⟨⟨tt,rfl⟩,⟨tt,rfl⟩,⟨tt,rfl⟩,tt⟩,rfl⟩
   ·intro b2 hb2
    refine b9 tt rfl (fun h4=>?_) (fun h4=>?_)
    ·skip
     refine a7 (a6 ?_)
     refine cY A8 ?_; refine cY p7 ?_; refine cY (i8 rfl Tryz.call66 ⟨tt,tt⟩ (Q6 x.a c4 _) rfl) ?_; refine cY b7 ?_; refine cG a5H ?_; refine cG N5 ?_; refine cG a10 ?_; refine cY p9 ?_; refine cY c7 ?_
     refine a8 (d5 ?_)
     exact ⟨_,l4 rfl tt c6,_,_,rfl,rfl,j8 (show (C1 x.a && decide (x.b=[]))=F4 x by simp_all [F4])⟩
    ·skip
     refine a7 (a7 (a6 ?_))
     refine cY k7 ?_; refine cY c7 ?_; refine a8 ?_
     refine b9 tt rfl (fun h5=>?_) (fun h5=>?_)
     ·skip
      refine c8 ?_
      refine b9 tt rfl (fun h6=>?_) (fun h6=>?_)
      ·skip
       refine a7 (a6 ?_)
       refine cY A8 ?_; refine cY p7 ?_; refine cY b1y ?_; refine cY b7 ?_; refine cG a5H ?_; refine cG N5 ?_; refine cG a10 ?_; refine cY p9 ?_; refine cY c7 ?_
       refine a8 (d5 ?_)
       exact ⟨_,l4 rfl tt c6,_,_,rfl,rfl,j8 (show (t8 x.a && decide (x.b=[]))=F4 x by simp_all [F4])⟩
      ·skip
       refine c8 (a7 (a6 ?_))
       refine cY i7 ?_
       refine a8 (d5 ?_)
       exact ⟨_,l4 rfl tt c6,_,_,rfl,rfl,j8 (show false=F4 x by simp_all [F4])⟩
     ·skip
      refine a7 (a6 ?_)
      refine cY k7 ?_; refine cY c7 ?_; refine a8 ?_
      refine b9 tt rfl (fun h7=>?_) (fun h7=>?_)
      ·skip
       refine c8 ?_
       refine b9 tt rfl (fun h8=>?_) (fun h8=>?_)
       ·skip
        refine a7 (a6 ?_)
        refine cY A8 ?_; refine cY p7 ?_; refine cY b1y ?_; refine cY b7 ?_; refine cG a5H ?_; refine cG N5 ?_; refine cG a10 ?_; refine cY p9 ?_; refine cY c7 ?_
        refine a8 (d5 ?_)
        exact ⟨_,l4 rfl tt c6,_,_,rfl,rfl,j8 (show (t8 x.a && decide (x.b=[]))=F4 x by simp_all [F4])⟩
       ·skip
        refine c8 (a7 (a6 ?_))
        refine cY i7 ?_
        refine a8 (d5 ?_)
        exact ⟨_,l4 rfl tt c6,_,_,rfl,rfl,j8 (show false=F4 x by simp_all [F4])⟩
      ·skip
       refine a6 ?_; refine cY k7 ?_; refine cY c7 ?_; refine a8 ?_
       refine b9 tt rfl (fun h9=>?_) (fun h9=>?_)
       ·skip
        refine a7 (a6 ?_)
        refine cY A8 ?_; refine cY p7 ?_; refine cY b1y ?_; refine cY b7 ?_; refine cG a5H ?_; refine cG N5 ?_; refine cG a10 ?_; refine cY p9 ?_; refine cY c7 ?_
        refine a8 (d5 ?_)
        exact ⟨_,l4 rfl tt c6,_,_,rfl,rfl,j8 (show (t8 x.a && decide (x.b=[]))=F4 x by simp_all [F4])⟩
       ·skip
        refine c8 (a7 (a6 ?_))
        refine cY i7 ?_
        refine a8 (d5 ?_)
        exact ⟨_,l4 rfl tt c6,_,_,rfl,rfl,j8 (show false=F4 x by simp_all [F4])⟩
theorem a5t (x:Ky) (ha:x.a.length≤1000000000) (hb0:x.b.length≤1000000000) (σ:List c5):b8 CC 31 [.agg x.cells] σ fun r σ'=>r = .ret (.val (.bool (F4 x)))∧σ'=σ :=
 b8.anyw hCC (by repeat' (first|exact .val _|exact d4 _ _|exact c9 _ _|exact tt | refine d6 ?_ | refine d7 ?_ | refine ⟨?_,?_⟩)) (by repeat' (first|exact .val _|exact d4 _ _|exact c9 _ _|exact tt | refine d6 ?_ | refine d7 ?_ | refine ⟨?_,?_⟩)) (b5P x ha hb0) σ
set_option maxRecDepth 10000 in
theorem b26 (x:Ky) (ha:x.a.length≤1000000000) (hb0:x.b.length≤1000000000):b8 CC 32 [.agg x.cells] [] fun r σ'=>r = .ret (.val (.bool (F4 x)))∧σ'=[]:=by
 refine j4 (d8 Tryz.func32 rfl rfl ?_)
 refine a7 (a6 ?_)
 refine cD (w9 rfl tt c6 j3 ?_)
 refine cY i7 ?_
 refine a8 (a7 (a7 (a6 ?_)))
 refine cY a1x ?_; refine cY t7 ?_
 refine a8 (d9 ?_)
 refine R1 hCC (α:=Bool) (fun b=>[(1,.ptr 0 0),(4,(.val (.int .i64 (x.k)))),(5,(.val (.bool (b))))]) (fun _=>[.box x.cells]) (fun b=>b=(x.k == 1 || x.k == 2)) y9 (fun a ha=>by repeat' (first|exact tt|exact .val _|exact .ptr (nb rfl)|exact .map (nb rfl)|exact a9h | refine l2 ?_ | refine ⟨?_,?_⟩)) ?_ ?_
 ·
  refine a7 (a6 ?_)
  refine cY k7 ?_; refine cY c7 ?_; refine a8 ?_
  refine b9 tt rfl (fun h1=>?_) (fun h1=>?_)
  ·skip
   refine c8 ?_
   exact ⟨(x.k == 1),_,(by simp_all),⟨⟨tt,rfl⟩,⟨tt,rfl⟩,⟨tt,rfl⟩,tt⟩,rfl⟩
  ·skip
   refine a6 ?_; refine cY k7 ?_; refine cY c7 ?_; refine a8 ?_
   exact ⟨(x.k == 2),_,(by simp_all),⟨⟨tt,rfl⟩,⟨tt,rfl⟩,⟨tt,rfl⟩,tt⟩,rfl⟩
 ·intro b hb
  refine b9 tt rfl (fun h2=>?_) (fun h2=>?_)
  ·skip
   refine a7 (a6 ?_)
   refine cY A8 ?_; refine cY p7 ?_; refine cY b1q ?_; refine cY b7 ?_; refine cG a5H ?_; refine cG N5 ?_; refine cG (fun hg=>i8 rfl Tryz.call67 ⟨hg,tt⟩ (a6C x.b c4 _) rfl) ?_; refine cY p9 ?_; refine cY c7 ?_
   refine a8 (d5 ?_)
   exact ⟨_,l4 rfl tt c6,_,_,rfl,rfl,j8 (show (t8 x.a && t8 x.b)=F4 x by simp_all [F4])⟩
  ·skip
   refine R1 hCC (α:=Bool) (fun b=>[(1,.ptr 0 0),(4,(.val (.int .i64 (x.k)))),(16,(.val (.bool (b))))]) (fun _=>[.box x.cells]) (fun b=>b=(x.k == 3 || x.k == 4)) y9 (fun a ha=>by repeat' (first|exact tt|exact .val _|exact .ptr (nb rfl)|exact .map (nb rfl)|exact a9h | refine l2 ?_ | refine ⟨?_,?_⟩)) ?_ ?_
   ·
    refine a7 (a6 ?_)
    refine cY k7 ?_; refine cY c7 ?_; refine a8 ?_
    refine b9 tt rfl (fun h3=>?_) (fun h3=>?_)
    ·skip
     refine c8 ?_
     exact ⟨(x.k == 3),_,(by simp_all),⟨⟨tt,rfl⟩,⟨tt,rfl⟩,⟨tt,rfl⟩,tt⟩,rfl⟩
    ·skip
     refine a6 ?_; refine cY k7 ?_; refine cY c7 ?_; refine a8 ?_
     exact ⟨(x.k == 4),_,(by simp_all),⟨⟨tt,rfl⟩,⟨tt,rfl⟩,⟨tt,rfl⟩,tt⟩,rfl⟩
   ·intro b2 hb2
    refine b9 tt rfl (fun h4=>?_) (fun h4=>?_)
    ·skip
     refine a7 (a6 ?_)
     refine cY A8 ?_; refine cY p7 ?_; refine cY (i8 rfl Tryz.call59 ⟨tt,tt⟩ (b2k x.a _) rfl) ?_; refine cY b7 ?_; refine cG a5H ?_; refine cG N5 ?_; refine cG a10 ?_; refine cY p9 ?_; refine cY c7 ?_
     refine a8 (d5 ?_)
     exact ⟨_,l4 rfl tt c6,_,_,rfl,rfl,j8 (show (C1 x.a && decide (x.b=[]))=F4 x by simp_all [F4])⟩
    ·skip
     refine a7 (a7 (a6 ?_))
     refine cY k7 ?_; refine cY c7 ?_; refine a8 ?_
     refine b9 tt rfl (fun h5=>?_) (fun h5=>?_)
     ·skip
      refine c8 ?_
      refine b9 tt rfl (fun h6=>?_) (fun h6=>?_)
      ·skip
       refine a7 (a6 ?_)
       refine cY A8 ?_; refine cY p7 ?_; refine cY b1q ?_; refine cY b7 ?_; refine cG a5H ?_; refine cG N5 ?_; refine cG a10 ?_; refine cY p9 ?_; refine cY c7 ?_
       refine a8 (d5 ?_)
       exact ⟨_,l4 rfl tt c6,_,_,rfl,rfl,j8 (show (t8 x.a && decide (x.b=[]))=F4 x by simp_all [F4])⟩
      ·skip
       refine c8 (a7 (a6 ?_))
       refine cY i7 ?_
       refine a8 (d5 ?_)
       exact ⟨_,l4 rfl tt c6,_,_,rfl,rfl,j8 (show false=F4 x by simp_all [F4])⟩
     ·skip
      refine a7 (a6 ?_)
      refine cY k7 ?_; refine cY c7 ?_; refine a8 ?_
      refine b9 tt rfl (fun h7=>?_) (fun h7=>?_)
      ·skip
       refine c8 ?_
       refine b9 tt rfl (fun h8=>?_) (fun h8=>?_)
       ·skip
        refine a7 (a6 ?_)
        refine cY A8 ?_; refine cY p7 ?_; refine cY b1q ?_; refine cY b7 ?_; refine cG a5H ?_; refine cG N5 ?_; refine cG a10 ?_; refine cY p9 ?_; refine cY c7 ?_
        refine a8 (d5 ?_)
        exact ⟨_,l4 rfl tt c6,_,_,rfl,rfl,j8 (show (t8 x.a && decide (x.b=[]))=F4 x by simp_all [F4])⟩
       ·skip
        refine c8 (a7 (a6 ?_))
        refine cY i7 ?_
        refine a8 (d5 ?_)
        exact ⟨_,l4 rfl tt c6,_,_,rfl,rfl,j8 (show false=F4 x by simp_all [F4])⟩
      ·skip
       refine a6 ?_; refine cY k7 ?_; refine cY c7 ?_; refine a8 ?_
       refine b9 tt rfl (fun h9=>?_) (fun h9=>?_)
       ·skip
        refine a7 (a6 ?_)
        refine cY A8 ?_; refine cY p7 ?_; refine cY b1q ?_; refine cY b7 ?_; refine cG a5H ?_; refine cG N5 ?_; refine cG a10 ?_; refine cY p9 ?_; refine cY c7 ?_
        refine a8 (d5 ?_)
        exact ⟨_,l4 rfl tt c6,_,_,rfl,rfl,j8 (show (t8 x.a && decide (x.b=[]))=F4 x by simp_all [F4])⟩
       ·skip
        refine c8 (a7 (a6 ?_))
        refine cY i7 ?_
        refine a8 (d5 ?_)
        exact ⟨_,l4 rfl tt c6,_,_,rfl,rfl,j8 (show false=F4 x by simp_all [F4])⟩
theorem a8k (x:Ky) (ha:x.a.length≤1000000000) (hb0:x.b.length≤1000000000) (σ:List c5):b8 CC 32 [.agg x.cells] σ fun r σ'=>r = .ret (.val (.bool (F4 x)))∧σ'=σ :=
 b8.anyw hCC (by repeat' (first|exact .val _|exact d4 _ _|exact c9 _ _|exact tt | refine d6 ?_ | refine d7 ?_ | refine ⟨?_,?_⟩)) (by repeat' (first|exact .val _|exact d4 _ _|exact c9 _ _|exact tt | refine d6 ?_ | refine d7 ?_ | refine ⟨?_,?_⟩)) (b26 x ha hb0) σ
theorem a8M {P:Program} (a b:Str) (w:World):(Extern.BytealgCompare.compare #[.string (str a),.string (str b)]).run P w = .ok (.int .i64 (Go.Lib.compareBytes a b)) w:=by
 have:=Go.Lib.run_compareString (P:=P) (str a) (str b) w
 rw [this]
 simp [str]
def T8 (a b:Int):Int:=if a < b then -1 else if b < a then 1 else 0
def D8 (x y:Ky):Int:=if T8 x.k y.k≠0 then T8 x.k y.k else if Go.Lib.compareBytes x.a y.a≠0 then Go.Lib.compareBytes x.a y.a else Go.Lib.compareBytes x.b y.b
theorem b1F:∀ (a b:Str),Op.bytesLess a b=decide (Go.Lib.compareBytes a b = -1)
 | [],[]=>rfl
 | [],_::_=>rfl
 | _::_,[]=>by simp [Op.bytesLess,Go.Lib.compareBytes]
 | x::a,y::b=>by
  rw [Op.bytesLess,Go.Lib.compareBytes,b1F a b]
  by_cases h:x < y
  ·simp [h]
  ·by_cases h':y < x
   ·have:¬ x=y:=fun e=>h (by rw [e] at h'; exact absurd h' m5)
    simp [h,h',this]
   ·have:x=y:=by
     apply UInt8.toNat_inj.1
     rw [UInt8.lt_iff_toNat_lt] at h h'
     omega
    subst this
    simp
theorem a4R:∀ (a b:Str),Go.Lib.compareBytes a b=0↔a=b
 | [],[]=>by simp [Go.Lib.compareBytes]
 | [],_::_=>by simp [Go.Lib.compareBytes]
 | _::_,[]=>by simp [Go.Lib.compareBytes]
 | x::a,y::b=>by
  rw [Go.Lib.compareBytes]
  by_cases h:x < y
  ·have:¬ x=y:=fun e=>by rw [e] at h; exact absurd h m5
   simp [h,this]
  ·by_cases h':y < x
   ·have:¬ x=y:=fun e=>by rw [e] at h'; exact absurd h' m5
    simp [h,h',this]
   ·have:x=y:=by
     apply UInt8.toNat_inj.1
     rw [UInt8.lt_iff_toNat_lt] at h h'
     omega
    subst this
    simp [a4R a b]
theorem a7M:∀ (a b:Str),Go.Lib.compareBytes b a = - Go.Lib.compareBytes a b
 | [],[]=>rfl
 | [],_::_=>rfl
 | _::_,[]=>rfl
 | x::a,y::b=>by
  rw [Go.Lib.compareBytes,Go.Lib.compareBytes,a7M a b]
  by_cases h:x < y
  ·have:¬ y < x:=fun h'=>by
    rw [UInt8.lt_iff_toNat_lt] at h h'
    omega
   simp [h,this]
  ·by_cases h':y < x <;> simp [h,h']
theorem b0r:∀ (a b:Str),Go.Lib.compareBytes a b = -1∨Go.Lib.compareBytes a b=0∨Go.Lib.compareBytes a b=1
 | [],[]=>.inr (.inl rfl)
 | [],_::_=>.inl rfl
 | _::_,[]=>.inr (.inr rfl)
 | x::a,y::b=>by
  rw [Go.Lib.compareBytes]
  split
  ·exact .inl rfl
  ·split
   ·exact .inr (.inr rfl)
   ·exact b0r a b
theorem a1D (a b:Int):T8 a b=0↔a=b:=by unfold T8; split <;> (try split) <;> omega
theorem a7A (x y:Ky):D8 x y=0↔x=y:=by
 obtain ⟨k,a,b⟩:=x
 obtain ⟨k',a',b'⟩:=y
 unfold D8
 simp only [Ky.mk.injEq]
 have h1:=a1D k k'
 have h2:=a4R a a'
 have h3:=a4R b b'
 split
 ·rename_i h
  exact ⟨fun e=>absurd e h,fun ⟨e,_⟩=>h1.2 e⟩
 ·rename_i h
  have hk:k=k':=h1.1 a16
  split
  ·rename_i h
   exact ⟨fun e=>absurd e h,fun ⟨_,e,_⟩=>h2.2 e⟩
  ·rename_i h
   have ha:a=a':=h2.1 a16
   rw [h3]
   exact ⟨fun e=>⟨hk,ha,e⟩,fun ⟨_,_,e⟩=>e⟩
theorem b3v (x y:Ky):D8 y x = - D8 x y:=by
 unfold D8
 have h1:T8 y.k x.k = - T8 x.k y.k:=by unfold T8; split <;> split <;> (try split) <;> omega
 rw [h1,a7M x.a y.a,a7M x.b y.b]
 by_cases h:T8 x.k y.k=0
 ·by_cases h':Go.Lib.compareBytes x.a y.a=0 <;> simp [h,h']
 ·simp [h]
theorem a2x (x y:Ky):D8 x y = -1∨D8 x y=0∨D8 x y=1:=by
 unfold D8
 split
 ·unfold T8
  split
  ·exact .inl rfl
  ·split
   ·exact .inr (.inr rfl)
   ·exact .inr (.inl rfl)
 ·split
  ·exact b0r _ _
  ·exact b0r _ _
theorem a6e (x y:Ky):∀ w,(Op.equal 39 (.agg [.int .i64 x.k,.string (str x.a),.string (str x.b)].toArray) (.agg [.int .i64 y.k,.string (str y.a),.string (str y.b)].toArray)).run CC.P w = .ok (decide (x=y)) w:=fun w=>by
 show (Op.equal _ _ _).run Tryz.prog w=_
 simp [Op.equal,Op.maxDepth,go_sem,M5]
 obtain ⟨a,b,c⟩:=x
 obtain ⟨a',b',c'⟩:=y
 by_cases h1:a=a' <;> by_cases h2:b=b' <;> by_cases h3:c=c' <;> simp [h1,h2,h3]
set_option maxRecDepth 10000 in
theorem b25 (a:Int):b8 CC 118 [(.val (.int .i64 (a)))] [] fun r σ'=>r = .ret (.val (.bool (false)))∧σ'=[]:=by
 refine j4 (d8 Tryz.func118 rfl rfl ?_)
 refine a7 (a6 ?_)
 refine cY i7 ?_
 refine a8 (a7 (a6 ?_))
 refine cY b7 ?_; refine cY b7 ?_; refine cY p8 ?_; refine cY c7 ?_
 refine a8 (d5 ?_)
 exact ⟨_,l4 rfl tt c6,_,_,rfl,rfl,j8 m5⟩
theorem a3B (a:Int) (σ:List c5):b8 CC 118 [(.val (.int .i64 (a)))] σ fun r σ'=>r = .ret (.val (.bool (false)))∧σ'=σ :=
 b8.anyw hCC (by repeat' (first|exact .val _|exact d4 _ _|exact c9 _ _|exact tt | refine d6 ?_ | refine d7 ?_ | refine ⟨?_,?_⟩)) (by repeat' (first|exact .val _|exact d4 _ _|exact c9 _ _|exact tt | refine d6 ?_ | refine d7 ?_ | refine ⟨?_,?_⟩)) (b25 a) σ
set_option maxRecDepth 10000 in
theorem a9e (a b:Int):b8 CC 69 [(.val (.int .i64 (a))),(.val (.int .i64 (b)))] [] fun r σ'=>r = .ret (.val (.int .i64 (T8 a b)))∧σ'=[]:=by
 refine j4 (d8 Tryz.func69 rfl rfl ?_)
 refine a7 (a6 ?_)
 refine cY i7 ?_
 refine a8 (a7 (a6 ?_))
 refine cY b7 ?_; refine cY (i8 rfl Tryz.call118 ⟨tt,tt⟩ (a3B a _) rfl) ?_; refine cY c7 ?_
 refine a8 (a7 (a6 ?_))
 refine cY b7 ?_; refine cY (i8 rfl Tryz.call118 ⟨tt,tt⟩ (a3B b _) rfl) ?_; refine cY c7 ?_
 refine a8 (a7 (a7 (a6 ?_)))
 refine cY b7 ?_; refine a8 ?_
 refine b9 tt rfl (fun h1=>?_) (fun h1=>?_)
 ·cases h1
 ·skip
  refine c8 (a7 (a7 (a6 ?_)))
  refine cY b7 ?_; refine a8 ?_
  refine b9 tt rfl (fun h3=>?_) (fun h3=>?_)
  ·cases h3
  ·skip
   refine c8 (a7 (a7 (a6 ?_)))
   refine cY b7 ?_; refine cY b7 ?_; refine cY p8 ?_; refine a8 ?_
   refine b9 tt rfl (fun h4=>?_) (fun h4=>?_)
   ·have hlt:a < b:=by simpa using h4
    refine a7 (a6 ?_)
    refine cY i7 ?_
    refine a8 (d5 ?_)
    exact ⟨_,l4 rfl tt c6,_,_,rfl,rfl,r3 (show (-1:Int)=T8 a b by rw [T8,if_pos hlt])⟩
   ·have hge:¬ a < b:=by simpa using h4
    refine c8 (a7 (a7 (a6 ?_)))
    refine cY b7 ?_; refine cY b7 ?_; refine cY p8 ?_; refine a8 ?_
    refine b9 tt rfl (fun h5=>?_) (fun h5=>?_)
    ·have hlt:b < a:=by simpa using h5
     refine a7 (a6 ?_)
     refine cY i7 ?_
     refine a8 (d5 ?_)
     exact ⟨_,l4 rfl tt c6,_,_,rfl,rfl,r3 (show (1:Int)=T8 a b by rw [T8,if_neg hge,if_pos hlt])⟩
    ·have hge2:¬ b < a:=by simpa using h5
     refine c8 (a7 (a6 ?_))
     refine cY i7 ?_
     refine a8 (d5 ?_)
     exact ⟨_,l4 rfl tt c6,_,_,rfl,rfl,r3 (show (0:Int)=T8 a b by rw [T8,if_neg hge,if_neg hge2])⟩
theorem a5D (a b:Int) (σ:List c5):b8 CC 69 [(.val (.int .i64 (a))),(.val (.int .i64 (b)))] σ fun r σ'=>r = .ret (.val (.int .i64 (T8 a b)))∧σ'=σ :=
 b8.anyw hCC (by repeat' (first|exact .val _|exact d4 _ _|exact c9 _ _|exact tt | refine d6 ?_ | refine d7 ?_ | refine ⟨?_,?_⟩)) (by repeat' (first|exact .val _|exact d4 _ _|exact c9 _ _|exact tt | refine d6 ?_ | refine d7 ?_ | refine ⟨?_,?_⟩)) (a9e a b) σ
theorem b7I {l:List Int} {i:Nat} {x:Int} (hx:l[i]? = some x) (hz:∀ y∈l.take i,y=0) (h:x≠0):x=(l.find? fun x=>decide (x≠0)).getD 0:=by
 obtain ⟨hlt,rfl⟩:=List.getElem?_eq_some_iff.1 hx
 have:l.find? (fun x=>decide (x≠0))=some l[i]:=by
  rw [List.find?_eq_some_iff_getElem]
  refine ⟨by simpa using h,i,hlt,rfl,fun j hj=>?_⟩
  have:=hz l[j] (List.mem_of_getElem? (i:=j) (by rw [List.getElem?_take,if_pos hj]; simp))
  simp [this]
 rw [this]; rfl
theorem b6G {l:List Int} {i:Nat} {x:Int} (hx:l[i]? = some x) (hz:∀ y∈l.take i,y=0) (h:x=0):∀ y∈l.take (i+1),y=0:=by
 obtain ⟨hlt,rfl⟩:=List.getElem?_eq_some_iff.1 hx
 rw [← List.take_append_getElem hlt]
 intro y hy
 rcases List.mem_append.1 hy with hy | hy
 ·exact hz y hy
 ·rw [List.mem_singleton.1 hy]; exact h
theorem b7M {l:List Int} (hz:∀ y∈l,y=0):(0:Int)=(l.find? fun x=>decide (x≠0)).getD 0:=by
 have:l.find? (fun x=>decide (x≠0))=none:=List.find?_eq_none.2 fun x hx=>by simp [hz x hx]
 rw [this]; rfl
set_option maxRecDepth 10000 in
theorem b8n (l:List Int) (hl:l.length≤1000000):b8 CC 68 [(.list (l.map icv) true none)] [] fun r σ'=>r = .ret (.val (.int .i64 ((l.find? fun x=>decide (x≠0)).getD 0)))∧σ'=[]:=by
 refine j4 (d8 Tryz.func68 rfl rfl ?_)
 refine a7 (a6 ?_)
 refine cY i7 ?_
 refine a8 (a7 (a6 ?_))
 refine cY i7 ?_
 refine a8 (a7 (a7 (a6 ?_)))
 refine cY b7 ?_; refine cY a7O ?_; refine cY z8 ?_
 refine a8 (d9 ?_)
 refine r6 hCC (α:=Nat) (fun i=>[(3,(.val (.int .i64 (0)))),(6,(.list (l.map icv) true none)),(7,(.val (.int .i64 ((l.length:Int))))),(8,(.val (.int .i64 ((i:Int)))))]) (fun _=>[]) (fun i=>i≤l.length∧∀ x∈l.take i,x=0) (fun i=>l.length - i) 0 ⟨Nat.zero_le _,by simp⟩ ⟨⟨tt,rfl⟩,⟨tt,rfl⟩,⟨tt,rfl⟩,⟨tt,rfl⟩,tt⟩ (extra0:=[]) rfl y9 (fun a ha=>by repeat' (first|exact tt|exact .val _|exact .ptr (nb rfl)|exact .map (nb rfl)|exact (by first|exact m4 _ _ _|exact t6 _ _ _|exact K5 _ _) | refine l2 ?_ | refine ⟨?_,?_⟩)) ?_; intro i ⟨hi,hz⟩
 refine a7 (a6 ?_)
 refine cY p8 ?_
 refine a8 (a7 ?_)
 refine b9 tt rfl (fun h1=>?_) (fun h1=>?_)
 ·have hil:(i:Int) < l.length:=by simpa using h1
  obtain ⟨x,hx⟩:∃ x,l[i]? = some x:=⟨l[i]'c4,by simp⟩
  refine c8 (a7 (d9 (a7 (a6 ?_))))
  refine cY (o9 rfl tt tt rfl rfl Tryz.runUnderlying22 Tryz.sizeOf3 c4 (l6 hx) rfl) ?_; refine cY W4 ?_; refine cY c7 ?_
  refine a8 (a7 (a6 ?_))
  refine cY b7 ?_; refine cY b7 ?_; refine cY p8 ?_; refine a8 ?_
  refine b9 tt rfl (fun h2=>?_) (fun h2=>?_)
  ·have hx0:x≠0:=by simpa using h2
   refine a7 (a6 ?_)
   refine cY b7 ?_; refine cY c7 ?_
   refine a8 (d5 ?_)
   exact ⟨_,l4 rfl tt c6,_,_,rfl,rfl,r3 (b7I hx hz hx0)⟩
  ·have hx0:x=0:=by simpa using h2
   refine c8 (a6 ?_)
   refine cY n9 ?_; refine cY b7 ?_; refine a8 ?_
   exact ⟨(i+1),_,⟨by omega,by omega,b6G hx hz hx0⟩,⟨⟨tt,rfl⟩,⟨tt,rfl⟩,⟨tt,rfl⟩,⟨tt,rfl⟩,tt⟩,rfl⟩
 ·have hge:l.length≤i:=by
   have:¬ (i:Int) < l.length:=by simpa using h1
   omega
  rw [List.take_of_length_le hge] at hz
  refine m8 (a7 (a6 ?_))
  refine cY b7 ?_; refine cY c7 ?_
  refine a8 (d5 ?_)
  exact ⟨_,l4 rfl tt c6,_,_,rfl,rfl,r3 (b7M hz)⟩
theorem b4U (l:List Int) (hl:l.length≤1000000) (σ:List c5):b8 CC 68 [(.list (l.map icv) true none)] σ fun r σ'=>r = .ret (.val (.int .i64 ((l.find? fun x=>decide (x≠0)).getD 0)))∧σ'=σ :=
 b8.anyw hCC (by repeat' (first|exact .val _|exact d4 _ _|exact c9 _ _|exact tt | refine d6 ?_ | refine d7 ?_ | refine ⟨?_,?_⟩)) (by repeat' (first|exact .val _|exact d4 _ _|exact c9 _ _|exact tt | refine d6 ?_ | refine d7 ?_ | refine ⟨?_,?_⟩)) (b8n l hl) σ
set_option maxRecDepth 10000 in
theorem a3j (a b:Str):b8 CC 119 [(sv (a)),(sv (b))] [] fun r σ'=>r = .ret (.val (.int .i64 (Go.Lib.compareBytes a b)))∧σ'=[]:=by
 refine j4 (d8 Tryz.func119 rfl rfl ?_)
 refine a7 (a6 ?_)
 refine cY i7 ?_
 refine a8 (a7 (a6 ?_))
 refine cY b7 ?_; refine cY b7 ?_; refine cY (b0j (e:=Extern.BytealgCompare.compare) rfl Tryz.func154 rfl rfl rfl rfl tt tt rfl rfl (fun w=>a8M a b w)) ?_; refine cY c7 ?_
 refine a8 (d5 ?_)
 exact ⟨_,l4 rfl tt c6,_,_,rfl,rfl,r3 rfl⟩
theorem a2c (a b:Str) (σ:List c5):b8 CC 119 [(sv (a)),(sv (b))] σ fun r σ'=>r = .ret (.val (.int .i64 (Go.Lib.compareBytes a b)))∧σ'=σ :=
 b8.anyw hCC (by repeat' (first|exact .val _|exact d4 _ _|exact c9 _ _|exact tt | refine d6 ?_ | refine d7 ?_ | refine ⟨?_,?_⟩)) (by repeat' (first|exact .val _|exact d4 _ _|exact c9 _ _|exact tt | refine d6 ?_ | refine d7 ?_ | refine ⟨?_,?_⟩)) (a3j a b) σ
set_option maxRecDepth 10000 in
theorem a3Z (a b:Str):b8 CC 70 [(sv (a)),(sv (b))] [] fun r σ'=>r = .ret (.val (.int .i64 (Go.Lib.compareBytes a b)))∧σ'=[]:=by
 refine j4 (d8 Tryz.func70 rfl rfl ?_)
 refine a7 (a6 ?_)
 refine cY i7 ?_
 refine a8 (a7 (a6 ?_))
 refine cY b7 ?_; refine cY b7 ?_; refine cY (i8 rfl Tryz.call119 ⟨tt,tt,tt⟩ (a2c a b _) rfl) ?_; refine cY c7 ?_
 refine a8 (d5 ?_)
 exact ⟨_,l4 rfl tt c6,_,_,rfl,rfl,r3 rfl⟩
theorem X1 (a b:Str) (σ:List c5):b8 CC 70 [(sv (a)),(sv (b))] σ fun r σ'=>r = .ret (.val (.int .i64 (Go.Lib.compareBytes a b)))∧σ'=σ :=
 b8.anyw hCC (by repeat' (first|exact .val _|exact d4 _ _|exact c9 _ _|exact tt | refine d6 ?_ | refine d7 ?_ | refine ⟨?_,?_⟩)) (by repeat' (first|exact .val _|exact d4 _ _|exact c9 _ _|exact tt | refine d6 ?_ | refine d7 ?_ | refine ⟨?_,?_⟩)) (a3Z a b) σ
theorem b8Q (x y:Ky):(([T8 x.k y.k,Go.Lib.compareBytes x.a y.a,Go.Lib.compareBytes x.b y.b].find? fun x=>decide (x≠0)).getD 0)=D8 x y:=by
 unfold D8
 by_cases h1:T8 x.k y.k=0
 ·by_cases h2:Go.Lib.compareBytes x.a y.a=0
  ·by_cases h3:Go.Lib.compareBytes x.b y.b=0 <;> simp [h1,h2,h3]
  ·simp [h1,h2]
 ·simp [h1]
set_option maxRecDepth 10000 in
theorem a4v (x y:Ky):b8 CC 33 [.agg x.cells,.agg y.cells] [] fun r σ'=>r = .ret (.val (.int .i64 (D8 x y)))∧σ'=[]:=by
 refine j4 (d8 Tryz.func33 rfl rfl ?_)
 refine a7 (a6 ?_)
 refine cD (w9 rfl tt c6 j3 ?_)
 refine cD (w9 rfl tt c6 j3 ?_)
 refine cY i7 ?_
 refine a8 (a7 (a7 (a6 ?_)))
 refine cY E5 ?_; refine cY E5 ?_; refine cY (a9d rfl tt tt (xs:=[.int .i64 x.k,.string (str x.a),.string (str x.b)]) (ys:=[.int .i64 y.k,.string (str y.a),.string (str y.b)]) rfl rfl Tryz.eqGuardType39 (a6e x y)) ?_; refine a8 ?_
 refine b9 tt rfl (fun h1=>?_) (fun h1=>?_)
 ·have hxy:x=y:=by simpa using h1
  subst hxy
  refine a7 (a6 ?_)
  refine cY i7 ?_
  refine a8 (d5 ?_)
  exact ⟨_,l4 rfl tt c6,_,_,rfl,rfl,r3 (show (0:Int)=D8 x x from ((a7A x x).2 rfl).symm)⟩
 ·skip
  refine c8 (a7 ?_)
  refine r5 18 [0,1,0,4,15,0,32,0,128,511,0,1024,0,4096,16383,32767,65535,131071] j6 j6 rfl ?_; refine hY a1x ?_; refine hY t7 ?_; refine hY a1x ?_; refine hY t7 ?_; refine hY (i8 rfl Tryz.call69 ⟨tt,tt,tt⟩ (a5D x.k y.k _) rfl) ?_; refine hY A8 ?_; refine hY p7 ?_; refine hY A8 ?_; refine hY p7 ?_; refine hY (i8 rfl Tryz.call70 ⟨tt,tt,tt⟩ (X1 x.a y.a _) rfl) ?_; refine hY A8 ?_; refine hY p7 ?_; refine hY A8 ?_; refine hY p7 ?_; refine hY (i8 rfl Tryz.call70 ⟨tt,tt,tt⟩ (X1 x.b y.b _) rfl) ?_; refine hY (y7 ([T8 x.k y.k,Go.Lib.compareBytes x.a y.a,Go.Lib.compareBytes x.b y.b].map icv) rfl ⟨tt,tt,tt,tt⟩ Tryz.runUnderlying22 Tryz.sizeOf3 Tryz.zeroValue3 rfl rfl rfl rfl rfl rfl rfl rfl rfl) ?_; refine hY (i8 rfl Tryz.call68 ⟨tt,tt⟩ (b4U _ m5 _) rfl) ?_; refine hY c7 ?_
  refine u0 (a8 (d5 ?_))
  exact ⟨_,l4 rfl tt c6,_,_,rfl,rfl,r3 (b8Q x y)⟩
theorem a7d (x y:Ky) (σ:List c5):b8 CC 33 [.agg x.cells,.agg y.cells] σ fun r σ'=>r = .ret (.val (.int .i64 (D8 x y)))∧σ'=σ :=
 b8.anyw hCC (by repeat' (first|exact .val _|exact d4 _ _|exact c9 _ _|exact tt | refine d6 ?_ | refine d7 ?_ | refine ⟨?_,?_⟩)) (by repeat' (first|exact .val _|exact d4 _ _|exact c9 _ _|exact tt | refine d6 ?_ | refine d7 ?_ | refine ⟨?_,?_⟩)) (a4v x y) σ
theorem b3j {x y:Ky} (h:¬ x.k=y.k):decide (x.k < y.k)=decide (D8 x y = -1):=by
 rw [D8,if_pos (fun e=>h ((a1D _ _).1 e)),T8]
 by_cases h1:x.k < y.k
 ·simp [h1]
 ·have:y.k < x.k:=by omega
  simp [h1,this]
theorem b8J {x y:Ky} (h:x.k=y.k) (h2:¬ x.a=y.a):Op.bytesLess x.a y.a=decide (D8 x y = -1):=by
 rw [D8,if_neg (by simp [(a1D x.k y.k).2 h]),if_pos (fun e=>h2 ((a4R _ _).1 e)),b1F]
theorem b8X {x y:Ky} (h:x.k=y.k) (h2:x.a=y.a):Op.bytesLess x.b y.b=decide (D8 x y = -1):=by
 rw [D8,if_neg (by simp [(a1D x.k y.k).2 h]),if_neg (by simp [(a4R x.a y.a).2 h2]),b1F]
def ltK (x y:Ky):Bool:=decide (D8 x y = -1)
theorem a5a (x y:Ky):ltK y x=decide (D8 x y=1):=by
 rw [ltK,b3v]
 rcases a2x x y with h | h | h <;> simp [h]
theorem b2q {α:Type} {a b:List α} (h1:a.length=b.length) (h2:∀ j,j < a.length→a[j]? = b[j]?):a=b:=by
 apply List.ext_getElem? fun j=>?_
 by_cases h:j < a.length
 ·exact h2 j h
 ·rw [List.getElem?_eq_none c4,List.getElem?_eq_none c4]
set_option maxRecDepth 10000 in
theorem b5H (x y:Ky):b8 CC 71 [.agg x.cells,.agg y.cells] [] fun r σ'=>r = .ret (.val (.bool (ltK x y)))∧σ'=[]:=by
 refine j4 (d8 Tryz.func71 rfl rfl ?_)
 refine a7 (a6 ?_)
 refine cD (w9 rfl tt c6 j3 ?_)
 refine cD (w9 rfl tt c6 j3 ?_)
 refine cY i7 ?_
 refine a8 (a7 (a7 (a6 ?_)))
 refine cY a1x ?_; refine cY t7 ?_; refine cY a1x ?_; refine cY t7 ?_; refine cY p8 ?_; refine a8 ?_
 refine b9 tt rfl (fun h1=>?_) (fun h1=>?_)
 ·have hk:¬ x.k=y.k:=by simpa using h1
  refine a7 (a6 ?_)
  refine cY a1x ?_; refine cY t7 ?_; refine cY a1x ?_; refine cY t7 ?_; refine cY p8 ?_; refine cY c7 ?_
  refine a8 (d5 ?_)
  exact ⟨_,l4 rfl tt c6,_,_,rfl,rfl,j8 (b3j hk)⟩
 ·have hk:x.k=y.k:=by simpa using h1
  refine c8 (a7 (a7 (a6 ?_)))
  refine cY A8 ?_; refine cY p7 ?_; refine cY A8 ?_; refine cY p7 ?_; refine cY (Y3 rfl tt tt rfl rfl (a8c _ _)) ?_; refine a8 ?_
  refine b9 tt rfl (fun h2=>?_) (fun h2=>?_)
  ·have ha:¬ x.a=y.a:=by simpa using h2
   refine a7 (a6 ?_)
   refine cY A8 ?_; refine cY p7 ?_; refine cY A8 ?_; refine cY p7 ?_; refine cY (Y3 rfl tt tt rfl rfl (a4E _ _)) ?_; refine cY c7 ?_
   refine a8 (d5 ?_)
   exact ⟨_,l4 rfl tt c6,_,_,rfl,rfl,j8 (b8J hk ha)⟩
  ·have ha:x.a=y.a:=by simpa using h2
   refine c8 (a7 (a6 ?_))
   refine cY A8 ?_; refine cY p7 ?_; refine cY A8 ?_; refine cY p7 ?_; refine cY (Y3 rfl tt tt rfl rfl (a4E _ _)) ?_; refine cY c7 ?_
   refine a8 (d5 ?_)
   exact ⟨_,l4 rfl tt c6,_,_,rfl,rfl,j8 (b8X hk ha)⟩
theorem a0y (x y:Ky) (σ:List c5):b8 CC 71 [.agg x.cells,.agg y.cells] σ fun r σ'=>r = .ret (.val (.bool (ltK x y)))∧σ'=σ :=
 b8.anyw hCC (by repeat' (first|exact .val _|exact d4 _ _|exact c9 _ _|exact j9 _ _|exact tt | refine d6 ?_ | refine d7 ?_ | refine ⟨?_,?_⟩)) (by repeat' (first|exact .val _|exact d4 _ _|exact c9 _ _|exact j9 _ _|exact tt | refine d6 ?_ | refine d7 ?_ | refine ⟨?_,?_⟩)) (b5H x y) σ
set_option maxRecDepth 10000 in
theorem a8j (x y:Ky):b8 CC 34 [.agg x.cells,.agg y.cells] [] fun r σ'=>r = .ret (.val (.int .i64 (D8 x y)))∧σ'=[]:=by
 refine j4 (d8 Tryz.func34 rfl rfl ?_)
 refine a7 (a6 ?_)
 refine cD (w9 rfl tt c6 j3 ?_)
 refine cD (w9 rfl tt c6 j3 ?_)
 refine cY i7 ?_
 refine a8 (a7 (d9 (a7 (a6 ?_))))
 refine cY E5 ?_; refine cY E5 ?_; refine cY (i8 rfl Tryz.call71 ⟨tt,tt,tt⟩ (a0y x y _) rfl) ?_; refine cY c7 ?_; refine a8 ?_
 refine b9 tt rfl (fun h1=>?_) (fun h1=>?_)
 ·have hc:D8 x y = -1:=by simpa [ltK] using h1
  refine a7 (a6 ?_)
  refine cY i7 ?_
  refine a8 (d5 ?_)
  exact ⟨_,l4 rfl tt c6,_,_,rfl,rfl,r3 (show (-1:Int)=D8 x y from hc.symm)⟩
 ·have hc:¬ D8 x y = -1:=by simpa [ltK] using h1
  refine a7 (a6 ?_)
  refine cY E5 ?_; refine cY E5 ?_; refine cY (i8 rfl Tryz.call71 ⟨tt,tt,tt⟩ (a0y y x _) rfl) ?_; refine cY c7 ?_; refine a8 ?_
  refine b9 tt rfl (fun h2=>?_) (fun h2=>?_)
  ·have hd:D8 x y=1:=by rw [a5a] at h2; simpa using h2
   refine a7 (a6 ?_)
   refine cY i7 ?_
   refine a8 (d5 ?_)
   exact ⟨_,l4 rfl tt c6,_,_,rfl,rfl,r3 (show (1:Int)=D8 x y from hd.symm)⟩
  ·have hd:¬ D8 x y=1:=by rw [a5a] at h2; simpa using h2
   refine c8 (a7 (a6 ?_))
   refine cY i7 ?_
   refine a8 (d5 ?_)
   exact ⟨_,l4 rfl tt c6,_,_,rfl,rfl,r3 (show (0:Int)=D8 x y by rcases a2x x y with h | h | h; exact absurd h hc; exact h.symm; exact absurd h hd)⟩
theorem a5P (x y:Ky) (σ:List c5):b8 CC 34 [.agg x.cells,.agg y.cells] σ fun r σ'=>r = .ret (.val (.int .i64 (D8 x y)))∧σ'=σ :=
 b8.anyw hCC (by repeat' (first|exact .val _|exact d4 _ _|exact c9 _ _|exact j9 _ _|exact tt | refine d6 ?_ | refine d7 ?_ | refine ⟨?_,?_⟩)) (by repeat' (first|exact .val _|exact d4 _ _|exact c9 _ _|exact j9 _ _|exact tt | refine d6 ?_ | refine d7 ?_ | refine ⟨?_,?_⟩)) (a8j x y) σ
set_option maxRecDepth 10000 in
theorem b31 (a b:List Ky) (na nbz:Bool) (hl:a.length≤maxLen):b8 CC 30 [(.list (a.map Ky.cv) na none),(.list (b.map Ky.cv) nbz none)] [] fun r σ'=>r = .ret (.val (.bool (decide (a=b))))∧σ'=[]:=by
 unfold maxLen at hl
 refine j4 (d8 Tryz.func30 rfl rfl ?_)
 refine a7 (a6 ?_)
 refine cY i7 ?_
 refine a8 (a7 (a7 (a6 ?_)))
 refine cY b7 ?_; refine cY a4J ?_; refine cY b7 ?_; refine cY a4J ?_; refine cY p8 ?_; refine a8 ?_
 refine b9 tt rfl (fun h1=>?_) (fun h1=>?_)
 ·have hne:¬ a=b:=fun g=>by simp [g] at h1
  refine a7 (a6 ?_)
  refine cY i7 ?_
  refine a8 (d5 ?_)
  exact ⟨_,l4 rfl tt c6,_,_,rfl,rfl,j8 (show false=decide (a=b) by simp [hne])⟩
 ·have hlen:a.length=b.length:=by simp at h1; omega
  refine c8 (a7 (a7 (a6 ?_)))
  refine cY b7 ?_; refine cY a4J ?_; refine cY z8 ?_
  refine a8 (d9 ?_)
  refine r6 hCC (α:=Nat) (fun i=>[(0,(.list (a.map Ky.cv) na none)),(1,(.list (b.map Ky.cv) nbz none)),(12,(.val (.int .i64 ((a.length:Int))))),(13,(.val (.int .i64 ((i:Int)))))]) (fun _=>[]) (fun i=>i≤a.length∧∀ j,j < i→a[j]? = b[j]?) (fun i=>a.length - i) 0 ⟨Nat.zero_le _,fun j hj=>absurd hj (Nat.not_lt_zero j)⟩ ⟨⟨tt,rfl⟩,⟨tt,rfl⟩,⟨tt,rfl⟩,⟨tt,rfl⟩,tt⟩ (extra0:=[]) rfl y9 (fun a ha=>by repeat' (first|exact tt|exact .val _|exact .ptr (nb rfl)|exact .map (nb rfl)|exact (by first|exact C6 _ _ _|exact K5 _ _) | refine l2 ?_ | refine ⟨?_,?_⟩)) ?_; intro i ⟨hi,hp⟩
  refine a7 (a6 ?_)
  refine cY p8 ?_
  refine a8 (a7 ?_)
  refine b9 tt rfl (fun h2=>?_) (fun h2=>?_)
  ·have hlt:(i:Int) < a.length:=by simpa using h2
   obtain ⟨x,hx⟩:∃ b,a[i]? = some b:=⟨a[i]'c4,by simp⟩
   obtain ⟨y,hy⟩:∃ c,b[i]? = some c:=⟨b[i]'c4,by simp⟩
   refine c8 (a7 (d9 (a7 (a6 ?_))))
   refine cY b7 ?_; refine cY c7 ?_
   refine a8 (a7 ?_)
   refine r5 9 [0,0,3,7,0,0,48,112,255] j6 j6 rfl ?_; refine hY b7 ?_; refine hY b7 ?_; refine hY (o9 rfl tt tt rfl rfl Tryz.runUnderlying36 Tryz.sizeOf39 c4 (l6 hx) rfl) ?_; refine hY a6x ?_; refine hY b7 ?_; refine hY b7 ?_; refine hY (o9 rfl tt tt rfl rfl Tryz.runUnderlying36 Tryz.sizeOf39 c4 (l6 hy) rfl) ?_; refine hY a6x ?_; refine hY (b7V rfl tt tt (xs:=[.int .i64 x.k,.string (str x.a),.string (str x.b)]) (ys:=[.int .i64 y.k,.string (str y.a),.string (str y.b)]) rfl rfl Tryz.eqGuardType39 (a6e x y)) ?_
   refine u0 (a8 ?_)
   refine b9 tt rfl (fun h3=>?_) (fun h3=>?_)
   ·have hxy:¬ x=y:=by simpa using h3
    refine a7 (a6 ?_)
    refine cY i7 ?_
    refine a8 (d5 ?_)
    exact ⟨_,l4 rfl tt c6,_,_,rfl,rfl,j8 (show false=decide (a=b) from (decide_eq_false fun g=>hxy (by rw [g,hy] at hx; exact (Option.some.inj hx).symm)).symm)⟩
   ·have hxy:x=y:=by simpa using h3
    refine c8 (a6 ?_)
    refine cY n9 ?_; refine cY b7 ?_; refine a8 ?_
    exact ⟨i+1,_,⟨by omega,by omega,fun j hj=>by
   rcases Nat.lt_or_ge j i with h | h
   ·exact hp j h
   ·obtain rfl:j=i:=by omega
    rw [hx,hy,hxy]⟩,⟨⟨tt,rfl⟩,⟨tt,rfl⟩,⟨tt,rfl⟩,⟨tt,rfl⟩,tt⟩,rfl⟩
  ·have hge:¬ (i:Int) < a.length:=by simpa using h2
   refine m8 (a7 (a6 ?_))
   refine cY i7 ?_
   refine a8 (d5 ?_)
   exact ⟨_,l4 rfl tt c6,_,_,rfl,rfl,j8 (show true=decide (a=b) from (decide_eq_true (b2q hlen fun j hj=>hp j c4)).symm)⟩
theorem b04 (a b:List Ky) (na nbz:Bool) (hl:a.length≤maxLen) (σ:List c5):b8 CC 30 [(.list (a.map Ky.cv) na none),(.list (b.map Ky.cv) nbz none)] σ fun r σ'=>r = .ret (.val (.bool (decide (a=b))))∧σ'=σ :=
 b8.anyw hCC (by repeat' (first|exact .val _|exact d4 _ _|exact c9 _ _|exact j9 _ _|exact tt | refine d6 ?_ | refine d7 ?_ | refine ⟨?_,?_⟩)) (by repeat' (first|exact .val _|exact d4 _ _|exact c9 _ _|exact j9 _ _|exact tt | refine d6 ?_ | refine d7 ?_ | refine ⟨?_,?_⟩)) (b31 a b na nbz hl) σ
theorem b0V {rows:List (List CV)} {r:List CV} {i j:Nat} (h:rows[i]? = some r) (e:j=i):rows[j]? = some r:=e ▸ h
abbrev zK:Ky:=⟨0,[],[]⟩
def a2d (k:Ky):List Ky→Nat
 | []=>0
 | y::l=>if ltK y k=true then a2d k l+1 else 0
def F7 (l:List Ky) (k:Ky):List Ky:=if l[a2d k l]? = some k then l else l.take (a2d k l)++k::l.drop (a2d k l)
theorem b1G (k:Ky):∀ l:List Ky,a2d k l≤l.length
 | []=>Nat.le_refl _
 | y::l=>by
  have:=b1G k l
  unfold a2d
  split <;> simp <;> omega
theorem a5Y {k y:Ky} {l:List Ky} {i:Nat} (h:l[i]? = some y):a2d k (l.drop i)=if ltK y k=true then a2d k (l.drop (i+1))+1 else 0:=by
 obtain ⟨hlt,rfl⟩:=List.getElem?_eq_some_iff.1 h
 rw [List.drop_eq_getElem_cons hlt]; rfl
theorem a95 {l:List (List CV)} {z y:List CV} {i:Nat} (hi:i≤l.length):(C0 (l++[z]) (i+1) (((l++[z]).drop i).take (l.length - i))).set i y=l.take i++y::l.drop i:=by
 obtain ⟨A,B,rfl,rfl⟩:∃ A B,l=A++B∧A.length=i:=⟨l.take i,l.drop i,by simp,by simp; omega⟩
 have h1:((A++B++[z]).drop A.length).take ((A++B).length - A.length)=B:=by simp
 rw [h1]
 obtain ⟨h,t,ht⟩:∃ h t,B++[z]=h::t:=by cases B <;> simp
 have h2:A++B++[z]=A++h::t:=by rw [List.append_assoc,ht]
 have h3:t.length=B.length:=by have:=congrArg List.length ht; simp at this; omega
 unfold C0
 have h4:(A++h::t).take (A.length+1)=A++[h]:=by rw [List.take_append,List.take_of_length_le c4,Nat.add_sub_cancel_left]; rfl
 have h5:(A++h::t).drop (A.length+1+B.length)=[]:=by rw [List.drop_eq_nil_iff]; simp; omega
 rw [h2,h4,h5,List.append_nil]
 simp
theorem b3K {l N:List (List CV)} {z:List CV} {i:Nat} (hi:i≤l.length):(C0 (l++[z]) (i+1) N)[i]? = (l++[z])[i]?:=by
 unfold C0
 rw [List.getElem?_append_left Z4,List.getElem?_take,if_pos c4]
theorem U0 (n:Nat) (l:List Ky):C8 n (.vec 3 (l.map Ky.cv)):=fun r hr c hc=>((A4 (f:=Ky.cv) (fun _=>H6.all ⟨.val _,.val _,.val _,tt⟩) _) r hr c hc).old
def c0b (g:Bool) (l l':List Ky):List c5:=if g=true then [.dead,.vec 3 (l'.map Ky.cv)] else [.vec 3 (l.map Ky.cv)]
set_option maxRecDepth 10000 in
theorem b2n (l:List Ky) (k:Ky) (hl:l.length≤1000000):b8 CC 75 [.vec 0 0 l.length,.agg k.cells] [(.vec 3 (l.map Ky.cv))] fun r τ=>∃ g:Bool,L2 1 τ r (.ret (.vec (if g=true then 1 else 0) 0 (F7 l k).length)) (c0b g l (F7 l k))∧(g=false→F7 l k=l):=by
 refine (d8 Tryz.func75 rfl rfl ?_)
 refine a7 (a6 ?_)
 refine cD (w9 rfl tt c6 j3 ?_)
 refine cY i7 ?_
 refine a8 (a7 (a6 ?_))
 refine cY i7 ?_
 refine a8 (a7 (d9 ?_))
 refine L6 (α:=Nat) (fun i=>[(0,(.vec 0 0 l.length)),(3,.ptr 1 0),(5,(.val (.int .i64 ((i:Int)))))]) (fun _=>[(.vec 3 (l.map Ky.cv)),.box k.cells]) (fun i=>i≤l.length∧a2d k l=i+a2d k (l.drop i)) (fun i=>l.length - i) 0 ⟨Nat.zero_le _,(Nat.zero_add _).symm⟩ ⟨⟨tt,rfl⟩,⟨tt,rfl⟩,⟨tt,rfl⟩,tt⟩ rfl ?_; intro i E0 ⟨hi,hr⟩
 obtain ⟨y,hb⟩:∃ y,i < l.length→l[i]? = some y:=⟨l.getD i ⟨0,[],[]⟩,fun h=>by simp [h]⟩
 refine a7 (a7 ?_)
 refine r5 12 [0,0,2,7,15,31,31,127,255,31,1023,2047] j6 j6 rfl ?_; refine hY b7 ?_; refine hY b7 ?_; refine hY a84 ?_; refine hY p8 ?_; refine hY b7 ?_; refine A5 rfl rfl tt rfl o6 ?_; refine A5 rfl rfl tt rfl o6 ?_; refine A5 rfl rfl tt rfl b9l ?_; refine A5 rfl rfl tt rfl b9N ?_; refine A5 rfl rfl tt rfl b1i ?_; refine A5 rfl rfl tt rfl (fun hg=>i8 rfl Tryz.call71 ⟨hg,hg,tt⟩ (a0y y k _) rfl) ?_; refine hY p9 ?_
 refine u0 (a8 ?_)
 refine b9 tt rfl (fun h1=>?_) (fun h1=>?_)
 ·have h1':(i:Int) < (l.length:Int)∧ltK y k=true:=by simpa using h1
  have hlt:i < l.length:=by omega
  rw [a5Y (hb hlt),if_pos h1'.2] at hr
  refine c8 (d9 (a6 ?_))
  refine cY b7 ?_; refine cY n9 ?_; refine cY c7 ?_; refine a8 ?_
  exact ⟨i+1,c4,⟨by omega,by omega⟩,⟨⟨tt,rfl⟩,⟨tt,rfl⟩,⟨tt,rfl⟩,tt⟩,rfl⟩
 ·have hi0:a2d k l=i:=by
   rcases Nat.lt_or_ge i l.length with hlt | hge
   ·rw [a5Y (hb hlt)] at hr
    have hn:¬ ltK y k=true:=fun e=>by
     have:((i:Int) < (l.length:Int)):=by omega
     simp [e] at h1; omega
    rw [if_neg hn] at hr; exact hr
   ·rw [List.drop_eq_nil_of_le hge] at hr; exact hr
  refine m8 (a7 (a7 ?_))
  refine r5 12 [0,0,2,7,15,31,31,127,255,31,1023,2047] j6 j6 rfl ?_; refine hY b7 ?_; refine hY b7 ?_; refine hY a84 ?_; refine hY p8 ?_; refine hY b7 ?_; refine A5 rfl rfl tt rfl o6 ?_; refine A5 rfl rfl tt rfl o6 ?_; refine A5 rfl rfl tt rfl b9l ?_; refine A5 rfl rfl tt rfl b9N ?_; refine A5 rfl rfl tt rfl b1i ?_; refine A5 rfl rfl tt rfl (fun hg=>a9d rfl hg hg (xs:=[.int .i64 y.k,.string (str y.a),.string (str y.b)]) (ys:=[.int .i64 k.k,.string (str k.a),.string (str k.b)]) rfl rfl Tryz.eqGuardType39 (a6e y k)) ?_; refine hY p9 ?_
  refine u0 (a8 ?_)
  refine b9 tt rfl (fun h2=>?_) (fun h2=>?_)
  ·have h2':(i:Int) < (l.length:Int)∧y=k:=by simpa using h2
   have hh:F7 l k=l:=by rw [F7,hi0,if_pos (by rw [hb c4,h2'.2])]
   refine a7 (a6 ?_)
   refine cY b7 ?_; refine cY c7 ?_
   refine a8 (d5 ?_)
   exact ⟨_,l4 rfl tt c6,⟨false,by rw [hh]; exact ⟨[0],rfl,rfl,.ret (.vec rfl),.inr ⟨_,rfl,.same rfl (U0 _ _)⟩,tt⟩,fun _=>hh⟩⟩
  ·have hh:F7 l k=l.take i++k::l.drop i:=by
    rw [F7,hi0,if_neg]
    intro e
    rcases Nat.lt_or_ge i l.length with hlt | hge
    ·rw [hb hlt] at e; injection e with e; subst e; simp at h2; omega
    ·rw [List.getElem?_eq_none c4] at e; cases e
   have hhl:(F7 l k).length=l.length+1:=by rw [hh]; simp; omega
   obtain ⟨x,hx⟩:∃ x,(l++[zK])[i]? = some x:=⟨(l++[zK])[i]'Z4,by simp⟩
   have hrx:(C0 ((l++[zK]).map Ky.cv) (0+(i+1)) ((((l++[zK]).map Ky.cv).drop (0+i)).take (l.length+1 - (i+1))))[0+(i:Int).toNat]? = some (Ky.cv x):=by
    rw [show 0+(i:Int).toNat=i by omega,Nat.zero_add,Nat.zero_add,show l.length+1 - (i+1)=l.length - i by omega,List.map_append,List.map_cons,List.map_nil,b3K (by simpa using hi)]
    have:((l++[zK]).map Ky.cv)[i]? = some (Ky.cv x):=by rw [List.getElem?_map,hx]; rfl
    simpa using this
   have hst:(C0 ((l++[zK]).map Ky.cv) (0+(i+1)) ((((l++[zK]).map Ky.cv).drop (0+i)).take (l.length+1 - (i+1)))).set (0+(i:Int).toNat) (Ky.cv k)=(F7 l k).map Ky.cv:=by
    rw [hh,show 0+(i:Int).toNat=i by omega,Nat.zero_add,Nat.zero_add,show l.length+1 - (i+1)=l.length - i by omega]
    have:=a95 (l:=l.map Ky.cv) (z:=Ky.cv zK) (y:=Ky.cv k) (i:=i) (by simpa using hi)
    simpa using this
   refine c8 (a7 (a6 ?_))
   refine cY b7 ?_; refine cY b9b ?_; refine cY b9F ?_
   refine cD (a3D ((l++[zK]).map Ky.cv) (l.length+1) rfl tt tt rfl q_4 Tryz.runUnderlying36 Tryz.sizeOf39 Tryz.typeInfo39 Tryz.zeroValue39 rfl rfl m5 m5 a87 L1 m5 m5 ?_)
   refine cY c7 ?_
   refine a8 (a7 ?_)
   refine r5 7 [0,0,2,7,0,0,48,127] j6 j6 rfl ?_; refine hY b7 ?_; refine hY b7 ?_; refine hY n9 ?_; refine hY (N7 (l:=(i+1)) rfl tt rfl Tryz.runUnderlying36 Tryz.sizeOf39 rfl ⟨tt,_,_,rfl,by omega,by omega⟩ rfl a0U m5) ?_; refine hY b7 ?_; refine hY b7 ?_; refine hY (N7 (l:=i) rfl tt rfl Tryz.runUnderlying36 Tryz.sizeOf39 rfl ⟨tt,_,_,rfl,by omega,by omega⟩ rfl a0U m5) ?_; refine u0 ?_
   refine cD (a6N rfl tt tt rfl rfl Tryz.runUnderlying36 Tryz.sizeOf39 rfl c4 Z4 Z4 ?_)
   refine a8 (a7 (a6 ?_))
   refine cY b7 ?_; refine cY b7 ?_; refine cY E5 ?_; refine cY a9B ?_
   refine cD (F9 ((F7 l k).map Ky.cv) rfl tt tt rfl c6 Tryz.sizeOf39 j3 rfl hrx rfl (nb rfl) (by exact hst) rfl ?_)
   refine a8 (a7 (a6 ?_))
   refine cY b7 ?_; refine cY c7 ?_
   refine a8 (d5 ?_)
   exact ⟨_,l4 rfl tt c6,⟨true,by rw [hhl]; exact ⟨[0,2],rfl,rfl,.ret (.vec rfl),.inl rfl,.inr ⟨_,rfl,.same rfl (U0 _ _)⟩,tt⟩,fun h=>by cases h⟩⟩
set_option maxRecDepth 10000 in
theorem b3E (k:Ky):b8 CC 75 [.list [] false none,.agg k.cells] [] fun r τ=>L2 0 τ r (.ret (.vec 0 0 1)) [.vec 3 ([k].map Ky.cv)]:=by
 refine (d8 Tryz.func75 rfl rfl ?_)
 refine a7 (a6 ?_)
 refine cD (w9 rfl tt c6 j3 ?_)
 refine cY i7 ?_
 refine a8 (a7 (a6 ?_))
 refine cY i7 ?_
 refine a8 (a7 (d9 ?_))
 refine L6 (α:=Nat) (fun i=>[(0,(.list [] false none)),(3,.ptr 0 0),(5,(.val (.int .i64 ((i:Int)))))]) (fun _=>[.box k.cells]) (fun i=>i=0) (fun i=>0) 0 rfl ⟨⟨tt,rfl⟩,⟨tt,rfl⟩,⟨tt,rfl⟩,tt⟩ rfl ?_; intro i E0 hi; subst hi
 refine a7 (a7 ?_)
 refine r5 12 [0,0,2,7,15,31,31,127,255,31,1023,2047] j6 j6 rfl ?_; refine hY b7 ?_; refine hY b7 ?_; refine hY a4J ?_; refine hY p8 ?_; refine hY b7 ?_; refine A5 rfl rfl tt rfl o6 ?_; refine A5 rfl rfl tt rfl o6 ?_; refine A5 rfl rfl tt rfl b88 ?_; refine A5 rfl rfl tt rfl (fun hg=>J1 rfl hg rfl Tryz.isAgg39 Tryz.sizeOf39 (nb rfl)) ?_; refine A5 rfl rfl tt rfl b1i ?_; refine A5 rfl rfl tt rfl (fun hg=>i8 rfl Tryz.call71 ⟨hg,hg,tt⟩ (a0y k k _) rfl) ?_; refine hY p9 ?_
 refine u0 (a8 ?_)
 refine b9 tt rfl (fun h1=>?_) (fun h1=>?_)
 ·exfalso
  simp at h1
 ·skip
  refine m8 (a7 (a7 ?_))
  refine r5 12 [0,0,2,7,15,31,31,127,255,31,1023,2047] j6 j6 rfl ?_; refine hY b7 ?_; refine hY b7 ?_; refine hY a4J ?_; refine hY p8 ?_; refine hY b7 ?_; refine A5 rfl rfl tt rfl o6 ?_; refine A5 rfl rfl tt rfl o6 ?_; refine A5 rfl rfl tt rfl b88 ?_; refine A5 rfl rfl tt rfl (fun hg=>J1 rfl hg rfl Tryz.isAgg39 Tryz.sizeOf39 (nb rfl)) ?_; refine A5 rfl rfl tt rfl b1i ?_; refine A5 rfl rfl tt rfl (fun hg=>a9d rfl hg hg (xs:=[.int .i64 k.k,.string (str k.a),.string (str k.b)]) (ys:=[.int .i64 k.k,.string (str k.a),.string (str k.b)]) rfl rfl Tryz.eqGuardType39 (a6e k k)) ?_; refine hY p9 ?_
  refine u0 (a8 ?_)
  refine b9 tt rfl (fun h2=>?_) (fun h2=>?_)
  ·exfalso
   simp at h2
  ·skip
   refine c8 (a7 (a6 ?_))
   refine cY b7 ?_; refine cY b9b ?_; refine cY b9F ?_
   refine cD (b7e 1 rfl tt tt rfl q_4 Tryz.runUnderlying36 Tryz.sizeOf39 Tryz.typeInfo39 Tryz.zeroValue39 rfl m5 a87 L1 m5 ?_)
   refine cY c7 ?_
   refine a8 (a7 ?_)
   refine r5 7 [0,0,2,7,0,0,48,127] j6 j6 rfl ?_; refine hY b7 ?_; refine hY b7 ?_; refine hY n9 ?_; refine hY (N7 (l:=(0+1)) rfl tt rfl Tryz.runUnderlying36 Tryz.sizeOf39 rfl ⟨tt,_,_,rfl,by omega,by omega⟩ rfl a0U m5) ?_; refine hY b7 ?_; refine hY b7 ?_; refine hY (N7 (l:=0) rfl tt rfl Tryz.runUnderlying36 Tryz.sizeOf39 rfl ⟨tt,_,_,rfl,by omega,by omega⟩ rfl a0U m5) ?_; refine u0 ?_
   refine cD (a6N rfl tt tt rfl rfl Tryz.runUnderlying36 Tryz.sizeOf39 rfl c4 m5 m5 ?_)
   refine a8 (a7 (a6 ?_))
   refine cY b7 ?_; refine cY b7 ?_; refine cY E5 ?_; refine cY a9B ?_
   refine cD (F9 [Ky.cv k] rfl tt tt rfl c6 Tryz.sizeOf39 j3 rfl (r:=Ky.cv zK) rfl rfl (nb rfl) (by rfl) rfl ?_)
   refine a8 (a7 (a6 ?_))
   refine cY b7 ?_; refine cY c7 ?_
   refine a8 (d5 ?_)
   exact ⟨_,l4 rfl tt c6,⟨[1],rfl,rfl,.ret (.vec (k:=[c5.box k.cells].length) rfl),.inr ⟨_,rfl,.same rfl (U0 0 [k])⟩,tt⟩⟩
def b0h:List Ky→Nat→CV
 | [],_=>.list [] false none
 | _::l,q=>.vec q 0 (l.length+1)
def b4e:List Ky→c5
 | []=>.dead
 | x::l=>.vec 3 ((x::l).map Ky.cv)
theorem a7B {l:List Ky} (h:l≠[]) (q:Nat):b0h l q = .vec q 0 l.length:=by cases l; exact absurd rfl h; rfl
theorem a2O {l:List Ky} (h:l≠[]):b4e l = .vec 3 (l.map Ky.cv):=by cases l; exact absurd rfl h; rfl
theorem b7E (l:List Ky) (k:Ky):F7 l k≠[]:=by
 unfold F7
 split
 ·rename_i h
  intro e
  rw [e] at h
  cases h
 ·simp
theorem K2 (l:List Ky):∀ r∈l.map Ky.cv,∀ c∈r,p5 c:=fun r hr c hc=>(A4 (f:=Ky.cv) (fun _=>H6.all ⟨.val _,.val _,.val _,tt⟩) _) r hr c hc
theorem a8d {α:Type} {l:List α} {i:Nat} {x:α} (h:l[i]? = some x):l.set i x=l:=by
 apply List.ext_getElem?
 intro j
 rw [List.getElem?_set]
 split
 ·rename_i e; subst e
  rw [if_pos (List.getElem?_eq_some_iff.1 h).1,h]
 ·rfl
theorem b0g (l:List Ky) (k:Ky) (hl:l.length≤1000000) (σ:List c5) (q:Nat) (hq:σ[q]? = some (b4e l)):b8 CC 75 [b0h l q,.agg k.cells] σ fun r τ=>∃ g:Bool,r = .ret (.vec (if g=true then σ.length else q) 0 (F7 l k).length)∧τ=(if g=true then σ.set q .dead++[.vec 3 ((F7 l k).map Ky.cv)] else σ)∧(g=false→F7 l k=l):=by
 by_cases h0:l=[]
 ·subst h0
  have hq':σ[q]? = some .dead:=hq
  have hs:σ.set q .dead=σ:=a8d hq'
  have h:=a0D (α:=Unit) (res:=fun _=>.ret (.vec 0 0 1)) (res':=fun _ n=>.ret (.vec n 0 1)) (S:=fun _=>[.vec 3 ([k].map Ky.cv)]) (S':=fun _ _=>[.vec 3 ([k].map Ky.cv)]) (P:=fun _=>True) hCC (fun a h=>by
   simp at h; rcases h with rfl | rfl
   ·exact j9 [] false
   ·exact d6 ⟨.val _,.val _,.val _,tt⟩) (J5 hCC ((b3E k).mono fun r τ hh=>⟨_,_,hh,(),rfl,rfl,tt⟩)) (fun _ _=>rfl) (fun _ n i x hx=>by
   rcases i with _ | i
   ·injection hx with hx; subst hx; exact ⟨_,rfl,a36 (K2 [k])⟩
   ·cases hx) (fun _ n=>.ret (.vec m5)) σ
  exact h.mono fun r τ ⟨_,h1,h2,_⟩=>⟨true,by rw [h1]; rfl,by rw [h2,hs]; rfl,fun e=>by cases e⟩
 ·rw [a2O h0] at hq
  rw [a7B h0]
  have h:=a5n (α:=Bool) (g:=fun g=>g) (rows':=fun g=>if g=true then (F7 l k).map Ky.cv else l.map Ky.cv) (off:=fun _=>0) (len:=fun _=>(F7 l k).length) (P:=fun g=>g=false→F7 l k=l) hCC (K2 l) (args:=[.agg k.cells]) (fun a h=>by
   simp at h; subst h; exact d6 ⟨.val _,.val _,.val _,tt⟩) (fun g _=>by cases g <;> exact K2 _) ((b2n l k hl).mono fun r τ ⟨g,h1,h2⟩=>⟨g,by cases g <;> exact h1,h2⟩) hq
  refine h.mono fun r τ ⟨g,h1,h2,h3⟩=>⟨g,h1,?_,h3⟩
  cases g
  ·have e:σ.set q (.vec 3 (l.map Ky.cv))=σ:=a8d hq
   rw [h2]; exact e
  ·rw [h2]; rfl
theorem b7y (l:List Ky) (q:Nat):(b0h l q).fgt=b0h l q:=by cases l <;> rfl
theorem a9R (l:List Ky) (k:Ky) (hl:l.length≤1000000) (σ:List c5) (q:Nat) (hq:σ[q]? = some (b4e l)):b8 CC 75 [(b0h l q).fgt,.agg k.cells] σ fun r τ=>∃ g:Bool,r = .ret (.vec (if g=true then σ.length else q) 0 (F7 l k).length)∧τ=(if g=true then σ.set q .dead++[.vec 3 ((F7 l k).map Ky.cv)] else σ)∧(g=false→F7 l k=l):=by
 rw [b7y]; exact b0g l k hl σ q hq
def a33 (l:List Ky):List Ky:=l.foldl F7 []
theorem b3f {l:List Ky} {i:Nat} {y:Ky} (h:l[i]? = some y):(l.take (i+1)).foldl F7 []=F7 ((l.take i).foldl F7 []) y:=by
 rw [List.take_add_one,h,List.foldl_append]; rfl
theorem a9L (l:List Ky) (k:Ky):(F7 l k).length≤l.length+1:=by
 unfold F7
 split
 ·omega
 ·have:=b1G k l; simp; omega
theorem b4q {α:Type} {f:α→List CV} {σ:List c5} {n k s:Nat} {l:List α} (hk:n≤k) (hs:σ[k]? = some (.vec s (l.map f))) (hp:∀ r∈l.map f,∀ c∈r,p5 c):Cls n σ (.vec k 0 l.length) (.list (l.map f) true none) :=
 .vec hk hs m5 m5 (fun i r r' h1 h2=>by
  have h3:(l.map f)[i]? = some r:=by simpa [List.take_of_length_le] using h1
  rw [h3] at h2; injection h2 with h2; rw [h2]) (fun i j r r' c c' h1 h2 h3 h4=>by
  have h5:(l.map f)[i]? = some r:=by simpa [List.take_of_length_le] using h1
  rw [h5] at h2; injection h2 with h2; subst h2
  rw [h3] at h4; injection h4 with h4; subst h4
  exact .old (hp r (List.mem_of_getElem? h5) c (List.mem_of_getElem? h3)).old)
theorem b1b {α:Type} {l:List α} (h:l≠[]):gnn l.length=true:=by cases l; exact absurd rfl h; rfl
theorem b7v (l:List Ky):Cls 0 [b4e l] (b0h l 0) (.list (l.map Ky.cv) (gnn l.length) none):=by
 by_cases h:l=[]
 ·subst h; exact .old (C6 _ ([]:List Ky) _)
 ·rw [a7B h,a2O h,b1b h]
  exact b4q (Nat.zero_le _) rfl (K2 l)
set_option maxRecDepth 10000 in
theorem b45 (l:List Ky) (nn:Bool) (hl:l.length≤1000000):b8 CC 36 [(.list (l.map Ky.cv) nn none)] [] fun r σ'=>∃ extra c c',σ'=[]++extra∧r = .ret c∧Cls 0 σ' c c'∧c' = .list ((a33 l).map Ky.cv) (gnn (a33 l).length) none:=by
 refine (d8 Tryz.func36 rfl rfl ?_)
 refine a7 (a6 ?_)
 refine cY i7 ?_
 refine a8 (a7 (a6 ?_))
 refine cY i7 ?_
 refine a8 (a7 (a7 (a6 ?_)))
 refine cY b7 ?_; refine cY a4J ?_; refine cY z8 ?_
 refine a8 (d9 ?_)
 refine A2 hCC 0 rfl (α:=List Ky × Nat) (fun x=>[(3,b0h x.1 0),(6,(.list (l.map Ky.cv) nn none)),(7,(.val (.int .i64 ((l.length:Int))))),(8,(.val (.int .i64 ((x.2:Int)))))]) (fun x=>[b4e x.1]) (fun x=>x.2≤l.length∧x.1=(l.take x.2).foldl F7 []∧x.1.length≤x.2) (fun x=>l.length - x.2) ⟨([],0),[0],⟨Nat.zero_le _,rfl,Nat.le_refl _⟩,⟨rfl,rfl⟩,⟨⟨tt,q_2⟩,⟨tt,q_2⟩,⟨tt,q_2⟩,⟨tt,q_2⟩,tt⟩,⟨.inl rfl,tt⟩⟩ ?_; intro ⟨out,i⟩ ⟨hi,ho,hn⟩
 dsimp only at hi ho hn ⊢
 refine a7 (a6 ?_)
 refine cY p8 ?_
 refine a8 (a7 ?_)
 refine b9 tt rfl (fun h1=>?_) (fun h1=>?_)
 ·have hlt:i < l.length:=by simp at h1; omega
  obtain ⟨y,hb⟩:∃ y,l[i]? = some y:=⟨l[i]'hlt,by simp⟩
  refine c8 (a7 (d9 (a7 (a6 ?_))))
  refine cY (o9 rfl tt tt rfl rfl Tryz.runUnderlying36 Tryz.sizeOf39 c4 (l6 hb) rfl) ?_; refine cY a6x ?_
  refine cD (m9 rfl Tryz.zeroValue39 rfl j3 ?_)
  refine cD (j1 rfl tt tt rfl c6 Tryz.sizeOf39 j3 rfl rfl (nb rfl) ?_)
  refine a8 (a6 ?_)
  refine cY b7 ?_; refine cY E5 ?_
  refine cD (k8 rfl Tryz.call75 ⟨tt,tt,tt⟩ (a9R out y c4 _ 0 rfl) rfl ?_)
  intro g hg
  have hne:=b7E out y
  have hln:=a9L out y
  have hst:F7 out y=(l.take (i+1)).foldl F7 []:=by rw [b3f hb,← ho]
  refine cY c7 ?_
  refine a8 (a6 ?_)
  refine cY n9 ?_; refine cY b7 ?_; refine a8 ?_
  exact ⟨(F7 out y,i+1),[if g=true then 2 else 0],⟨by dsimp only; omega,by dsimp only; omega,hst,by dsimp only; omega⟩,⟨rfl,rfl⟩,⟨⟨tt,q_2⟩,⟨tt,q_2⟩,⟨tt,q_2⟩,⟨tt,q_2⟩,tt⟩,⟨.inr (by cases g; exact ⟨_,rfl,.same (by rw [hg rfl]) (by rw [a2O hne]; exact U0 _ _)⟩; exact ⟨_,rfl,.same (a2O hne).symm (by rw [a2O hne]; exact U0 _ _)⟩),tt⟩⟩
 ·have hge:l.length≤i:=by simp at h1; omega
  have hs:a33 l=out:=by rw [ho,List.take_of_length_le hge]; rfl
  refine m8 (a7 (a6 ?_))
  refine cY b7 ?_; refine cY c7 ?_
  refine a8 (d5 ?_)
  exact ⟨_,l4 rfl tt c6,⟨_,_,_,rfl,rfl,(by exact b7v out),by rw [hs]⟩⟩
theorem b5h (l:List Ky):(a33 l).length≤l.length:=by
 have h:∀ (l a:List Ky),(l.foldl F7 a).length≤a.length+l.length:=by
  intro l
  induction l with
  | nil=>intro a; simp
  | cons y l ih =>
   intro a
   have h1:=ih (F7 a y)
   have h2:=a9L a y
   simp only [List.foldl_cons,List.length_cons]
   omega
 have:=h l []
 unfold a33
 simpa using this
theorem b67 (l:List Ky) (nn:Bool) (hl:l.length≤1000000) (σ:List c5):b8 CC 36 [(.list (l.map Ky.cv) nn none)] σ fun r τ=>r = .ret (.list ((a33 l).map Ky.cv) (gnn (a33 l).length) none)∧τ=σ :=
 b8.anyw (args:=[.list (l.map Ky.cv) nn none]) hCC ⟨j9 _ _,tt⟩ (j9 _ _) ((a0C (b45 l nn hl)).mono fun r τ ⟨⟨c,h1,h2⟩,h3⟩=>⟨by rw [h1,h2],h3⟩) σ
def a65 (v n:Int):Int:=if n≤1 then 0 else v%n
theorem a4a {v n:Int} (hn:1≤n):0≤a65 v n∧a65 v n < n:=by
 unfold a65
 split
 ·omega
 ·exact ⟨Int.emod_nonneg _ c4,Int.emod_lt_of_pos _ c4⟩
def a5v (l:List Int) (at_:Nat):Int:=(l[at_]?).getD ((at_:Int)*7%11)
def B3 (l:List Int) (at_:Nat) (n:Int):Int:=a65 (a5v l at_) n
abbrev J9 (l:List Int) (nn:Bool) (at_:Nat):c5:=.box [.list (l.map icv) nn none,.val (.int .i64 at_)]
theorem a1P (l:List Int) (nn:Bool) (k:Nat):a3G (J9 l nn k):=H6.all ⟨d4 _ _,.val _,tt⟩
set_option maxRecDepth 10000 in
theorem b6k (v n:Int) (hn:n≤4611686018427387904):b8 CC 51 [(.val (.int .i64 (v))),(.val (.int .i64 (n)))] [] fun r σ'=>r = .ret (.val (.int .i64 (a65 v n)))∧σ'=[]:=by
 refine j4 (d8 Tryz.func51 rfl rfl ?_)
 refine a7 (a6 ?_)
 refine cY i7 ?_
 refine a8 (a7 (a7 (a6 ?_)))
 refine cY b7 ?_; refine cY k7 ?_; refine a8 ?_
 refine b9 tt rfl (fun h1=>?_) (fun h1=>?_)
 ·have hn1:n≤1:=by simpa using h1
  refine a7 (a6 ?_)
  refine cY i7 ?_
  refine a8 (d5 ?_)
  exact ⟨_,l4 rfl tt c6,_,_,rfl,rfl,r3 (by rw [a65,if_pos hn1])⟩
 ·have hn1:¬ n≤1:=by simpa using h1
  have ht:v.tmod n=v%n∨v.tmod n+n=v%n∧v.tmod n < 0:=by
   rcases Int.le_total 0 v with hv | hv
   ·exact .inl (Int.tmod_eq_emod_of_nonneg hv)
   ·rw [Int.tmod_eq_emod]; split
    ·exact .inl c4
    ·right; have:=Int.emod_lt_of_pos v (show 0 < n by omega); have h5:(n.natAbs:Int)=n:=by omega
     omega
  have hm1:=Int.emod_nonneg v (show n≠0 by omega)
  have hm2:=Int.emod_lt_of_pos v (show 0 < n by omega)
  have hm3:=Int.tmod_lt_of_pos v (show 0 < n by omega)
  have hm4 : -n≤v.tmod n:=by omega
  refine c8 (a7 (a6 ?_))
  refine cY b7 ?_; refine cY b7 ?_; refine cY (a1u rfl tt tt rfl rfl (b5G c4)) ?_; refine cY c7 ?_
  refine a8 (a7 (a7 (a6 ?_)))
  refine cY b7 ?_; refine cY k7 ?_; refine a8 ?_
  refine b9 tt rfl (fun h2=>?_) (fun h2=>?_)
  ·have hlt:v.tmod n < 0:=by simpa using h2
   refine a6 ?_; refine cY b7 ?_; refine cY b7 ?_; refine cY a2z ?_; refine cY c7 ?_
   refine a8 (a7 (a6 ?_))
   refine cY b7 ?_; refine cY c7 ?_
   refine a8 (d5 ?_)
   exact ⟨_,l4 rfl tt c6,_,_,rfl,rfl,r3 (by rw [a65,if_neg hn1]; omega)⟩
  ·have hlt:¬ v.tmod n < 0:=by simpa using h2
   refine c8 (a7 (a6 ?_))
   refine cY b7 ?_; refine cY c7 ?_
   refine a8 (d5 ?_)
   exact ⟨_,l4 rfl tt c6,_,_,rfl,rfl,r3 (by rw [a65,if_neg hn1]; omega)⟩
theorem a6Q (v n:Int) (hn:n≤4611686018427387904) (σ:List c5):b8 CC 51 [(.val (.int .i64 (v))),(.val (.int .i64 (n)))] σ fun r σ'=>r = .ret (.val (.int .i64 (a65 v n)))∧σ'=σ :=
 b8.anyw hCC (by repeat' (first|exact .val _|exact d4 _ _|exact c9 _ _|exact j9 _ _|exact tt | refine d6 ?_ | refine d7 ?_ | refine ⟨?_,?_⟩)) (by repeat' (first|exact .val _|exact d4 _ _|exact c9 _ _|exact j9 _ _|exact tt | refine d6 ?_ | refine d7 ?_ | refine ⟨?_,?_⟩)) (b6k v n hn) σ
set_option maxRecDepth 10000 in
theorem Z9 (l:List Int) (nn:Bool) (k:Nat) (σ:List c5) (q:Nat) (hk:σ[q]? = some (J9 l nn k)) (hat:k≤1000000000) (hl:l.length≤maxLen) (n:Int) (hn:n≤4611686018427387904):b8 CC 18 [.ptr q 0,.val (.int .i64 n)] σ fun r σ'=>∃ _:Unit,r = .ret (.val (.int .i64 (B3 l k n)))∧σ'=σ.set q (J9 l nn (k+1))∧True:=by
 have hl1:=hl
 unfold maxLen at hl1
 unfold J9 at hk
 have hq:q < σ.length:=(List.getElem?_eq_some_iff.1 hk).1
 refine (d8 Tryz.func18 rfl rfl ?_)
 refine a7 (a6 ?_)
 refine cY i7 ?_
 refine a8 (a7 (a6 ?_))
 refine cY b7 ?_; refine cY o7 ?_; refine cY a4Y ?_; refine cY a79 ?_; refine cY (b15 rfl tt rfl rfl rfl c4 c4) ?_; refine cY (a1u rfl tt rfl rfl rfl (b0E c4 c4)) ?_; refine cY c7 ?_
 refine a8 (a7 (a7 ?_))
 refine r5 10 [0,1,3,7,0,16,48,112,240,511] j6 j6 rfl ?_; refine hY b7 ?_; refine hY o7 ?_; refine hY a4Y ?_; refine hY a79 ?_; refine hY b7 ?_; refine hY o7 ?_; refine hY (l9 rfl tt rfl Tryz.runUnderlying29 rfl Tryz.sizeOf22 j5) ?_; refine hY (o5 rfl tt rfl Tryz.isAgg22 hk rfl) ?_; refine hY a7O ?_; refine hY p8 ?_
 refine u0 (a8 ?_)
 refine b9 tt rfl (fun h1=>?_) (fun h1=>?_)
 ·have hlt:(k:Int) < l.length:=by simpa using h1
  obtain ⟨v,hv⟩:∃ v,l[k]? = some v:=⟨l[k]'c4,by simp⟩
  refine r5 11 [0,1,3,7,0,16,48,112,255,511,1023] j6 j6 rfl ?_; refine hY b7 ?_; refine hY o7 ?_; refine hY (l9 rfl tt rfl Tryz.runUnderlying29 rfl Tryz.sizeOf22 j5) ?_; refine hY (o5 rfl tt rfl Tryz.isAgg22 hk rfl) ?_; refine hY b7 ?_; refine hY o7 ?_; refine hY a4Y ?_; refine hY a79 ?_; refine hY (o9 rfl tt tt rfl rfl Tryz.runUnderlying22 Tryz.sizeOf3 c4 (l6 hv) rfl) ?_; refine hY W4 ?_; refine hY c7 ?_
  refine u0 (a8 (a7 (a6 ?_)))
  refine cY b7 ?_; refine cY o7 ?_; refine cY a4Y ?_; refine cY a79 ?_; refine cY n9 ?_; refine cY o7 ?_; refine cY a4Y ?_
  refine cD (j1 rfl tt tt rfl c6 Tryz.sizeOf3 (.inl rfl) hk rfl (nb rfl) ?_)
  refine a8 (a7 (a6 ?_))
  refine cY b7 ?_; refine cY b7 ?_; refine cY (i8 rfl Tryz.call51 ⟨tt,tt,tt⟩ (a6Q v n hn _) rfl) ?_; refine cY c7 ?_
  refine a8 (d5 ?_)
  exact ⟨_,l4 rfl tt c6,⟨(),by rw [B3,a5v,hv]; rfl,rfl,tt⟩⟩
 ·have hge:¬ (k:Int) < l.length:=by simpa using h1
  have hv:l[k]? = none:=List.getElem?_eq_none c4
  refine c8 (a7 (a6 ?_))
  refine cY b7 ?_; refine cY o7 ?_; refine cY a4Y ?_; refine cY a79 ?_; refine cY n9 ?_; refine cY o7 ?_; refine cY a4Y ?_
  refine cD (j1 rfl tt tt rfl c6 Tryz.sizeOf3 (.inl rfl) hk rfl (nb rfl) ?_)
  refine a8 (a7 (a6 ?_))
  refine cY b7 ?_; refine cY b7 ?_; refine cY (i8 rfl Tryz.call51 ⟨tt,tt,tt⟩ (a6Q _ n hn _) rfl) ?_; refine cY c7 ?_
  refine a8 (d5 ?_)
  exact ⟨_,l4 rfl tt c6,⟨(),by rw [B3,a5v,hv]; rfl,rfl,tt⟩⟩
set_option maxRecDepth 10000 in
theorem b2V (l:List Int) (nn:Bool) (k:Nat) (σ:List c5) (q:Nat) (hk:σ[q]? = some (J9 l nn k)) (hat:k≤1000000000) (hl:l.length≤maxLen) (ls:List Int) (hls:ls≠[]) (hln:ls.length≤1000):b8 CC 43 [.ptr q 0,.list (ls.map icv) true none] σ fun r σ'=>∃ v:Int,r = .ret (.val (.int .i64 v))∧σ'=σ.set q (J9 l nn (k+1))∧v∈ls:=by
 have hpos:=List.length_pos_iff.2 hls
 have hb:=a4a (v:=a5v l k) (n:=(ls.length:Int)) c4
 obtain ⟨v,hv⟩:∃ v,ls[(B3 l k (ls.length:Int)).toNat]? = some v:=⟨ls[(B3 l k (ls.length:Int)).toNat]'(by unfold B3; omega),by simp⟩
 have hb':0≤B3 l k (ls.length:Int):=hb.1
 refine (d8 Tryz.func43 rfl rfl ?_)
 refine a7 (a6 ?_)
 refine cY i7 ?_
 refine a8 (a7 (a7 (a6 ?_)))
 refine cY b7 ?_; refine cY a7O ?_; refine cY k7 ?_; refine a8 ?_
 refine b9 tt rfl (fun h1=>?_) (fun h1=>?_)
 ·exfalso
  simp at h1
  exact hls h1
 ·skip
  refine c8 (a7 (a6 ?_))
  refine cY b7 ?_; refine cY b7 ?_; refine cY b7 ?_; refine cY a7O ?_
  refine cD (k8 rfl Tryz.call18 ⟨tt,tt,tt⟩ (Z9 l nn k σ q hk hat hl (ls.length:Int) c4) rfl ?_)
  intro _ _; refine cY (o9 rfl tt tt rfl rfl Tryz.runUnderlying22 Tryz.sizeOf3 c4 (l6 hv) rfl) ?_; refine cY W4 ?_; refine cY c7 ?_
  refine a8 (d5 ?_)
  exact ⟨_,l4 rfl tt c6,⟨v,rfl,rfl,List.mem_of_getElem? hv⟩⟩
set_option maxRecDepth 10000 in
theorem O3 (l:List Int) (nn:Bool) (k:Nat) (σ:List c5) (q:Nat) (hk:σ[q]? = some (J9 l nn k)) (hat:k≤1000000000) (hl:l.length≤maxLen) (ls:List Str) (hls:ls≠[]) (hln:ls.length≤1000):b8 CC 17 [.ptr q 0,.list (ls.map scv) true none] σ fun r σ'=>∃ v:Str,r = .ret (sv v)∧σ'=σ.set q (J9 l nn (k+1))∧v∈ls:=by
 have hpos:=List.length_pos_iff.2 hls
 have hb:=a4a (v:=a5v l k) (n:=(ls.length:Int)) c4
 obtain ⟨v,hv⟩:∃ v,ls[(B3 l k (ls.length:Int)).toNat]? = some v:=⟨ls[(B3 l k (ls.length:Int)).toNat]'(by unfold B3; omega),by simp⟩
 have hb':0≤B3 l k (ls.length:Int):=hb.1
 refine (d8 Tryz.func17 rfl rfl ?_)
 refine a7 (a6 ?_)
 refine cY i7 ?_
 refine a8 (a7 (a7 (a6 ?_)))
 refine cY b7 ?_; refine cY Y4 ?_; refine cY k7 ?_; refine a8 ?_
 refine b9 tt rfl (fun h1=>?_) (fun h1=>?_)
 ·exfalso
  simp at h1
  exact hls h1
 ·skip
  refine c8 (a7 (a6 ?_))
  refine cY b7 ?_; refine cY b7 ?_; refine cY b7 ?_; refine cY Y4 ?_
  refine cD (k8 rfl Tryz.call18 ⟨tt,tt,tt⟩ (Z9 l nn k σ q hk hat hl (ls.length:Int) c4) rfl ?_)
  intro _ _; refine cY (o9 rfl tt tt rfl rfl Tryz.runUnderlying26 Tryz.sizeOf9 c4 (l6 hv) rfl) ?_; refine cY R4 ?_; refine cY c7 ?_
  refine a8 (d5 ?_)
  exact ⟨_,l4 rfl tt c6,⟨v,rfl,rfl,List.mem_of_getElem? hv⟩⟩
def O6:List Str:=([[112],[113],[115]]:List Str)
set_option maxRecDepth 10000 in
theorem a9J  : b8 CC 23 [] [] fun r σ'=>r = .ret (.list (O6.map scv) true none)∧σ'=[]:=by
 refine j4 (d8 Tryz.func23 rfl rfl ?_)
 refine a7 (a6 ?_)
 refine cY i7 ?_
 refine a8 (a7 (a6 ?_))
 refine cY (y7 (O6.map scv) rfl ⟨rfl,rfl,rfl,tt⟩ Tryz.runUnderlying26 Tryz.sizeOf9 Tryz.zeroValue9 rfl rfl rfl rfl rfl rfl rfl rfl rfl) ?_; refine cY c7 ?_
 refine a8 (d5 ?_)
 exact ⟨_,l4 rfl tt c6,_,_,rfl,rfl,(.tok (fun r hr c hc=>(A4 (f:=scv) (fun _=>H6.all ⟨.val _,tt⟩) _) r hr c hc))⟩
theorem a5w  (σ:List c5):b8 CC 23 [] σ fun r σ'=>r = .ret (.list (O6.map scv) true none)∧σ'=σ :=
 b8.anyw hCC (by repeat' (first|exact .val _|exact d4 _ _|exact c9 _ _|exact j9 _ _|exact tt | refine d6 ?_ | refine d7 ?_ | refine ⟨?_,?_⟩)) (by repeat' (first|exact .val _|exact d4 _ _|exact c9 _ _|exact j9 _ _|exact tt | refine d6 ?_ | refine d7 ?_ | refine ⟨?_,?_⟩)) (a9J) σ
def L5:List Str:=([[102],[103],[104],[107]]:List Str)
set_option maxRecDepth 10000 in
theorem a7j  : b8 CC 24 [] [] fun r σ'=>r = .ret (.list (L5.map scv) true none)∧σ'=[]:=by
 refine j4 (d8 Tryz.func24 rfl rfl ?_)
 refine a7 (a6 ?_)
 refine cY i7 ?_
 refine a8 (a7 (a6 ?_))
 refine cY (y7 (L5.map scv) rfl ⟨rfl,rfl,rfl,rfl,tt⟩ Tryz.runUnderlying26 Tryz.sizeOf9 Tryz.zeroValue9 rfl rfl rfl rfl rfl rfl rfl rfl rfl) ?_; refine cY c7 ?_
 refine a8 (d5 ?_)
 exact ⟨_,l4 rfl tt c6,_,_,rfl,rfl,(.tok (fun r hr c hc=>(A4 (f:=scv) (fun _=>H6.all ⟨.val _,tt⟩) _) r hr c hc))⟩
theorem a40  (σ:List c5):b8 CC 24 [] σ fun r σ'=>r = .ret (.list (L5.map scv) true none)∧σ'=σ :=
 b8.anyw hCC (by repeat' (first|exact .val _|exact d4 _ _|exact c9 _ _|exact j9 _ _|exact tt | refine d6 ?_ | refine d7 ?_ | refine ⟨?_,?_⟩)) (by repeat' (first|exact .val _|exact d4 _ _|exact c9 _ _|exact j9 _ _|exact tt | refine d6 ?_ | refine d7 ?_ | refine ⟨?_,?_⟩)) (a7j) σ
def Z8:List Str:=([[116],[117],[118]]:List Str)
set_option maxRecDepth 10000 in
theorem b5O  : b8 CC 80 [] [] fun r σ'=>r = .ret (.list (Z8.map scv) true none)∧σ'=[]:=by
 refine j4 (d8 Tryz.func80 rfl rfl ?_)
 refine a7 (a6 ?_)
 refine cY i7 ?_
 refine a8 (a7 (a6 ?_))
 refine cY (y7 (Z8.map scv) rfl ⟨rfl,rfl,rfl,tt⟩ Tryz.runUnderlying26 Tryz.sizeOf9 Tryz.zeroValue9 rfl rfl rfl rfl rfl rfl rfl rfl rfl) ?_; refine cY c7 ?_
 refine a8 (d5 ?_)
 exact ⟨_,l4 rfl tt c6,_,_,rfl,rfl,(.tok (fun r hr c hc=>(A4 (f:=scv) (fun _=>H6.all ⟨.val _,tt⟩) _) r hr c hc))⟩
theorem b09  (σ:List c5):b8 CC 80 [] σ fun r σ'=>r = .ret (.list (Z8.map scv) true none)∧σ'=σ :=
 b8.anyw hCC (by repeat' (first|exact .val _|exact d4 _ _|exact c9 _ _|exact j9 _ _|exact tt | refine d6 ?_ | refine d7 ?_ | refine ⟨?_,?_⟩)) (by repeat' (first|exact .val _|exact d4 _ _|exact c9 _ _|exact j9 _ _|exact tt | refine d6 ?_ | refine d7 ?_ | refine ⟨?_,?_⟩)) (b5O) σ
def U3:List Str:=([[97,46,100,97,116],[100,47,98,46,100,97,116],[99],[97,46,115,114,99],[120,46,115,114,99]]:List Str)
set_option maxRecDepth 10000 in
theorem b4j  : b8 CC 81 [] [] fun r σ'=>r = .ret (.list (U3.map scv) true none)∧σ'=[]:=by
 refine j4 (d8 Tryz.func81 rfl rfl ?_)
 refine a7 (a6 ?_)
 refine cY i7 ?_
 refine a8 (a7 (a6 ?_))
 refine cY (y7 (U3.map scv) rfl ⟨rfl,rfl,rfl,rfl,rfl,tt⟩ Tryz.runUnderlying26 Tryz.sizeOf9 Tryz.zeroValue9 rfl rfl rfl rfl rfl rfl rfl rfl rfl) ?_; refine cY c7 ?_
 refine a8 (d5 ?_)
 exact ⟨_,l4 rfl tt c6,_,_,rfl,rfl,(.tok (fun r hr c hc=>(A4 (f:=scv) (fun _=>H6.all ⟨.val _,tt⟩) _) r hr c hc))⟩
theorem a4V  (σ:List c5):b8 CC 81 [] σ fun r σ'=>r = .ret (.list (U3.map scv) true none)∧σ'=σ :=
 b8.anyw hCC (by repeat' (first|exact .val _|exact d4 _ _|exact c9 _ _|exact j9 _ _|exact tt | refine d6 ?_ | refine d7 ?_ | refine ⟨?_,?_⟩)) (by repeat' (first|exact .val _|exact d4 _ _|exact c9 _ _|exact j9 _ _|exact tt | refine d6 ?_ | refine d7 ?_ | refine ⟨?_,?_⟩)) (b4j) σ
def I1:List Str:=([[110],[109]]:List Str)
set_option maxRecDepth 10000 in
theorem a7a  : b8 CC 82 [] [] fun r σ'=>r = .ret (.list (I1.map scv) true none)∧σ'=[]:=by
 refine j4 (d8 Tryz.func82 rfl rfl ?_)
 refine a7 (a6 ?_)
 refine cY i7 ?_
 refine a8 (a7 (a6 ?_))
 refine cY (y7 (I1.map scv) rfl ⟨rfl,rfl,tt⟩ Tryz.runUnderlying26 Tryz.sizeOf9 Tryz.zeroValue9 rfl rfl rfl rfl rfl rfl rfl rfl rfl) ?_; refine cY c7 ?_
 refine a8 (d5 ?_)
 exact ⟨_,l4 rfl tt c6,_,_,rfl,rfl,(.tok (fun r hr c hc=>(A4 (f:=scv) (fun _=>H6.all ⟨.val _,tt⟩) _) r hr c hc))⟩
theorem a1B  (σ:List c5):b8 CC 82 [] σ fun r σ'=>r = .ret (.list (I1.map scv) true none)∧σ'=σ :=
 b8.anyw hCC (by repeat' (first|exact .val _|exact d4 _ _|exact c9 _ _|exact j9 _ _|exact tt | refine d6 ?_ | refine d7 ?_ | refine ⟨?_,?_⟩)) (by repeat' (first|exact .val _|exact d4 _ _|exact c9 _ _|exact j9 _ _|exact tt | refine d6 ?_ | refine d7 ?_ | refine ⟨?_,?_⟩)) (a7a) σ
theorem L9 {v:Str} (h:v∈O6∨v∈L5∨v∈Z8∨v∈U3∨v∈I1):v.length≤8:=by
 rcases h with h | h | h | h | h <;> revert v <;> decide
def a7X (x:Ky):Prop:=x.a.length≤8∧x.b.length≤8
set_option maxRecDepth 10000 in
theorem b7m (l:List Int) (nn:Bool) (k:Nat) (hat:k≤900000000) (hl:l.length≤maxLen):b8 CC 42 [.ptr 0 0] [J9 l nn k] fun r σ'=>∃ (a:Ky × Nat) (rest:List c5) (c0:CV),σ'=J9 l nn a.2::rest∧r = .ret c0∧Cls 1 σ' c0 (.agg a.1.cells)∧a7X a.1∧(k≤a.2∧a.2≤k+3):=by
 have hb:=a4a (v:=a5v l k) (n:=7) c4
 have hb1:0≤B3 l k 7:=hb.1
 have hb2:B3 l k 7 < 7:=hb.2
 refine (d8 Tryz.func42 rfl rfl ?_)
 refine a7 (a6 ?_)
 refine cD (m9 rfl Tryz.zeroValue39 rfl j3 ?_)
 refine a8 (a7 (a6 ?_))
 refine cY b7 ?_
 refine cD (k8 rfl Tryz.call18 ⟨tt,rfl,tt⟩ (Z9 l nn k _ 0 rfl c4 hl 7 c4) rfl ?_)
 intro _ _; refine cY (b5s rfl rfl tt rfl rfl c4 c4) ?_; refine cY b7 ?_; refine cY (i8 rfl Tryz.call23 trivial (a5w _) rfl) ?_
 refine cD (k8 rfl Tryz.call17 ⟨tt,tt,tt⟩ (O3 l nn (k+1) _ 0 rfl c4 hl O6 j5 j5) rfl ?_)
 intro v hv; refine cY (v6 #[(0,1),(1,1),(2,1)] rfl ⟨tt,tt,tt⟩ Tryz.runUnderlying39 Tryz.zeroValue39 rfl ⟨_,rfl⟩ (fun w=>by kernel_rfl) rfl rfl) ?_
 refine cD (m9 rfl Tryz.zeroValue39 rfl j3 ?_)
 refine cD (j1 rfl tt tt rfl c6 Tryz.sizeOf39 j3 rfl rfl (nb rfl) ?_)
 refine a8 (a7 (a7 (a6 ?_)))
 refine cY a1x ?_; refine cY t7 ?_
 refine a8 (d9 (a7 (a6 ?_)))
 refine cY k7 ?_; refine cY c7 ?_; refine a8 ?_
 refine b9 tt rfl (fun h1=>?_) (fun h1=>?_)
 ·skip
  refine a6 ?_; refine cY b7 ?_; refine cY (i8 rfl Tryz.call24 trivial (a40 _) rfl) ?_
  refine cD (k8 rfl Tryz.call17 ⟨tt,tt,tt⟩ (O3 l nn (k+2) _ 0 rfl c4 hl L5 j5 j5) rfl ?_)
  intro u hu; refine cY A8 ?_
  refine cD (j1 rfl tt tt rfl c6 Tryz.sizeOf9 (.inl rfl) rfl rfl (nb rfl) ?_)
  refine a8 (a7 (a6 ?_))
  refine cY E5 ?_
  refine cD (j1 rfl tt tt rfl c6 Tryz.sizeOf39 j3 rfl rfl (nb rfl) ?_)
  refine a8 (d5 ?_)
  exact ⟨_,B8 rfl ⟨tt,_,_,_,rfl,rfl,.inr ⟨_,Tryz.isAgg39,Tryz.sizeOf39,nb rfl,rfl⟩⟩,⟨(⟨(1+B3 l k 7),v,u⟩,k+3),_,_,rfl,rfl,F8 rfl (by repeat' (first|exact .val _|exact d4 _ _|exact c9 _ _|exact j9 _ _|exact tt | refine d6 ?_ | refine d7 ?_ | refine ⟨?_,?_⟩)),⟨(L9 (.inl hv)),(L9 (.inr (.inl hu)))⟩,by dsimp only; omega⟩⟩
 ·skip
  refine a7 (a6 ?_)
  refine cY k7 ?_; refine cY c7 ?_; refine a8 ?_
  refine b9 tt rfl (fun h2=>?_) (fun h2=>?_)
  ·skip
   refine a6 ?_; refine cY b7 ?_; refine cY (i8 rfl Tryz.call80 trivial (b09 _) rfl) ?_
   refine cD (k8 rfl Tryz.call17 ⟨tt,tt,tt⟩ (O3 l nn (k+2) _ 0 rfl c4 hl Z8 j5 j5) rfl ?_)
   intro u hu; refine cY A8 ?_
   refine cD (j1 rfl tt tt rfl c6 Tryz.sizeOf9 (.inl rfl) rfl rfl (nb rfl) ?_)
   refine a8 (a7 (a6 ?_))
   refine cY E5 ?_
   refine cD (j1 rfl tt tt rfl c6 Tryz.sizeOf39 j3 rfl rfl (nb rfl) ?_)
   refine a8 (d5 ?_)
   exact ⟨_,B8 rfl ⟨tt,_,_,_,rfl,rfl,.inr ⟨_,Tryz.isAgg39,Tryz.sizeOf39,nb rfl,rfl⟩⟩,⟨(⟨(1+B3 l k 7),v,u⟩,k+3),_,_,rfl,rfl,F8 rfl (by repeat' (first|exact .val _|exact d4 _ _|exact c9 _ _|exact j9 _ _|exact tt | refine d6 ?_ | refine d7 ?_ | refine ⟨?_,?_⟩)),⟨(L9 (.inl hv)),(L9 (.inr (.inr (.inl hu))))⟩,by dsimp only; omega⟩⟩
  ·skip
   refine a7 (a7 (a6 ?_))
   refine cY k7 ?_; refine cY c7 ?_; refine a8 ?_
   refine b9 tt rfl (fun h3=>?_) (fun h3=>?_)
   ·skip
    refine c8 ?_
    refine b9 tt rfl (fun h4=>?_) (fun h4=>?_)
    ·skip
     refine a6 ?_; refine cY b7 ?_; refine cY (i8 rfl Tryz.call81 trivial (a4V _) rfl) ?_
     refine cD (k8 rfl Tryz.call17 ⟨tt,tt,tt⟩ (O3 l nn (k+2) _ 0 rfl c4 hl U3 j5 j5) rfl ?_)
     intro u hu; refine cY A8 ?_
     refine cD (j1 rfl tt tt rfl c6 Tryz.sizeOf9 (.inl rfl) rfl rfl (nb rfl) ?_)
     refine a8 (a7 (a6 ?_))
     refine cY E5 ?_
     refine cD (j1 rfl tt tt rfl c6 Tryz.sizeOf39 j3 rfl rfl (nb rfl) ?_)
     refine a8 (d5 ?_)
     exact ⟨_,B8 rfl ⟨tt,_,_,_,rfl,rfl,.inr ⟨_,Tryz.isAgg39,Tryz.sizeOf39,nb rfl,rfl⟩⟩,⟨(⟨(1+B3 l k 7),u,[]⟩,k+3),_,_,rfl,rfl,F8 rfl (by repeat' (first|exact .val _|exact d4 _ _|exact c9 _ _|exact j9 _ _|exact tt | refine d6 ?_ | refine d7 ?_ | refine ⟨?_,?_⟩)),⟨(L9 (.inr (.inr (.inr (.inl hu))))),a6b⟩,by dsimp only; omega⟩⟩
    ·skip
     refine a7 (a6 ?_)
     refine cY k7 ?_; refine cY c7 ?_; refine a8 ?_
     refine b9 tt rfl (fun h5=>?_) (fun h5=>?_)
     ·skip
      refine a6 ?_; refine cY b7 ?_; refine cY (i8 rfl Tryz.call82 trivial (a1B _) rfl) ?_
      refine cD (k8 rfl Tryz.call17 ⟨tt,tt,tt⟩ (O3 l nn (k+2) _ 0 rfl c4 hl I1 j5 j5) rfl ?_)
      intro u hu; refine cY A8 ?_
      refine cD (j1 rfl tt tt rfl c6 Tryz.sizeOf9 (.inl rfl) rfl rfl (nb rfl) ?_)
      refine a8 (a7 (a6 ?_))
      refine cY E5 ?_
      refine cD (j1 rfl tt tt rfl c6 Tryz.sizeOf39 j3 rfl rfl (nb rfl) ?_)
      refine a8 (d5 ?_)
      exact ⟨_,B8 rfl ⟨tt,_,_,_,rfl,rfl,.inr ⟨_,Tryz.isAgg39,Tryz.sizeOf39,nb rfl,rfl⟩⟩,⟨(⟨(1+B3 l k 7),u,[]⟩,k+3),_,_,rfl,rfl,F8 rfl (by repeat' (first|exact .val _|exact d4 _ _|exact c9 _ _|exact j9 _ _|exact tt | refine d6 ?_ | refine d7 ?_ | refine ⟨?_,?_⟩)),⟨(L9 (.inr (.inr (.inr (.inr hu))))),a6b⟩,by dsimp only; omega⟩⟩
     ·skip
      refine c8 (a7 (a6 ?_))
      refine cY E5 ?_
      refine cD (j1 rfl tt tt rfl c6 Tryz.sizeOf39 j3 rfl rfl (nb rfl) ?_)
      refine a8 (d5 ?_)
      exact ⟨_,B8 rfl ⟨tt,_,_,_,rfl,rfl,.inr ⟨_,Tryz.isAgg39,Tryz.sizeOf39,nb rfl,rfl⟩⟩,⟨(⟨(1+B3 l k 7),v,[]⟩,k+2),_,_,rfl,rfl,F8 rfl (by repeat' (first|exact .val _|exact d4 _ _|exact c9 _ _|exact j9 _ _|exact tt | refine d6 ?_ | refine d7 ?_ | refine ⟨?_,?_⟩)),⟨(L9 (.inl hv)),a6b⟩,by dsimp only; omega⟩⟩
   ·skip
    refine a6 ?_; refine cY k7 ?_; refine cY c7 ?_; refine a8 ?_
    refine b9 tt rfl (fun h6=>?_) (fun h6=>?_)
    ·skip
     refine a6 ?_; refine cY b7 ?_; refine cY (i8 rfl Tryz.call81 trivial (a4V _) rfl) ?_
     refine cD (k8 rfl Tryz.call17 ⟨tt,tt,tt⟩ (O3 l nn (k+2) _ 0 rfl c4 hl U3 j5 j5) rfl ?_)
     intro u hu; refine cY A8 ?_
     refine cD (j1 rfl tt tt rfl c6 Tryz.sizeOf9 (.inl rfl) rfl rfl (nb rfl) ?_)
     refine a8 (a7 (a6 ?_))
     refine cY E5 ?_
     refine cD (j1 rfl tt tt rfl c6 Tryz.sizeOf39 j3 rfl rfl (nb rfl) ?_)
     refine a8 (d5 ?_)
     exact ⟨_,B8 rfl ⟨tt,_,_,_,rfl,rfl,.inr ⟨_,Tryz.isAgg39,Tryz.sizeOf39,nb rfl,rfl⟩⟩,⟨(⟨(1+B3 l k 7),u,[]⟩,k+3),_,_,rfl,rfl,F8 rfl (by repeat' (first|exact .val _|exact d4 _ _|exact c9 _ _|exact j9 _ _|exact tt | refine d6 ?_ | refine d7 ?_ | refine ⟨?_,?_⟩)),⟨(L9 (.inr (.inr (.inr (.inl hu))))),a6b⟩,by dsimp only; omega⟩⟩
    ·skip
     refine a7 (a6 ?_)
     refine cY k7 ?_; refine cY c7 ?_; refine a8 ?_
     refine b9 tt rfl (fun h7=>?_) (fun h7=>?_)
     ·skip
      refine a6 ?_; refine cY b7 ?_; refine cY (i8 rfl Tryz.call82 trivial (a1B _) rfl) ?_
      refine cD (k8 rfl Tryz.call17 ⟨tt,tt,tt⟩ (O3 l nn (k+2) _ 0 rfl c4 hl I1 j5 j5) rfl ?_)
      intro u hu; refine cY A8 ?_
      refine cD (j1 rfl tt tt rfl c6 Tryz.sizeOf9 (.inl rfl) rfl rfl (nb rfl) ?_)
      refine a8 (a7 (a6 ?_))
      refine cY E5 ?_
      refine cD (j1 rfl tt tt rfl c6 Tryz.sizeOf39 j3 rfl rfl (nb rfl) ?_)
      refine a8 (d5 ?_)
      exact ⟨_,B8 rfl ⟨tt,_,_,_,rfl,rfl,.inr ⟨_,Tryz.isAgg39,Tryz.sizeOf39,nb rfl,rfl⟩⟩,⟨(⟨(1+B3 l k 7),u,[]⟩,k+3),_,_,rfl,rfl,F8 rfl (by repeat' (first|exact .val _|exact d4 _ _|exact c9 _ _|exact j9 _ _|exact tt | refine d6 ?_ | refine d7 ?_ | refine ⟨?_,?_⟩)),⟨(L9 (.inr (.inr (.inr (.inr hu))))),a6b⟩,by dsimp only; omega⟩⟩
     ·skip
      refine c8 (a7 (a6 ?_))
      refine cY E5 ?_
      refine cD (j1 rfl tt tt rfl c6 Tryz.sizeOf39 j3 rfl rfl (nb rfl) ?_)
      refine a8 (d5 ?_)
      exact ⟨_,B8 rfl ⟨tt,_,_,_,rfl,rfl,.inr ⟨_,Tryz.isAgg39,Tryz.sizeOf39,nb rfl,rfl⟩⟩,⟨(⟨(1+B3 l k 7),v,[]⟩,k+2),_,_,rfl,rfl,F8 rfl (by repeat' (first|exact .val _|exact d4 _ _|exact c9 _ _|exact j9 _ _|exact tt | refine d6 ?_ | refine d7 ?_ | refine ⟨?_,?_⟩)),⟨(L9 (.inl hv)),a6b⟩,by dsimp only; omega⟩⟩
theorem b78 (l:List Int) (nn:Bool) (k:Nat) (hat:k≤900000000) (hl:l.length≤maxLen) (σ:List c5) (q:Nat) (hk:σ[q]? = some (J9 l nn k)):b8 CC 42 [.ptr q 0] σ fun r σ'=>∃ a:Ky × Nat,r = .ret (.agg a.1.cells)∧σ'=σ.set q (J9 l nn a.2)∧(a7X a.1∧(k≤a.2∧a.2≤k+3)) :=
 a5z (ob:=J9 l nn k) (c:=fun a:Ky × Nat=>.agg a.1.cells) (S:=fun a=>J9 l nn a.2) hCC (fun _ h=>by cases h) (fun _=>(by repeat' (first|exact .val _|exact d4 _ _|exact c9 _ _|exact j9 _ _|exact tt | refine d6 ?_ | refine d7 ?_ | refine ⟨?_,?_⟩))) (fun _=>a1P _ _ _) (a1P _ _ _) rfl
  (a5L (c:=fun a:Ky × Nat=>.agg a.1.cells) (S:=fun a=>J9 l nn a.2) hCC (fun _=>a1P _ _ _) (b7m l nn k hat hl)) σ q hk
def a3i (l:List Ky):Prop:=∀ x∈l,a7X x
theorem a3i.snoc {l:List Ky} {x:Ky} (h:a3i l) (hx:a7X x):a3i (l++[x]):=fun y hy=>by
 rcases List.mem_append.1 hy with hy | hy
 ·exact h y hy
 ·rw [List.mem_singleton.1 hy]; exact hx
def sub (s:Str) (a e:Nat):Str:=(s.take e).drop a
theorem b18 {s:Str} {a e:Nat} (h:e≤s.length):(sub s a e).length=e - a:=by simp [sub]; omega
def a4H (p s:Str):Bool:=p.isPrefixOf s
def a9S (p s:Str):Bool:=decide (p.length≤s.length) && decide (s.drop (s.length - p.length)=p)
theorem b8q (s p:Str) {x y:Bool} (hx:x=decide ((s.length:Int)≥p.length)) (hy:x=true→y=decide ((s.take p.length).drop 0=p)):(x && y)=a4H p s:=by
 subst hx
 by_cases h:(s.length:Int)≥p.length
 ·rw [hy (decide_eq_true h),decide_eq_true h,Bool.true_and,List.drop_zero,a4H]
  by_cases h2:s.take p.length=p
  ·have:p.isPrefixOf s=true:=by rw [List.isPrefixOf_iff_prefix]; exact ⟨s.drop p.length,by rw [show p++s.drop p.length=s.take p.length++s.drop p.length by rw [h2]]; exact List.take_append_drop _ _⟩
   simp [h2,this]
  ·have:p.isPrefixOf s=false:=by
    cases hq:p.isPrefixOf s with
    | false=>rfl
    | true =>
     rw [List.isPrefixOf_iff_prefix] at hq
     obtain ⟨t,rfl⟩:=hq
     exact absurd (List.take_left' rfl) h2
   simp [h2,this]
 ·have:p.isPrefixOf s=false:=by
   cases hq:p.isPrefixOf s with
   | false=>rfl
   | true =>
    rw [List.isPrefixOf_iff_prefix] at hq
    obtain ⟨t,rfl⟩:=hq
    exfalso; apply h; simp; omega
  rw [a4H,this,decide_eq_false h]; rfl
theorem b8N (s p:Str) {x y:Bool} (hx:x=decide ((s.length:Int)≥p.length)) (hy:x=true→y=decide ((s.take s.length).drop (s.length - p.length)=p)):(x && y)=a9S p s:=by
 subst hx
 unfold a9S
 by_cases h:(s.length:Int)≥p.length
 ·rw [hy (decide_eq_true h),decide_eq_true h,List.take_length,decide_eq_true (show p.length≤s.length by omega)]
 ·rw [decide_eq_false h,decide_eq_false (show ¬ p.length≤s.length by omega)]; rfl
set_option maxRecDepth 10000 in
theorem a7o (s p:Str):b8 CC 261 [(sv (s)),(sv (p))] [] fun r σ'=>r = .ret (.val (.bool (a4H p s)))∧σ'=[]:=by
 refine j4 (d8 Tryz.func261 rfl rfl ?_)
 refine a7 (a6 ?_)
 refine cY i7 ?_
 refine a8 (a7 (a6 ?_))
 refine cY b7 ?_; refine cY E4 ?_; refine cY b7 ?_; refine cY E4 ?_; refine cY p8 ?_; refine cY b7 ?_; refine cG o6 ?_; refine cG o6 ?_; refine cG a2L ?_; refine cG (fun hg=>K1 (h:=p.length) rfl hg rfl Tryz.runUnderlying9 rfl ⟨hg,_,_,rfl,by first|omega|(simp at hg; omega),by first|omega|(simp at hg; omega)⟩ c4 (by simp at hg; omega)) ?_; refine cG o6 ?_; refine cG a3s ?_; refine cY p9 ?_; refine cY c7 ?_
 refine a8 (d5 ?_)
 exact ⟨_,l4 rfl tt c6,_,_,rfl,rfl,j8 (b8q s p rfl fun _=>rfl)⟩
theorem a4U (s p:Str) (σ:List c5):b8 CC 261 [(sv (s)),(sv (p))] σ fun r σ'=>r = .ret (.val (.bool (a4H p s)))∧σ'=σ :=
 b8.anyw hCC (by repeat' (first|exact .val _|exact d4 _ _|exact c9 _ _|exact j9 _ _|exact tt | refine d6 ?_ | refine d7 ?_ | refine ⟨?_,?_⟩)) (by repeat' (first|exact .val _|exact d4 _ _|exact c9 _ _|exact j9 _ _|exact tt | refine d6 ?_ | refine d7 ?_ | refine ⟨?_,?_⟩)) (a7o s p) σ
set_option maxRecDepth 10000 in
theorem a2Z (s p:Str):b8 CC 224 [(sv (s)),(sv (p))] [] fun r σ'=>r = .ret (.val (.bool (a4H p s)))∧σ'=[]:=by
 refine j4 (d8 Tryz.func224 rfl rfl ?_)
 refine a7 (a6 ?_)
 refine cY i7 ?_
 refine a8 (a7 (a6 ?_))
 refine cY b7 ?_; refine cY b7 ?_; refine cY (i8 rfl Tryz.call261 ⟨tt,tt,tt⟩ (a4U s p _) rfl) ?_; refine cY c7 ?_
 refine a8 (d5 ?_)
 exact ⟨_,l4 rfl tt c6,_,_,rfl,rfl,j8 rfl⟩
theorem a1S (s p:Str) (σ:List c5):b8 CC 224 [(sv (s)),(sv (p))] σ fun r σ'=>r = .ret (.val (.bool (a4H p s)))∧σ'=σ :=
 b8.anyw hCC (by repeat' (first|exact .val _|exact d4 _ _|exact c9 _ _|exact j9 _ _|exact tt | refine d6 ?_ | refine d7 ?_ | refine ⟨?_,?_⟩)) (by repeat' (first|exact .val _|exact d4 _ _|exact c9 _ _|exact j9 _ _|exact tt | refine d6 ?_ | refine d7 ?_ | refine ⟨?_,?_⟩)) (a2Z s p) σ
set_option maxRecDepth 10000 in
theorem a6Z (s p:Str) (hs:s.length≤1000000000000) (hp:p.length≤1000000000000):b8 CC 183 [(sv (s)),(sv (p))] [] fun r σ'=>r = .ret (.val (.bool (a9S p s)))∧σ'=[]:=by
 refine j4 (d8 Tryz.func183 rfl rfl ?_)
 refine a7 (a6 ?_)
 refine cY i7 ?_
 refine a8 (a7 (a6 ?_))
 refine cY b7 ?_; refine cY E4 ?_; refine cY b7 ?_; refine cY E4 ?_; refine cY p8 ?_; refine cY b7 ?_; refine cG o6 ?_; refine cG o6 ?_; refine cG a2L ?_; refine cG o6 ?_; refine cG a2L ?_; refine cG (fun hg=>a3K rfl hg hg rfl rfl a8F a8F) ?_; refine cG (fun hg=>K1 (a:=(s.length - p.length)) rfl hg rfl Tryz.runUnderlying9 ⟨hg,_,_,rfl,by first|omega|(simp at hg; omega),by first|omega|(simp at hg; omega)⟩ rfl (by simp at hg; omega) (Nat.le_refl _)) ?_; refine cG o6 ?_; refine cG a3s ?_; refine cY p9 ?_; refine cY c7 ?_
 refine a8 (d5 ?_)
 exact ⟨_,l4 rfl tt c6,_,_,rfl,rfl,j8 (b8N s p rfl fun _=>rfl)⟩
theorem a4n (s p:Str) (hs:s.length≤1000000000000) (hp:p.length≤1000000000000) (σ:List c5):b8 CC 183 [(sv (s)),(sv (p))] σ fun r σ'=>r = .ret (.val (.bool (a9S p s)))∧σ'=σ :=
 b8.anyw hCC (by repeat' (first|exact .val _|exact d4 _ _|exact c9 _ _|exact j9 _ _|exact tt | refine d6 ?_ | refine d7 ?_ | refine ⟨?_,?_⟩)) (by repeat' (first|exact .val _|exact d4 _ _|exact c9 _ _|exact j9 _ _|exact tt | refine d6 ?_ | refine d7 ?_ | refine ⟨?_,?_⟩)) (a6Z s p hs hp) σ
set_option maxRecDepth 10000 in
theorem a2I (s p:Str) (hs:s.length≤1000000000000) (hp:p.length≤1000000000000):b8 CC 141 [(sv (s)),(sv (p))] [] fun r σ'=>r = .ret (.val (.bool (a9S p s)))∧σ'=[]:=by
 refine j4 (d8 Tryz.func141 rfl rfl ?_)
 refine a7 (a6 ?_)
 refine cY i7 ?_
 refine a8 (a7 (a6 ?_))
 refine cY b7 ?_; refine cY b7 ?_; refine cY (i8 rfl Tryz.call183 ⟨tt,tt,tt⟩ (a4n s p hs hp _) rfl) ?_; refine cY c7 ?_
 refine a8 (d5 ?_)
 exact ⟨_,l4 rfl tt c6,_,_,rfl,rfl,j8 rfl⟩
theorem a1W (s p:Str) (hs:s.length≤1000000000000) (hp:p.length≤1000000000000) (σ:List c5):b8 CC 141 [(sv (s)),(sv (p))] σ fun r σ'=>r = .ret (.val (.bool (a9S p s)))∧σ'=σ :=
 b8.anyw hCC (by repeat' (first|exact .val _|exact d4 _ _|exact c9 _ _|exact j9 _ _|exact tt | refine d6 ?_ | refine d7 ?_ | refine ⟨?_,?_⟩)) (by repeat' (first|exact .val _|exact d4 _ _|exact c9 _ _|exact j9 _ _|exact tt | refine d6 ?_ | refine d7 ?_ | refine ⟨?_,?_⟩)) (a2I s p hs hp) σ
theorem a94 {s:Str} {e:Nat} (h:e < s.length):s[e]? = some (s[e]?.getD 0):=by simp [h]
theorem b1j {p s:Str} (h:a4H p s=true):p.length≤s.length:=by
 unfold a4H at h
 rw [List.isPrefixOf_iff_prefix] at h
 exact h.length_le
structure Tok where
 k:Int
 t:Str
 n:Int
 at_:Int
abbrev Tok.cells (x:Tok):List CV:=[.val (.int .i64 x.k),sv x.t,.val (.int .i64 x.n),.val (.int .i64 x.at_)]
def Tok.cv (x:Tok):List CV:=x.cells
theorem a1N (l:List Tok) (nn:Bool):p5 (.list (l.map Tok.cv) nn none):=I2 (f:=Tok.cv) (fun _=>⟨.val _,.val _,.val _,.val _,tt⟩) l nn
theorem H7 (n:Nat) (l:List Tok) (nn:Bool):Old n (.list (l.map Tok.cv) nn none):=(a1N l nn).old
def a32 (l:Str):Int:=l.foldl (fun n b=>min (10*n+((b.toNat:Int) - 48)) 9007199254740993) 0
def a2k:Str→Option Nat
 | []=>none
 | b::l=>if 32≤b.toNat∧b.toNat≤126 then (if b.toNat=34 then some 0 else (a2k l).map (· + 1)) else none
def G9 (s:Str) (a:Nat) (b:UInt8):Tok × Int × Int :=
 if p3 b.toNat=1 then
  (if 24 < r7 s a [1,2,3] - a then (⟨0,[],0,0⟩,0,2) else (⟨1,sub s a (r7 s a [1,2,3]),0,0⟩,r7 s a [1,2,3],0))
 else if p3 b.toNat=2 then
  (if 9007199254740992 < a32 (sub s a (r7 s a [2])) then (⟨0,[],0,0⟩,0,3) else (⟨2,[],a32 (sub s a (r7 s a [2])),0⟩,r7 s a [2],0))
 else if p3 b.toNat=7 then
  (match a2k (s.drop (a+1)) with
  | none=>(⟨0,[],0,0⟩,0,9)
  | some n=>(⟨3,sub s (a+1) (a+1+n),0,0⟩,a+1+n+1,0))
 else if p3 b.toNat=8 then
  (if a4H [61,61] (s.drop a)=true then (⟨4,sub s a (a+2),0,0⟩,a+2,0) else (⟨4,sub s a (a+1),0,0⟩,a+1,0))
 else (⟨0,[],0,0⟩,0,9)
theorem a6S {s:Str} {e:Nat} {b:UInt8} (h:s[e]? = some b):a2k (s.drop e)=if 32≤b.toNat∧b.toNat≤126 then (if b.toNat=34 then some 0 else (a2k (s.drop (e+1))).map (· + 1)) else none:=by
 obtain ⟨hlt,rfl⟩:=List.getElem?_eq_some_iff.1 h
 rw [List.drop_eq_getElem_cons hlt]; rfl
theorem b3t {s:Str} {e:Nat} (h:s.length≤e):a2k (s.drop e)=none:=by rw [List.drop_eq_nil_of_le h]; rfl
theorem b3h {l:Str} {j:Nat} {b:UInt8} (h:l[j]? = some b):a32 (l.take (j+1))=min (10*a32 (l.take j)+((b.toNat:Int) - 48)) 9007199254740993:=by
 obtain ⟨hlt,rfl⟩:=List.getElem?_eq_some_iff.1 h
 rw [← List.take_append_getElem hlt,a32,List.foldl_append]
 rfl
theorem a6J {l:Str} (h:∀ b∈l,48≤b.toNat∧b.toNat≤57):0≤a32 l∧a32 l≤9007199254740993:=by
 unfold a32
 suffices ∀ (l:Str) (n:Int),0≤n→n≤9007199254740993→(∀ b∈l,48≤b.toNat∧b.toNat≤57)→0≤l.foldl (fun n b=>min (10*n+((b.toNat:Int) - 48)) 9007199254740993) n∧l.foldl (fun n b=>min (10*n+((b.toNat:Int) - 48)) 9007199254740993) n≤9007199254740993 from this l 0 c4 c4 h
 intro l
 induction l with
 | nil=>intro n h0 h1 _; exact ⟨h0,h1⟩
 | cons b l ih =>
  intro n h0 h1 h
  have hb:=h b m5
  exact ih (min (10*n+((b.toNat:Int) - 48)) 9007199254740993) c4 c4 fun c hc=>h c (by simp [hc])
theorem b4F {b:UInt8}:p3 b.toNat=2↔48≤b.toNat∧b.toNat≤57:=by
 unfold p3
 constructor
 ·intro h
  split at h
  ·omega
  ·split at h
   ·omega
   ·exfalso; revert h; repeat' split
    all_goals omega
 ·intro h
  rw [if_neg c4,if_pos c4]
theorem b9i {c:Nat} (h:48≤c∧c≤57):IntKind.i64.wrap (IntKind.u8.wrap ((c:Int) - 48))=(c:Int) - 48:=by
 obtain ⟨h1,h2⟩:=h
 simp [IntKind.wrap,IntKind.bits,IntKind.signed]
 omega
theorem V9 {p:UInt8→Bool} {b:UInt8}:∀ {l:Str},b∈l.takeWhile p→p b=true
 | [],h=>by simp at h
 | c::l,h=>by
  rw [List.takeWhile_cons] at h
  split at h
  ·rename_i hc
   rcases List.mem_cons.1 h with rfl | h
   ·exact hc
   ·exact V9 h
  ·simp at h
theorem a6v {s:Str} {a:Nat}:∀ b∈sub s a (r7 s a [2]),48≤b.toNat∧b.toNat≤57:=by
 intro b hb
 have e:sub s a (r7 s a [2])=(s.drop a).takeWhile (inK [2]):=by
  unfold sub r7
  rw [List.drop_take,Nat.add_sub_cancel_left]
  have h:=List.takeWhile_prefix (inK [2]) (l:=s.drop a)
  exact (List.prefix_iff_eq_take.1 h).symm
 rw [e] at hb
 have:=V9 hb
 simp [inK] at this
 exact b4F.1 this
set_option maxRecDepth 10000 in
theorem b2h (s:Str) (a:Nat) (b:UInt8) (hb:s[a]? = some b) (m:List (Int × Int)) (hm:KM m) (hs:s.length≤1000000000000):b8 CC 185 [(sv (s)),(.val (.int .i64 ((a:Int)))),.map 0] [c5.map (gm kb kv m)] fun r τ=>∃ _:Unit,a1i [c5.map (gm kb kv m)].length τ r (.ret (.tup [.agg (G9 s a b).1.cells,(.val (.int .i64 ((G9 s a b).2.1))),(.val (.int .i64 ((G9 s a b).2.2)))]))∧a3U [c5.map (gm kb kv m)].length τ τ [c5.map (gm kb kv m)]∧[c5.map (gm kb kv m)].length≤[c5.map (gm kb kv m)].length∧True:=by
 have hal:=(List.getElem?_eq_some_iff.1 hb).1
 refine (d8 Tryz.func185 rfl rfl ?_)
 refine a7 (a6 ?_)
 refine cD (m9 rfl Tryz.zeroValue227 rfl j3 ?_)
 refine cY i7 ?_; refine cY i7 ?_
 refine a8 (a7 (a7 (a6 ?_)))
 refine cY b7 ?_; refine cY b7 ?_; refine cY b7 ?_; refine cY a9z ?_; refine cY b9D ?_
 refine a8 (d9 (a7 (a6 ?_)))
 refine cY k7 ?_; refine cY c7 ?_; refine a8 ?_
 refine b9 tt rfl (fun h1=>?_) (fun h1=>?_)
 ·have hk1:p3 b.toNat=1:=by rw [← hm]; simpa using h1
  have hsp:=a0j (ks:=[1,2,3]) (show a≤s.length by omega)
  refine a7 (a6 ?_)
  refine cY b7 ?_; refine cY b7 ?_; refine cY b7 ?_; refine cY (y7 ([1,2,3].map icv) rfl ⟨rfl,rfl,rfl,tt⟩ Tryz.runUnderlying22 Tryz.sizeOf3 Tryz.zeroValue3 rfl rfl rfl rfl rfl rfl rfl rfl rfl) ?_; refine cY (i8 rfl Tryz.call114 ⟨tt,tt,tt,tt,tt⟩ (a2y hm c4 hs j5 rfl) rfl) ?_; refine cY c7 ?_
  refine a8 (a7 (a7 (a6 ?_)))
  refine cY b7 ?_; refine cY b7 ?_; refine cY (a3K rfl tt tt rfl rfl c4 c4) ?_; refine cY k7 ?_; refine a8 ?_
  refine b9 tt rfl (fun h2=>?_) (fun h2=>?_)
  ·have hn:24 < r7 s a [1,2,3] - a:=by simp at h2; omega
   refine a7 (a6 ?_)
   refine cY b6z ?_
   refine cD (j1 rfl tt tt rfl c6 Tryz.sizeOf227 j3 rfl rfl (nb rfl) ?_)
   refine cY i7 ?_; refine cY i7 ?_
   refine a8 (d5 ?_)
   exact ⟨_,o4 (rs:=[.cell 6 227,.tmp 7,.tmp 8]) (cs:=[_,_,_]) rfl ⟨⟨tt,_,_,_,rfl,rfl,.inr ⟨_,Tryz.isAgg227,Tryz.sizeOf227,nb rfl,rfl⟩⟩,⟨tt,c6⟩,⟨tt,c6⟩,tt⟩ (Nat.ne_of_beq_eq_false rfl),⟨(),.ret (F8 (by rw [G9,if_pos hk1,if_pos hn]; rfl) (by repeat' (first|exact .val _|exact d4 _ _|exact c9 _ _|exact j9 _ _|exact tt | refine d6 ?_ | refine d7 ?_ | refine ⟨?_,?_⟩))),⟨.same (I3 _ _),tt⟩,Nat.le_refl _,tt⟩⟩
  ·have hn:¬ 24 < r7 s a [1,2,3] - a:=by simp at h2; omega
   refine c8 (a7 (a6 ?_))
   refine cY b7 ?_; refine cY b7 ?_; refine cY b7 ?_; refine cY (K1 (a:=a) (h:=(r7 s a [1,2,3])) rfl tt rfl Tryz.runUnderlying9 ⟨tt,_,_,rfl,by first|omega|(simp at hg; omega),by first|omega|(simp at hg; omega)⟩ ⟨tt,_,_,rfl,by first|omega|(simp at hg; omega),by first|omega|(simp at hg; omega)⟩ c4 c4) ?_; refine cY b2D ?_; refine cY b7 ?_
   refine cD (j1 rfl tt tt rfl c6 Tryz.sizeOf227 j3 rfl rfl (nb rfl) ?_)
   refine cY c7 ?_; refine cY i7 ?_
   refine a8 (d5 ?_)
   exact ⟨_,o4 (rs:=[.cell 6 227,.tmp 7,.tmp 8]) (cs:=[_,_,_]) rfl ⟨⟨tt,_,_,_,rfl,rfl,.inr ⟨_,Tryz.isAgg227,Tryz.sizeOf227,nb rfl,rfl⟩⟩,⟨tt,c6⟩,⟨tt,c6⟩,tt⟩ (Nat.ne_of_beq_eq_false rfl),⟨(),.ret (F8 (by rw [G9,if_pos hk1,if_neg hn]; rfl) (by repeat' (first|exact .val _|exact d4 _ _|exact c9 _ _|exact j9 _ _|exact tt | refine d6 ?_ | refine d7 ?_ | refine ⟨?_,?_⟩))),⟨.same (I3 _ _),tt⟩,Nat.le_refl _,tt⟩⟩
 ·have hk1:¬ p3 b.toNat=1:=by rw [← hm]; simpa using h1
  refine a7 (a6 ?_)
  refine cY k7 ?_; refine cY c7 ?_; refine a8 ?_
  refine b9 tt rfl (fun h3=>?_) (fun h3=>?_)
  ·have hk2:p3 b.toNat=2:=by rw [← hm]; simpa using h3
   have hsp:=a0j (ks:=[2]) (show a≤s.length by omega)
   have hdg:=a6v (s:=s) (a:=a)
   have hln:=b18 (a:=a) hsp.2
   generalize hl:sub s a (r7 s a [2])=ds at hdg hln
   refine a7 (a6 ?_)
   refine cY b7 ?_; refine cY b7 ?_; refine cY b7 ?_; refine cY (y7 ([2].map icv) rfl ⟨rfl,tt⟩ Tryz.runUnderlying22 Tryz.sizeOf3 Tryz.zeroValue3 rfl rfl rfl rfl rfl rfl rfl rfl rfl) ?_; refine cY (i8 rfl Tryz.call114 ⟨tt,tt,tt,tt,tt⟩ (a2y hm c4 hs j5 rfl) rfl) ?_; refine cY c7 ?_
   refine a8 (a7 (a6 ?_))
   refine cY i7 ?_
   refine a8 (a7 (a7 (a6 ?_)))
   refine cY b7 ?_; refine cY b7 ?_; refine cY b7 ?_; refine cY (K1 (a:=a) (h:=(r7 s a [2])) rfl tt rfl Tryz.runUnderlying9 ⟨tt,_,_,rfl,by first|omega|(simp at hg; omega),by first|omega|(simp at hg; omega)⟩ ⟨tt,_,_,rfl,by first|omega|(simp at hg; omega),by first|omega|(simp at hg; omega)⟩ c4 c4) ?_; refine cY (b7R rfl tt rfl Tryz.runUnderlying9 Tryz.runUnderlying139 Tryz.runUnderlying5 (by have:=b18 (a:=a) hsp.2; unfold sub at this; omega)) ?_; refine cY b05 ?_; refine cY z8 ?_
   refine a8 (d9 ?_)
   refine r6 hCC (α:=Nat) (fun j=>[(6,.ptr 1 0),(10,(.val (.int .i64 ((r7 s a [2]:Int))))),(11,(.val (.int .i64 (a32 (ds.take j))))),(50,(.list (ds.map bcv) true none)),(51,(.val (.int .i64 ((ds.length:Int))))),(52,(.val (.int .i64 ((j:Int)))))]) (fun _=>[c5.map (gm kb kv m),.box (Tok.cells ⟨0,[],0,0⟩)]) (fun j=>j≤ds.length) (fun j=>ds.length - j) 0 (Nat.zero_le _) ⟨⟨tt,rfl⟩,⟨tt,rfl⟩,⟨tt,rfl⟩,⟨tt,(by rw [← hl]; rfl)⟩,⟨tt,(by rw [← hl]; rfl)⟩,⟨tt,rfl⟩,tt⟩ (extra0:=[]) rfl y9 (fun a ha=>by repeat' (first|exact tt|exact .val _|exact .ptr (nb rfl)|exact .map (nb rfl)|exact b3p | refine l2 ?_ | refine ⟨?_,?_⟩)) ?_; intro j hj
   refine a7 (a6 ?_)
   refine cY p8 ?_
   refine a8 (a7 ?_)
   refine b9 tt rfl (fun h4=>?_) (fun h4=>?_)
   ·have hjl:(j:Int) < ds.length:=by simpa using h4
    obtain ⟨c,hc⟩:∃ c,ds[j]? = some c:=⟨ds[j]'c4,by simp⟩
    have hcd:=hdg c (List.mem_of_getElem? hc)
    have hnb:=a6J (l:=ds.take j) fun c hc=>hdg c (List.mem_of_mem_take hc)
    refine c8 (a7 (d9 (a7 (a6 ?_))))
    refine cY (o9 rfl tt tt rfl rfl Tryz.runUnderlying139 Tryz.sizeOf5 c4 (l6 hc) rfl) ?_; refine cY (K7 rfl tt rfl Tryz.isAgg5 rfl) ?_; refine cY c7 ?_
    refine a8 (a6 ?_)
    refine cY b7 ?_; refine cY (b15 rfl rfl tt rfl rfl c4 c4) ?_; refine cY b7 ?_; refine cY k7 ?_; refine cY (a7T rfl tt rfl Tryz.runUnderlying5 Tryz.runUnderlying3 (show IntKind.i64.wrap (IntKind.u8.wrap ((c.toNat:Int) - 48))=(c.toNat:Int) - 48 from b9i hcd)) ?_; refine cY a2z ?_; refine cY (b7Z rfl tt rfl rfl rfl) ?_; refine cY c7 ?_
    refine a8 (a6 ?_)
    refine cY n9 ?_; refine cY b7 ?_; refine a8 ?_
    exact ⟨(j+1),_,⟨by omega,by omega⟩,⟨⟨tt,rfl⟩,⟨tt,rfl⟩,⟨tt,(congrArg (fun z:Int=>CV.val (.int .i64 z)) (b3h hc).symm)⟩,⟨tt,rfl⟩,⟨tt,rfl⟩,⟨tt,rfl⟩,tt⟩,rfl⟩
   ·have hjl:ds.length≤j:=by
     have:¬ (j:Int) < ds.length:=by simpa using h4
     omega
    rw [List.take_of_length_le hjl] at *
    refine m8 (a7 (a7 (a6 ?_)))
    refine cY b7 ?_; refine cY k7 ?_; refine a8 ?_
    refine b9 tt rfl (fun h5=>?_) (fun h5=>?_)
    ·have hn:9007199254740992 < a32 (sub s a (r7 s a [2])):=by rw [hl]; simpa using h5
     refine a7 (a6 ?_)
     refine cY b6z ?_
     refine cD (j1 rfl tt tt rfl c6 Tryz.sizeOf227 j3 rfl rfl (nb rfl) ?_)
     refine cY i7 ?_; refine cY i7 ?_
     refine a8 (d5 ?_)
     exact ⟨_,o4 (rs:=[.cell 6 227,.tmp 7,.tmp 8]) (cs:=[_,_,_]) rfl ⟨⟨tt,_,_,_,rfl,rfl,.inr ⟨_,Tryz.isAgg227,Tryz.sizeOf227,nb rfl,rfl⟩⟩,⟨tt,c6⟩,⟨tt,c6⟩,tt⟩ (Nat.ne_of_beq_eq_false rfl),⟨(),.ret (F8 (by rw [G9,if_neg hk1,if_pos hk2,if_pos hn]; rfl) (by repeat' (first|exact .val _|exact d4 _ _|exact c9 _ _|exact j9 _ _|exact tt | refine d6 ?_ | refine d7 ?_ | refine ⟨?_,?_⟩))),⟨.same (I3 _ _),tt⟩,Nat.le_refl _,tt⟩⟩
    ·have hn:¬ 9007199254740992 < a32 (sub s a (r7 s a [2])):=by rw [hl]; simpa using h5
     refine c8 (a7 (a6 ?_))
     refine cY b7 ?_; refine cY b2D ?_; refine cY b7 ?_
     refine cD (j1 rfl tt tt rfl c6 Tryz.sizeOf227 j3 rfl rfl (nb rfl) ?_)
     refine cY c7 ?_; refine cY i7 ?_
     refine a8 (d5 ?_)
     exact ⟨_,o4 (rs:=[.cell 6 227,.tmp 7,.tmp 8]) (cs:=[_,_,_]) rfl ⟨⟨tt,_,_,_,rfl,rfl,.inr ⟨_,Tryz.isAgg227,Tryz.sizeOf227,nb rfl,rfl⟩⟩,⟨tt,c6⟩,⟨tt,c6⟩,tt⟩ (Nat.ne_of_beq_eq_false rfl),⟨(),.ret (F8 (by rw [G9,if_neg hk1,if_pos hk2,if_neg hn,hl]; rfl) (by repeat' (first|exact .val _|exact d4 _ _|exact c9 _ _|exact j9 _ _|exact tt | refine d6 ?_ | refine d7 ?_ | refine ⟨?_,?_⟩))),⟨.same (I3 _ _),tt⟩,Nat.le_refl _,tt⟩⟩
  ·have hk2:¬ p3 b.toNat=2:=by rw [← hm]; simpa using h3
   refine a7 (a6 ?_)
   refine cY k7 ?_; refine cY c7 ?_; refine a8 ?_
   refine b9 tt rfl (fun h6=>?_) (fun h6=>?_)
   ·have hk7:p3 b.toNat=7:=by rw [← hm]; simpa using h6
    refine a7 (a7 (a6 ?_))
    refine cY b7 ?_; refine cY n9 ?_; refine cY c7 ?_
    refine a8 (d9 ?_)
    refine r6 hCC (α:=Nat) (fun e=>[(0,(sv (s))),(1,(.val (.int .i64 ((a:Int))))),(6,.ptr 1 0),(14,(.val (.int .i64 ((e:Int)))))]) (fun _=>[c5.map (gm kb kv m),.box (Tok.cells ⟨0,[],0,0⟩)]) (fun e=>a+1≤e∧e≤s.length∧a2k (s.drop (a+1))=(a2k (s.drop e)).map (· + (e - (a+1)))) (fun e=>s.length - e) (a+1) ⟨Nat.le_refl _,by omega,by cases a2k (s.drop (a+1)) <;> simp⟩ ⟨⟨tt,rfl⟩,⟨tt,rfl⟩,⟨tt,rfl⟩,⟨tt,rfl⟩,tt⟩ (extra0:=[]) rfl y9 (fun a ha=>by repeat' (first|exact tt|exact .val _|exact .ptr (nb rfl)|exact .map (nb rfl)|exact b3p | refine l2 ?_ | refine ⟨?_,?_⟩)) ?_; intro e ⟨he1,he2,he⟩
    refine a7 (a7 (a6 ?_))
    refine cY b7 ?_; refine cY b7 ?_; refine cY E4 ?_; refine cY p8 ?_; refine cY b7 ?_; refine cG o6 ?_; refine cG o6 ?_; refine cG b9d ?_; refine cG A6 ?_; refine cY p9 ?_; refine cY b7 ?_; refine cG o6 ?_; refine cG o6 ?_; refine cG b9d ?_; refine cG A6 ?_; refine cY p9 ?_; refine a8 ?_
    refine b9 tt rfl (fun h7=>?_) (fun h7=>?_)
    ·have hel:e < s.length∧32≤(s[e]?.getD 0).toNat∧(s[e]?.getD 0).toNat≤126:=by simp at h7; omega
     obtain ⟨c,hc,hcd⟩:∃ c,s[e]? = some c∧s[e]?.getD 0=c:=⟨s[e]?.getD 0,a94 hel.1,rfl⟩
     rw [hcd] at hel
     rw [a6S hc,if_pos hel.2] at he
     refine c8 (a7 (d9 (a7 (a6 ?_))))
     refine cY b7 ?_; refine cY b7 ?_; refine cY (U9 rfl tt tt rfl rfl Tryz.runUnderlying9 c4 hc) ?_; refine cY k7 ?_; refine a8 ?_
     refine b9 tt rfl (fun h8=>?_) (fun h8=>?_)
     ·have h34:c.toNat=34:=by simp at h8; omega
      rw [if_pos h34] at he
      obtain ⟨n,rfl⟩:∃ n,e=a+1+n:=⟨e - (a+1),by omega⟩
      have he':a2k (s.drop (a+1))=some n:=by rw [he]; simp
      refine a7 (a6 ?_)
      refine cY b7 ?_; refine cY b7 ?_; refine cY n9 ?_; refine cY b7 ?_; refine cY (K1 (a:=(a+1)) (h:=(a+1+n)) rfl tt rfl Tryz.runUnderlying9 ⟨tt,_,_,rfl,by first|omega|(simp at hg; omega),by first|omega|(simp at hg; omega)⟩ ⟨tt,_,_,rfl,by first|omega|(simp at hg; omega),by first|omega|(simp at hg; omega)⟩ c4 c4) ?_; refine cY b2D ?_; refine cY b7 ?_; refine cY n9 ?_
      refine cD (j1 rfl tt tt rfl c6 Tryz.sizeOf227 j3 rfl rfl (nb rfl) ?_)
      refine cY c7 ?_; refine cY i7 ?_
      refine a8 (d5 ?_)
      exact ⟨_,o4 (rs:=[.cell 6 227,.tmp 7,.tmp 8]) (cs:=[_,_,_]) rfl ⟨⟨tt,_,_,_,rfl,rfl,.inr ⟨_,Tryz.isAgg227,Tryz.sizeOf227,nb rfl,rfl⟩⟩,⟨tt,c6⟩,⟨tt,c6⟩,tt⟩ (Nat.ne_of_beq_eq_false rfl),⟨(),.ret (F8 (by rw [G9,if_neg hk1,if_neg hk2,if_pos hk7,he']; rfl) (by repeat' (first|exact .val _|exact d4 _ _|exact c9 _ _|exact j9 _ _|exact tt | refine d6 ?_ | refine d7 ?_ | refine ⟨?_,?_⟩))),⟨.same (I3 _ _),tt⟩,Nat.le_refl _,tt⟩⟩
     ·have h34:¬ c.toNat=34:=by simp at h8; omega
      rw [if_neg h34] at he
      refine c8 (a6 ?_)
      refine cY b7 ?_; refine cY n9 ?_; refine cY c7 ?_; refine a8 ?_
      exact ⟨(e+1),_,⟨by omega,by omega,by omega,by rw [he]; cases a2k (s.drop (e+1)) <;> simp; omega⟩,⟨⟨tt,rfl⟩,⟨tt,rfl⟩,⟨tt,rfl⟩,⟨tt,rfl⟩,tt⟩,rfl⟩
    ·have hno:a2k (s.drop e)=none:=by
      rcases Nat.lt_or_ge e s.length with h | h
      ·rw [a6S (a94 h),if_neg]
       intro hh
       simp at h7
       omega
      ·exact b3t h
     rw [hno] at he
     refine m8 (a7 (a6 ?_))
     refine cY b6z ?_
     refine cD (j1 rfl tt tt rfl c6 Tryz.sizeOf227 j3 rfl rfl (nb rfl) ?_)
     refine cY i7 ?_; refine cY i7 ?_
     refine a8 (d5 ?_)
     exact ⟨_,o4 (rs:=[.cell 6 227,.tmp 7,.tmp 8]) (cs:=[_,_,_]) rfl ⟨⟨tt,_,_,_,rfl,rfl,.inr ⟨_,Tryz.isAgg227,Tryz.sizeOf227,nb rfl,rfl⟩⟩,⟨tt,c6⟩,⟨tt,c6⟩,tt⟩ (Nat.ne_of_beq_eq_false rfl),⟨(),.ret (F8 (by rw [G9,if_neg hk1,if_neg hk2,if_pos hk7,he]; rfl) (by repeat' (first|exact .val _|exact d4 _ _|exact c9 _ _|exact j9 _ _|exact tt | refine d6 ?_ | refine d7 ?_ | refine ⟨?_,?_⟩))),⟨.same (I3 _ _),tt⟩,Nat.le_refl _,tt⟩⟩
   ·have hk7:¬ p3 b.toNat=7:=by rw [← hm]; simpa using h6
    refine a7 (a6 ?_)
    refine cY k7 ?_; refine cY c7 ?_; refine a8 ?_
    refine b9 tt rfl (fun h9=>?_) (fun h9=>?_)
    ·have hk8:p3 b.toNat=8:=by rw [← hm]; simpa using h9
     refine a7 (a6 ?_)
     refine cY b7 ?_; refine cY n9 ?_; refine cY c7 ?_
     refine a8 (a7 (a7 (a6 ?_)))
     refine cY b7 ?_; refine cY b7 ?_; refine cY (K1 (a:=a) rfl tt rfl Tryz.runUnderlying9 ⟨tt,_,_,rfl,by first|omega|(simp at hg; omega),by first|omega|(simp at hg; omega)⟩ rfl c4 (Nat.le_refl _)) ?_; refine cY (i8 rfl Tryz.call224 ⟨tt,rfl,tt⟩ (a1S ((s.take s.length).drop a) [61,61] _) rfl) ?_; refine a8 ?_
     refine b9 tt rfl (fun h10=>?_) (fun h10=>?_)
     ·rw [List.take_length] at h10
      have hp2:=b1j h10
      rw [List.length_drop] at hp2
      have hp2:2≤s.length - a:=hp2
      refine a6 ?_; refine cY b7 ?_; refine cY n9 ?_; refine cY c7 ?_
      refine a8 (a7 (a6 ?_))
      refine cY b7 ?_; refine cY b7 ?_; refine cY b7 ?_; refine cY (K1 (a:=a) (h:=(a+2)) rfl tt rfl Tryz.runUnderlying9 ⟨tt,_,_,rfl,by first|omega|(simp at hg; omega),by first|omega|(simp at hg; omega)⟩ ⟨tt,_,_,rfl,by first|omega|(simp at hg; omega),by first|omega|(simp at hg; omega)⟩ c4 c4) ?_; refine cY b2D ?_; refine cY b7 ?_
      refine cD (j1 rfl tt tt rfl c6 Tryz.sizeOf227 j3 rfl rfl (nb rfl) ?_)
      refine cY c7 ?_; refine cY i7 ?_
      refine a8 (d5 ?_)
      exact ⟨_,o4 (rs:=[.cell 6 227,.tmp 7,.tmp 8]) (cs:=[_,_,_]) rfl ⟨⟨tt,_,_,_,rfl,rfl,.inr ⟨_,Tryz.isAgg227,Tryz.sizeOf227,nb rfl,rfl⟩⟩,⟨tt,c6⟩,⟨tt,c6⟩,tt⟩ (Nat.ne_of_beq_eq_false rfl),⟨(),.ret (F8 (by rw [G9,if_neg hk1,if_neg hk2,if_neg hk7,if_pos hk8,if_pos h10]; rfl) (by repeat' (first|exact .val _|exact d4 _ _|exact c9 _ _|exact j9 _ _|exact tt | refine d6 ?_ | refine d7 ?_ | refine ⟨?_,?_⟩))),⟨.same (I3 _ _),tt⟩,Nat.le_refl _,tt⟩⟩
     ·rw [List.take_length] at h10
      have hp0:¬ a4H [61,61] (s.drop a)=true:=by rw [h10]; decide
      refine c8 (a7 (a6 ?_))
      refine cY b7 ?_; refine cY b7 ?_; refine cY b7 ?_; refine cY (K1 (a:=a) (h:=(a+1)) rfl tt rfl Tryz.runUnderlying9 ⟨tt,_,_,rfl,by first|omega|(simp at hg; omega),by first|omega|(simp at hg; omega)⟩ ⟨tt,_,_,rfl,by first|omega|(simp at hg; omega),by first|omega|(simp at hg; omega)⟩ c4 c4) ?_; refine cY b2D ?_; refine cY b7 ?_
      refine cD (j1 rfl tt tt rfl c6 Tryz.sizeOf227 j3 rfl rfl (nb rfl) ?_)
      refine cY c7 ?_; refine cY i7 ?_
      refine a8 (d5 ?_)
      exact ⟨_,o4 (rs:=[.cell 6 227,.tmp 7,.tmp 8]) (cs:=[_,_,_]) rfl ⟨⟨tt,_,_,_,rfl,rfl,.inr ⟨_,Tryz.isAgg227,Tryz.sizeOf227,nb rfl,rfl⟩⟩,⟨tt,c6⟩,⟨tt,c6⟩,tt⟩ (Nat.ne_of_beq_eq_false rfl),⟨(),.ret (F8 (by rw [G9,if_neg hk1,if_neg hk2,if_neg hk7,if_pos hk8,if_neg hp0]; rfl) (by repeat' (first|exact .val _|exact d4 _ _|exact c9 _ _|exact j9 _ _|exact tt | refine d6 ?_ | refine d7 ?_ | refine ⟨?_,?_⟩))),⟨.same (I3 _ _),tt⟩,Nat.le_refl _,tt⟩⟩
    ·have hk8:¬ p3 b.toNat=8:=by rw [← hm]; simpa using h9
     refine c8 (a7 (a6 ?_))
     refine cY b6z ?_
     refine cD (j1 rfl tt tt rfl c6 Tryz.sizeOf227 j3 rfl rfl (nb rfl) ?_)
     refine cY i7 ?_; refine cY i7 ?_
     refine a8 (d5 ?_)
     exact ⟨_,o4 (rs:=[.cell 6 227,.tmp 7,.tmp 8]) (cs:=[_,_,_]) rfl ⟨⟨tt,_,_,_,rfl,rfl,.inr ⟨_,Tryz.isAgg227,Tryz.sizeOf227,nb rfl,rfl⟩⟩,⟨tt,c6⟩,⟨tt,c6⟩,tt⟩ (Nat.ne_of_beq_eq_false rfl),⟨(),.ret (F8 (by rw [G9,if_neg hk1,if_neg hk2,if_neg hk7,if_neg hk8]; rfl) (by repeat' (first|exact .val _|exact d4 _ _|exact c9 _ _|exact j9 _ _|exact tt | refine d6 ?_ | refine d7 ?_ | refine ⟨?_,?_⟩))),⟨.same (I3 _ _),tt⟩,Nat.le_refl _,tt⟩⟩
theorem b5U {s:Str} {a:Nat} {b:UInt8} (hb:s[a]? = some b) {m:List (Int × Int)} (hm:KM m) (hs:s.length≤1000000000000) {σ:List c5} {q:Nat} (hq:σ[q]? = some (.map (gm kb kv m))):b8 CC 185 [(sv s),(.val (.int .i64 (a:Int))),.map q] σ fun r τ=>r = .ret (.tup [.agg (G9 s a b).1.cells,(.val (.int .i64 ((G9 s a b).2.1))),(.val (.int .i64 ((G9 s a b).2.2)))])∧τ=σ :=
 a4N hCC (b46 m) (by repeat' (first|exact .val _|exact d4 _ _|exact c9 _ _|exact j9 _ _|exact a1N _ _|exact tt | refine d6 ?_ | refine d7 ?_ | refine ⟨?_,?_⟩)) hq (.cons (.val _) (.cons (.val _) (.cons (.map rfl) .nil))) (b2h s a b hb m hm hs)
def T1 (s:Str) (a:Nat):Nat:=a+((s.drop a).takeWhile (· != 10)).length
theorem b17:∀ (l:Str),(Go.Lib.indexByte l 10 < 0→(l.takeWhile (· != 10)).length=l.length)∧(0≤Go.Lib.indexByte l 10→Go.Lib.indexByte l 10=((l.takeWhile (· != 10)).length:Nat))
 | []=>⟨fun _=>rfl,fun h=>by rw [Go.Lib.indexByte] at h; omega⟩
 | b::l=>by
  have ih:=b17 l
  rw [Go.Lib.indexByte,List.takeWhile_cons]
  by_cases hb:b=10
  ·subst hb
   exact ⟨fun h=>by simp at h,fun h=>by simp⟩
  ·have h1:(b != 10)=true:=by simpa using hb
   have h2:(b == 10)=false:=by simpa using hb
   rw [h1,h2]
   have hg:=Go.Lib.indexByte_ge l 10
   simp only [if_true,if_false,List.length_cons,Bool.false_eq_true]
   by_cases h3:Go.Lib.indexByte l 10 = -1
   ·rw [h3]
    have:=ih.1 c4
    exact ⟨fun _=>by simp; omega,fun h=>by simp at h⟩
   ·rw [if_neg (by simpa using h3)]
    have:=ih.2 c4
    exact ⟨fun h=>by omega,fun _=>by omega⟩
theorem b40 {s:Str} {a:Nat} (h:a≤s.length):T1 s a≤s.length:=by
 unfold T1
 have:=(List.takeWhile_sublist (· != 10) (l:=s.drop a)).length_le
 rw [List.length_drop] at this
 omega
theorem b3V {s:Str} {a:Nat} {b:UInt8} (h:s[a]? = some b) (hb:p3 b.toNat=6):a < T1 s a:=by
 obtain ⟨hlt,rfl⟩:=List.getElem?_eq_some_iff.1 h
 unfold T1
 rw [List.drop_eq_getElem_cons hlt,List.takeWhile_cons]
 have:(s[a] != 10)=true:=by
  cases hq:(s[a] != 10) with
  | true=>rfl
  | false =>
   have:s[a]=10:=by simpa using hq
   rw [this] at hb
   revert hb; decide
 rw [this]
 simp
def a0t:Nat→Str→Nat→Option (List Tok)
 | 0,_,_=>none
 | f+1,s,i=>match s[r7 s i [5]]? with
  | none=>some [⟨5,[],0,(r7 s i [5]:Nat)⟩]
  | some b=>if p3 b.toNat=6 then a0t f s (T1 s (r7 s i [5]))
   else if (G9 s (r7 s i [5]) b).2.2≠0 then none
   else (a0t f s (G9 s (r7 s i [5]) b).2.1.toNat).map (({ (G9 s (r7 s i [5]) b).1 with at_:=(r7 s i [5]:Nat)}:Tok)::·)
def a3m (s:Str):Option (List Tok):=if 16384 < s.length then none else a0t (s.length+1) s 0
theorem b4p {f i i1:Nat} {s:Str} (h:i1=r7 s i [5]) (h2:s.length≤i1):a0t (f+1) s i=some [⟨5,[],0,(i1:Nat)⟩]:=by
 subst h
 rw [a0t,List.getElem?_eq_none h2]
theorem b4I {f i i1:Nat} {s:Str} {b:UInt8} (h:i1=r7 s i [5]) (h2:s[i1]? = some b) (h3:p3 b.toNat=6):a0t (f+1) s i=a0t f s (T1 s i1):=by
 subst h
 rw [a0t,h2]
 simp only
 rw [if_pos h3]
theorem b6d {f i i1:Nat} {s:Str} {b:UInt8} (h:i1=r7 s i [5]) (h2:s[i1]? = some b) (h3:¬ p3 b.toNat=6) (h4:(G9 s i1 b).2.2≠0):a0t (f+1) s i=none:=by
 subst h
 rw [a0t,h2]
 simp only
 rw [if_neg h3,if_pos h4]
theorem b5X {f i i1:Nat} {s:Str} {b:UInt8} (h:i1=r7 s i [5]) (h2:s[i1]? = some b) (h3:¬ p3 b.toNat=6) (h4:¬ (G9 s i1 b).2.2≠0):a0t (f+1) s i=(a0t f s (G9 s i1 b).2.1.toNat).map (({ (G9 s i1 b).1 with at_:=(i1:Nat)}:Tok)::·):=by
 subst h
 rw [a0t,h2]
 simp only
 rw [if_neg h3,if_neg h4]
theorem b1C:∀ {l:Str} {n:Nat},a2k l=some n→n < l.length
 | [],n,h=>by cases h
 | b::l,n,h=>by
  rw [a2k] at h
  split at h
  ·split at h
   ·injection h with h; subst h; simp
   ·cases hq:a2k l with
    | none=>rw [hq] at h; cases h
    | some k=>rw [hq] at h; injection h with h; subst h; have:=b1C hq; simp; omega
  ·cases h
theorem a8J {s:Str} {a:Nat} {b:UInt8} {ks:List Int} (h:s[a]? = some b) (hk:inK ks b=true):a < r7 s a ks:=by
 rw [a4s h,if_pos hk]
 have:=(a0j (s:=s) (a:=a+1) (ks:=ks) (List.getElem?_eq_some_iff.1 h).1).1
 omega
theorem b2R {s:Str} {a:Nat} {b:UInt8} (h:s[a]? = some b) (h4:¬ (G9 s a b).2.2≠0):∃ e:Nat,(G9 s a b).2.1=e∧a < e∧e≤s.length:=by
 have hlt:=(List.getElem?_eq_some_iff.1 h).1
 unfold G9 at h4 ⊢
 split at h4
 ·rename_i hk
  rw [if_pos hk]
  split at h4
  ·simp at h4
  ·rename_i hn
   rw [if_neg hn]
   exact ⟨_,rfl,a8J h (by simp [inK,hk]),(a0j c4).2⟩
 ·rename_i hk
  rw [if_neg hk]
  split at h4
  ·rename_i hk2
   rw [if_pos hk2]
   split at h4
   ·simp at h4
   ·rename_i hn
    rw [if_neg hn]
    exact ⟨_,rfl,a8J h (by simp [inK,hk2]),(a0j c4).2⟩
  ·rename_i hk2
   rw [if_neg hk2]
   split at h4
   ·rename_i hk7
    rw [if_pos hk7]
    cases hq:a2k (s.drop (a+1)) with
    | none=>rw [hq] at h4; simp at h4
    | some n =>
     have:=b1C hq
     rw [List.length_drop] at this
     exact ⟨a+1+n+1,rfl,by omega,by omega⟩
   ·rename_i hk7
    rw [if_neg hk7]
    split at h4
    ·rename_i hk8
     rw [if_pos hk8]
     split
     ·rename_i hp
      have:=b1j hp
      rw [List.length_drop] at this
      have:2≤s.length - a:=this
      exact ⟨a+2,rfl,by omega,by omega⟩
     ·exact ⟨a+1,rfl,by omega,by omega⟩
    ·simp at h4
abbrev b6w:=List Tok × Bool × Int × Int
def b9J (s:Str) (x:b6w):Prop:=(a3m s=some x.1∧x.2.1=true∧x.2.2.1=0∧x.2.2.2=0)∨(a3m s=none∧x.1=[]∧x.2.1=false∧x.2.2.2≠0)
abbrev b8S (x:b6w):CV:=.tup [.list (x.1.map Tok.cv) x.2.1 none,.val (.int .i64 x.2.2.1),.val (.int .i64 x.2.2.2)]
set_option maxRecDepth 10000 in
theorem b0C (s:Str) (hs:s.length≤1000000000000):b8 CC 142 [(sv (s))] [] fun r τ=>∃ x:b6w,a1i 0 τ r (.ret (b8S x))∧b9J s x:=by
 refine (d8 Tryz.func142 rfl rfl ?_)
 refine a7 (a6 ?_)
 refine cY i7 ?_; refine cY i7 ?_; refine cY i7 ?_; refine a8 ?_
 refine b4o 0 (fun _ _ _=>False) rfl ?_ (fun _ _ _ h=>h.elim)
 refine a7 (a7 (a6 ?_))
 refine cY b7 ?_; refine cY E4 ?_; refine cY k7 ?_; refine a8 ?_
 refine b9 tt rfl (fun h1=>?_) (fun h1=>?_)
 ·have hl:16384 < s.length:=by simp at h1; omega
  refine a7 (a6 ?_)
  refine cY i7 ?_; refine cY i7 ?_; refine cY i7 ?_
  refine a8 (d5 ?_)
  exact ⟨_,o4 (rs:=[.tmp 2,.tmp 3,.tmp 4]) (cs:=[_,_,_]) rfl ⟨⟨tt,c6⟩,⟨tt,c6⟩,⟨tt,c6⟩,tt⟩ (Nat.ne_of_beq_eq_false rfl),⟨([],false,0,2),by exact .ret (.tups ⟨.old (H7 _ [] false),.old (.val _),.old (.val _),tt⟩),.inr ⟨by rw [a3m,if_pos hl],rfl,rfl,by decide⟩⟩⟩
 ·have hl:¬ 16384 < s.length:=by simp at h1; omega
  refine c8 (a7 (a6 ?_))
  refine cD (k8 rfl Tryz.call113 trivial (a5c _) rfl ?_)
  intro m hm; refine cY c7 ?_
  refine a8 (a7 (a6 ?_))
  refine cY i7 ?_
  refine a8 (a7 ?_)
  refine b4N ?_; refine d9 ?_; refine A2 hCC 1 rfl (α:=List Tok × Nat) (fun x=>[(0,(sv (s))),(2,(.list (x.1.map Tok.cv) (gnn x.1.length) (P6 x.1.length 1))),(5,.map 0),(6,(.val (.int .i64 ((x.2:Int)))))]) (fun x=>[.map (gm kb kv m),r9 x.1.length]) (fun x=>x.2≤s.length∧x.1.length≤x.2∧∃ f,s.length - x.2 < f∧a3m s=(a0t f s x.2).map (x.1++·)) (fun x=>s.length - x.2) ⟨([],0),[0,7],⟨Nat.zero_le _,Nat.le_refl _,s.length+1,by simp,by rw [a3m,if_neg hl]; simp⟩,⟨rfl,rfl⟩,⟨⟨tt,q_1⟩,⟨tt,q_1⟩,⟨tt,q_1⟩,⟨tt,q_1⟩,tt⟩,(by repeat' (first|exact tt|exact .inl rfl|exact .inr ⟨_,rfl,.same rfl s7⟩|exact .inr ⟨_,rfl,.same (gobj_snoc _ _ _) s7⟩|exact .inr ⟨_,rfl,.same rfl (by repeat' (first|exact tt|exact .val _|exact .ptr (nb rfl)|exact .map (nb rfl)|exact b6F | refine l2 ?_ | refine ⟨?_,?_⟩))⟩|exact .inr ⟨_,rfl,.box (by repeat' (first|exact tt|exact .same rfl b7c|exact .ptr rfl|exact .map rfl|exact .vec rfl|exact z7.grow (f:=Tok.cv) (fun _=>⟨.val _,.val _,.val _,.val _,tt⟩) rfl | refine ⟨?_,?_⟩))⟩ | refine ⟨?_,?_⟩))⟩ ?_; intro ⟨acc,i⟩ ⟨hi,ha,f,hf,hlx⟩
  dsimp only at hi ha hf hlx ⊢
  obtain ⟨f,rfl⟩:∃ f',f=f'+1:=⟨f - 1,by omega⟩
  obtain ⟨i1,hi1⟩:∃ i1,i1=r7 s i [5]:=⟨_,rfl⟩
  have hsp:=a0j (ks:=[5]) hi
  rw [← hi1] at hsp
  refine d9 (a7 (a6 ?_))
  refine cY b7 ?_; refine cY b7 ?_; refine cY b7 ?_; refine cY (y7 ([5].map icv) rfl ⟨rfl,tt⟩ Tryz.runUnderlying22 Tryz.sizeOf3 Tryz.zeroValue3 rfl rfl rfl rfl rfl rfl rfl rfl rfl) ?_; refine cY (i8 rfl Tryz.call114 ⟨tt,tt,tt,tt,tt⟩ ((by have:=a2y (ks:=[5]) (nn:=true) hm hi c4 j5 (σ:=[.map (gm kb kv m),r9 acc.length]) (q:=0) rfl; rw [← hi1] at this; exact this)) rfl) ?_; refine cY c7 ?_
  refine a8 (a7 (d9 (a7 (a6 ?_))))
  refine cY b7 ?_; refine cY b7 ?_; refine cY E4 ?_; refine cY p8 ?_; refine cY c7 ?_; refine a8 ?_
  refine b9 tt rfl (fun h2=>?_) (fun h2=>?_)
  ·have hend:i1=s.length:=by simp at h2; omega
   rw [b4p hi1 c4] at hlx
   refine a7 (a6 ?_)
   refine cY b7 ?_; refine cY b7 ?_; refine cY b2D ?_; refine cY (y7 [Tok.cv ⟨5,[],0,(i1:Nat)⟩] rfl ⟨tt,tt⟩ Tryz.runUnderlying180 Tryz.sizeOf227 Tryz.zeroValue227 rfl rfl rfl rfl rfl rfl rfl rfl rfl) ?_
   refine cD (L3 rfl tt tt rfl m5 q_4 Tryz.runUnderlying180 Tryz.sizeOf227 Tryz.typeInfo227 Tryz.zeroValue227 rfl (.inr rfl) a1Y (by have hb:Tryz.t227.bytes=40:=rfl; rw [hb]; first|omega|(simp; done)|(simp; omega)) L1 ((acc++[(⟨5,[],0,(i1:Nat)⟩:Tok)]).map Tok.cv) (acc++[(⟨5,[],0,(i1:Nat)⟩:Tok)]).length m5 m5 ?_)
   refine cY c7 ?_; refine cY i7 ?_; refine cY i7 ?_
   refine a8 (d5 ?_)
   exact ⟨_,o4 (rs:=[.tmp 2,.tmp 3,.tmp 4]) (cs:=[_,_,_]) rfl ⟨⟨tt,c6⟩,⟨tt,c6⟩,⟨tt,c6⟩,tt⟩ (Nat.ne_of_beq_eq_false rfl),⟨(acc++[(⟨5,[],0,(i1:Nat)⟩:Tok)],gnn (acc++[(⟨5,[],0,(i1:Nat)⟩:Tok)]).length,0,0),by exact .ret (.tups ⟨.tok (fun r hr c hc=>(A4 (f:=Tok.cv) (fun _=>H6.all ⟨.val _,.val _,.val _,.val _,tt⟩) _) r hr c hc),.old (.val _),.old (.val _),tt⟩),.inl ⟨hlx,by rw [List.length_append]; rfl,rfl,rfl⟩⟩⟩
  ·have hend:i1 < s.length:=by
    have:¬ (i1:Int)=s.length:=by simpa using h2
    omega
   obtain ⟨b,hb⟩:∃ b,s[i1]? = some b:=⟨s[i1]'c4,by simp⟩
   refine a7 (a6 ?_)
   refine cY b7 ?_; refine cY b7 ?_; refine cY b7 ?_; refine cY a9z ?_; refine cY b9D ?_; refine cY k7 ?_; refine cY c7 ?_; refine a8 ?_
   refine b9 tt rfl (fun h3=>?_) (fun h3=>?_)
   ·have hk:p3 b.toNat=6:=by rw [← hm]; simpa using h3
    rw [b4I hi1 hb hk] at hlx
    have hl1:=b3V hb hk
    have hl2:=b40 (s:=s) (a:=i1) c4
    have hib:=b17 ((s.take s.length).drop i1)
    have hdl:((s.take s.length).drop i1).length=s.length - i1:=by simp
    have hle:T1 s i1=i1+(((s.take s.length).drop i1).takeWhile (· != 10)).length:=by rw [T1,List.take_length]
    have hig:=Go.Lib.indexByte_ge ((s.take s.length).drop i1) 10
    refine a7 (a6 ?_)
    refine cY b7 ?_; refine cY b7 ?_; refine cY (K1 (a:=i1) rfl tt rfl Tryz.runUnderlying9 ⟨tt,_,_,rfl,by first|omega|(simp at hg; omega),by first|omega|(simp at hg; omega)⟩ rfl c4 (Nat.le_refl _)) ?_; refine cY (i8 rfl Tryz.call184 ⟨tt,rfl,tt⟩ (a1T ((s.take s.length).drop i1) 10 _) rfl) ?_; refine cY c7 ?_
    refine a8 (a7 (a7 (a6 ?_)))
    refine cY b7 ?_; refine cY k7 ?_; refine a8 ?_
    refine b9 tt rfl (fun h4=>?_) (fun h4=>?_)
    ·have hneg:Go.Lib.indexByte ((s.take s.length).drop i1) 10 < 0:=by simpa using h4
     have:=hib.1 hneg
     have hle2:T1 s i1=s.length:=by omega
     refine a6 ?_; refine cY b7 ?_; refine cY E4 ?_; refine cY b7 ?_; refine cY (a3K rfl tt tt rfl rfl c4 c4) ?_; refine cY c7 ?_
     refine a8 (a7 (a6 ?_))
     refine cY b7 ?_; refine cY b7 ?_; refine cY a2z ?_; refine cY c7 ?_
     refine a8 (m8 ?_)
     exact ⟨(acc,T1 s i1),[0,1],⟨by omega,by omega,by show acc.length≤T1 s i1; omega,f,by show s.length - T1 s i1 < f; omega,hlx⟩,⟨rfl,rfl⟩,⟨⟨tt,q_1⟩,⟨tt,q_1⟩,⟨tt,q_1⟩,⟨tt,q_0⟩,tt⟩,(by repeat' (first|exact tt|exact .inl rfl|exact .inr ⟨_,rfl,.same rfl s7⟩|exact .inr ⟨_,rfl,.same (gobj_snoc _ _ _) s7⟩|exact .inr ⟨_,rfl,.same rfl (by repeat' (first|exact tt|exact .val _|exact .ptr (nb rfl)|exact .map (nb rfl)|exact b6F | refine l2 ?_ | refine ⟨?_,?_⟩))⟩|exact .inr ⟨_,rfl,.box (by repeat' (first|exact tt|exact .same rfl b7c|exact .ptr rfl|exact .map rfl|exact .vec rfl|exact z7.grow (f:=Tok.cv) (fun _=>⟨.val _,.val _,.val _,.val _,tt⟩) rfl | refine ⟨?_,?_⟩))⟩ | refine ⟨?_,?_⟩))⟩
    ·have hneg:¬ Go.Lib.indexByte ((s.take s.length).drop i1) 10 < 0:=by simpa using h4
     have:=hib.2 c4
     rw [this]
     refine c8 (a7 (a6 ?_))
     refine cY b7 ?_; refine cY b7 ?_; refine cY a2z ?_; refine cY c7 ?_
     refine a8 (m8 ?_)
     exact ⟨(acc,T1 s i1),[0,1],⟨by omega,by omega,by show acc.length≤T1 s i1; omega,f,by show s.length - T1 s i1 < f; omega,hlx⟩,⟨rfl,rfl⟩,⟨⟨tt,q_1⟩,⟨tt,q_1⟩,⟨tt,q_1⟩,⟨tt,q_0⟩,tt⟩,(by repeat' (first|exact tt|exact .inl rfl|exact .inr ⟨_,rfl,.same rfl s7⟩|exact .inr ⟨_,rfl,.same (gobj_snoc _ _ _) s7⟩|exact .inr ⟨_,rfl,.same rfl (by repeat' (first|exact tt|exact .val _|exact .ptr (nb rfl)|exact .map (nb rfl)|exact b6F | refine l2 ?_ | refine ⟨?_,?_⟩))⟩|exact .inr ⟨_,rfl,.box (by repeat' (first|exact tt|exact .same rfl b7c|exact .ptr rfl|exact .map rfl|exact .vec rfl|exact z7.grow (f:=Tok.cv) (fun _=>⟨.val _,.val _,.val _,.val _,tt⟩) rfl | refine ⟨?_,?_⟩))⟩ | refine ⟨?_,?_⟩))⟩
   ·have hk:¬ p3 b.toNat=6:=by rw [← hm]; simpa using h3
    refine c8 (a7 (a6 ?_))
    refine cY b7 ?_; refine cY b7 ?_; refine cY b7 ?_; refine cY (i8 rfl Tryz.call185 ⟨tt,tt,tt,tt⟩ (b5U hb hm c4 rfl) rfl) ?_; refine cY b7 ?_; refine cY A0 ?_; refine cY A0 ?_; refine cY A0 ?_
    refine cD (m9 rfl Tryz.zeroValue227 rfl j3 ?_)
    refine cD (j1 rfl tt tt rfl c6 Tryz.sizeOf227 j3 rfl rfl (nb rfl) ?_)
    refine cY c7 ?_; refine cY c7 ?_
    refine a8 (a7 (a7 (a6 ?_)))
    refine cY b7 ?_; refine cY k7 ?_; refine a8 ?_
    refine b9 tt rfl (fun h5=>?_) (fun h5=>?_)
    ·have he:(G9 s i1 b).2.2≠0:=by simpa using h5
     rw [b6d hi1 hb hk he] at hlx
     refine a7 (a6 ?_)
     refine cY b7 ?_; refine cY b7 ?_; refine cY i7 ?_; refine cY c7 ?_; refine cY c7 ?_
     refine a8 (d5 ?_)
     exact ⟨_,o4 (rs:=[.tmp 2,.tmp 3,.tmp 4]) (cs:=[_,_,_]) rfl ⟨⟨tt,c6⟩,⟨tt,c6⟩,⟨tt,c6⟩,tt⟩ (Nat.ne_of_beq_eq_false rfl),⟨([],false,i1,(G9 s i1 b).2.2),by exact .ret (.tups ⟨.old (H7 _ [] false),.old (.val _),.old (.val _),tt⟩),.inr ⟨hlx,rfl,rfl,he⟩⟩⟩
    ·have he:¬ (G9 s i1 b).2.2≠0:=by simpa using h5
     rw [b5X hi1 hb hk he] at hlx
     obtain ⟨e,he1,he2,he3⟩:=b2R hb he
     rw [he1] at hlx ⊢
     refine c8 (a7 (a6 ?_))
     refine cY b7 ?_; refine cY a02 ?_
     refine cD (j1 rfl tt tt rfl c6 Tryz.sizeOf3 (.inl rfl) rfl rfl (nb rfl) ?_)
     refine a8 (a6 ?_)
     refine cY b7 ?_; refine cY B0 ?_; refine cY (y7 [Tok.cv ({ (G9 s i1 b).1 with at_:=(i1:Nat)}:Tok)] rfl ⟨tt,tt⟩ Tryz.runUnderlying180 Tryz.sizeOf227 Tryz.zeroValue227 rfl rfl rfl rfl rfl rfl rfl rfl rfl) ?_
     refine cD (L3 rfl tt tt rfl m5 q_4 Tryz.runUnderlying180 Tryz.sizeOf227 Tryz.typeInfo227 Tryz.zeroValue227 rfl (.inr rfl) a1Y (by have hb:Tryz.t227.bytes=40:=rfl; rw [hb]; first|omega|(simp; done)|(simp; omega)) L1 ((acc++[({ (G9 s i1 b).1 with at_:=(i1:Nat)}:Tok)]).map Tok.cv) (acc++[({ (G9 s i1 b).1 with at_:=(i1:Nat)}:Tok)]).length m5 m5 ?_)
     refine cY b7 ?_; refine cY c7 ?_; refine cY c7 ?_; refine a8 ?_
     exact ⟨(acc++[({ (G9 s i1 b).1 with at_:=(i1:Nat)}:Tok)],e),[0,3],⟨by show s.length - e < s.length - i; omega,he3,by simp; omega,f,by show s.length - e < f; omega,by rw [hlx]; simp [Function.comp_def]⟩,⟨rfl,rfl⟩,⟨⟨tt,q_1⟩,⟨tt,q_1⟩,⟨tt,q_1⟩,⟨tt,q_1⟩,tt⟩,(by repeat' (first|exact tt|exact .inl rfl|exact .inr ⟨_,rfl,.same rfl s7⟩|exact .inr ⟨_,rfl,.same (gobj_snoc _ _ _) s7⟩|exact .inr ⟨_,rfl,.same rfl (by repeat' (first|exact tt|exact .val _|exact .ptr (nb rfl)|exact .map (nb rfl)|exact b6F | refine l2 ?_ | refine ⟨?_,?_⟩))⟩|exact .inr ⟨_,rfl,.box (by repeat' (first|exact tt|exact .same rfl b7c|exact .ptr rfl|exact .map rfl|exact .vec rfl|exact z7.grow (f:=Tok.cv) (fun _=>⟨.val _,.val _,.val _,.val _,tt⟩) rfl | refine ⟨?_,?_⟩))⟩ | refine ⟨?_,?_⟩))⟩
theorem b2v (s:Str) (hs:s.length≤1000000000000) (σ:List c5):b8 CC 142 [(sv s)] σ fun r τ=>∃ x:b6w,r = .ret (b8S x)∧τ=σ∧b9J s x :=
 J6 (res:=fun x=>.ret (b8S x)) hCC (fun c hc=>by simp at hc; subst hc; exact .val _) (b0C s hs) (fun _ _=>(by repeat' (first|exact .val _|exact d4 _ _|exact c9 _ _|exact j9 _ _|exact a1N _ _|exact tt | refine d6 ?_ | refine d7 ?_ | refine ⟨?_,?_⟩))) σ
structure Ex where
 k:Int
 num:Int
 op:Int
 name:Str
 args:List Int
deriving DecidableEq
abbrev Ex.cells (x:Ex):List CV:=[.val (.int .i64 x.k),.val (.int .i64 x.num),.val (.int .i64 x.op),sv x.name,.list (x.args.map icv) (gnn x.args.length) none]
def Ex.cv (x:Ex):List CV:=x.cells
theorem Ex.pure (x:Ex):H6 x.cells:=⟨.val _,.val _,.val _,.val _,d4 _ _,tt⟩
theorem s0 (l:List Ex) (nn:Bool):p5 (.list (l.map Ex.cv) nn none):=I2 (f:=Ex.cv) Ex.pure l nn
theorem Q9 (n:Nat) (l:List Ex) (nn:Bool):Old n (.list (l.map Ex.cv) nn none):=(s0 l nn).old
structure De where
 k:Int
 name:Str
 params:List Str
 body:List Ex
deriving DecidableEq
abbrev De.cells (x:De):List CV:=[.val (.int .i64 x.k),sv x.name,.list (x.params.map scv) (gnn x.params.length) none,.list (x.body.map Ex.cv) (gnn x.body.length) none]
def De.cv (x:De):List CV:=x.cells
theorem De.pure (x:De):H6 x.cells:=⟨.val _,.val _,c9 _ _,s0 _ _,tt⟩
theorem w7 (l:List De) (nn:Bool):p5 (.list (l.map De.cv) nn none):=I2 (f:=De.cv) De.pure l nn
theorem G6 (n:Nat) (l:List De) (nn:Bool):Old n (.list (l.map De.cv) nn none):=(w7 l nn).old
structure Src where
 pkg:Str
 imports:List Str
 decls:List De
deriving DecidableEq
abbrev Src.cells (x:Src):List CV:=[sv x.pkg,.list (x.imports.map scv) (gnn x.imports.length) none,.list (x.decls.map De.cv) (gnn x.decls.length) none]
theorem Src.pure (x:Src):H6 x.cells:=⟨.val _,c9 _ _,w7 _ _,tt⟩
abbrev pbx (T:List Tok) (n:Nat) (ps:List Str) (b:List Ex) (s:Nat):c5:=.box [.list (T.map Tok.cv) true none,.val (.int .i64 (n:Int)),.list (ps.map scv) (gnn ps.length) none,.list (b.map Ex.cv) (gnn b.length) (P6 b.length s)]
abbrev pst (T:List Tok) (n:Nat) (ps:List Str) (b:List Ex):List c5:=[pbx T n ps b 1,r9 b.length]
abbrev a2m (T:List Tok) (n:Nat) (ps:List Str) (b:List Ex):List c5:=[pbx T n ps b 2,.dead,r9 b.length]
theorem a7i {R:Nat→Nat→Prop} {T:List Tok} {n:Nat} {ps:List Str} {b:List Ex} {s s':Nat} (h:R s s'):B2 R (pbx T n ps b s) (pbx T n ps b s') :=
 .box (.cons (.pure (a1N _ _)) (.cons (.pure (.val _)) (.cons (.pure (c9 _ _)) (.cons (by
  refine .list rfl (fun i r r' h1 h2=>by rw [h1] at h2; injection h2 with h2; rw [h2]) (fun i j r r' c c' h1 h2 h3 h4=>?_) ?_
  ·rw [h1] at h2; injection h2 with h2; subst h2; rw [h3] at h4; injection h4 with h4; subst h4
   exact .pure (A4 (f:=Ex.cv) (fun a=>(Ex.pure a).all) _ r (List.mem_of_getElem? h1) c (List.mem_of_getElem? h3))
  ·cases hb:b.length with
   | zero=>exact .inl ⟨rfl,rfl⟩
   | succ m=>exact .inr ⟨s,s',rfl,rfl,h⟩) .nil))))
theorem V0 {R:Nat→Nat→Prop} (m:Nat):B2 R (r9 m) (r9 m):=by
 cases m with
 | zero=>exact .dead
 | succ m=>exact .tip _
def PAt (σ:List c5) (q s:Nat) (T:List Tok) (n:Nat) (ps:List Str) (b:List Ex):Prop:=σ[q]? = some (pbx T n ps b s)∧σ[s]? = some (r9 b.length)∧q≠s
abbrev Y2 (at_ e:Int):CV:=.val (.iface 184 (.agg #[.int .i64 at_,.int .i64 e]))
def a0N {α:Type} (c:α→CV) (S:α→List c5) (P:α→Prop) (bad:Prop) (r:v7) (τ:List c5):Prop :=
 (∃ a,L2 2 τ r (.ret (c a)) (S a)∧P a)∨∃ x:Int × Int,L2 2 τ r (.pan (Y2 x.1 x.2)) [.dead,.dead]∧(bad∧x.2≠0)
def a00 {α:Type} (c:α→CV) (S:α→List c5) (P:α→Prop) (σ:List c5) (q s:Nat) (bad:Prop) (r:v7) (τ:List c5):Prop :=
 (∃ a,r = .ret (c a)∧τ=S a∧P a)∨∃ x:Int × Int,r = .pan (Y2 x.1 x.2)∧τ=(σ.set q .dead).set s .dead∧(bad∧x.2≠0)
theorem l5 {τ:List c5} {x y:Int}:L2 2 τ (.pan (Y2 x y)) (.pan (Y2 x y)) [.dead,.dead]:=⟨[0,1],rfl,rfl,.pan (.old (.val _)),.inl rfl,.inl rfl,tt⟩
theorem a01 {α:Type} {f:FuncId} {args:List CV} {c:α→CV} {N:α→Nat} {Z:α→List Str} {B:α→List Ex} {g:α→Bool} {P:α→Prop} {bad:Prop} {T:List Tok} {n:Nat} {ps:List Str} {b:List Ex} (hargs:∀ a∈args,p5 a) (hc:∀ a,p5 (c a))
 (h:b8 CC f (.ptr 0 0::args) (pst T n ps b) (a0N c (fun a=>if g a=true then a2m T (N a) (Z a) (B a) else pst T (N a) (Z a) (B a)) P bad)) {σ:List c5} {q s:Nat} (hσ:PAt σ q s T n ps b) :
 b8 CC f (.ptr q 0::args) σ (a00 c (fun a=>if g a=true then (σ.set q (pbx T (N a) (Z a) (B a) σ.length)).set s .dead++[r9 (B a).length] else (σ.set q (pbx T (N a) (Z a) (B a) s)).set s (r9 (B a).length)) P σ q s bad):=by
 obtain ⟨h1,h2,h3⟩:=hσ
 have hq:=(List.getElem?_eq_some_iff.1 h1).1
 have hs:=(List.getElem?_eq_some_iff.1 h2).1
 have h':b8 CC f (.ptr 0 0::args) (pst T n ps b) fun r τ=>(∃ a,r = .ret (c a)∧τ=(if g a=true then a2m T (N a) (Z a) (B a) else pst T (N a) (Z a) (B a))∧P a)∨∃ x:Int × Int,r = .pan (Y2 x.1 x.2)∧τ=[.dead,.dead]∧(bad∧x.2≠0):=by
  refine J5 hCC (h.mono fun r τ hh=>?_)
  rcases hh with ⟨a,k1,k2⟩ | ⟨x,k1,k2⟩
  ·exact ⟨_,_,k1,.inl ⟨a,rfl,rfl,k2⟩⟩
  ·exact ⟨_,_,k1,.inr ⟨x,rfl,rfl,k2⟩⟩
 refine B4 [q,s] hCC rfl (fun i j k g1 g2=>?_) (fun i k ob g1 g2=>?_) (.cons (.ptr rfl) (E9 hargs)) h' fun r τ hk=>?_
 ·rcases i with _ | _ | i <;> rcases j with _ | _ | j <;> simp at g1 g2 <;> first|rfl|(exfalso; exact h3 (g1.trans g2.symm))|(exfalso; exact h3 (g2.trans g1.symm))
 ·rcases i with _ | _ | i
  ·simp at g1 g2
   subst g1 g2
   exact ⟨_,h1,a7i rfl⟩
  ·simp at g1 g2
   subst g1 g2
   exact ⟨_,h2,V0 _⟩
  ·simp at g1
 ·rcases hk with ⟨a,rfl,rfl,hp⟩ | ⟨x,rfl,rfl,hp⟩
  ·refine ⟨by split <;> simp,.ret (c a),(if g a=true then (σ.set q (pbx T (N a) (Z a) (B a) σ.length)).set s .dead++[r9 (B a).length] else (σ.set q (pbx T (N a) (Z a) (B a) s)).set s (r9 (B a).length)),.ret (.pure (hc a)),by split <;> simp,fun k hk hks=>?_,fun i k x ha hx=>?_,.inl ⟨a,rfl,rfl,hp⟩⟩
   ·have n1:q≠k:=fun e=>hks (by simp [e])
    have n2:s≠k:=fun e=>hks (by simp [e])
    split
    ·rw [List.getElem?_append_left (by simpa using hk)]
     simp [n1,n2]
    ·simp [n1,n2]
   ·split at hx <;> rename_i hg
    ·rcases ha with ha | ⟨ha,rfl⟩
     ·rcases i with _ | _ | i
      ·simp at ha hx
       subst ha hx
       refine ⟨pbx T (N a) (Z a) (B a) σ.length,?_,a7i (.inr ⟨by simp,by simp⟩)⟩
       rw [if_pos hg,List.getElem?_append_left (by simpa using hq),List.getElem?_set_ne h3.symm]
       simp [hq]
      ·simp at ha hx
       subst ha hx
       refine ⟨.dead,?_,.dead⟩
       rw [if_pos hg,List.getElem?_append_left (by simpa using hs)]
       simp [hs]
      ·simp at ha
     ·rcases i with _ | _ | _ | i
      ·simp at ha
      ·simp at ha
      ·simp at hx
       subst hx
       refine ⟨r9 (B a).length,?_,V0 _⟩
       rw [if_pos hg,List.getElem?_append_right m5]
       simp
      ·simp at hx
    ·rcases ha with ha | ⟨ha,rfl⟩
     ·rcases i with _ | _ | i
      ·simp at ha hx
       subst ha hx
       refine ⟨pbx T (N a) (Z a) (B a) s,?_,a7i (.inl rfl)⟩
       rw [if_neg hg,List.getElem?_set_ne h3.symm]
       simp [hq]
      ·simp at ha hx
       subst ha hx
       refine ⟨r9 (B a).length,?_,V0 _⟩
       rw [if_neg hg]
       simp [hs]
      ·simp at ha
     ·rcases i with _ | _ | i
      ·simp at ha
      ·simp at ha
      ·simp at hx
  ·refine ⟨Nat.le_refl _,.pan (Y2 x.1 x.2),(σ.set q .dead).set s .dead,.pan (.pure (.val _)),by simp,fun k hk hks=>?_,fun i k y ha hx=>?_,.inr ⟨x,rfl,rfl,hp⟩⟩
   ·have n1:q≠k:=fun e=>hks (by simp [e])
    have n2:s≠k:=fun e=>hks (by simp [e])
    simp [n1,n2]
   ·rcases ha with ha | ⟨ha,rfl⟩
    ·rcases i with _ | _ | i
     ·simp at ha hx
      subst ha hx
      refine ⟨.dead,?_,.dead⟩
      rw [List.getElem?_set_ne h3.symm]
      simp [hq]
     ·simp at ha hx
      subst ha hx
      refine ⟨.dead,?_,.dead⟩
      simp [hs]
     ·simp at ha
    ·rcases i with _ | _ | i
     ·simp at ha
     ·simp at ha
     ·simp at hx
theorem a1L {T:List Tok} {n:Nat} {ps:List Str} {b:List Ex} {s L:Nat} (h:s < L):C8 L (pbx T n ps b s):=l2 ⟨H7 _ _ _,.val _,m4 _ _ _,.list (fun i j r c h1 h2=>(A4 (f:=Ex.cv) (fun a=>(Ex.pure a).all) _ r (List.mem_of_getElem? h1) c (List.mem_of_getElem? h2)).old) (fun k hk=>by
 cases hb:b.length with
 | zero=>rw [hb] at hk; cases hk
 | succ m=>rw [hb] at hk; injection hk with hk; omega),tt⟩
theorem Q5 {τ rest:List c5} {T:List Tok} {n:Nat} {ps:List Str} {b:List Ex} {c:CV} (hτ:τ=pbx T n ps b 1::r9 b.length::rest) (hc:Old 2 c):L2 2 τ (.ret c) (.ret c) (pst T n ps b):=by
 subst hτ
 exact ⟨[0,1],rfl,rfl,.ret (.old hc),.inr ⟨_,rfl,.same rfl (a1L j5)⟩,.inr ⟨_,rfl,.same rfl s7⟩,tt⟩
theorem a2Y {L:Nat} {sel:List Nat}:∀ {l:List CV},a7u L l→b0c L sel l l
 | [],_=>trivial
 | _::_,⟨h,t⟩=>⟨.old h,a2Y t⟩
theorem M6 {τ:List c5} {T:List Tok} {n k:Nat} {ps:List Str} {b:List Ex} {c:CV} (h0:τ[0]? = some (pbx T n ps b k)) (hk:τ[k]? = some (r9 b.length)) (h2:2≤k) (hc:Old 2 c):L2 2 τ (.ret c) (.ret c) (a2m T n ps b):=by
 have k1:a2D 2 [0,1,k]=true:=rfl
 have k2:Q7 [0,1,k]=true:=by
  have e0:(k == 0)=false:=by simp; omega
  have e1:(k == 1)=false:=by simp; omega
  have e2:(0 == k)=false:=by simp; omega
  have e3:(1 == k)=false:=by simp; omega
  simp [Q7]
  omega
 refine ⟨[0,1,k],k1,k2,.ret (.old hc),.inr ⟨_,h0,.box ?_⟩,.inl rfl,.inr ⟨_,hk,.same rfl s7⟩,tt⟩
 refine ⟨.old (H7 _ _ _),.old (.val _),.old (m4 _ _ _),.list (fun r hr c hc=>(A4 (f:=Ex.cv) (fun a=>(Ex.pure a).all) _ r hr c hc).old) ?_,tt⟩
 intro j hj
 cases hb:b.length with
 | zero=>rw [hb] at hj; cases hj
 | succ m=>rw [hb] at hj; injection hj with hj; subst hj; exact ⟨k,rfl,rfl⟩
theorem a1g {α:Type} {l:List α} {i:Nat} {x:α} (h:l[i]? = some x):l.set i x=l:=by
 apply List.ext_getElem? fun j=>?_
 have hi:=(List.getElem?_eq_some_iff.1 h).1
 by_cases hj:i=j
 ·subst hj; rw [List.getElem?_set_self hi,h]
 ·rw [List.getElem?_set_ne hj]
theorem b06 {f:FuncId} {args:List CV} {c:CV} {T:List Tok} {n:Nat} {ps:List Str} {b:List Ex} (hargs:∀ a∈args,p5 a) (hc:p5 c)
 (h:b8 CC f (.ptr 0 0::args) (pst T n ps b) fun r τ=>L2 2 τ r (.ret c) (pst T n ps b)) {σ:List c5} {q s:Nat} (hσ:PAt σ q s T n ps b):b8 CC f (.ptr q 0::args) σ fun r τ=>r = .ret c∧τ=σ:=by
 refine (a01 (α:=Unit) (c:=fun _=>c) (N:=fun _=>n) (B:=fun _=>b) (Z:=fun _=>ps) (g:=fun _=>false) (P:=fun _=>True) (bad:=False) hargs (fun _=>hc) (h.mono fun r τ hh=>.inl ⟨(),hh,tt⟩) hσ).mono fun r τ hh=>?_
 rcases hh with ⟨_,h1,h2,_⟩ | ⟨_,_,_,h3,_⟩
 ·refine ⟨h1,h2.trans ?_⟩
  show (σ.set q _).set s _=σ
  rw [a1g hσ.1,a1g hσ.2.1]
 ·exact h3.elim
theorem Q4 {α:Type} {f:FuncId} {args:List CV} {c:α→CV} {N:α→Nat} {P:α→Prop} {bad:Prop} {T:List Tok} {n:Nat} {ps:List Str} {b:List Ex} (hargs:∀ a∈args,p5 a) (hc:∀ a,p5 (c a))
 (h:b8 CC f (.ptr 0 0::args) (pst T n ps b) (a0N c (fun a=>pst T (N a) ps b) P bad)) {σ:List c5} {q s:Nat} (hσ:PAt σ q s T n ps b) :
 b8 CC f (.ptr q 0::args) σ (a00 c (fun a=>σ.set q (pbx T (N a) ps b s)) P σ q s bad):=by
 refine (a01 (c:=c) (N:=N) (B:=fun _=>b) (Z:=fun _=>ps) (g:=fun _=>false) (P:=P) (bad:=bad) hargs hc (h.mono fun r τ hh=>?_) hσ).mono fun r τ hh=>?_
 ·rcases hh with ⟨a,h1,h2⟩ | h
  ·exact .inl ⟨a,h1,h2⟩
  ·exact .inr h
 ·rcases hh with ⟨a,h1,h2,h3⟩ | h
  ·refine .inl ⟨a,h1,h2.trans ?_,h3⟩
   refine a1g ?_
   rw [List.getElem?_set_ne hσ.2.2]
   exact hσ.2.1
  ·exact .inr h
theorem a0k {α:Type} {f:FuncId} {args:List CV} {c:α→CV} {N:α→Nat} {B:α→List Ex} {P:α→Prop} {bad:Prop} {T:List Tok} {n:Nat} {ps:List Str} {b:List Ex} (hargs:∀ a∈args,p5 a) (hc:∀ a,p5 (c a))
 (h:b8 CC f (.ptr 0 0::args) (pst T n ps b) (a0N c (fun a=>a2m T (N a) ps (B a)) P bad)) {σ:List c5} {q s:Nat} (hσ:PAt σ q s T n ps b) :
 b8 CC f (.ptr q 0::args) σ (a00 c (fun a=>(σ.set q (pbx T (N a) ps (B a) σ.length)).set s .dead++[r9 (B a).length]) P σ q s bad):=by
 refine (a01 (c:=c) (N:=N) (B:=B) (Z:=fun _=>ps) (g:=fun _=>true) (P:=P) (bad:=bad) hargs hc (h.mono fun r τ hh=>?_) hσ).mono fun r τ hh=>?_
 ·rcases hh with ⟨a,h1,h2⟩ | h
  ·exact .inl ⟨a,h1,h2⟩
  ·exact .inr h
 ·rcases hh with ⟨a,h1,h2,h3⟩ | h
  ·exact .inl ⟨a,h1,h2,h3⟩
  ·exact .inr h
theorem R6 (x:Tok):p5 (.agg x.cells):=d6 ⟨.val _,.val _,.val _,.val _,tt⟩
theorem a2H (n:Nat) (x:Tok):Old n (.agg x.cells):=(R6 x).old
def tk (T:List Tok) (n:Nat):Tok:=(T[n]?).getD ⟨5,[],0,0⟩
theorem b8g {T:List Tok} {n:Nat} (h:n < T.length):T[n]? = some (tk T n):=by simp [tk,h]
def a2f (T:List Tok):Prop:=∀ n,n < T.length→(tk T n).k≠5→n+1 < T.length
def isT (t:Tok) (k:Int) (s:Str):Bool:=(t.k == k) && decide (t.t=s)
theorem a7r {T:List Tok} {n:Nat} {k:Int} {s:Str} (h:isT (tk T n) k s=true) (hk:k≠5):(tk T n).k≠5:=by
 simp [isT] at h
 omega
def M9 (T:List Tok) (n:Nat) (k:Int):Option (Tok × Nat):=if (tk T n).k=k then some (tk T n,if k=5 then n else n+1) else none
def pIs (T:List Tok) (n:Nat) (k:Int) (s:Str):Option Nat:=if isT (tk T n) k s=true then some (n+1) else none
set_option maxRecDepth 10000 in
theorem b37 (t:Tok) (e:Int):b8 CC 190 [.agg t.cells,(.val (.int .i64 (e)))] [] fun r τ=>∃ _:Unit,a1i 0 τ r (.pan (Y2 t.at_ e))∧True:=by
 refine (d8 Tryz.func190 rfl rfl ?_)
 refine a7 (a6 ?_)
 refine cD (w9 rfl tt c6 j3 ?_)
 refine a8 (a6 ?_)
 refine cY a02 ?_; refine cY t7 ?_; refine cY b7 ?_; refine cY (v6 #[(0,1),(1,1)] rfl ⟨tt,tt,tt⟩ Tryz.runUnderlying184 Tryz.zeroValue184 rfl ⟨_,rfl⟩ (fun w=>by kernel_rfl) rfl rfl) ?_; refine cY (b2z (xs:=[.int .i64 t.at_,.int .i64 e]) rfl tt rfl (b0a Tryz.runUnderlying184 rfl)) ?_
 exact Y1 rfl rfl (b65 rfl tt rfl (fun M w v h=>⟨_,_,n8 h⟩) ⟨(),.pan (.old (.val _)),tt⟩)
theorem D2 (t:Tok) (e:Int) (σ:List c5):b8 CC 190 [.agg t.cells,(.val (.int .i64 (e)))] σ fun r τ=>∃ _:Unit,r = .pan (Y2 t.at_ e)∧τ=σ∧True :=
 J6 (res:=fun _=>.pan (Y2 t.at_ e)) hCC (fun c hc=>by
  simp at hc
  rcases hc with rfl | rfl
  ·exact R6 _
  ·exact .val _) (b37 t e) (fun _ _=>.val _) σ
set_option maxRecDepth 10000 in
theorem b2Y (T:List Tok) (n:Nat) (ps:List Str) (b:List Ex) (hT:T.length≤1000000) (hn:n < T.length):b8 CC 191 [.ptr 0 0] (pst T n ps b) (fun r τ=>L2 2 τ r (.ret (.agg (tk T n).cells)) (pst T n ps b)):=by
 refine (d8 Tryz.func191 rfl rfl ?_)
 refine a7 (a6 ?_)
 refine cD (m9 rfl Tryz.zeroValue227 rfl j3 ?_)
 refine a8 (a7 ?_)
 refine r5 10 [0,1,3,7,0,16,48,112,255,511,1023] j6 j6 rfl ?_; refine hY b7 ?_; refine hY o7 ?_; refine hY (l9 rfl tt rfl Tryz.runUnderlying188 rfl Tryz.sizeOf180 j5) ?_; refine hY (o5 rfl tt rfl Tryz.isAgg180 rfl rfl) ?_; refine hY b7 ?_; refine hY o7 ?_; refine hY L7 ?_; refine hY t7 ?_; refine hY (o9 rfl tt tt rfl rfl Tryz.runUnderlying180 Tryz.sizeOf227 c4 (l6 (b8g hn)) rfl) ?_; refine hY (J1 rfl tt rfl Tryz.isAgg227 Tryz.sizeOf227 (nb rfl)) ?_; refine u0 ?_
 refine cD (j1 rfl tt tt rfl c6 Tryz.sizeOf227 j3 rfl rfl (nb rfl) ?_)
 refine a8 (d5 ?_)
 exact ⟨_,B8 rfl ⟨tt,_,_,_,rfl,rfl,.inr ⟨_,Tryz.isAgg227,Tryz.sizeOf227,nb rfl,rfl⟩⟩,Q5 rfl (a2H _ _)⟩
theorem a1t {T:List Tok} {n:Nat} {ps:List Str} {b:List Ex} (hT:T.length≤1000000) (hn:n < T.length) {σ:List c5} {q s:Nat} (hσ:PAt σ q s T n ps b):b8 CC 191 [.ptr q 0] σ fun r τ=>r = .ret (.agg (tk T n).cells)∧τ=σ:=b06 (fun _ h=>by cases h) (R6 _) (b2Y T n ps b hT hn) hσ
set_option maxRecDepth 10000 in
theorem b8C (T:List Tok) (n:Nat) (ps:List Str) (b:List Ex) (hT:T.length≤1000000) (hn:n < T.length) (k:Int) (u:Str):b8 CC 189 [.ptr 0 0,(.val (.int .i64 (k))),(sv (u))] (pst T n ps b) (fun r τ=>L2 2 τ r (.ret (.val (.bool (isT (tk T n) (k) (u))))) (pst T n ps b)):=by
 refine (d8 Tryz.func189 rfl rfl ?_)
 refine a7 (a6 ?_)
 refine cY i7 ?_
 refine a8 (a7 (a6 ?_))
 refine cY b7 ?_; refine cY b3T ?_
 refine cD (m9 rfl Tryz.zeroValue227 rfl j3 ?_)
 refine cD (j1 rfl tt tt rfl c6 Tryz.sizeOf227 j3 rfl rfl (nb rfl) ?_)
 refine a8 (a7 (a6 ?_))
 refine cY a02 ?_; refine cY t7 ?_; refine cY b7 ?_; refine cY p8 ?_; refine cY b7 ?_; refine cG b6T ?_; refine cG N5 ?_; refine cG o6 ?_; refine cG a3s ?_; refine cY p9 ?_; refine cY c7 ?_
 refine a8 (d5 ?_)
 exact ⟨_,l4 rfl tt c6,(by exact Q5 rfl (.val _))⟩
theorem a6o {T:List Tok} {n:Nat} {ps:List Str} {b:List Ex} (hT:T.length≤1000000) (hn:n < T.length) (k:Int) (u:Str) {σ:List c5} {q s:Nat} (hσ:PAt σ q s T n ps b):b8 CC 189 [.ptr q 0,(.val (.int .i64 (k))),(sv (u))] σ fun r τ=>r = .ret (.val (.bool (isT (tk T n) (k) (u))))∧τ=σ:=b06 (fun _ h=>by simp at h; rcases h with rfl | rfl <;> exact .val _) (.val _) (b8C T n ps b hT hn k u) hσ
set_option maxRecDepth 10000 in
theorem b4n (T:List Tok) (n:Nat) (ps:List Str) (b:List Ex) (hT:T.length≤1000000) (hn:n < T.length) (hW:a2f T) (u:Str):b8 CC 188 [.ptr 0 0,(sv (u))] (pst T n ps b) (a0N (fun _:Nat=>.tup []) (fun a=>pst T a ps b) (fun a=>pIs T n 4 u=some a∧a < T.length) (pIs T n 4 u=none)):=by
 refine (d8 Tryz.func188 rfl rfl ?_)
 refine a7 (a7 (a6 ?_))
 refine cY b7 ?_; refine cY b7 ?_; refine cY (i8 rfl Tryz.call189 ⟨tt,rfl,tt,tt⟩ (a6o hT hn 4 u ⟨rfl,rfl,by decide⟩) rfl) ?_; refine cY F1 ?_; refine a8 ?_
 refine b9 tt rfl (fun h1=>?_) (fun h1=>?_)
 ·have hb:isT (tk T n) 4 u=false:=by simpa using h1
  refine a6 ?_; refine cY b7 ?_; refine cY b3T ?_
  exact Y1 rfl rfl (D4 rfl Tryz.call190 ⟨tt,rfl,tt⟩ (D2 _ _ _) rfl (fun _ _=>.inr ⟨(_,_),l5,by rw [pIs,if_neg (by rw [hb]; decide)],by simp⟩))
 ·have hb:isT (tk T n) 4 u=true:=by simpa using h1
  refine c8 (a6 ?_)
  refine cY b7 ?_; refine cY o7 ?_; refine cY L7 ?_; refine cY t7 ?_; refine cY n9 ?_; refine cY o7 ?_; refine cY L7 ?_
  refine cD (j1 rfl tt tt rfl c6 Tryz.sizeOf3 (.inl rfl) rfl rfl (nb rfl) ?_)
  refine a8 ?_
  exact ⟨_,o4 (rs:=[]) (cs:=[]) rfl tt (Nat.ne_of_beq_eq_false rfl),b86⟩
theorem G7 {T:List Tok} {n:Nat} {ps:List Str} {b:List Ex} (hT:T.length≤1000000) (hn:n < T.length) (hW:a2f T) (u:Str) {σ:List c5} {q s:Nat} (hσ:PAt σ q s T n ps b):b8 CC 188 [.ptr q 0,(sv (u))] σ (a00 (fun _:Nat=>.tup []) (fun a=>σ.set q (pbx T a ps b s)) (fun a=>pIs T n 4 u=some a∧a < T.length) σ q s (pIs T n 4 u=none)) :=
 Q4 (c:=fun _:Nat=>.tup []) (N:=fun a=>a) (fun _ h=>by simp at h; subst h; exact .val _) (fun _=>d7 trivial) (b4n T n ps b hT hn hW u) hσ
set_option maxRecDepth 10000 in
theorem b36 (T:List Tok) (n:Nat) (ps:List Str) (b:List Ex) (hT:T.length≤1000000) (hn:n < T.length) (hW:a2f T) (u:Str):b8 CC 186 [.ptr 0 0,(sv (u))] (pst T n ps b) (a0N (fun _:Nat=>.tup []) (fun a=>pst T a ps b) (fun a=>pIs T n 1 u=some a∧a < T.length) (pIs T n 1 u=none)):=by
 refine (d8 Tryz.func186 rfl rfl ?_)
 refine a7 (a7 (a6 ?_))
 refine cY b7 ?_; refine cY b7 ?_; refine cY (i8 rfl Tryz.call189 ⟨tt,rfl,tt,tt⟩ (a6o hT hn 1 u ⟨rfl,rfl,by decide⟩) rfl) ?_; refine cY F1 ?_; refine a8 ?_
 refine b9 tt rfl (fun h1=>?_) (fun h1=>?_)
 ·have hb:isT (tk T n) 1 u=false:=by simpa using h1
  refine a6 ?_; refine cY b7 ?_; refine cY b3T ?_
  exact Y1 rfl rfl (D4 rfl Tryz.call190 ⟨tt,rfl,tt⟩ (D2 _ _ _) rfl (fun _ _=>.inr ⟨(_,_),l5,by rw [pIs,if_neg (by rw [hb]; decide)],by simp⟩))
 ·have hb:isT (tk T n) 1 u=true:=by simpa using h1
  refine c8 (a6 ?_)
  refine cY b7 ?_; refine cY o7 ?_; refine cY L7 ?_; refine cY t7 ?_; refine cY n9 ?_; refine cY o7 ?_; refine cY L7 ?_
  refine cD (j1 rfl tt tt rfl c6 Tryz.sizeOf3 (.inl rfl) rfl rfl (nb rfl) ?_)
  refine a8 ?_
  exact ⟨_,o4 (rs:=[]) (cs:=[]) rfl tt (Nat.ne_of_beq_eq_false rfl),b86⟩
theorem a7z {T:List Tok} {n:Nat} {ps:List Str} {b:List Ex} (hT:T.length≤1000000) (hn:n < T.length) (hW:a2f T) (u:Str) {σ:List c5} {q s:Nat} (hσ:PAt σ q s T n ps b):b8 CC 186 [.ptr q 0,(sv (u))] σ (a00 (fun _:Nat=>.tup []) (fun a=>σ.set q (pbx T a ps b s)) (fun a=>pIs T n 1 u=some a∧a < T.length) σ q s (pIs T n 1 u=none)) :=
 Q4 (c:=fun _:Nat=>.tup []) (N:=fun a=>a) (fun _ h=>by simp at h; subst h; exact .val _) (fun _=>d7 trivial) (b36 T n ps b hT hn hW u) hσ
set_option maxRecDepth 10000 in
theorem b0G (T:List Tok) (n:Nat) (ps:List Str) (b:List Ex) (hT:T.length≤1000000) (hn:n < T.length) (hW:a2f T) (u:Str):b8 CC 263 [.ptr 0 0,(sv (u))] (pst T n ps b) (a0N (fun a:Bool × Nat=>(.val (.bool (a.1)))) (fun a=>pst T a.2 ps b) (fun a=>a.1=isT (tk T n) 4 u∧a.2=(if isT (tk T n) 4 u=true then n+1 else n)∧a.2 < T.length) False):=by
 refine (d8 Tryz.func263 rfl rfl ?_)
 refine a7 (a6 ?_)
 refine cY i7 ?_
 refine a8 (a7 (a7 (a6 ?_)))
 refine cY b7 ?_; refine cY b7 ?_; refine cY (i8 rfl Tryz.call189 ⟨tt,rfl,tt,tt⟩ (a6o hT hn 4 u ⟨rfl,rfl,by decide⟩) rfl) ?_; refine cY F1 ?_; refine a8 ?_
 refine b9 tt rfl (fun h1=>?_) (fun h1=>?_)
 ·have hb:isT (tk T n) 4 u=false:=by simpa using h1
  refine a7 (a6 ?_)
  refine cY i7 ?_
  refine a8 (d5 ?_)
  exact ⟨_,l4 rfl tt c6,(by exact .inl ⟨(false,n),Q5 rfl (.val _),hb.symm,by rw [if_neg (by rw [hb]; decide)],hn⟩)⟩
 ·have hb:isT (tk T n) 4 u=true:=by simpa using h1
  refine c8 (a7 (a6 ?_))
  refine cY b7 ?_; refine cY o7 ?_; refine cY L7 ?_; refine cY t7 ?_; refine cY n9 ?_; refine cY o7 ?_; refine cY L7 ?_
  refine cD (j1 rfl tt tt rfl c6 Tryz.sizeOf3 (.inl rfl) rfl rfl (nb rfl) ?_)
  refine a8 (a7 (a6 ?_))
  refine cY i7 ?_
  refine a8 (d5 ?_)
  exact ⟨_,l4 rfl tt c6,(by exact .inl ⟨(true,n+1),Q5 rfl (.val _),hb.symm,by rw [if_pos hb],hW n hn (a7r hb j5)⟩)⟩
theorem U1 {T:List Tok} {n:Nat} {ps:List Str} {b:List Ex} (hT:T.length≤1000000) (hn:n < T.length) (hW:a2f T) (u:Str) {σ:List c5} {q s:Nat} (hσ:PAt σ q s T n ps b):b8 CC 263 [.ptr q 0,(sv (u))] σ fun r τ=>∃ a:Bool × Nat,r = .ret (.val (.bool (a.1)))∧τ=σ.set q (pbx T a.2 ps b s)∧a.1=isT (tk T n) 4 u∧a.2=(if isT (tk T n) 4 u=true then n+1 else n)∧a.2 < T.length :=
 (Q4 (c:=fun a:Bool × Nat=>(.val (.bool a.1))) (N:=fun a:Bool × Nat=>a.2) (fun _ h=>by simp at h; subst h; exact .val _) (fun _=>.val _) (b0G T n ps b hT hn hW u) hσ).mono fun r τ h=>by
  rcases h with h | ⟨_,_,_,h,_⟩
  ·exact h
  ·exact h.elim
set_option maxRecDepth 10000 in
theorem b4X (T:List Tok) (n:Nat) (ps:List Str) (b:List Ex) (hT:T.length≤1000000) (hn:n < T.length) (hW:a2f T) (k:Int):b8 CC 225 [.ptr 0 0,(.val (.int .i64 (k)))] (pst T n ps b) (a0N (fun a:Tok × Nat=>.agg a.1.cells) (fun a=>pst T a.2 ps b) (fun a=>M9 T n k=some a∧a.2 < T.length) (M9 T n k=none)):=by
 refine (d8 Tryz.func225 rfl rfl ?_)
 refine a7 (a6 ?_)
 refine cD (m9 rfl Tryz.zeroValue227 rfl j3 ?_)
 refine a8 (a7 (a6 ?_))
 refine cY b7 ?_; refine cY b3T ?_
 refine cD (m9 rfl Tryz.zeroValue227 rfl j3 ?_)
 refine cD (j1 rfl tt tt rfl c6 Tryz.sizeOf227 j3 rfl rfl (nb rfl) ?_)
 refine a8 (a7 (a7 (a6 ?_)))
 refine cY a02 ?_; refine cY t7 ?_; refine cY b7 ?_; refine cY p8 ?_; refine a8 ?_
 refine b9 tt rfl (fun h1=>?_) (fun h1=>?_)
 ·have hk:¬ (tk T n).k=k:=by simpa using h1
  refine a6 ?_; refine cY B0 ?_
  exact Y1 rfl rfl (D4 rfl Tryz.call190 ⟨tt,rfl,tt⟩ (D2 _ _ _) rfl (fun _ _=>.inr ⟨(_,_),l5,by rw [M9,if_neg hk],by simp⟩))
 ·have hk:(tk T n).k=k:=by simpa using h1
  refine c8 (a7 (a7 (a6 ?_)))
  refine cY b7 ?_; refine cY k7 ?_; refine a8 ?_
  refine b9 tt rfl (fun h2=>?_) (fun h2=>?_)
  ·have h5:¬ k=5:=by simpa using h2
   refine a6 ?_; refine cY b7 ?_; refine cY o7 ?_; refine cY L7 ?_; refine cY t7 ?_; refine cY n9 ?_; refine cY o7 ?_; refine cY L7 ?_
   refine cD (j1 rfl tt tt rfl c6 Tryz.sizeOf3 (.inl rfl) rfl rfl (nb rfl) ?_)
   refine a8 (a7 (a6 ?_))
   refine cY B0 ?_
   refine cD (j1 rfl tt tt rfl c6 Tryz.sizeOf227 j3 rfl rfl (nb rfl) ?_)
   refine a8 (d5 ?_)
   exact ⟨_,B8 rfl ⟨tt,_,_,_,rfl,rfl,.inr ⟨_,Tryz.isAgg227,Tryz.sizeOf227,nb rfl,rfl⟩⟩,(by exact .inl ⟨(tk T n,n+1),Q5 rfl (a2H _ _),by rw [M9,if_pos hk,if_neg h5],hW n hn (by rw [hk]; exact h5)⟩)⟩
  ·have h5:k=5:=by simpa using h2
   refine c8 (a7 (a6 ?_))
   refine cY B0 ?_
   refine cD (j1 rfl tt tt rfl c6 Tryz.sizeOf227 j3 rfl rfl (nb rfl) ?_)
   refine a8 (d5 ?_)
   exact ⟨_,B8 rfl ⟨tt,_,_,_,rfl,rfl,.inr ⟨_,Tryz.isAgg227,Tryz.sizeOf227,nb rfl,rfl⟩⟩,(by exact .inl ⟨(tk T n,n),Q5 rfl (a2H _ _),by rw [M9,if_pos hk,if_pos h5],hn⟩)⟩
theorem a2W {T:List Tok} {n:Nat} {ps:List Str} {b:List Ex} (hT:T.length≤1000000) (hn:n < T.length) (hW:a2f T) (k:Int) {σ:List c5} {q s:Nat} (hσ:PAt σ q s T n ps b):b8 CC 225 [.ptr q 0,(.val (.int .i64 (k)))] σ (a00 (fun a:Tok × Nat=>.agg a.1.cells) (fun a=>σ.set q (pbx T a.2 ps b s)) (fun a=>M9 T n k=some a∧a.2 < T.length) σ q s (M9 T n k=none)) :=
 Q4 (c:=fun a:Tok × Nat=>.agg a.1.cells) (N:=fun a=>a.2) (fun _ h=>by simp at h; subst h; exact .val _) (fun _=>R6 _) (b4X T n ps b hT hn hW k) hσ
end Go.Proofs.YtoblbdedgjfeaaaGreatDoor
