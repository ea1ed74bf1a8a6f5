/- Part 5: values without addresses. -/
import Derived.Shelf.LaysM
import Derived.Shelf.Strconv.Itoa3
import Derived.Test.YtlppbmfecjabeaaGreatDoorE4
set_option linter.all false
set_option maxRecDepth 100000
set_option maxHeartbeats 4000000
namespace Go.Proofs.YtlppbmfecjabeaaGreatDoor
open Go Go.Cl
variable {T:TypeId} {rest:List CV} {n q k:Nat} {l s:Str} {σ:List b9} {b:List Ex} {R:Nat->Nat->Prop} {a:Bool}
theorem b8w (s:Str) (a:Nat) (ks:List Int):sub s a (A4 s a ks)=(s.drop a).takeWhile (inK ks):=by
 unfold sub A4;rw [List.drop_take,Nat.add_sub_cancel_left];have h:=List.takeWhile_prefix (inK ks) (l:=s.drop a);exact (List.prefix_iff_eq_take.1 h).symm
theorem c5n {a:Nat} {b:UInt8} (hb:s[a]? = some b) (hk:o0 b.toNat=1) (hl:¬ 24 < A4 s a [1,2,3] - a):C3 (sub s a (A4 s a [1,2,3]))=true:=by
 have aj:(sub s a (A4 s a [1,2,3])).length=A4 s a [1,2,3] - a:=by
  rw [b8w];unfold A4;omega
 rw [b8w] at aj ⊢;obtain ⟨ab,rfl⟩:=n_3.1 hb;have bq:((s.drop a).takeWhile (inK [1,2,3])).all (inK [1,2,3])=true:=a5D.2 fun c hc=>a1M hc;rw [R2 ab,b9b,n_1 (by simp [inK,hk])] at aj bq ⊢;unfold C3;simp only [U6,a1v];exact ⟨⟨om_,hk⟩,bq⟩
theorem d3f {a:Nat} {b:UInt8} (hb:s[a]? = some b):((E9 s a b).1.k=1->C3 (E9 s a b).1.t=true)/\(E9 s a b).1.n<=9007199254740992:=by
 have z:((⟨0,[],0,0⟩:Tok).k=1->C3 (⟨0,[],0,0⟩:Tok).t=true)/\(⟨0,[],0,0⟩:Tok).n<=9007199254740992:=⟨ab_,de_⟩;unfold E9
 split
 ·rename_i hk
  split
  ·exact z
  ·rename_i hl;exact ⟨fun _=>c5n hb hk hl,show (0:Int)<=9007199254740992 by decide⟩
 ·split
  ·split
   ·exact z
   ·rename_i hl;exact ⟨fun h=>absurd h (show ¬ (2:Int)=1 by decide),show a4y _<=9007199254740992 by omega⟩
  ·split
   ·split
    ·exact z
    ·exact ⟨fun h=>absurd h (show ¬ (3:Int)=1 by decide),show (0:Int)<=9007199254740992 by decide⟩
   ·split
    ·split
     ·exact ⟨fun h=>absurd h (show ¬ (4:Int)=1 by decide),show (0:Int)<=9007199254740992 by decide⟩
     ·exact ⟨fun h=>absurd h (show ¬ (4:Int)=1 by decide),show (0:Int)<=9007199254740992 by decide⟩
    ·exact z
theorem b5o (s:Str):∀ (f i:Nat) (T:List Tok),a0F f s i=some T->∀ t∈T,(t.k=1->C3 t.t=true)/\t.n<=9007199254740992
 | 0,i,T,h=>by cases h
 | f+1,i,T,h=>by
  rw [a0F] at h;cases hb:s[A4 s i [5]]? with
  | none =>
   rw [hb] at h;injection h with h
   subst h;intro t ht;simp at ht;subst ht;exact ⟨fun h=>absurd h (show ¬ (5:Int)=1 by decide),show (0:Int)<=9007199254740992 by decide⟩
  | some b =>
   rw [hb] at h;simp only at h;split at h
   ·exact b5o s f _ T h
   ·split at h
    ·cases h
    ·cases hq:a0F f s (E9 s (A4 s i [5]) b).2.1.toNat with
     | none=>rw [hq] at h;cases h
     | some T' =>
      rw [hq] at h;simp only [b6A,Option.some.injEq] at h;subst h;intro t ht
      rcases J5.1 ht with rfl | ht
      ·exact d3f hb
      ·exact b5o s f _ T' hq t ht
theorem d4d {T:List Tok} (h:a2V s=some T):TG T:=fun i=>by
 have hc:=(b1i h).1.nn i;unfold a2V at h;split at h
 ·cases h
 ·rcases c0X (T:=T) i with h1 | h1
  ·have:=b5o s _ _ T h _ h1;exact ⟨this.1,hc.1,this.2⟩
  ·rw [h1];exact ⟨ab_,de_,de_⟩
theorem b26 {x:Ex} {w:Nat × List Ex} (h:X3 b x=some w) (hb:b.length<=256):w.2.length<=256:=by
 unfold X3 at h;split at h
 ·cases h
 ·injection h with h
  subst h;simp only [n_6,b9T];omega
theorem Y3 {x:Ex} {m:Nat} {y:PX} (h:L9 b x m=some y) (hb:b.length<=256):y.2.2.length<=256:=b26 (w:=(y.1,y.2.2)) (a2W h).1 hb
theorem c48 {T:List Tok} {F:PF} (hF:∀ d n b x,b.length<=256->F.ex d n b=some x->x.2.2.length<=256) {u:Str} {d:Nat} {y:PX} (hb:b.length<=256) (h:X6 T F u d n b=some y):y.2.2.length<=256:=by
 unfold X6 at h;obtain ⟨n1,_,h⟩:=c9 h;split at h
 ·obtain ⟨s,h1,h⟩:=c9 h;obtain ⟨n2,_,h⟩:=c9 h;obtain ⟨x,h3,h⟩:=c9 h;obtain ⟨m,_,h⟩:=c9 h;exact Y3 h (hF _ _ _ _ hb h3)
 ·split at h
  ·obtain ⟨s,h1,h⟩:=c9 h;obtain ⟨m,_,h⟩:=c9 h;exact Y3 h hb
  ·split at h
   ·obtain ⟨s,h1,h⟩:=c9 h;obtain ⟨m,_,h⟩:=c9 h;exact Y3 h hb
   ·split at h
    ·obtain ⟨s,h1,h⟩:=c9 h;split at h
     ·obtain ⟨m,_,h⟩:=c9 h;exact Y3 h hb
     ·cases h
    ·obtain ⟨s,h1,h⟩:=c9 h;split at h
     ·cases h
     ·obtain ⟨m,_,h⟩:=c9 h;exact Y3 h hb
theorem c3i {T:List Tok} {ps:List Str}:∀ f:Nat,
 (∀ d n b x,b.length<=256->(A1 T ps f).ex d n b=some x->x.2.2.length<=256) /\
 (∀ lv d n b x,b.length<=256->(A1 T ps f).bin lv d n b=some x->x.2.2.length<=256) /\
 (∀ d n b x,b.length<=256->(A1 T ps f).fac d n b=some x->x.2.2.length<=256) /\
 (∀ lv d i n b x,b.length<=256->(A1 T ps f).lp lv d i n b=some x->x.2.2.length<=256) /\
 (∀ d n b bo y,b.length<=256->(A1 T ps f).ag d n b bo=some y->y.2.2.length<=256)
 | 0=>by
  refine ⟨fun d n b x _ h=>?_,fun lv d n b x _ h=>?_,fun d n b x _ h=>?_,fun lv d i n b x _ h=>?_,fun d n b bo y _ h=>?_⟩<;>cases h
 | f+1=>by
  obtain ⟨hE,hB,hF,hL,hA⟩:=c3i (T:=T) (ps:=ps) f;refine ⟨fun d n b x hb h=>?_,fun lv d n b x hb h=>?_,fun d n b y hb h=>?_,fun lv d i n b x hb h=>?_,fun d n b bo y hb h=>?_⟩
  ·change (G7 T ps (A1 T ps f)).ex d n b=some x at h;simp only [G7] at h;split at h
   ·cases h
   ·split at h
    ·obtain ⟨x1,h1,h⟩:=c9 h;obtain ⟨n2,_,h⟩:=c9 h;obtain ⟨x2,h2,h⟩:=c9 h;obtain ⟨n3,_,h⟩:=c9 h;obtain ⟨x3,h3,h⟩:=c9 h;exact Y3 h (hE _ _ _ _ (hE _ _ _ _ (hE _ _ _ _ hb h1) h2) h3)
    ·exact hB _ _ _ _ _ hb h
  ·change (G7 T ps (A1 T ps f)).bin lv d n b=some x at h;simp only [G7] at h;split at h
   ·exact hF _ _ _ _ hb h
   ·obtain ⟨x1,h1,h⟩:=c9 h;exact hL _ _ _ _ _ _ (hB _ _ _ _ _ hb h1) h
  ·change (G7 T ps (A1 T ps f)).fac d n b=some y at h;simp only [G7] at h;split at h
   ·exact Y3 h hb
   ·split at h
    ·obtain ⟨s,h1,h⟩:=c9 h;exact Y3 h hb
    ·split at h
     ·obtain ⟨x1,h1,h⟩:=c9 h;obtain ⟨m,_,h⟩:=c9 h;injection h with h
      subst h;exact hE _ _ _ x1 hb h1
     ·split at h
      ·cases h
      ·split at h
       ·exact c48 hE hb h
       ·split at h
        ·cases h
        ·split at h
         ·obtain ⟨a,h1,h⟩:=c9 h;unfold a2x at h1;obtain ⟨n1,_,h1⟩:=c9 h1;refine Y3 h ?_;split at h1
          ·injection h1 with h1
           subst h1;exact hb
          ·exact hA _ _ _ _ _ hb h1
         ·split at h
          ·cases h
          ·exact Y3 h hb
  ·change (G7 T ps (A1 T ps f)).lp lv d i n b=some x at h;simp only [G7] at h;split at h
   ·injection h with h
    subst h;exact hb
   ·obtain ⟨y,h1,h⟩:=c9 h;obtain ⟨w,h2,h⟩:=c9 h;have hw:=b26 h2 (hB _ _ _ _ _ hb h1);split at h
    ·injection h with h
     subst h;exact hw
    ·exact hL _ _ _ _ _ _ hw h
  ·change (G7 T ps (A1 T ps f)).ag d n b bo=some y at h;simp only [G7] at h;obtain ⟨x1,h1,h⟩:=c9 h;have hx:=hE _ _ _ _ hb h1;split at h
   ·exact hA _ _ _ _ _ hx h
   ·obtain ⟨m,_,h⟩:=c9 h;injection h with h
    subst h;exact hx
theorem a7A {T:List Tok} (hT:TG T) {x:Tok × Nat} (h:K0 T n=some x):C3 x.1.t=true/\R6 x.1.t=false:=by
 obtain ⟨y,h1,h2⟩:=c9 h;obtain ⟨e1,e2⟩:=a6L h1;split at h2
 ·cases h2
 ·rename_i hr;injection h2 with h2
  subst h2;refine ⟨?_,sp_ hr⟩;rw [e1];exact (hT n).1 e2
structure a9w (l:List Str):Prop where
 ok:∀ s∈l,C3 s=true/\R6 s=false
 len:l.length<=8
 nod:l.Nodup
theorem a3L {α:Type} {l:List α} {x:α} (h:l.Nodup) (hx:x∉l):(l++[x]).Nodup:=by
 rw [List.nodup_append];exact ⟨h,si_,fun a ha b hb=>by simp at hb;subst hb;exact fun e=>hx (e ▸ ha)⟩
theorem a9w.snoc {l:List Str} {x:Str} (h:a9w l) (hx:C3 x=true/\R6 x=false) (h8:¬ l.length=8) (hn:¬ x∈l):a9w (l++[x]):=⟨fun s hs=>by
 rcases L8.1 hs with hs | hs
 ·exact h.ok s hs
 ·simp at hs;subst hs;exact hx,by have:=h.len;rw [n_6,b9T];omega,a3L h.nod hn⟩
theorem b7F {T:List Tok} (hT:TG T):∀ (f n:Nat) (l:List Str) (y:List Str × Nat),a9w l->a2s f T n l=some y->a9w y.1
 | 0,n,l,y,_,h=>by cases h
 | f+1,n,l,y,hl,h=>by
  rw [a2s] at h;obtain ⟨x,h1,h⟩:=c9 h;have hx:=a7A hT h1;split at h
  ·cases h
  ·rename_i h8;split at h
   ·cases h
   ·rename_i hn;have hs:=hl.snoc hx h8 hn;split at h
    ·exact b7F hT f _ _ y hs h
    ·obtain ⟨m,_,h⟩:=c9 h;injection h with h
     subst h;exact hs
theorem a5J:a9w []:=⟨fun s h=>(by cases h),n_4 _,List.nodup_nil⟩
theorem c7q {T:List Tok} (hT:TG T) {kd:Int} {y:List Str × Nat} (h:a3u T kd n=some y):a9w y.1/\(kd≠1->y.1=[]):=by
 unfold a3u at h;split at h
 ·rename_i hk;unfold M4 at h;obtain ⟨m,_,h⟩:=c9 h;refine ⟨?_,fun h=>absurd hk h⟩;split at h
  ·injection h with h
   subst h;exact a5J
  ·exact b7F hT _ _ _ y a5J h
 ·injection h with h
  subst h;exact ⟨a5J,fun _=>rfl⟩
theorem c5o (s:Str):G4 s=0\/G4 s=1\/G4 s=2\/G4 s=3:=by
 unfold G4 dkL;rw [P1,P1,P1]
 split
 ·exact .inr (.inr (.inr rfl))
 ·split
  ·exact .inr (.inr (.inl rfl))
  ·split
   ·exact .inr (.inl rfl)
   ·exact .inl rfl
theorem d1k {T:List Tok} (hT:TG T) {bs:List De} {y:De × Nat} (h:a0N T bs n=some y):DeG y.1/\(bs.any fun d=>(d.k == y.1.k) && decide (d.name=y.1.name))=false:=by
 unfold a0N at h;split at h
 ·cases h
 ·rename_i h0;split at h
  ·cases h
  ·obtain ⟨x,h1,h⟩:=c9 h;split at h
   ·cases h
   ·rename_i hany;obtain ⟨q,h2,h⟩:=c9 h;obtain ⟨m,_,h⟩:=c9 h;obtain ⟨e,h3,h⟩:=c9 h;obtain ⟨m2,_,h⟩:=c9 h;injection h with h
    subst h;obtain ⟨p1,p2⟩:=c7q hT h2;obtain ⟨t,t1,_,t3⟩:=(c16 hT (8*T.length+6)).1 _ _ _ _ h3;have aj:=(c3i (8*T.length+6)).1 _ _ _ _ (n_4 _) h3;refine ⟨⟨?_,fun hk=>?_,fun hk=>?_,p2,p1.ok,p1.len,p1.nod,⟨t,by rw [t1];rfl,t3⟩,aj⟩,sp_ hany⟩
    ·have:=c5o (tk T n).t
     rcases this with g | g | g | g
     ·exact absurd (.inr g) h0
     ·exact .inl g
     ·exact .inr (.inl g)
     ·exact .inr (.inr g)
    ·unfold a3a at h1;rw [n_0 hk] at h1;exact a7A hT h1
    ·unfold a3a at h1;rw [n_1 hk] at h1;exact a7i h1
structure c94 (l:List De):Prop where
 ok:∀ d∈l,DeG d
 nod:(l.map fun d=>(d.k,d.name)).Nodup
theorem b37 {T:List Tok} (hT:TG T):∀ (f n:Nat) (l:List De) (y:List De × Nat),c94 l->S7 f T n l=some y->c94 y.1
 | 0,n,l,y,_,h=>by cases h
 | f+1,n,l,y,hl,h=>by
  rw [S7] at h;split at h
  ·injection h with h
   subst h;exact hl
  ·obtain ⟨x,h1,h⟩:=c9 h;obtain ⟨g1,g2⟩:=d1k hT h1;refine b37 hT f _ _ y ⟨fun d hd=>?_,?_⟩ h
   ·rcases L8.1 hd with hd | hd
    ·exact hl.ok d hd
    ·simp at hd;subst hd;exact g1
   ·rw [a6H];refine a3L hl.nod fun hm=>?_;obtain ⟨d,hd,he⟩:=F4.1 hm;injection he with e1 e2
    have:=List.any_eq_false.1 g2 d hd;simp [e1,e2] at this
structure d9f (pkg:Str) (l:List Str):Prop where
 g:a9w l
 p:pkg∉l
theorem b6W {T:List Tok} (hT:TG T) {pkg:Str}:∀ (f n:Nat) (l:List Str) (y:List Str × Nat),d9f pkg l->a1p f T pkg n l=some y->d9f pkg y.1
 | 0,n,l,y,_,h=>by cases h
 | f+1,n,l,y,hl,h=>by
  rw [a1p] at h;split at h
  ·split at h
   ·cases h
   ·rename_i h8;obtain ⟨x,h1,h⟩:=c9 h;split at h
    ·cases h
    ·rename_i dX;obtain ⟨m,_,h⟩:=c9 h;refine b6W hT f _ _ y ⟨hl.g.snoc (a7A hT h1) h8 fun hm=>dX (.inr hm),fun hm=>?_⟩ h
     rcases L8.1 hm with hm | hm
     ·exact hl.p hm
     ·simp at hm;exact dX (.inl hm.symm)
  ·injection h with h
   subst h;exact hl
theorem d1s {T:List Tok} (hT:TG T) {x:Src} (h:a1e T=some x):a2b x:=by
 have aj:=b4l h;unfold a1e at h;obtain ⟨n1,_,h⟩:=c9 h;obtain ⟨w,h1,h⟩:=c9 h;obtain ⟨n2,_,h⟩:=c9 h;obtain ⟨y,h2,h⟩:=c9 h;obtain ⟨z,h3,h⟩:=c9 h;injection h with h
 subst h;have hi:=b6W hT _ _ _ _ ⟨a5J,fun h=>(by cases h)⟩ h2;have hd:=b37 hT _ _ _ _ (⟨fun d h=>(by cases h),List.nodup_nil⟩:c94 []) h3;exact ⟨a7A hT h1,hi.g.ok,hi.g.len,hi.g.nod,hi.p,hd.ok,aj,hd.nod⟩
theorem a8Y {x:Src} (h:Q0 s=some x):a2b x:=by
 unfold Q0 at h;obtain ⟨T,h1,h2⟩:=c9 h;exact d1s (d4d h1) h2
abbrev tU8:Nat:=5
def a5w (T:TypeId) (n:Nat):Prop:=liesAt CC.P CC.P.depth T (n / CC.P.cellsOf T) 0 244 1=true
def d5z (q:Nat):Bool->CV
 | true=>.ptr q 0
 | false=>.val (.pointer none)
def F7 (T:TypeId) (q s:Nat) (a:Bool) (l:Str) (rest:List CV):b9:=.boxT (some T) (d5z q a::a0Y l s::rest)
def bSt (T:TypeId) (a:Bool) (l:Str) (rest:List CV):List b9:=[F7 T 0 1 a l rest,A3 tU8 l.length]
def a8K (T:TypeId) (l:Str) (rest:List CV):List b9:=[F7 T 0 2 true l rest,.dead,A3 tU8 l.length]
theorem c9M (hT:a5w T (rest.length+2)) (l:Str):b8 CC 246 [.ptr 0 0] (bSt T false l rest) fun r τ=>r = .ret (.tup [])/\τ=bSt T true l rest:=by
 refine qO c7V ?_;refine qY (c5q rfl tt rfl c7S) ?_;refine qC ?_ ?_<;>intro h1
 ·refine qY (c1A rfl tt rfl rfl (Nat.succ_pos _) 244 o7 o7 o7) ?_;refine qY (d8i (e:=Extern.AbiNoEscape.same) rfl Tryz.func285 rfl rfl rfl rfl tt rfl (fun v w=>rfl)) ?_;refine qY (b4J rfl tt rfl rfl 244 o7 o7 o7 hT) ?_;refine qD (j2 rfl tt tt rfl j3 Tryz.sizeOf242 (.inl rfl) rfl rfl (nb rfl) ?_);exact ⟨_,rE0,⟨rfl,rfl⟩⟩
 ·cases h1
theorem c7L (l:Str):b8 CC 246 [.ptr 0 0] (bSt T true l rest) fun r τ=>r = .ret (.tup [])/\τ=bSt T true l rest:=by
 refine qO c7V ?_;refine qY (b6B rfl tt rfl c7S) ?_;refine qC ?_ ?_<;>intro h1
 ·cases h1
 ·refine qY (b4D rfl tt tt rfl rfl 244 o7 o7) ?_;refine qC ?_ ?_<;>intro h2
  ·cases h2
  ·exact ⟨_,rE0,⟨rfl,rfl⟩⟩
theorem b45 (hT:a5w T (rest.length+2)) (a:Bool) (l:Str):b8 CC 246 [.ptr 0 0] (bSt T a l rest) fun r τ=>∃ _:Unit,r = .ret (.tup [])/\τ=bSt T true l rest/\True:=by
 cases a
 ·exact (c9M hT l).mono fun r τ h=>⟨(),h.1,h.2,tt⟩
 ·exact (c7L l).mono fun r τ h=>⟨(),h.1,h.2,tt⟩
theorem b2P (hT:a5w T (rest.length+2)) (a:Bool) (l:Str) (c:UInt8) (hl:l.length < 140737488355328):b8 CC 306 [.ptr 0 0,.val (.int .u8 c.toNat)] (bSt T a l rest) fun r τ=>∃ _:Unit,r = .ret (.val .nilIface)/\τ=a8K T (l++[c]) rest/\True:=by
 refine qO Tryz.func306 ?_;refine qD (c4 rfl c2t ⟨tt,tt⟩ (b45 hT a l) rfl ?_);intro _ _;refine qY d9r ?_;refine qD (a35 (l:=l) (new:=[c]) (p:=1) rfl tt tt rfl (fun M w v hr h=>(a5y (V:=[bcv c]) rfl (by intro r hr;simp at hr;subst hr;rfl) M w v hr h).any) X7 a1w b1j a4d rfl (.inl X7) rfl rfl a84 ?_);refine qD (j2 rfl tt tt rfl j3 b6K (.inl rfl) rfl rfl (nb rfl) ?_);exact c7l
theorem a96 (hT:a5w T (rest.length+2)) (a:Bool) (l:Str) (s:Str) (hl:l.length+s.length<=140737488355328):b8 CC 200 [.ptr 0 0,sv s] (bSt T a l rest) fun r τ=>∃ _:Unit,r = .ret (.tup [iv s.length,.val .nilIface])/\τ=a8K T (l++s) rest/\True:=by
 refine qO Tryz.func200 ?_;refine qD (c4 rfl c2t ⟨tt,tt⟩ (b45 hT a l) rfl ?_);intro _ _;refine qD (a35 (l:=l) (new:=s) (p:=1) rfl tt tt rfl (b44 rfl) X7 a1w b1j a4d rfl (.inr t_7) rfl rfl a84 ?_);refine d7a ?_;exact d6a
theorem c00 (a:Bool) (c:UInt8) (l:Str):b8 CC 202 [.ptr 0 0] (bSt T a (c::l) rest) fun r τ=>r = .ret (sv (c::l))/\τ=[F7 T 0 1 a (c::l) rest,.dead]:=by
 refine qO Tryz.func202 ?_;refine b4t ?_;refine b3P ?_;refine hY (b6w rfl tt rfl si_) ?_;refine a5g ?_;refine b3P ?_;refine hY a81 ?_;refine X2 ?_;refine qD ((b1d (q:=1) (k:=0) (i:=1) (l:=c::l)) rfl tt tt rfl rfl rfl rfl rfl si_ o7 o7 ?_);refine c6 ?_;exact ⟨_,rE1,⟨rfl,rfl⟩⟩
theorem c0w (a:Bool):b8 CC 202 [.ptr 0 0] (bSt T a [] rest) fun r τ=>r = .ret (sv [])/\τ=[F7 T 0 1 a [] rest,.dead]:=by
 refine qO Tryz.func202 ?_;refine b4t ?_;refine b3P ?_;refine hY (b5p rfl tt rfl) ?_;refine a5g ?_;refine b3P ?_;refine hY a81 ?_;refine X2 ?_;refine qD (a90 rfl tt tt rfl rfl ?_);refine c6 ?_;exact ⟨_,rE1,⟨rfl,rfl⟩⟩
def BAt (σ:List b9) (q s:Nat) (T:TypeId) (a:Bool) (l:Str) (rest:List CV):Prop:=σ[q]? = some (F7 T q s a l rest)/\σ[s]? = some (A3 tU8 l.length)/\q≠s
theorem a1I (l:Str):∀ r∈l.map bcv,∀ c∈r,r4 c:=fun r hr c hc=>by
 obtain ⟨b,_,rfl⟩:=F4.1 hr;simp [bcv] at hc;subst hc;exact .val _
theorem b0L {s s':Nat} (h:R s s'):Q1 R (a0Y l s) (a0Y l s'):=by
 refine .list rfl (fun i r r' h1 h2=>by rw [h1] at h2;injection h2 with h2;rw [h2]) (fun i j r r' c c' h1 h2 h3 h4=>?_) ?_
 ·rw [h1] at h2;injection h2 with h2;subst h2;rw [h3] at h4;injection h4 with h4;subst h4
  exact .pure (a1I l r (n_2 h1) c (n_2 h3))
 ·cases hb:l.length with
  | zero=>exact .inl ⟨rfl,rfl⟩
  | succ m=>exact .inr ⟨s,s',rfl,rfl,h⟩
theorem a7J {q' s s':Nat} (hq:R q q') (h:R s s') (hr:∀ c∈rest,r4 c):I4 R (F7 T q s a l rest) (F7 T q' s' a l rest):=by
 refine .box (.cons ?_ (.cons (b0L h) (L3 hr)));cases a
 ·exact .pure (.val _)
 ·exact .ptr hq
theorem a23 (t:TypeId) (m:Nat):I4 R (A3 t m) (A3 t m):=by
 cases m with
 | zero=>exact .dead
 | succ m=>exact .tip _
theorem b9Z {α:Type} {f:FuncId} {args:List CV} {c:α->CV} {l':α->Str} {rest':α->List CV} {P:α->Prop} (ao:∀ a∈args,r4 a) (hc:∀ x,P x->r4 (c x)) (hr:∀ c∈rest,r4 c) (bt:∀ x,P x->∀ c∈rest' x,r4 c)
 (h:b8 CC f (.ptr 0 0::args) (bSt T a l rest) fun r τ=>∃ x,r = .ret (c x)/\τ=a8K T (l' x) (rest' x)/\P x) {σ:List b9} {q s:Nat} (am:BAt σ q s T a l rest) :
 b8 CC f (.ptr q 0::args) σ fun r τ=>∃ x,r = .ret (c x)/\τ=(σ.set q (F7 T q σ.length true (l' x) (rest' x))).set s .dead++[A3 tU8 (l' x).length]/\P x:=by
 obtain ⟨h1,h2,h3⟩:=am;have hq:=(n_3.1 h1).1;have hs:=(n_3.1 h2).1;refine I3 [q,s] hCC rfl (fun i j k g1 g2=>?_) (fun i k ob g1 g2=>?_) (.cons (.ptr rfl) (L3 ao)) h fun r τ hk=>?_
 ·rcases i with _ | _ | i<;>rcases j with _ | _ | j<;>simp at g1 g2<;>first|rfl|(exfalso;exact h3 (g1.trans g2.symm))|(exfalso;exact h3 (g2.trans g1.symm))
 ·rcases i with _ | _ | i
  ·simp [bSt] at g1 g2;subst g1 g2;exact ⟨_,h1,a7J rfl rfl hr⟩
  ·simp [bSt] at g1 g2;subst g1 g2;exact ⟨_,h2,a23 _ _⟩
  ·simp at g1
 ·obtain ⟨x,rfl,rfl,hp⟩:=hk;refine ⟨by simp [bSt,a8K],.ret (c x),(σ.set q (F7 T q σ.length true (l' x) (rest' x))).set s .dead++[A3 tU8 (l' x).length],(.ret (.pure (hc x hp))),by simp [bSt,a8K],fun k hk bA=>?_,fun i k y ha hx=>?_,x,rfl,rfl,hp⟩
  ·have n1:q≠k:=fun e=>bA a1Q;have n2:s≠k:=fun e=>bA a1Q;rw [R3 (sp_ hk)];simp [n1,n2]
  ·rcases ha with ha | ⟨ha,rfl⟩
   ·rcases i with _ | _ | i
    ·simp [a8K] at ha hx;subst ha hx;refine ⟨F7 T q σ.length true (l' x) (rest' x),?_,a7J (.inl rfl) (.inr ⟨si_,si_⟩) (bt x hp)⟩;rw [R3 (sp_ hq),a2i h3.symm];simp [hq]
    ·simp [a8K] at ha hx;subst ha hx;refine ⟨.dead,?_,.dead⟩;rw [R3 (sp_ hs)];simp [hs]
    ·simp at ha
   ·rcases i with _ | _ | _ | i
    ·simp at ha
    ·simp at ha
    ·simp [a8K] at hx;subst hx;refine ⟨A3 tU8 (l' x).length,?_,a23 _ _⟩;rw [a1f si_];simp
    ·simp [a8K] at hx
theorem a1y (hT:a5w T (rest.length+2)) (a:Bool) (l:Str) (hr:∀ c∈rest,r4 c) (c:UInt8) (hl:l.length < 140737488355328) {s:Nat} (am:BAt σ q s T a l rest) :
 b8 CC 306 [.ptr q 0,.val (.int .u8 c.toNat)] σ fun r τ=>∃ _:Unit,r = .ret (.val .nilIface)/\τ=(σ.set q (F7 T q σ.length true (l++[c]) rest)).set s .dead++[A3 tU8 (l++[c]).length]/\True :=
 b9Z (c:=fun _=>.val .nilIface) (l':=fun _=>l++[c]) (rest':=fun _=>rest) (fun a h=>by simp at h;subst h;exact .val _) (fun _ _=>.val _) hr (fun _ _=>hr) (b2P hT a l c hl) am
theorem A0 (hT:a5w T (rest.length+2)) (a:Bool) (l:Str) (hr:∀ c∈rest,r4 c) (s:Str) (hl:l.length+s.length<=140737488355328) (am:BAt σ q k T a l rest) :
 b8 CC 200 [.ptr q 0,sv s] σ fun r τ=>∃ _:Unit,r = .ret (.tup [iv s.length,.val .nilIface])/\τ=(σ.set q (F7 T q σ.length true (l++s) rest)).set k .dead++[A3 tU8 (l++s).length]/\True :=
 b9Z (c:=fun _=>.tup [iv s.length,.val .nilIface]) (l':=fun _=>l++s) (rest':=fun _=>rest) (fun a h=>by simp at h;subst h;exact .val _) (fun _ _=>D4 ⟨.val _,.val _,tt⟩) hr (fun _ _=>hr) (a96 hT a l s hl) am
theorem c0n (a:Bool) (l:Str):b8 CC 202 [.ptr 0 0] (bSt T a l rest) fun r τ=>∃ _:Unit,r = .ret (sv l)/\τ=[F7 T 0 1 a l rest,.dead]/\True:=by
 cases l with
 | nil=>exact (c0w a).mono fun r τ h=>⟨(),h.1,h.2,tt⟩
 | cons c l=>exact (c00 a c l).mono fun r τ h=>⟨(),h.1,h.2,tt⟩
theorem a26 (hr:∀ c∈rest,r4 c) (a:Bool) (l:Str) (am:BAt σ q k T a l rest):b8 CC 202 [.ptr q 0] σ fun r τ=>∃ _:Unit,r = .ret (sv l)/\τ=σ.set k .dead/\True:=by
 obtain ⟨h1,h2,h3⟩:=am;have hq:=(n_3.1 h1).1;have hs:=(n_3.1 h2).1;refine I3 [q,k] hCC rfl (fun i j k g1 g2=>?_) (fun i k ob g1 g2=>?_) (.cons (.ptr rfl) .nil) (c0n (T:=T) (rest:=rest) a l) fun r τ hk=>?_
 ·rcases i with _ | _ | i<;>rcases j with _ | _ | j<;>simp at g1 g2<;>first|rfl|(exfalso;exact h3 (g1.trans g2.symm))|(exfalso;exact h3 (g2.trans g1.symm))
 ·rcases i with _ | _ | i
  ·simp [bSt] at g1 g2;subst g1 g2;exact ⟨_,h1,a7J rfl rfl hr⟩
  ·simp [bSt] at g1 g2;subst g1 g2;exact ⟨_,h2,a23 _ _⟩
  ·simp at g1
 ·obtain ⟨x,rfl,rfl,hp⟩:=hk;refine ⟨by simp [bSt],.ret (sv l),σ.set k .dead,.ret (.pure (.val _)),by simp [bSt],fun j hj hjs=>?_,fun i j y ha hx=>?_,x,rfl,rfl,hp⟩
  ·have n2:k≠j:=fun e=>hjs a1Q;simp [n2]
  ·rcases ha with ha | ⟨ha,rfl⟩
   ·rcases i with _ | _ | i
    ·simp at ha hx;subst ha hx;exact ⟨_,by rw [a2i h3.symm];exact h1,a7J (.inl rfl) (.inl rfl) hr⟩
    ·simp at ha hx;subst ha hx;exact ⟨.dead,by simp [hs],.dead⟩
    ·simp at ha
   ·rcases i with _ | _ | i<;>simp at ha hx
theorem b3A {τ:List b9} {c:CV} (h0:τ[0]? = some (F7 T 0 k true l rest)) (hk:τ[k]? = some (A3 tU8 l.length)) (h2:2<=k) (hr:∀ c∈rest,r4 c) (hc:Old 2 c):E8 2 τ (.ret c) (.ret c) (a8K T l rest):=by
 have k1:a6l 2 [0,1,k]=true:=rfl;have k2:a0t [0,1,k]=true:=by
  have e0:(k == 0)=false:=by simp;omega
  have e1:(k == 1)=false:=by simp;omega
  have e2:(0 == k)=false:=by simp;omega
  have e3:(1 == k)=false:=by simp;omega
  simp [a0t];omega
 refine ⟨[0,1,k],k1,k2,.ret (.old hc),.inr ⟨_,h0,.box ⟨.old (.ptr de_),.list (fun r hr c hc=>(a1I l r hr c hc).old) ?_,?_⟩⟩,.inl rfl,.inr ⟨_,hk,.same rfl (b3q _ _ _)⟩,tt⟩
 ·intro j hj;cases hb:l.length with
  | zero=>rw [hb] at hj;cases hj
  | succ m=>rw [hb] at hj;injection hj with hj;subst hj;exact ⟨k,rfl,rfl⟩
 ·have:∀ l:List CV,(∀ c∈l,r4 c)->b48 2 l:=fun l=>by
   induction l with
   | nil=>intro _;trivial
   | cons x l ih=>intro h;exact ⟨(h x si_).old,ih fun c hc=>h c (by simp [hc])⟩
  exact a8c (this rest hr)
theorem d8N {C:Ctx} {M:A9} {w:World} {s:Nat} (hr:Rel C M σ w) (am:BAt σ q s T a l rest):∃ M',Ext M w M' w/\Rel C M' ((σ.set q (F7 T q σ.length a l rest)).set s .dead++[A3 tU8 l.length]) w:=by
 obtain ⟨h1,h2,h3⟩:=am;have hq:=(n_3.1 h1).1;have hs:=(n_3.1 h2).1;cases l with
 | nil =>
  rw [show σ.set q (F7 T q σ.length a [] rest)=σ from a1T h1,show σ.set s b9.dead=σ from a1T h2];obtain ⟨aF,bb⟩:=hr.addDead ⟨0,0,0⟩;exact ⟨_,bb,aF⟩
 | cons x l =>
  obtain ⟨ps,cm⟩:∃ p,M.pl[s]? = some p:=⟨_,a09 (by rw [hr.len];exact hs)⟩;obtain ⟨pq,hpq⟩:∃ p,M.pl[q]? = some p:=⟨_,a09 (by rw [hr.len];exact hq)⟩;obtain ⟨⟨bm,_⟩,_⟩:=hr.obj s ps _ cm h2;obtain ⟨bb,aF⟩:=hr.tipNew (m:=(x::l).length) cm h2 (n_7 _) bm;have hpq':(M.add ps).pl[q]? = some pq:=bb.get hpq;have hps':(M.add ps).pl[s]? = some ps:=bb.get cm;have hpn:(M.add ps).pl[σ.length]? = some ps:=by simp [A9.add,<- hr.len]
  have hbq:(σ.set s b9.dead++[b9.tipT (some tU8) (x::l).length])[q]? = some (F7 T q s a (x::l) rest):=by
   rw [R3 (sp_ hq),a2i h3.symm,h1]
  obtain ⟨⟨arr,ty,e1,e2,e3,e4⟩,hf,bZ⟩:=aF.obj q pq _ hpq' hbq;have aR:∀ (i:Nat) (c:CV),(d5z q a::a0Y (x::l) σ.length::rest)[i]? = some c->RV (M.add ps) w c (arr.getD i undef):=fun i c hi=>by
   rcases i with _ | _ | i
   ·exact e4 0 c hi
   ·injection hi with hi
    subst hi;have hl:=e4 1 _ rfl;obtain ⟨a',cap',b',off',s'',fE,fu,q1,q2,q3,q4,q5,q6,q7,q8,q9,q10⟩:=hl.list_inv;rw [fu];refine RV.list' (L:=((x::l).map bcv).length) rfl fE q1 q2 (by rw [q3]) (fun h=>by cases h) q5 q6 q7 q8 q9 (fun k' aJ=>?_);obtain ⟨s3,g1,g2,g3,g4⟩:=q10 s rfl;injection aJ with aJ
    subst aJ;refine ⟨s3,?_,g2,g3,g4⟩;rw [hps'] at g1;rw [hpn,g1]
   ·exact e4 (i+2) c hi
  have hro:R5 (M.add ps) w pq (F7 T q σ.length a (x::l) rest):=⟨arr,ty,e1,e2,fun c hc=>by
   rcases J5.1 hc with rfl | hc
   ·cases a<;>rfl
   ·rcases J5.1 hc with rfl | hc
    ·rfl
    ·exact e3 c (a8g _ (a8g _ hc)),aR⟩
  have hfin:=aF.putObj (ob:=F7 T q σ.length a (x::l) rest) hpq' hbq rfl hf bZ (.cells arr ((some T).getD ty) (0,0)) (by rw [World.putObj_self w e1];exact hro);rw [World.putObj_self w e1] at hfin;refine ⟨_,bb,?_⟩;have aW:(σ.set s b9.dead++[b9.tipT (some tU8) (x::l).length]).set q (F7 T q σ.length a (x::l) rest)=(σ.set q (F7 T q σ.length a (x::l) rest)).set s .dead++[A3 tU8 (x::l).length]:=by
   rw [List.set_append_left _ _ (sp_ hq),List.set_comm _ _ h3.symm];rfl
  rw [<- aW];exact hfin
theorem d2Y {C:Ctx} {c:Code} {Q:D5->Env->List b9->Prop} {E:Env} (T:TypeId) (q s:Nat) (a:Bool) (l:Str) (rest:List CV) (am:BAt σ q s T a l rest) (h:CWp C n c Q E ((σ.set q (F7 T q σ.length a l rest)).set s .dead++[A3 tU8 l.length])):CWp C n c Q E σ:=fun M w ac hr hf=>by
 obtain ⟨M',h1,h2⟩:=d8N hr am;exact wp_mono (h _ w ac h2 (hf.mono h1)) fun _ _ _=>W2.later h1
end Go.Proofs.YtlppbmfecjabeaaGreatDoor
namespace Go.Proofs
open Go.Shelf
def Tryz.laysM171_ren:Go.Shelf.Ren:=⟨fun | 171=>113 | 243=>157 | 246=>203 | 283=>248 | 284=>249 | 285=>250 | 286=>251 | 129=>217 | 317=>287 | 318=>288 | 319=>289 | 320=>290 | 337=>309 | 338=>310 | n=>n,fun | 3=>3 | 9=>9 | 2=>2 | 4=>4 | 171=>282 | 0=>0 | 53=>86 | 37=>149 | 5=>5 | 173=>284 | 212=>313 | 51=>262 | 20=>20 | 213=>314 | 46=>141 | 232=>331 | 233=>332 | n=>n,fun | 17=>1 | 18=>2 | 19=>3 | n=>n⟩
theorem Tryz.laysM171:Go.Proofs.LaysM.n171 Tryz.prog Tryz.laysM171_ren:={
 mixed:=by kernel_rfl
 f129:=c9Y.trans (n_8 some o7)
 f171:=Tryz.func113.trans (n_8 some o7)
 f243:=Tryz.func157.trans (n_8 some o7)
 f246:=Tryz.func203.trans (n_8 some o7)
 f283:=Tryz.func248.trans (n_8 some o7)
 f284:=Tryz.func249.trans (n_8 some o7)
 f285:=Tryz.func250.trans (n_8 some o7)
 f286:=Tryz.func251.trans (n_8 some o7)
 f317:=Tryz.func287.trans (n_8 some o7)
 f318:=Tryz.func288.trans (n_8 some o7)
 f319:=Tryz.func289.trans (n_8 some o7)
 f320:=Tryz.func290.trans (n_8 some o7)
 f337:=Tryz.func309.trans (n_8 some o7)
 f338:=Tryz.func310.trans (n_8 some o7)
 t0:=c98
 a0:=d1L
 z0:=c7K
 v0:=c9D
 t2:=Tryz.underlying2
 a2:=Tryz.isAgg2
 z2:=Tryz.sizeOf2
 v2:=Tryz.zeroValue2
 t3:=b7L
 a3:=a2l
 z3:=t_1
 v3:=t_8
 t4:=c8Z
 a4:=c3c
 z4:=c1U
 v4:=c6z
 t5:=d1G
 a5:=c8w
 z5:=a1w
 v5:=a4d
 t9:=b9r
 a9:=t_9
 z9:=t_0
 v9:=t_3
 t20:=Tryz.underlying20
 a20:=Tryz.isAgg20
 z20:=Tryz.sizeOf20
 v20:=Tryz.zeroValue20
 t37:=Tryz.underlying149
 a37:=Tryz.isAgg149
 z37:=b6K
 v37:=Tryz.zeroValue149
 t46:=c91
 a46:=c9x
 z46:=c66
 v46:=c7x
 t51:=c6G
 a51:=c8I
 z51:=c7I
 v51:=c9W
 t53:=c7t
 a53:=c8O
 z53:=d0g
 v53:=d0V
 t171:=Tryz.underlying282
 a171:=Tryz.isAgg282
 z171:=Tryz.sizeOf282
 v171:=Tryz.zeroValue282
 t173:=Tryz.underlying284
 a173:=Tryz.isAgg284
 z173:=Tryz.sizeOf284
 v173:=Tryz.zeroValue284
 t212:=Tryz.underlying313
 a212:=Tryz.isAgg313
 z212:=Tryz.sizeOf313
 v212:=Tryz.zeroValue313
 t213:=Tryz.underlying314
 a213:=Tryz.isAgg314
 z213:=Tryz.sizeOf314
 t232:=Tryz.underlying331
 a232:=Tryz.isAgg331
 z232:=Tryz.sizeOf331
 v232:=Tryz.zeroValue331
 t233:=Tryz.underlying332
 a233:=Tryz.isAgg332
 z233:=Tryz.sizeOf332
 v233:=Tryz.zeroValue332
 g17:=by kernel_rfl
 g18:=by kernel_rfl
 g19:=by kernel_rfl
 i0:=by kernel_rfl
 i2:=by kernel_rfl
 i3:=by kernel_rfl
 i4:=by kernel_rfl
 i5:=by kernel_rfl
 i9:=by kernel_rfl
 i20:=by kernel_rfl
 i37:=by kernel_rfl
 i46:=by kernel_rfl
 i51:=by kernel_rfl
 i53:=by kernel_rfl
 i171:=by kernel_rfl
 i173:=by kernel_rfl
 i212:=by kernel_rfl
 i232:=by kernel_rfl
 i233:=by kernel_rfl
 m17:=by kernel_rfl
 m18:=by kernel_rfl
 m19:=by kernel_rfl}
end Go.Proofs
namespace Go.Proofs.YtlppbmfecjabeaaGreatDoor
open Go Go.Cl
variable {d:De} {i n s m w q1 q2 t:Nat} {k o u b:Int} {E:List Ex} {fl:List Fi} {l nm l' pkg:Str} {ms:SM} {ps br:List Str} {ch:List Tr} {T:TypeId} {rest:List CV} {σ:List b9} {nn en va pn a:Bool} {x:Str × Src} {L:List (Str × Src)} {me:EM} {ak:List Nat} {c:Tr}
theorem c0q (n:Int) (h0 : -9223372036854775808<=n) (h1:n<=9223372036854775807) (σ:List b9):b8 CC 113 [iv n] σ fun r Y=>r = .ret (sv (Lib.itoa n))/\Y=σ :=
 b0J (fun M σ w vs hr hn hx=>by
  have hv:vs = #[.int .i64 n]:=by
   refine b5g fun i=>?_
   rcases i with _ | i
   ·have h:=r3 (hx 0 _ rfl);have hs:0 < vs.size:=by rw [hn];exact Nat.succ_pos _
    simp only [a0H,a1j hs,a8S] at h;rw [a1j hs,h];rfl
   ·have hs:vs.size<=i+1:=by rw [hn];show 1<=i+1;omega
    rw [a9E hs];rfl
  subst hv;have ht:Lib.pow10Tab=[1,10,100,1000,10000,100000,1000000,10000000,100000000,1000000000,10000000000,100000000000,1000000000000,10000000000000,100000000000000,1000000000000000,10000000000000000,100000000000000000,1000000000000000000,10000000000000000000]:=by decide
  refine Any.strconv_Itoa Tryz.laysM171 n h0 h1 w ?_;rw [ht];exact GV.tab (C:=CC) (hr.glob 1 b90 rfl) o7) σ
theorem b7V {u:Nat} (hn:0 < n) (h:u < 10^n):(Lib.decDigits u).length<=n:=by
 induction n generalizing u with
 | zero=>omega
 | succ n ih =>
  rw [Lib.decDigits]
  split
  ·simp
  ·rcases b20 n with rfl | hn
   ·omega
   ·have:=ih (u:=u / 10) hn (by rw [Nat.pow_succ] at h;omega);simp;omega
theorem a5r {n:Int} (h0 : -9223372036854775808<=n) (h1:n<=9223372036854775807):(Lib.itoa n).length<=20:=by
 unfold Lib.itoa
 split
 ·have:=b7V (u:=n.natAbs) (n:=19) om_ om_;simp;omega
 ·have:=b7V (u:=n.toNat) (n:=19) om_ om_;omega
def a3Y (k o:Int):Int:=if k=5 then 0 else if k=4 then F6 o else 4
theorem b2q (x:Ex) (σ:List b9):b8 CC 305 [.agg x.cells] σ fun r Y=>r = .ret (iv (a3Y x.k x.op))/\Y=σ:=by
 refine b8.anyw hCC pu_ pu_ (c7 (qO Tryz.func305 ?_)) σ;refine qD (G8 rfl tt j3 j6 ?_);refine qC ?_ ?_<;>intro h1
 ·have u1:x.k=5:=sp_ h1;exact d6N
 ·have u1:¬ x.k=5:=sp_ h1;refine qC ?_ ?_<;>intro h2
  ·have u2:x.k=4:=sp_ h2;refine qY (c5 rfl Tryz.call319 ⟨tt,tt⟩ (a8f x.op _) rfl) ?_;refine c6 ?_;exact ⟨_,rE1,_,_,rfl,rfl,D2 (by rw [a3Y,n_0 u1,n_1 u2])⟩
  ·have u2:¬ x.k=4:=sp_ h2;exact d5u
def sgn (o:Int):Str:=(glk S0 o).getD []
def a6y (k:Int):Str:=if k=7 then [115,105,122,101] else if k=8 then [104,97,115] else if k=9 then [101,110,118] else []
def J8 (sep:Str):List Str->Str
 | []=>[]
 | [x]=>x
 | x::y::l=>x++sep++J8 sep (y::l)
def ndT (ps:List Str) (k u o:Int) (nm:Str) (cs:List Str):Str :=
 if k=1 then Lib.itoa u else if k=2 then ps.getD u.toNat [] else if k=4 then cs.getD 0 []++([32]++sgn o++[32])++cs.getD 1 [] else if k=5 then [105,102,32]++cs.getD 0 []++[32,116,104,101,110,32]++cs.getD 1 []++[32,101,108,115,101,32]++cs.getD 2 []
 else if k=3 then nm++[40]++J8 [44,32] cs++[41] else if k=6 then [114,101,97,100,40,34]++nm++[34,44,32]++cs.getD 0 []++[41] else if k=10 then [102,108,105,112,40]++Lib.itoa u++[41] else a6y k++([40,34]++nm++[34,41])
def a0R (k o:Int):List Int:=if k=4 then [if F6 o=1 then F6 o+1 else F6 o,F6 o+1] else []
mutual
def Tr.txt (ps:List Str):Tr->Int->Str
 | .n k u o nm ch,pl=>if a3Y k o < pl then [40]++ndT ps k u o nm (I7 ps ch (a0R k o))++[41] else ndT ps k u o nm (I7 ps ch (a0R k o))
def I7 (ps:List Str):List Tr->List Int->List Str
 | [],_=>[]
 | t::l,cq=>t.txt ps (cq.headD 0)::I7 ps l cq.tail
end
theorem a4H (ps:List Str):∀ (l:List Tr) (cq:List Int),(I7 ps l cq).length=l.length
 | [],_=>rfl
 | t::l,cq=>by rw [I7,C5,a4H ps l,C5]
theorem a0A (ps:List Str):∀ (l:List Tr) (cq:List Int) (m:Nat) (c:Tr),l[m]? = some c->(I7 ps l cq)[m]? = some (c.txt ps (cq.getD m 0))
 | [],_,_,_,h=>by simp at h
 | t::l,cq,0,c,h=>by
  injection h with h
  subst h;rw [I7];cases cq<;>rfl
 | t::l,cq,m+1,c,h=>by
  rw [I7,c1Z,a0A ps l cq.tail m c h];cases cq<;>rfl
def a8s (E:List Ex) (t:Tr) (s:Nat):Prop:=∃ E0 E1,E=E0++t.flat s++E1/\E0.length=s
theorem a8s.node (h:a8s E (.n k u o nm ch) s):E[s+z8 ch]? = some ⟨k,u,o,nm,o4 ch s⟩:=by
 obtain ⟨E0,E1,rfl,rfl⟩:=h;rw [Tr.flat,D7,a1f om_,D7,a1f (by rw [R0];omega),R0];rw [show E0.length+z8 ch - E0.length - z8 ch=0 by omega];rfl
theorem a9p:∀ (l:List Tr) (m s:Nat) (c:Tr),l[m]? = some c->∃ X,J9 l s=J9 (l.take m) s++c.flat (s+z8 (l.take m))++X
 | [],_,_,_,h=>by simp at h
 | t::l,0,s,c,h=>by
  injection h with h
  subst h;exact ⟨_,rfl⟩
 | t::l,m+1,s,c,h=>by
  obtain ⟨X,hX⟩:=a9p l m (s+t.size) c h;refine ⟨X,?_⟩;rw [J9,hX,a8P,J9,z8,a8T];simp only [D7]
theorem a8s.child (h:a8s E (.n k u o nm ch) s) (hc:ch[m]? = some c):a8s E c (s+z8 (ch.take m)):=by
 obtain ⟨E0,E1,rfl,rfl⟩:=h;obtain ⟨X,hX⟩:=a9p ch m E0.length c hc;refine ⟨E0++J9 (ch.take m) E0.length,X++[⟨k,u,o,nm,o4 ch E0.length⟩]++E1,?_,?_⟩
 ·rw [Tr.flat,hX];simp only [D7]
 ·rw [n_6,R0]
theorem a2Z {l:List Tr} (h:l[m]? = some c):c.size<=z8 l:=by
 induction l generalizing m with
 | nil=>simp at h
 | cons t l ih =>
  rw [z8]
  rcases m with _ | m
  ·injection h with h;subst h;omega
  ·have:=ih h;omega
abbrev TW:Nat:=309
theorem a2q:a5w TW 5:=by unfold a5w;kernel_rfl
def WR (E:List Ex) (ps:List Str) (en pn:Bool) (d:Int):List CV:=[.list (E.map Ex.cv) en none,.list (ps.map scv) pn none,iv d]
theorem F8 (E:List Ex) (ps:List Str) (en pn:Bool) (d:Int):∀ c∈WR E ps en pn d,r4 c:=fun c hc=>by
 simp only [WR,J5,a7v,or_false] at hc
 rcases hc with rfl | rfl | rfl
 ·exact a0q _ _
 ·exact F5 _ _
 ·exact .val _
def WEG (E:List Ex) (ps:List Str) (en pn:Bool) (t:Tr) (s:Nat) (ok:Int->Prop):Prop:=∀ (pl dp:Int) (a:Bool) (b:Str) (d:Int),ok pl->0<=dp->dp+2*t.size+1<=1000000000->b.length+(t.txt ps pl).length<=100000000000000->∀ (σ:List b9) (q k:Nat),BAt σ q k TW a b (WR E ps en pn d) ->
 b8 CC 284 [.ptr q 0,iv ((s+t.size - 1:Nat):Int),iv pl,iv dp] σ fun r τ=>∃ d':Int,r = .ret (.tup [])/\τ=(σ.set q (F7 TW q σ.length true (b++t.txt ps pl) (WR E ps en pn d'))).set k .dead++[A3 tU8 (b++t.txt ps pl).length]/\True
theorem b1J {pl dp:Int} {T:Str} {b:Str} {d:Int} (h:b8 CC 284 [.ptr 0 0,iv i,iv pl,iv dp] (bSt TW a b (WR E ps en pn d)) fun r τ=>∃ d':Int,E8 2 τ r (.ret (.tup [])) (a8K TW (b++T) (WR E ps en pn d'))/\True)
 (σ:List b9) (q k:Nat) (am:BAt σ q k TW a b (WR E ps en pn d)):b8 CC 284 [.ptr q 0,iv i,iv pl,iv dp] σ fun r τ=>∃ d':Int,r = .ret (.tup [])/\τ=(σ.set q (F7 TW q σ.length true (b++T) (WR E ps en pn d'))).set k .dead++[A3 tU8 (b++T).length]/\True :=
 b9Z (c:=fun _:Int=>.tup []) (l':=fun _=>b++T) (rest':=fun d'=>WR E ps en pn d') (P:=fun _=>True) (fun a h=>by simp at h;rcases h with rfl | rfl | rfl<;>exact .val _) (fun _ _=>D4 trivial) (F8 _ _ _ _ _) (fun _ _=>F8 _ _ _ _ _)
  (I5 hCC (h.mono fun r τ hh=>by
   obtain ⟨d',h1,h2⟩:=hh;exact ⟨_,_,h1,d',rfl,rfl,tt⟩)) am
def W3:List Str:=[[105,102,32],[32,116,104,101,110,32],[32,101,108,115,101,32]]
def ifP:List Str->Nat->Str
 | _,0=>[]
 | cs,m+1=>ifP cs m++W3.getD m []++cs.getD m []
def G0 (sep:Str) (cs:List Str) (m:Nat):Str:=J8 sep (cs.take m)
theorem Z4 {sep:Str} {cs:List Str} {c:Str} (h:cs[m]? = some c):G0 sep cs (m+1)=G0 sep cs m++(if m=0 then [] else sep)++c:=by
 unfold G0;have:∀ (cs:List Str) (m:Nat) (c:Str),cs[m]? = some c->J8 sep (cs.take (m+1))=J8 sep (cs.take m)++(if m=0 then [] else sep)++c:=by
  intro cs
  induction cs with
  | nil=>intro m c h;simp at h
  | cons x l ih =>
   intro m c h
   rcases m with _ | m
   ·simp at h;subst h;simp [J8]
   ·rw [a8P,a8P];have:=ih m c (sp_ h)
    rcases l with _ | ⟨y,l⟩
    ·simp at h
    ·rcases m with _ | m
     ·simp only [a8P,List.take_zero,J8] at this ⊢;simp at this ⊢;simpa using h
     ·simp only [a8P,J8] at this ⊢;rw [this];simp
 exact this cs m c h
theorem b4S {β:Type} {k:Int} {y:β}:∀ {l:List (Int × β)},glk l k=some y->(k,y)∈l
 | [],h=>by cases h
 | (b,c)::l,h=>by
  rw [glk] at h;split at h
  ·rename_i e;injection h with h
   subst h e;simp
  ·exact a8g _ (b4S h)
theorem d8l (h:m < 3):∃ w,W3[m]? = some w:=by
 match m,h with
 | 0,_=>exact ⟨_,rfl⟩
 | 1,_=>exact ⟨_,rfl⟩
 | 2,_=>exact ⟨_,rfl⟩
theorem b8n:∀ l:List Tr,l.length<=z8 l
 | []=>n_7 _
 | t::l=>by rw [z8,C5];have:=b8n l;have:=t.size_pos;omega
def kp (ph:Bool):Nat:=match ph with | false=>3 | true=>4
def op1 (ph:Bool) (m:Nat):b9:=match ph with | false=>A3 tU8 m | true=>.dead
def op2 (ph:Bool) (m:Nat):b9:=match ph with | false=>.dead | true=>A3 tU8 m
theorem a6C {L:Nat} {s':Nat} (hL:0 < L) (hs:ak[s']? = some s) (hr:∀ c∈rest,r4 c) (he:l=l'):b1g L ak (F7 T 0 s a l rest) (F7 T 0 s' a l' rest):=by
 subst he;refine .box ⟨?_,.list (fun r hr c hc=>(a1I l r hr c hc).old) (fun j hj=>?_),?_⟩
 ·cases a
  ·exact .old (.val _)
  ·exact .old (.ptr hL)
 ·cases hb:l.length with
  | zero=>rw [hb] at hj;cases hj
  | succ m=>rw [hb] at hj;injection hj with hj;subst hj;exact ⟨s,rfl,hs⟩
 ·have:∀ l:List CV,(∀ c∈l,r4 c)->b48 L l:=fun l=>by
   induction l with
   | nil=>intro _;trivial
   | cons x l ih=>intro h;exact ⟨(h x si_).old,ih fun c hc=>h c (by simp [hc])⟩
  exact a8c (this rest hr)
theorem T7 {L:Nat} (he:l=l'):b1g L ak (A3 tU8 l.length) (A3 tU8 l'.length):=he ▸ .same rfl (b3q _ _ _)
theorem a3t:Old 2 (.tup []):=(D4 (cs:=[]) tt).old
def W0:List (Int × Str):=[(7,[115,105,122,101]),(8,[104,97,115]),(9,[101,110,118])]
theorem c6C (k:Int):(glk W0 k).getD []=a6y k:=by
 unfold a6y
 split
 ·subst_vars;rfl
 ·split
  ·subst_vars;rfl
  ·split
   ·subst_vars;rfl
   ·rename_i h1 h2 h3;have e:∀ x∈W0,x.1≠k:=fun x hx=>by
     simp only [W0,J5,a7v,or_false] at hx
     rcases hx with rfl | rfl | rfl<;>simp only<;>omega
    cases hg:glk W0 k with
    | none=>rfl
    | some y =>
     exact absurd rfl (e _ (b4S hg))
theorem c25 (o:Int):(sgn o).length<=100:=by
 unfold sgn;cases hg:glk S0 o with
 | none=>exact n_4 _
 | some y =>
  have:∀ x∈S0,x.2.length<=100:=by decide
  exact this _ (b4S hg)
theorem b9g (o:Int):1<=F6 o/\F6 o<=3:=by unfold F6;split;omega;split<;>omega
theorem O1 (a b:Str):(a++b).length=a.length+b.length:=n_6
theorem a7e {l:List Tr} (h:l.length=n) (hm:m < n):∃ c,l[m]? = some c:=⟨l[m]'om_,si_⟩
theorem d3B (cs:List Str):∀ m,m<=3->(ifP cs m).length<=(ifP cs 3).length:=by
 intro m hm;have h1:∀ n,(ifP cs n).length<=(ifP cs (n+1)).length:=fun n=>by rw [ifP];simp only [n_6];omega
 have e0:=h1 0;have e1:=h1 1;have e2:=h1 2
 rcases m with _ | _ | _ | _ | m<;>simp only [L7,Nat.reduceAdd] at*<;> omega
theorem a8X (sep:Str) (cs:List Str) (m:Nat):(G0 sep cs m).length<=(J8 sep cs).length:=by
 unfold G0
 induction cs generalizing m with
 | nil=>simp
 | cons x l ih =>
  rcases m with _ | m
  ·simp [J8]
  ·rw [a8P]
   rcases l with _ | ⟨y,l⟩
   ·simp
   ·rcases m with _ | m
    ·simp [J8]
    ·have:=ih (m+1);rw [a8P] at this ⊢;simp only [J8,n_6] at this ⊢;omega
theorem b4m (k:Int):(a6y k).length<=4:=by
 unfold a6y
 split;decide
 split;decide
 split<;>decide
theorem b4x (eC:a8s E (.n k u o nm ch) s) (hn:V5 ps.length k u o nm ch.length) (_:E.length<=1000000) (hI:∀ m c,ch[m]? = some c->WEG E ps en pn c (s+z8 (ch.take m)) (fun _=>True)) (T:Str) (hT:T=ndT ps k u o nm (I7 ps ch (a0R k o))) (pl dp:Int) (aX:¬ a3Y k o < pl) (cc:0<=dp) (hd:dp+2*((z8 ch+1:Nat):Int)<=1000000000) (a:Bool) (b:Str) (d:Int) (hb:b.length+T.length<=100000000000000):b8 CC 284 [.ptr 0 0,(iv ((s+z8 ch:Nat):Int)),iv pl,iv dp] (bSt TW a b (WR E ps en pn d)) fun r τ=>∃ d':Int,E8 2 τ r (.ret (.tup [])) (a8K TW (b++T) (WR E ps en pn d'))/\True:=by
 refine d6p ?_;refine d5k ?_;refine qC ?_ ?_<;>intro h1
 ·exact absurd (sp_ h1) aX
 ·have hnk:=hn.kind;refine qY (c6T rfl tt tt rfl rfl) ?_;refine qD (j2 rfl tt tt rfl j3 t_1 (.inl rfl) rfl rfl (nb rfl) ?_);refine cC ?_ ?_<;>intro h2
  ·refine J1 [F7 TW 0 1 a b (WR E ps en pn (max d dp)),A3 tU8 b.length,.box (Ex.cells ⟨k,u,o,nm,o4 ch s⟩)] rfl ?_;have u2:k=1:=sp_ h2;have aV:=hn.k1 u2;have eT:T=Lib.itoa u:=by rw [hT,ndT,n_1 u2]
   rw [eT] at hb;refine cW 6 ?_;refine b32 ?_;refine b3g ?_;refine hY (c5 rfl d1f ⟨tt,tt⟩ (c0q u om_ om_ _) rfl) ?_;refine X2 ?_;refine qD (c4 rfl a2J j1 (A0 a2q _ (b) (F8 _ _ _ _ _) (Lib.itoa u) a4R ⟨rfl,rfl,n_5 rfl⟩) rfl ?_);intro _ _;exact ⟨_,rE0,⟨(max d dp),c8j,tt⟩⟩
  ·have u2:¬ k=1:=sp_ h2;refine qk ?_;refine cC ?_ ?_<;>intro h3
   ·refine J1 [F7 TW 0 1 a b (WR E ps en pn (max d dp)),A3 tU8 b.length,.box (Ex.cells ⟨k,u,o,nm,o4 ch s⟩)] rfl ?_;have u3:k=2:=sp_ h3;have eW:=hn.k2 u3;have hnum:0<=(Ex.mk k u o nm (o4 ch s)).num:=eW.1;have eT:T=ps.getD u.toNat []:=by rw [hT,ndT,n_0 om_,n_1 u3]
    rw [eT] at hb;have g0:ps[u.toNat]? = some (ps.getD u.toNat []):=by
     have ab:u.toNat < ps.length:=by omega
     simp [List.getD,ab]
    refine cW 11 ?_;refine b32 ?_;refine a5g ?_;refine hY (j5 rfl tt rfl c4J rfl a2j de_) ?_;refine hY a4Y ?_;refine b3g ?_;refine hY (p9 rfl tt tt rfl rfl t_2 t_0 om_ (i8 g0) rfl) ?_;refine hY a6w ?_;refine X2 ?_;refine qD (c4 rfl a2J j1 (A0 a2q _ (b) (F8 _ _ _ _ _) (ps.getD u.toNat []) a4R ⟨rfl,rfl,n_5 rfl⟩) rfl ?_);intro _ _;exact ⟨_,rE0,⟨(max d dp),c8j,tt⟩⟩
   ·have u3:¬ k=2:=sp_ h3;refine qk ?_;refine cC ?_ ?_<;>intro h4
    ·refine J1 [F7 TW 0 1 a b (WR E ps en pn (max d dp)),A3 tU8 b.length,.box (Ex.cells ⟨k,u,o,nm,o4 ch s⟩)] rfl ?_;have u4:k=4:=sp_ h4;have dz:ch.length=2:=by have:=hn.cnt;rw [n_1 u4] at this;exact this
     obtain ⟨c0,g0⟩:=a7e (m:=0) dz de_;obtain ⟨c1,g1⟩:=a7e (m:=1) dz de_;have eS:=a2Z g0;have bO:=a2Z g1;have bY:=b9g o;have dQ:=c25 o;have elv:a3Y k o=F6 o:=by rw [a3Y,n_0 om_,n_1 u4]
     refine qk (qY (c5 rfl Tryz.call305 ⟨tt,tt⟩ ((elv ▸ b2q ⟨k,u,o,nm,o4 ch s⟩ _)) rfl) ?_);refine qC ?_ ?_<;>intro h5
     ·have u5:F6 o=1:=sp_ h5;have eT:T=c0.txt ps (F6 o+1)++([32]++sgn o++[32])++c1.txt ps (F6 o+1):=by rw [hT,ndT,n_0 om_,n_0 om_,n_1 u4];simp only [a58,a0A ps ch _ 0 c0 g0,a0A ps ch _ 1 c1 g1,a8S];simp [a0R,u4,u5]
      rw [eT] at hb;refine qY l9 ?_;refine qY d7u ?_;refine qD (c4 rfl b2v a2r (hI 0 c0 g0 (F6 o+1) (dp) _ (b) _ trivial om_ om_ a4R _ _ _ ⟨rfl,rfl,n_5 rfl⟩) rfl ?_);rintro d1 _;dsimp only;refine qN [F7 TW 0 3 true (b++c0.txt ps (F6 o+1)) (WR E ps en pn d1),.dead,.box (Ex.cells ⟨k,u,o,nm,o4 ch s⟩),A3 tU8 (b++c0.txt ps (F6 o+1)).length] rfl ?_;refine d7e ?_;refine chf rfl d0D ?_;refine chf rfl (c8 rfl b74) ?_;refine chf rfl b1o ?_;refine d5h ?_;intro _ _;refine a1u [F7 TW 0 3 true (b++c0.txt ps (F6 o+1)) (WR E ps en pn d1),.dead,.box (Ex.cells ⟨k,u,o,nm,o4 ch s⟩),A3 tU8 (b++c0.txt ps (F6 o+1)).length,.map (gm kv sv S0)] rfl ?_;refine d6S ?_;refine F2 rfl rfl (c8 rfl (H4 rfl rfl tt rfl rfl (by show 1+(sgn o).length<=_;omega))) ⟨⟨F1,a18,b4a,tt⟩,?_⟩;refine F2 rfl rfl d9y ⟨⟨F1,a18,b4a,tt⟩,?_⟩;refine B1 rfl rfl rfl (c4 rfl a2J j1 (A0 a2q _ (b++c0.txt ps (F6 o+1)) (F8 _ _ _ _ _) ([32]++sgn o++[32]) a4R ⟨rfl,rfl,n_5 rfl⟩) rfl ?_);intro _ _;refine a1u [F7 TW 0 5 true (b++c0.txt ps (F6 o+1)++([32]++sgn o++[32])) (WR E ps en pn d1),.dead,.box (Ex.cells ⟨k,u,o,nm,o4 ch s⟩),.dead,.map (gm kv sv S0),A3 tU8 (b++c0.txt ps (F6 o+1)++([32]++sgn o++[32])).length] rfl ?_;refine a8A ?_;refine d6G ?_;refine qD (c4 rfl b2v a2r (hI 1 c1 g1 (F6 o+1) (dp) _ (b++c0.txt ps (F6 o+1)++([32]++sgn o++[32])) _ trivial om_ om_ a4R _ _ _ ⟨rfl,rfl,n_5 rfl⟩) rfl ?_);rintro d2 _;dsimp only;exact ⟨_,rE0,⟨d2,d9G,tt⟩⟩
     ·have u5:¬ F6 o=1:=sp_ h5;have eT:T=c0.txt ps (F6 o)++([32]++sgn o++[32])++c1.txt ps (F6 o+1):=by rw [hT,ndT,n_0 om_,n_0 om_,n_1 u4];simp only [a58,a0A ps ch _ 0 c0 g0,a0A ps ch _ 1 c1 g1,a8S];simp [a0R,u4,u5]
      rw [eT] at hb;refine qY d7u ?_;refine qD (c4 rfl b2v a2r (hI 0 c0 g0 (F6 o) (dp) _ (b) _ trivial om_ om_ a4R _ _ _ ⟨rfl,rfl,n_5 rfl⟩) rfl ?_);rintro d1 _;dsimp only;refine qN [F7 TW 0 3 true (b++c0.txt ps (F6 o)) (WR E ps en pn d1),.dead,.box (Ex.cells ⟨k,u,o,nm,o4 ch s⟩),A3 tU8 (b++c0.txt ps (F6 o)).length] rfl ?_;refine d7e ?_;refine chf rfl d0D ?_;refine chf rfl (c8 rfl b74) ?_;refine chf rfl b1o ?_;refine d5h ?_;intro _ _;refine a1u [F7 TW 0 3 true (b++c0.txt ps (F6 o)) (WR E ps en pn d1),.dead,.box (Ex.cells ⟨k,u,o,nm,o4 ch s⟩),A3 tU8 (b++c0.txt ps (F6 o)).length,.map (gm kv sv S0)] rfl ?_;refine d6S ?_;refine F2 rfl rfl (c8 rfl (H4 rfl rfl tt rfl rfl (by show 1+(sgn o).length<=_;omega))) ⟨⟨F1,a18,b4a,tt⟩,?_⟩;refine F2 rfl rfl d9y ⟨⟨F1,a18,b4a,tt⟩,?_⟩;refine B1 rfl rfl rfl (c4 rfl a2J j1 (A0 a2q _ (b++c0.txt ps (F6 o)) (F8 _ _ _ _ _) ([32]++sgn o++[32]) a4R ⟨rfl,rfl,n_5 rfl⟩) rfl ?_);intro _ _;refine a1u [F7 TW 0 5 true (b++c0.txt ps (F6 o)++([32]++sgn o++[32])) (WR E ps en pn d1),.dead,.box (Ex.cells ⟨k,u,o,nm,o4 ch s⟩),.dead,.map (gm kv sv S0),A3 tU8 (b++c0.txt ps (F6 o)++([32]++sgn o++[32])).length] rfl ?_;refine a8A ?_;refine d6G ?_;refine qD (c4 rfl b2v a2r (hI 1 c1 g1 (F6 o+1) (dp) _ (b++c0.txt ps (F6 o)++([32]++sgn o++[32])) _ trivial om_ om_ a4R _ _ _ ⟨rfl,rfl,n_5 rfl⟩) rfl ?_);rintro d2 _;dsimp only;exact ⟨_,rE0,⟨d2,d9G,tt⟩⟩
    ·have u4:¬ k=4:=sp_ h4;have ep:a0R k o=[]:=by rw [a0R,n_0 u4]
     refine qk ?_;refine cC ?_ ?_<;>intro h6
     ·have u6:k=5:=sp_ h6;have dz:ch.length=3:=by have:=hn.cnt;rw [n_0 u4,n_1 u6] at this;exact this
      have eT:T=ifP (I7 ps ch []) 3:=by
       rw [hT,ndT,n_0 om_,n_0 om_,n_0 om_,n_1 u6,ep];simp [ifP,W3]
      have ci:=d3B (I7 ps ch []);rw [eT] at hb;refine J1 [F7 TW 0 1 a b (WR E ps en pn (max d dp)),A3 tU8 b.length,.box (Ex.cells ⟨k,u,o,nm,o4 ch s⟩)] rfl ?_;refine d2Y TW 0 1 a b (WR E ps en pn (max d dp)) ⟨rfl,rfl,n_5 rfl⟩ ?_;refine J1 [F7 TW 0 3 a b (WR E ps en pn (max d dp)),.dead,.box (Ex.cells ⟨k,u,o,nm,o4 ch s⟩),A3 tU8 b.length] rfl ?_;refine qk (qY (A8 (W3.map scv) rfl ⟨rfl,rfl,rfl,tt⟩ t_2 t_0 t_3 rfl rfl rfl rfl rfl rfl rfl rfl rfl) ?_);refine qY J3 ?_;refine A6 hCC 4 rfl (α:=Nat × Bool × Bool × Int) (fun x=>[(0,.ptr 0 0),(3,iv dp),(8,.ptr 2 0),(127,.list (W3.map scv) true none),(128,(iv (3))),(129,iv x.1)]) (fun x=>[F7 TW 0 (kp x.2.1) x.2.2.1 (b++ifP (I7 ps ch []) x.1) (WR E ps en pn x.2.2.2),.dead,.box (Ex.cells ⟨k,u,o,nm,o4 ch s⟩),op1 x.2.1 (b++ifP (I7 ps ch []) x.1).length,op2 x.2.1 (b++ifP (I7 ps ch []) x.1).length]) (fun x=>x.1<=3/\(0 < x.1->x.2.2.1=true)) (fun x=>3 - x.1) ⟨(0,false,a,max d dp),[0,1,2,3,7],⟨n_4 _,fun h=>absurd h (Nat.lt_irrefl _)⟩,⟨rfl,rfl⟩,ut_,⟨.inr ⟨_,rfl,a6C de_ rfl (F8 _ _ _ _ _) (by simp [ifP])⟩,.inl rfl,.inr ⟨_,rfl,.same rfl b7w⟩,.inr ⟨_,rfl,T7 (by simp [ifP])⟩,.inl rfl,tt⟩⟩ ?_;intro ⟨m,ph,a',d'⟩ ⟨hm,hma⟩;dsimp only at hm hma ⊢;refine qk (qC ?_ ?_)<;> intro h7
      ·have ab:m < 3:=sm_ h7;obtain ⟨w,gw⟩:=d8l ab;obtain ⟨c,gm⟩:=a7e (m:=m) dz ab;have hzm:=a2Z gm;have es:ifP (I7 ps ch []) (m+1)=ifP (I7 ps ch []) m++w++c.txt ps 0:=by
        rw [ifP];simp only [a58,gw,a0A ps ch _ m c gm,a8S];simp
       have hbm:=ci (m+1) om_;rw [es] at hbm;refine qY (p9 rfl tt tt rfl rfl t_2 t_0 om_ (i8 gw) rfl) ?_;refine qD (c4 rfl a2J j1 (A0 a2q _ (b++ifP (I7 ps ch []) m) (F8 _ _ _ _ _) (w) (by simp only [O1] at hb hbm ⊢;omega) ⟨rfl,by cases ph<;>rfl,by cases ph<;>exact n_5 rfl⟩) rfl ?_);intro _ _;refine qN [F7 TW 0 5 true (b++ifP (I7 ps ch []) m++w) (WR E ps en pn d'),.dead,.box (Ex.cells ⟨k,u,o,nm,o4 ch s⟩),.dead,.dead,A3 tU8 (b++ifP (I7 ps ch []) m++w).length] P5 ?_;refine qY (p9 rfl tt tt rfl rfl t_4 t_1 om_ (i8 (L6 gm)) rfl) ?_;refine qY l9 ?_;refine qD (c4 rfl b2v ⟨tt,tt,rfl,tt,tt⟩ (hI m c gm 0 (dp+1) _ (b++ifP (I7 ps ch []) m++w) _ trivial om_ om_ (by simp only [O1] at hb hbm ⊢;omega) _ _ _ ⟨rfl,rfl,n_5 rfl⟩) rfl ?_);rintro d3 _;dsimp only;refine qN [F7 TW 0 6 true (b++ifP (I7 ps ch []) m++w++c.txt ps 0) (WR E ps en pn d3),.dead,.box (Ex.cells ⟨k,u,o,nm,o4 ch s⟩),.dead,.dead,.dead,A3 tU8 (b++ifP (I7 ps ch []) m++w++c.txt ps 0).length] rfl (qY l9 ?_);exact ⟨(m+1,true,true,d3),[0,1,2,3,6],(show 3 - (m+1) < 3 - m/\m+1<=3/\(0 < m+1->true=true) from ⟨om_,om_,fun _=>rfl⟩),⟨rfl,rfl⟩,ut_,⟨.inr ⟨_,rfl,a6C de_ rfl (F8 _ _ _ _ _) c1N⟩,.inl rfl,.inr ⟨_,rfl,.same rfl b7w⟩,.inl rfl,.inr ⟨_,rfl,T7 c1N⟩,tt⟩⟩
      ·have h3m:m=3:=sm_ h7;subst h3m;obtain rfl:=hma de_;refine j4 ?_;exact ⟨_,rE0,⟨d',(by rw [eT];exact b3A (k:=kp ph) rfl P5 (by cases ph<;>decide) (F8 _ _ _ _ _) a3t),tt⟩⟩
     ·have u6:¬ k=5:=sp_ h6;refine qk ?_;refine cC ?_ ?_<;>intro h8
      ·refine J1 [F7 TW 0 1 a b (WR E ps en pn (max d dp)),A3 tU8 b.length,.box (Ex.cells ⟨k,u,o,nm,o4 ch s⟩)] rfl ?_;have u8:k=3:=sp_ h8;have eT:T=nm++[40]++J8 [44,32] (I7 ps ch [])++[41]:=by
        rw [hT,ndT,n_0 om_,n_0 om_,n_0 om_,n_0 om_,n_1 u8,ep]
       have ci:=a8X [44,32] (I7 ps ch []);rw [eT] at hb;have hbn:=hb;simp only [O1,C5,I8] at hbn;refine qk ?_;refine cW 6 ?_;refine b32 ?_;refine b85 ?_;refine hY (H4 rfl tt rfl rfl rfl (by show nm.length+1<=_;omega)) ?_;refine X2 ?_;refine qD (c4 rfl a2J j1 (A0 a2q _ (b) (F8 _ _ _ _ _) (nm++[40]) a4R ⟨rfl,rfl,n_5 rfl⟩) rfl ?_);intro _ _;refine qN [F7 TW 0 3 true (b++(nm++[40])) (WR E ps en pn (max d dp)),.dead,.box (Ex.cells ⟨k,u,o,nm,o4 ch s⟩),A3 tU8 (b++(nm++[40])).length] rfl (qY a1g ?_);refine A6 hCC 4 rfl (α:=Nat × Bool × Int) (fun x=>[(0,.ptr 0 0),(3,iv dp),(159,.list ((o4 ch s).map icv) (gnn (o4 ch s).length) none),(160,(iv ((o4 ch s).length:Int))),(161,iv x.1)]) (fun x=>[F7 TW 0 (kp x.2.1) true (b++(nm++[40])++G0 [44,32] (I7 ps ch []) x.1) (WR E ps en pn x.2.2),.dead,.box (Ex.cells ⟨k,u,o,nm,o4 ch s⟩),op1 x.2.1 (b++(nm++[40])++G0 [44,32] (I7 ps ch []) x.1).length,op2 x.2.1 (b++(nm++[40])++G0 [44,32] (I7 ps ch []) x.1).length]) (fun x=>x.1<=ch.length) (fun x=>ch.length - x.1) ⟨(0,false,max d dp),[0,1,2,3,7],(n_4 _),⟨rfl,rfl⟩,ut_,⟨.inr ⟨_,rfl,a6C de_ rfl (F8 _ _ _ _ _) (by simp [G0,J8])⟩,.inl rfl,.inr ⟨_,rfl,.same rfl b7w⟩,.inr ⟨_,rfl,T7 (by simp [G0,J8])⟩,.inl rfl,tt⟩⟩ ?_;intro ⟨m,ph,d'⟩ hm;dsimp only at hm ⊢;have cN:=T0 ch s;have bZ:=b8n ch;refine qk ?_;refine cC ?_ ?_<;>intro h9
       ·have ab:m < ch.length:=sm_ h9;obtain ⟨c,gm⟩:=a7e (m:=m) rfl ab;have hzm:=a2Z gm;have es:=Z4 (sep:=[44,32]) (a0A ps ch [] m c gm);have hbm:=ci (m+1);rw [es] at hbm;simp only [O1,List.getD_nil] at hbm es;refine qk (qY (p9 rfl tt tt rfl rfl t_4 t_1 om_ (i8 (L6 gm)) rfl) ?_);refine qC ?_ ?_<;>intro aY
        ·have u10:¬ m=0:=sm_ aY;rw [n_0 u10] at hbm es;refine qD (c4 rfl a2J o6 (A0 a2q _ (b++(nm++[40])++G0 [44,32] (I7 ps ch []) m) (F8 _ _ _ _ _) ([44,32]) d0t ⟨rfl,by cases ph<;>rfl,by cases ph<;>exact n_5 rfl⟩) rfl ?_);intro _ _;refine qN [F7 TW 0 5 true (b++(nm++[40])++G0 [44,32] (I7 ps ch []) m++[44,32]) (WR E ps en pn d'),.dead,.box (Ex.cells ⟨k,u,o,nm,o4 ch s⟩),.dead,.dead,A3 tU8 (b++(nm++[40])++G0 [44,32] (I7 ps ch []) m++[44,32]).length] P5 ?_;refine qY l9 ?_;refine qD (c4 rfl b2v ⟨tt,tt,rfl,tt,tt⟩ (hI m c gm 0 (dp+1) _ (b++(nm++[40])++G0 [44,32] (I7 ps ch []) m++[44,32]) _ trivial om_ om_ d0t _ _ _ ⟨rfl,rfl,n_5 rfl⟩) rfl ?_);rintro d3 _;dsimp only;refine qN [F7 TW 0 6 true (b++(nm++[40])++G0 [44,32] (I7 ps ch []) m++[44,32]++c.txt ps 0) (WR E ps en pn d3),.dead,.box (Ex.cells ⟨k,u,o,nm,o4 ch s⟩),.dead,.dead,.dead,A3 tU8 (b++(nm++[40])++G0 [44,32] (I7 ps ch []) m++[44,32]++c.txt ps 0).length] rfl (qY l9 ?_);exact ⟨(m+1,true,d3),[0,1,2,3,6],do_,⟨rfl,rfl⟩,ut_,⟨.inr ⟨_,rfl,a6C de_ rfl (F8 _ _ _ _ _) c1N⟩,.inl rfl,.inr ⟨_,rfl,.same rfl b7w⟩,.inl rfl,.inr ⟨_,rfl,T7 c1N⟩,tt⟩⟩
        ·have u10:m=0:=sm_ aY;rw [n_1 u10] at hbm es;refine qY l9 ?_;refine qD (c4 rfl b2v ⟨tt,tt,rfl,tt,tt⟩ (hI m c gm 0 (dp+1) _ (b++(nm++[40])++G0 [44,32] (I7 ps ch []) m) _ trivial om_ om_ d0t _ _ _ ⟨rfl,by cases ph<;>rfl,by cases ph<;>exact n_5 rfl⟩) rfl ?_);rintro d3 _;dsimp only;refine qN [F7 TW 0 5 true (b++(nm++[40])++G0 [44,32] (I7 ps ch []) m++c.txt ps 0) (WR E ps en pn d3),.dead,.box (Ex.cells ⟨k,u,o,nm,o4 ch s⟩),.dead,.dead,A3 tU8 (b++(nm++[40])++G0 [44,32] (I7 ps ch []) m++c.txt ps 0).length] P5 ?_;refine qY l9 ?_;exact ⟨(m+1,true,d3),[0,1,2,3,5],do_,⟨rfl,rfl⟩,ut_,⟨.inr ⟨_,rfl,a6C de_ rfl (F8 _ _ _ _ _) (by rw [es];simp only [D7,a2e])⟩,.inl rfl,.inr ⟨_,rfl,.same rfl b7w⟩,.inl rfl,.inr ⟨_,rfl,T7 (by rw [es];simp only [D7,a2e])⟩,tt⟩⟩
       ·have bU:m=ch.length:=sm_ h9;subst bU;have ej:G0 [44,32] (I7 ps ch []) ch.length=J8 [44,32] (I7 ps ch []):=by rw [G0,U5 (by rw [a4H];exact n_7 _)]
        rw [ej];refine j4 ?_;refine qD (c4 rfl c1J o6 (a1y a2q _ (b++(nm++[40])++J8 [44,32] (I7 ps ch [])) (F8 _ _ _ _ _) 41 (by simp only [O1,C5,I8] at hbn ⊢;omega) ⟨rfl,by cases ph<;>rfl,by cases ph<;>exact n_5 rfl⟩) rfl ?_);intro _ _;refine qN [F7 TW 0 5 true (b++(nm++[40])++J8 [44,32] (I7 ps ch [])++[41]) (WR E ps en pn d'),.dead,.box (Ex.cells ⟨k,u,o,nm,o4 ch s⟩),.dead,.dead,A3 tU8 (b++(nm++[40])++J8 [44,32] (I7 ps ch [])++[41]).length] P5 ?_;exact ⟨_,rE0,⟨d',e0N,tt⟩⟩
      ·have u8:¬ k=3:=sp_ h8;refine qk ?_;refine cC ?_ ?_<;>intro cw
       ·refine J1 [F7 TW 0 1 a b (WR E ps en pn (max d dp)),A3 tU8 b.length,.box (Ex.cells ⟨k,u,o,nm,o4 ch s⟩)] rfl ?_;have u11:k=6:=sp_ cw;have dz:ch.length=1:=by have:=hn.cnt;rw [n_0 u4,n_0 u6,n_1 u11] at this;exact this
        obtain ⟨c0,g0⟩:=a7e (m:=0) dz de_;have eS:=a2Z g0;have eT:T=([114,101,97,100,40,34]++nm++[34,44,32])++c0.txt ps 0++[41]:=by
         rw [hT,ndT,n_0 om_,n_0 om_,n_0 om_,n_0 om_,n_0 om_,n_1 u11,ep];simp only [a58,a0A ps ch _ 0 c0 g0,a8S];simp
        rw [eT] at hb;have hbn:=hb;simp only [O1,C5,I8] at hbn;refine qk ?_;refine cW 7 ?_;refine b32 ?_;refine b85 ?_;refine hY (H4 rfl rfl tt rfl rfl (by show 6+nm.length<=_;omega)) ?_;refine hY (H4 rfl tt rfl rfl rfl (by show ([114,101,97,100,40,34]++nm:Str).length+3<=_;rw [O1];simp;omega)) ?_;refine X2 ?_;refine qD (c4 rfl a2J j1 (A0 a2q _ (b) (F8 _ _ _ _ _) ([114,101,97,100,40,34]++nm++[34,44,32]) a4R ⟨rfl,rfl,n_5 rfl⟩) rfl ?_);intro _ _;refine qN [F7 TW 0 3 true (b++([114,101,97,100,40,34]++nm++[34,44,32])) (WR E ps en pn (max d dp)),.dead,.box (Ex.cells ⟨k,u,o,nm,o4 ch s⟩),A3 tU8 (b++([114,101,97,100,40,34]++nm++[34,44,32])).length] rfl (qY d7u ?_);refine qY l9 ?_;refine qD (c4 rfl b2v ⟨tt,tt,rfl,tt,tt⟩ (hI 0 c0 g0 (0) (dp+1) _ (b++([114,101,97,100,40,34]++nm++[34,44,32])) _ trivial om_ om_ a4R _ _ _ ⟨rfl,rfl,n_5 rfl⟩) rfl ?_);rintro d3 _;dsimp only;refine qN [F7 TW 0 4 true (b++([114,101,97,100,40,34]++nm++[34,44,32])++c0.txt ps 0) (WR E ps en pn d3),.dead,.box (Ex.cells ⟨k,u,o,nm,o4 ch s⟩),.dead,A3 tU8 (b++([114,101,97,100,40,34]++nm++[34,44,32])++c0.txt ps 0).length] rfl (qD (c4 rfl c1J o6 (a1y a2q _ (b++([114,101,97,100,40,34]++nm++[34,44,32])++c0.txt ps 0) (F8 _ _ _ _ _) 41 a4R ⟨rfl,rfl,n_5 rfl⟩) rfl ?_));intro _ _;exact ⟨_,rE0,⟨d3,e0N,tt⟩⟩
       ·have u11:¬ k=6:=sp_ cw;refine qk ?_;refine cC ?_ ?_<;>intro da
        ·refine J1 [F7 TW 0 1 a b (WR E ps en pn (max d dp)),A3 tU8 b.length,.box (Ex.cells ⟨k,u,o,nm,o4 ch s⟩)] rfl ?_;have u12:k=10:=sp_ da;have hr12:=hn.k10 u12;have eT:T=[102,108,105,112,40]++Lib.itoa u++[41]:=by
          rw [hT,ndT,n_0 om_,n_0 om_,n_0 om_,n_0 om_,n_0 om_,n_0 om_,n_1 u12]
         rw [eT] at hb;have bn:=a5r (n:=u) om_ om_;refine cW 8 ?_;refine b32 ?_;refine b3g ?_;refine hY (c5 rfl d1f ⟨tt,tt⟩ (c0q u om_ om_ _) rfl) ?_;refine hY (H4 rfl rfl tt rfl rfl (by show 5+(Lib.itoa u).length<=_;omega)) ?_;refine hY (H4 rfl tt rfl rfl rfl (by show ([102,108,105,112,40]++Lib.itoa u:Str).length+1<=_;rw [O1];simp;omega)) ?_;refine X2 ?_;refine qD (c4 rfl a2J j1 (A0 a2q _ (b) (F8 _ _ _ _ _) ([102,108,105,112,40]++Lib.itoa u++[41]) a4R ⟨rfl,rfl,n_5 rfl⟩) rfl ?_);intro _ _;exact ⟨_,rE0,⟨(max d dp),c8j,tt⟩⟩
        ·refine J1 [F7 TW 0 1 a b (WR E ps en pn (max d dp)),A3 tU8 b.length,.box (Ex.cells ⟨k,u,o,nm,o4 ch s⟩)] rfl ?_;have u12:¬ k=10:=sp_ da;have eT:T=a6y k++[40,34]++nm++[34,41]:=by
          rw [hT,ndT,n_0 om_,n_0 om_,n_0 om_,n_0 om_,n_0 om_,n_0 om_,n_0 om_];simp only [D7]
         rw [eT] at hb;have hbn:=hb;simp only [O1,C5,I8] at hbn;have hwl:=b4m k;refine qk (qD (T9 rfl ?_));refine qD (o3 (vc:=sv) (l:=W0.take 0) (a:=7) (b:=[115,105,122,101]) a0G (.inr rfl) tt rfl rfl rfl rfl rfl a2g rfl ?_);refine qD (o3 (vc:=sv) (l:=W0.take 1) (a:=8) (b:=[104,97,115]) a0G (.inr rfl) tt rfl rfl rfl rfl rfl a2g rfl ?_);refine qD (o3 (vc:=sv) (l:=W0.take 2) (a:=9) (b:=[101,110,118]) a0G (.inr rfl) tt rfl rfl rfl rfl rfl a2g rfl ?_);refine qY (S9 (vc:=sv) (l:=W0) (a:=k) a0G rfl tt tt rfl rfl a2g t_3 rfl rfl ((a5R ([]:Str) rfl _).trans (n_8 sv (c6C k)))) ?_;refine cW 9 ?_;refine b32 ?_;refine hY B2 ?_;refine hY (H4 rfl tt rfl rfl rfl (by first|omega|(simp only [C5,I8];omega))) ?_;refine b85 ?_;refine hY (H4 rfl tt tt rfl rfl (by first|omega|(simp only [O1,C5,I8];omega))) ?_;refine hY (H4 rfl tt rfl rfl rfl (by first|omega|(simp only [O1,C5,I8];omega))) ?_;refine X2 ?_;refine qD (c4 rfl a2J j1 (A0 a2q _ (b) (F8 _ _ _ _ _) (a6y k++[40,34]++nm++[34,41]) a4R ⟨rfl,rfl,n_5 rfl⟩) rfl ?_);intro _ _;exact ⟨_,rE0,⟨(max d dp),(by rw [eT];exact b3A (k:=4) rfl rfl de_ (F8 _ _ _ _ _) a3t),tt⟩⟩
theorem c4l (eC:a8s E (.n k u o nm ch) s) (T:Str) (pl dp:Int) (aX:a3Y k o < pl) (cc:0<=dp) (hd:dp+2*((z8 ch+1:Nat):Int)+1<=1000000000) (a:Bool) (b:Str) (d:Int) (hb:b.length+([40]++T++[41]:Str).length<=100000000000000)
 (hW:∀ (dp:Int) (a:Bool) (b:Str) (d:Int),0<=dp->dp+2*((z8 ch+1:Nat):Int)<=1000000000->b.length+T.length<=100000000000000->∀ (σ:List b9) (q k:Nat),BAt σ q k TW a b (WR E ps en pn d) ->
  b8 CC 284 [.ptr q 0,iv ((s+z8 ch:Nat):Int),iv 0,iv dp] σ fun r τ=>∃ d':Int,r = .ret (.tup [])/\τ=(σ.set q (F7 TW q σ.length true (b++T) (WR E ps en pn d'))).set k .dead++[A3 tU8 (b++T).length]/\True) :
 b8 CC 284 [.ptr 0 0,(iv ((s+z8 ch:Nat):Int)),iv pl,iv dp] (bSt TW a b (WR E ps en pn d)) fun r τ=>∃ d':Int,E8 2 τ r (.ret (.tup [])) (a8K TW (b++([40]++T++[41])) (WR E ps en pn d'))/\True:=by
 refine d6p ?_;refine d5k ?_;refine cC ?_ ?_<;>intro h1
 ·refine J1 [F7 TW 0 1 a b (WR E ps en pn d),A3 tU8 b.length,.box (Ex.cells ⟨k,u,o,nm,o4 ch s⟩)] rfl ?_;refine qk (qD (c4 rfl c1J o6 (a1y a2q _ (b) (F8 _ _ _ _ _) 40 a4R ⟨rfl,rfl,n_5 rfl⟩) rfl ?_));intro _ _;refine qN [F7 TW 0 3 true (b++[40]) (WR E ps en pn d),.dead,.box (Ex.cells ⟨k,u,o,nm,o4 ch s⟩),A3 tU8 (b++[40]).length] rfl (qY l9 ?_);refine qD (c4 rfl b2v ⟨tt,tt,rfl,tt,tt⟩ (hW (dp+1) true (b++[40]) d om_ om_ a4R _ 0 3 ⟨rfl,rfl,n_5 rfl⟩) rfl ?_);rintro d1 _;dsimp only;refine qN [F7 TW 0 4 true (b++[40]++T) (WR E ps en pn d1),.dead,.box (Ex.cells ⟨k,u,o,nm,o4 ch s⟩),.dead,A3 tU8 (b++[40]++T).length] rfl (qD (c4 rfl c1J o6 (a1y a2q _ (b++[40]++T) (F8 _ _ _ _ _) 41 a4R ⟨rfl,rfl,n_5 rfl⟩) rfl ?_));intro _ _;refine c6 ?_;exact ⟨_,rE0,⟨d1,(by simp only [<- D7];exact b3A (k:=5) rfl rfl de_ (F8 _ _ _ _ _) a3t),tt⟩⟩
 ·exact absurd aX (sp_ h1)
theorem a5T {np d:Nat}:∀ {l:List Tr} {m:Nat} {c:Tr},wfL np d l->l[m]? = some c->c.wf np d
 | [],_,_,_,h=>by simp at h
 | t::l,0,c,h,hc=>by rw [wfL] at h;injection hc with hc;subst hc;exact h.1
 | t::l,m+1,c,h,hc=>by rw [wfL] at h;exact a5T h.2 (sp_ hc)
theorem c9E (k o:Int):0<=a3Y k o:=by
 unfold a3Y
 split;decide
 split
 ·have:=b9g o;omega
 ·decide
theorem b6v {E:List Ex} {ps:List Str} {en pn:Bool} (hE:E.length<=1000000):∀ (n:Nat) (t:Tr) (s:Nat),t.size<=n->a8s E t s->(∃ d,t.wf ps.length d)->WEG E ps en pn t s (fun _=>True)
 | 0,t,_,h,_,_=>by have:=t.size_pos;omega
 | n+1,.n k u o nm ch,s,aI,eC,⟨dd,hw⟩=>by
  rw [Tr.wf] at hw;obtain ⟨_,hn,hwl⟩:=hw;have hI:∀ m c,ch[m]? = some c->WEG E ps en pn c (s+z8 (ch.take m)) (fun _=>True):=fun m c hc=>by
   have:=a2Z hc;rw [Tr.size] at aI;exact b6v hE n c _ om_ (eC.child hc) ⟨_,a5T hwl hc⟩
  intro pl dp a b d _ cc hd hb σ q k' am;rw [Tr.size] at hd ⊢;rw [show s+(z8 ch+1) - 1=s+z8 ch by omega];rw [Tr.txt] at hb ⊢;by_cases aX:a3Y k o < pl
  ·rw [n_1 aX] at hb ⊢;refine b1J (c4l eC (ndT ps k u o nm (I7 ps ch (a0R k o))) pl dp aX cc om_ a b d hb fun dp' a' b' d' h0 h1 h2 Y q' k'' hσ'=>?_) σ q k' am;have hp0:=c9E k o;exact b1J (b4x eC hn hE hI _ rfl 0 dp' om_ h0 h1 a' b' d' h2) Y q' k'' hσ'
  ·rw [n_0 aX] at hb ⊢;exact b1J (b4x eC hn hE hI _ rfl pl dp aX cc om_ a b d hb) σ q k' am
def a9I (cs:List Str):Nat:=(cs.map List.length).sum
theorem c97 (cs:List Str):(cs.getD 0 []).length+(cs.getD 1 []).length+(cs.getD 2 []).length<=a9I cs:=by
 rcases cs with _ | ⟨a,_ | ⟨b,_ | ⟨c,l⟩⟩⟩<;>simp [a9I,List.getD]<;>omega
theorem a3A (sep:Str):∀ cs:List Str,(J8 sep cs).length<=a9I cs+sep.length*cs.length
 | []=>by simp [J8]
 | [x]=>by simp [J8,a9I]
 | x::y::l=>by
  have:=a3A sep (y::l);simp only [J8,n_6,a9I,b2C,List.sum_cons,C5,Nat.mul_add] at this ⊢;omega
theorem c3t (hp:∀ s∈ps,s.length<=80) {c:Nat} (hn:V5 ps.length k u o nm c) (cs:List Str):(ndT ps k u o nm cs).length<=a9I cs+2*cs.length+290:=by
 have hg:=c97 cs;have hj:=a3A [44,32] cs;have hs:=c25 o;have hw:=b4m k;have bL:=hn.len;have e2:([44,32]:Str).length=2:=rfl;rw [e2] at hj;unfold ndT
 split
 ·rename_i h1;have:=hn.k1 h1;have:=a5r (n:=u) om_ om_;omega
 split
 ·have:(ps.getD u.toNat []).length<=80:=by
   rw [a58];cases hh:ps[u.toNat]? with
   | none=>exact n_4 _
   | some x=>exact hp x (n_2 hh)
  omega
 split
 ·simp only [n_6,C5,I8];omega
 split
 ·simp only [n_6,C5,I8];omega
 split
 ·simp only [n_6,C5,I8];omega
 split
 ·simp only [n_6,C5,I8];omega
 split
 ·rename_i aY;have:=hn.k10 aY;have:=a5r (n:=u) om_ om_;simp only [n_6,C5,I8];omega
 ·simp only [n_6,C5,I8];omega
mutual
theorem Tr.txt_len {ps:List Str} (hp:∀ s∈ps,s.length<=80):∀ (t:Tr) (d:Nat) (pl:Int),t.wf ps.length d->(t.txt ps pl).length+2<=300*t.size
 | .n k u o nm ch,d,pl,h=>by
  rw [Tr.wf] at h;have h1:=c3t hp h.2.1 (I7 ps ch (a0R k o));have h2:=a8t hp ch _ (a0R k o) h.2.2;rw [a4H] at h1;rw [Tr.txt,Tr.size];have:([40]++ndT ps k u o nm (I7 ps ch (a0R k o))++[41]:Str).length=(ndT ps k u o nm (I7 ps ch (a0R k o))).length+2:=by simp
  split
  ·rw [this];omega
  ·omega
theorem a8t {ps:List Str} (hp:∀ s∈ps,s.length<=80):∀ (l:List Tr) (d:Nat) (cq:List Int),wfL ps.length d l->a9I (I7 ps l cq)+2*l.length<=300*z8 l
 | [],_,_,_=>by simp [I7,a9I]
 | t::l,d,cq,h=>by
  rw [wfL] at h;have h1:=Tr.txt_len hp t d (cq.headD 0) h.1;have h2:=a8t hp l d cq.tail h.2;rw [I7,z8];simp only [a9I,b2C,List.sum_cons,C5] at h2 ⊢;omega
end
theorem c5a (en pn:Bool) (hE:E.length<=1000000) (t:Tr) (ht:E=t.flat 0) (hw:∃ d,t.wf ps.length d) (hp:∀ s∈ps,s.length<=80):b8 CC 245 [(.list (E.map Ex.cv) en none),(.list (ps.map scv) pn none)] [] fun r τ=>∃ d:Int,a1q 0 τ r (.ret (.tup [sv (t.txt ps 0),iv d]))/\True:=by
 have aI:E.length=t.size:=by rw [ht,Tr.flat_len]
 have ij:=t.size_pos;have eC:a8s E t 0:=⟨[],[],by rw [ht];simp,rfl⟩;obtain ⟨dd,hwd⟩:=hw;have htl:=t.txt_len hp dd 0 hwd;have hx:=b6v (en:=en) (pn:=pn) hE t.size t 0 (n_7 _) eC ⟨dd,hwd⟩ 0 1 false [] 0 trivial om_ om_ (by simp only [I8];omega) ([F7 TW 0 1 false [] (WR E ps en pn 0)]++[.dead]) 0 1 ⟨rfl,rfl,n_5 rfl⟩;replace hx:=a0e hx;rw [show ((0+t.size - 1:Nat):Int)=(E.length:Int) - 1 by omega] at hx;simp only [a2e] at hx;refine qO Tryz.func245 ?_;refine qY (B3 #[(0,2),(2,1),(3,1),(4,1)] rfl j1 c4J Tryz.zeroValue309 rfl ⟨_,rfl⟩ (fun w=>by kernel_rfl) rfl rfl) ?_;refine qD (d8m rfl tt j3 j6 ?_);refine b6U ?_;refine qD (c4 rfl b2v ⟨tt,tt,rfl,rfl,tt⟩ (hx) rfl ?_);rintro d1 _;dsimp only;refine cF [] [0,1,2,4,5,6,7] (tl:=[(3,[3,4,5,6]),(8,[3,4,5,6]),(9,[])]) ?_;refine b2L ?_;refine chf rfl d0D ?_;refine b2L ?_;refine chf rfl (c8 rfl c8h) ?_;refine chf rfl b1o ?_;refine D9 ?_;refine B1 rfl rfl rfl (c4 rfl b86 ⟨tt,tt⟩ (a26 (rest:=WR E ps en pn d1) (T:=TW) (F8 _ _ _ _ _) true _ (q:=0) (k:=2) ⟨rfl,rfl,n_5 rfl⟩) rfl ?_);intro _ _;refine ⟨⟨F1,a18,(by exact c8 rfl c8h),b1f,tt⟩,?_⟩;refine F2 rfl rfl b7U ⟨⟨F1,a18,(by exact c8 rfl c8h),b1f,tt⟩,?_⟩;refine a89 ?_;exact ⟨_,r9 (rs:=[.tmp 4,.tmp 5]) (cs:=[_,_]) rfl R4 (n_5 rfl),⟨d1,.ret (.old (D4 (cs:=[sv (t.txt ps 0),iv d1]) ⟨.val _,.val _,tt⟩).old),tt⟩⟩
theorem d1I (en pn:Bool) (hE:E.length<=1000000) (t:Tr) (ht:E=t.flat 0) (hw:∃ d,t.wf ps.length d) (hp:∀ s∈ps,s.length<=80) (σ:List b9):b8 CC 245 [(.list (E.map Ex.cv) en none),(.list (ps.map scv) pn none)] σ fun r τ=>∃ d:Int,r = .ret (.tup [sv (t.txt ps 0),iv d])/\τ=σ/\True :=
 H5 (res:=fun d:Int=>.ret (.tup [sv (t.txt ps 0),iv d])) (P:=fun _=>True) hCC (fun c hc=>by simp at hc;rcases hc with rfl | rfl;exact a0q _ _;exact F5 _ _) (c5a en pn hE t ht hw hp) (fun d _=>D4 ⟨.val _,.val _,tt⟩) σ
abbrev tSB:Nat:=244
theorem a5j:a5w tSB 2:=by unfold a5w;kernel_rfl
def d8S (T:TypeId) (rest:List CV):List b9:=[.boxT (some T) (.ptr 0 0::.list [] true (some 2)::rest),.dead,.tipT (some tU8) 0]
theorem d1N {c:CV} {obs:List b9}:b8 CC 246 [.ptr 0 0] (.boxT (some T) (.ptr 0 0::c::rest)::obs) fun r τ=>∃ _:Unit,r = .ret (.tup [])/\τ = .boxT (some T) (.ptr 0 0::c::rest)::obs/\True:=by
 refine qO c7V ?_;refine qY (b6B rfl tt rfl c7S) ?_;refine qC ?_ ?_<;>intro h1
 ·cases h1
 ·refine qY (b4D rfl tt tt rfl rfl 244 o7 o7) ?_;refine qC ?_ ?_<;>intro h2
  ·cases h2
  ·exact ⟨_,rE0,⟨(),rfl,rfl,tt⟩⟩
theorem d3o (n:Nat) (h1:1<=n) (h2:n<=1000000000):b8 CC 286 [.ptr 0 0,iv n] [.boxT (some T) (.ptr 0 0::.list [] false none::rest),.dead] fun r τ=>∃ _:Unit,r = .ret (.tup [])/\τ=d8S T rest/\True:=by
 refine cO Tryz.func286 ?_;refine F9 ?_;refine cF [] [0,1,2,3,4,5,6,7,9,10,11,12,13] (tl:=[(8,[8,9,10,11,12]),(14,[]),(15,[])]) ?_;refine b2L ?_;refine chf rfl (c8 rfl b3h) ?_;refine chf rfl (c8 rfl b63) ?_;refine chf rfl (c8 rfl (c9R rfl tt rfl X7)) ?_;refine chf rfl (c8 rfl (b7A rfl rfl tt rfl rfl om_ om_)) ?_;refine chf rfl V4 ?_;refine chf rfl (c8 rfl a4n) ?_;refine b2L ?_;refine chf rfl (c8 rfl b3h) ?_;refine chf rfl (c8 rfl b63) ?_;refine chf rfl (c8 rfl a81) ?_;refine D9 ?_;refine B1 rfl rfl rfl (b5B (t:=149) (e:=5) rfl Tryz.func308 rfl rfl rfl rfl o7 tt (n_8 (fun z:Int=>iv z) (show (2*0+(n:Int))=n by omega)) om_ ?_);refine ⟨⟨F1,a18,(by exact c8 rfl b3h),(by exact c8 rfl b63),(by exact c8 rfl a81),tt⟩,?_⟩;refine F2 rfl rfl (c8 rfl (b9p rfl tt tt rfl rfl h1 X7 a1w)) ⟨tt,?_⟩;refine c0I ?_;refine a7x ?_;refine cY a6k ?_;refine cY b3h ?_;refine cY b63 ?_;refine cD (d4P rfl tt tt rfl rfl X7 a1w ?_);refine x9 ?_;refine b8A ?_;refine cY a6k ?_;refine cY b3h ?_;refine cD (j2 rfl tt tt rfl j3 b6K (.inl rfl) rfl rfl (nb rfl) ?_);refine x9 ?_;exact ⟨_,rE0,⟨(),rfl,rfl,tt⟩⟩
theorem d3w (hT:a5w T (rest.length+2)) (n:Nat) (bf:1<=n) (cj:n<=1000000000):b8 CC 247 [.ptr 0 0,iv n] (bSt T false [] rest) fun r τ=>∃ _:Unit,r = .ret (.tup [])/\τ=d8S T rest/\True:=by
 refine qO Tryz.func247 ?_;refine qD (c4 rfl c2t ⟨tt,tt⟩ (b45 hT false []) rfl ?_);intro _ _;refine qC ?_ ?_<;>intro h1
 ·exact absurd (a8y h1) om_
 ·refine cW 13 ?_;refine a5g ?_;refine b3P ?_;refine hY (c9R rfl tt rfl X7) ?_;refine a5g ?_;refine b3P ?_;refine hY a81 ?_;refine hY (b1T rfl tt tt rfl rfl si_ si_) ?_;refine hY B2 ?_;refine hY b1t ?_;refine X2 ?_;refine qC ?_ ?_<;>intro h2
  ·refine qD (c4 rfl Tryz.call286 j1 (d3o n bf cj) rfl ?_);intro _ _;exact ⟨_,rE0,⟨(),rfl,rfl,tt⟩⟩
  ·exact absurd (a9k h2) (by show ¬ ¬ (0 - 0:Int) < n;omega)
theorem a9T (s:Str) (hs:s≠[]) (hl:s.length<=140737488355328):b8 CC 200 [.ptr 0 0,sv s] (d8S T rest) fun r τ=>∃ _:Unit,r = .ret (.tup [iv s.length,.val .nilIface])/\τ=[F7 T 0 3 true s rest,.dead,.dead,A3 tU8 s.length]/\True:=by
 refine qO Tryz.func200 ?_;refine qD (c4 rfl c2t ⟨tt,tt⟩ (d1N) rfl ?_);intro _ _;refine qD (d4D (new:=s) (p:=2) rfl tt tt rfl (b44 rfl) X7 a1w b1j a4d rfl (.inr t_7) rfl rfl hs a84 ?_);refine d7a ?_;exact d6a
theorem d4y {a:Int} (hb:0 < b) (h1:0<=a) (h2:a<=9223372036854775807):a68 .quo .i64 a b=some (.int .i64 (a.tdiv b)):=by
 have az:b≠0:=by omega
 have h0:0<=a.tdiv b:=Int.tdiv_nonneg h1 om_;have h3:a.tdiv b<=a:=by rw [c3Z h1];exact Int.ediv_le_self b h1
 simp only [a68,n_0 az];rw [a95 om_ om_]
theorem c9h {sep:Str} {n:Int} (dA:sep.length=2) (h1:0 < n) (h2:n<=1000):¬ (9223372036854775807:Int).tdiv n<=(sep.length:Int):=by
 rw [dA,c3Z de_];have:=Int.le_ediv_of_mul_le h1 (show 1000000*n<=9223372036854775807 by omega);omega
theorem List.take_one_eq {α:Type} {l:List α} {x:α} (h:l[0]? = some x):l.take (0+1)=[x]:=by
 cases l with
 | nil=>simp at h
 | cons a l=>simp at h;subst h;rfl
theorem b0Z {sep:Str} {l:List Str} (hs:sep.length=2) (hl:∀ s∈l,1<=s.length/\s.length<=1000):∀ m,(G0 sep l m).length<=m*1002
 | 0=>by simp [G0,J8]
 | m+1=>by
  have ih:=b0Z (sep:=sep) (l:=l) hs hl m;cases hg:l[m]? with
  | none =>
   have:l.length<=m:=sp_ hg;have e:G0 sep l (m+1)=G0 sep l m:=by unfold G0;rw [U5 (show l.length<=m+1 by omega),U5 (show l.length<=m by omega)]
   rw [e];exact b6u ih (S4 _ (Nat.le_succ m))
  | some y =>
   have:=(hl y (n_2 hg)).2;rw [Z4 hg,n_6,n_6]
   split
   ·simp;omega
   ·omega
theorem b0O (l:List Str) (nn:Bool) (sep:Str) (dA:sep.length=2) (hl:l.length<=1000) (cp:∀ s∈l,1<=s.length/\s.length<=1000) (σ:List b9):b8 CC 201 [(.list (l.map scv) nn none),(sv sep)] σ fun r Y=>r = .ret (sv (J8 sep l))/\Y=σ:=by
 refine an_ Tryz.func201 ?_;refine qs 3 (qY J3 ?_);refine qC ?_ ?_<;>intro h1
 ·have h0:l=[]:=sp_ h1;refine c6 ?_;exact ⟨_,rE1,_,_,rfl,rfl,D8 (by rw [h0];rfl)⟩
 ·have eF:¬ l.length=0:=by simp at h1;simpa using h1
  refine qC ?_ ?_<;>intro h2
  ·have h1l:l.length=1:=sm_ h2;obtain ⟨e0,he0⟩:∃ e0,l=[e0]:=by
    rcases l with _ | ⟨a,_ | ⟨b,l⟩⟩
    ·simp at h1l
    ·exact ⟨a,rfl⟩
    ·simp at h1l
   have g0:l[0]? = some e0:=by rw [he0];rfl
   refine qY (p9 rfl tt rfl rfl rfl t_2 t_0 om_ (i8 g0) rfl) ?_;refine c6 ?_;exact ⟨_,rE1,_,_,rfl,rfl,D8 (by rw [he0];rfl)⟩
  ·have h2l:2<=l.length:=by
    have:¬ (l.length:Int)=1:=sp_ h2;omega
   refine N8 hCC (α:=Nat) (fun n=>[(0,(.list (l.map scv) nn none)),(1,(sv sep)),(5,iv n)]) (fun _=>[]) (fun n=>1<=n/\n<=2000) z6 uz_ ?_ ?_
   ·
    refine a6S ?_;refine qC ?_ ?_<;>intro h3
    ·refine qY Q2 ?_;refine qY J3 ?_;refine qY V3 ?_;refine qY (a0M rfl rfl tt rfl rfl (d4y om_ om_ om_)) ?_;refine qC ?_ ?_<;>intro h4
     ·exact absurd (a8y h4) (c9h dA om_ om_)
     ·have bz:(sep.length:Int)*((l.length:Int) - 1)=2*((l.length:Int) - 1):=by rw [dA];rfl
      refine qY Q2 ?_;refine qY J3 ?_;refine qY V3 ?_;refine qY (b7A rfl tt tt rfl rfl (by rw [bz];omega) (by rw [bz];omega)) ?_;refine qY a4n ?_;exact ⟨(2*(l.length - 1)),_,⟨om_,om_⟩,⟨k8,k8,⟨tt,(n_8 (fun z:Int=>iv z) (show (0+(sep.length:Int)*((l.length:Int) - 1))=((2*(l.length - 1):Nat):Int) by rw [bz];omega))⟩,tt⟩,rfl⟩
    ·exact absurd (a9k h3) (by show ¬ ¬ (0:Int) < sep.length;rw [dA];decide)
   ·intro n ⟨bf,cj⟩;refine b23 ?_;refine j7 hCC (α:=Nat × Nat) (fun x=>[(0,(.list (l.map scv) nn none)),(1,(sv sep)),(5,iv x.2),(39,(.list (l.map scv) nn none)),(40,iv l.length),(41,iv x.1)]) (fun _=>[]) (fun x=>x.1<=l.length/\1<=x.2/\x.2<=2000+1000*x.1) (fun x=>l.length - x.1) (0,n) ⟨n_4 _,bf,om_⟩ tu_ (ah:=[]) rfl z6 uz_ ?_;intro ⟨i,n'⟩ ⟨hi,hn1',hn2'⟩;dsimp only at hi hn1' hn2' ⊢;refine qk (qC ?_ ?_)<;> intro h5
    ·have ab:i < l.length:=sm_ h5;obtain ⟨y,hy⟩:∃ y,l[i]? = some y:=⟨l[i]'ab,si_⟩;have dU:=cp y (n_2 hy);refine qY b67 ?_;refine qY Q2 ?_;refine qY (b1T rfl rfl tt rfl rfl om_ om_) ?_;refine qC ?_ ?_<;>intro h6
     ·exact absurd (a8y h6) om_
     ·refine qY Q2 ?_;refine qY a4n ?_;refine qY l9 ?_;exact ⟨(i+1,n'+y.length),_,⟨do_,do_,do_,do_⟩,tu_,rfl⟩
    ·have eO:i=l.length:=sm_ h5;obtain ⟨e0,g0⟩:=gx_ l 0;have he0:=cp e0 (n_2 g0);refine j4 ?_;refine qD (b6c rfl Tryz.zeroValue244 rfl j6 ?_);refine qD (c4 rfl Tryz.call247 j1 ((a0e (d3w a5j n' hn1' om_))) rfl ?_);intro _ _;refine qY (p9 rfl tt rfl rfl rfl t_2 t_0 om_ (i8 g0) rfl) ?_;refine qD (c4 rfl a2J j1 (a9T e0 (by intro h;rw [h] at he0;simp at he0) om_) rfl ?_);intro _ _;refine qY (a2w (l:=1) rfl tt rfl t_2 t_0 a9l ⟨rfl,_,_,rfl,om_,om_⟩ rfl a4g si_) ?_;refine qY J3 ?_;refine A6 hCC 4 rfl (α:=Nat × Bool) (fun x=>[(1,(sv sep)),(8,.ptr 0 0),(63,(.list ((l.drop 1).map scv) nn none)),(64,(iv ((l.length - 1:Nat):Int))),(65,iv x.1)]) (fun x=>[F7 tSB 0 (kp x.2) true (G0 sep l (x.1+1)) [],.dead,.dead,op1 x.2 (G0 sep l (x.1+1)).length,op2 x.2 (G0 sep l (x.1+1)).length]) (fun x=>x.1+1<=l.length) (fun x=>l.length - x.1) ⟨(0,false),[0,1,2,3,7],(show 0+1<=l.length by omega),⟨rfl,rfl⟩,⟨a0m,a0m,⟨tt,(by first|exact ur_|exact .same (show CV.list (((l.map scv).take (l.map scv).length).drop 1) nn none=_ from by rw [U5 (n_7 _),List.map_drop]) uo_)⟩,⟨tt,(by first|exact ur_|exact .same (show (iv ((((l.map scv).take (l.map scv).length).drop 1).length:Int))=_ from by simp) uo_)⟩,a0m,tt⟩,⟨.inr ⟨_,rfl,a6C de_ rfl (fun c hc=>by cases hc) (by rw [G0,List.take_one_eq g0];rfl)⟩,.inl rfl,.inl rfl,.inr ⟨_,rfl,T7 (by rw [G0,List.take_one_eq g0];rfl)⟩,.inl rfl,tt⟩⟩ ?_;intro ⟨m,ph⟩ hm;dsimp only at hm ⊢;refine qk (qC ?_ ?_)<;> intro h7
     ·have ab:m+1 < l.length:=sm_ h7;obtain ⟨y,hy⟩:∃ y,l[m+1]? = some y:=⟨l[m+1]'ab,si_⟩;have dU:=cp y (n_2 hy);have ii:(l.drop 1)[m]? = some y:=by rw [a5v,b5S];exact hy
      have es:=Z4 (sep:=sep) hy;rw [n_0 om_] at es;have cd:=b0Z (sep:=sep) (l:=l) dA cp (m+1);have hjl2:(m+1)*1002<=1000*1002:=S4 _ om_;refine qY (p9 rfl tt tt rfl rfl t_2 t_0 om_ (i8 ii) rfl) ?_;refine qD (c4 rfl a2J j1 (A0 a5j _ (G0 sep l (m+1)) (fun c hc=>by cases hc) sep om_ (σ:=_) (q:=0) (k:=kp ph) ⟨rfl,by cases ph<;>rfl,by cases ph<;>exact n_5 rfl⟩) rfl ?_);intro _ _;refine qN [F7 tSB 0 5 true (G0 sep l (m+1)++sep) [],.dead,.dead,.dead,.dead,A3 tU8 (G0 sep l (m+1)++sep).length] P5 ?_;refine qD (c4 rfl a2J j1 (A0 a5j _ (G0 sep l (m+1)++sep) (fun c hc=>by cases hc) y (by rw [O1];omega) (q:=0) (k:=5) ⟨rfl,rfl,n_5 rfl⟩) rfl ?_);intro _ _;refine qN [F7 tSB 0 6 true (G0 sep l (m+1)++sep++y) [],.dead,.dead,.dead,.dead,.dead,A3 tU8 (G0 sep l (m+1)++sep++y).length] rfl (qY l9 ?_);exact ⟨(m+1,true),[0,1,2,3,6],(show l.length - (m+1) < l.length - m/\m+1+1<=l.length from ⟨om_,om_⟩),⟨rfl,rfl⟩,ut_,⟨.inr ⟨_,rfl,a6C de_ rfl (fun c hc=>by cases hc) es.symm⟩,.inl rfl,.inl rfl,.inl rfl,.inr ⟨_,rfl,T7 es.symm⟩,tt⟩⟩
     ·have bU:m+1=l.length:=sm_ h7;refine j4 ?_;refine qD (c4 rfl b86 ⟨tt,tt⟩ (a26 (rest:=[]) (T:=tSB) (fun c hc=>by cases hc) true (G0 sep l (m+1)) (q:=0) (k:=kp ph) ⟨rfl,by cases ph<;>rfl,by cases ph<;>exact n_5 rfl⟩) rfl ?_);intro _ _;refine c6 ?_;exact ⟨_,rE1,_,_,rfl,rfl,D8 (by rw [bU,G0,U5 (n_7 _)])⟩
open Classical in
noncomputable def V6 (d:De):Str:=if h:∃ t:Tr,d.body=t.flat 0/\t.wf d.params.length 1 then h.choose.txt d.params 0 else []
theorem a7K (h:DeG d):∃ t:Tr,d.body=t.flat 0/\t.wf d.params.length 1/\V6 d=t.txt d.params 0:=by
 refine ⟨h.tree.choose,h.tree.choose_spec.1,h.tree.choose_spec.2,?_⟩;unfold V6;rw [dif_pos h.tree]
theorem b4g (h:DeG d):∀ s∈d.params,s.length<=80:=fun s hs=>by have:=B7 (h.par s hs).1;omega
theorem a8w (h:DeG d):(V6 d).length<=76800:=by
 obtain ⟨t,h1,h2,h3⟩:=a7K h;have:=t.txt_len (b4g h) 1 0 h2;have hb:=h.blen;rw [h1,Tr.flat_len] at hb;rw [h3];omega
def d8P (d:De):Src:=⟨[112],[],[⟨1,[102],d.params,d.body⟩]⟩
theorem d4S (h:DeG d):a2b (d8P d) where
 pkg:=by show C3 [112]=true/\R6 [112]=false;decide
 imp:=fun s hs=>by cases hs
 impl:=n_4 _
 impn:=List.nodup_nil
 impp:=fun h=>by cases h
 dec:=fun e he=>by
  simp only [d8P,J5,a7v,or_false] at he;subst he;exact { kind:=.inl rfl,name:=fun _=>by (show C3 [102]=true/\R6 [102]=false);decide,path:=fun hk=>absurd (show (1:Int)=3 from hk) de_,pars:=fun hk=>absurd rfl hk,par:=h.par,parl:=h.parl,nod:=h.nod,tree:=h.tree,blen:=h.blen}
 decl:=by show 1<=64;decide
 decn:=by show (List.map _ [_]).Nodup;simp
theorem c5b (d:De) (h:DeG d) (σ:List b9):b8 CC 199 [(.list (d.body.map Ex.cv) (gnn d.body.length) none),(.list (d.params.map scv) (gnn d.params.length) none)] σ fun r Y=>r = .ret (.tup [sv (V6 d),(iv (0))])/\Y=σ:=by
 refine b8.anyw hCC pu_ pu_ (c7 (qO Tryz.func199 ?_)) σ;refine qY (B3 #[(0,1),(1,1),(2,1),(3,1)] rfl ⟨rfl,rfl,tt,tt,tt⟩ b0s a9K rfl ⟨_,rfl⟩ (fun w=>by kernel_rfl) rfl rfl) ?_;refine qY (A8 ([(⟨1,[102],d.params,d.body⟩:De)].map De.cv) rfl ⟨tt,tt⟩ b0S a4O a9K rfl rfl rfl rfl rfl rfl rfl rfl rfl) ?_;refine qY (B3 #[(0,1),(1,1),(2,1)] rfl ⟨rfl,tt,tt⟩ a6A a3V rfl ⟨_,rfl⟩ (fun w=>by kernel_rfl) rfl rfl) ?_;refine qY (c5 rfl Tryz.call198 ⟨tt,tt⟩ (b04 (d8P d) (d4S h) _) rfl) ?_;refine qC ?_ ?_<;>intro h1
 ·cases h1
 ·obtain ⟨t,fc,fo,ht3⟩:=a7K h;refine qD (c4 rfl Tryz.call245 j1 (d1I (gnn d.body.length) (gnn d.params.length) (by have:=h.blen;omega) t fc ⟨1,fo⟩ (b4g h) _) rfl ?_);rintro dd _;dsimp only;rw [<- ht3];refine c6 ?_;exact ⟨_,r9 (rs:=[.tmp 4,.tmp 5]) (cs:=[_,_]) rfl R4 (n_5 rfl),_,_,rfl,rfl,(.old (D4 (cs:=[sv (V6 d),iv 0]) ⟨.val _,.val _,tt⟩).old)⟩
def R9 (l:List Str):Str:=(l.map fun s=>[105,109,112,111,114,116,32]++s++[59,10]).flatten
theorem b3r {l:List Str} {s:Str} (h:l[m]? = some s):R9 (l.take (m+1))=R9 (l.take m)++([105,109,112,111,114,116,32]++s++[59,10]):=by
 unfold R9;rw [a2m,h];simp
def a41 (d:De):Str:=if d.k=1 then [102,117,110,99,32]++d.name++[40]++J8 [44,32] d.params++[41,32,61,32] else if d.k=2 then [116,101,115,116,32]++d.name++[32,61,32] else [103,101,110,32,34]++d.name++[34,32,61,32]
noncomputable def a1l (x:Src) (d:De):Str:=([112,97,99,107,97,103,101,32]++x.pkg++[59,10])++R9 x.imports++a41 d++(V6 d++[59,10])
theorem a7T {l:List Str} (h:∀ s∈l,s.length<=80):∀ m,(R9 (l.take m)).length<=100*m
 | 0=>by simp [R9]
 | m+1=>by
  have ih:=a7T h m;cases hg:l[m]? with
  | none =>
   have:l.length<=m:=sp_ hg;rw [U5 (show l.length<=m+1 by omega)];rw [U5 this] at ih;omega
  | some y =>
   have:=h y (n_2 hg);rw [b3r hg];simp only [n_6,C5,I8];omega
theorem b5r {l:List Str} {k:Nat} (h:∀ s∈l,s.length<=k):a9I l<=k*l.length:=by
 induction l with
 | nil=>simp [a9I]
 | cons x l ih =>
  have h1:=h x si_;have h2:=ih fun s hs=>h s (by simp [hs]);simp only [a9I,b2C,List.sum_cons,C5,Nat.mul_add] at h2 ⊢;omega
theorem De.name_len (h:DeG d):d.name.length<=80:=by
 by_cases h3:d.k=3
 ·exact L1 (h.path h3)
 ·have:=B7 (h.name h3).1;omega
def kpn (a:Nat) (ph:Bool):Nat:=match ph with | false=>a | true=>a+1
theorem c2U {L:Nat} {q s':Nat} (hL:q < L) (hs:ak[s']? = some s) (hr:∀ c∈rest,r4 c) (he:l=l'):b1g L ak (F7 T q s a l rest) (F7 T q s' a l' rest):=by
 subst he;refine .box ⟨?_,.list (fun r hr c hc=>(a1I l r hr c hc).old) (fun j hj=>?_),?_⟩
 ·cases a
  ·exact .old (.val _)
  ·exact .old (.ptr hL)
 ·cases hb:l.length with
  | zero=>rw [hb] at hj;cases hj
  | succ m=>rw [hb] at hj;injection hj with hj;subst hj;exact ⟨s,rfl,hs⟩
 ·have:∀ l:List CV,(∀ c∈l,r4 c)->b48 L l:=fun l=>by
   induction l with
   | nil=>intro _;trivial
   | cons x l ih=>intro h;exact ⟨(h x si_).old,ih fun c hc=>h c (by simp [hc])⟩
  exact a8c (this rest hr)
theorem c4E {s:Str} (h:C3 s=true):1<=s.length:=by
 cases s with
 | nil=>simp [C3] at h
 | cons a l=>simp
theorem c6c (x:Src) (h:a2b x) (i:Nat) (d:De) (hx:x.decls[i]? = some d) (hd:DeG d) (hi:i < x.decls.length) (σ:List b9):b8 CC 156 [.agg x.cells,iv i] σ fun r Y=>r = .ret (.tup [sv (a1l x d),(iv (0))])/\Y=σ:=by
 refine b8.anyw hCC pu_ pu_ (c7 (qO Tryz.func156 ?_)) σ;refine qD (G8 rfl tt j3 j6 ?_);refine qY (c5 rfl Tryz.call198 ⟨tt,tt⟩ (b04 x h _) rfl) ?_;refine qC ?_ ?_<;>intro h1
 ·cases h1
 ·refine qG D6 ?_;refine qG c33 ?_;refine qG c3u ?_;refine qG c3A ?_;refine b0R ?_;refine qC ?_ ?_<;>intro h2
  ·exact absurd h2 L4
  ·have eI:=De.name_len hd;have hbl:=a8w hd;have eu:=B7 h.pkg.1;have himl:=h.impl;have gj:∀ s∈x.imports,s.length<=80:=fun s hs=>by have:=B7 (h.imp s hs).1;omega
   have cd:=a3A [44,32] d.params;have dQ:=b5r (b4g hd);have hprl:=hd.parl;have e2:([44,32]:Str).length=2:=rfl;rw [e2] at cd;refine qY (p9 rfl tt tt rfl rfl b0S a4O om_ (i8 hx) rfl) ?_;refine z_7 ?_;refine qY (c5 rfl Tryz.call199 j1 (c5b d hd _) rfl) ?_;refine qC ?_ ?_<;>intro h3
   ·cases h3
   ·refine qD (b6c rfl Tryz.zeroValue244 rfl j6 ?_);refine qY b88 ?_;refine qY c4w ?_;refine qD (c4 rfl a2J j1 ((a0e (A0 a5j false [] (fun c hc=>by cases hc) ([112,97,99,107,97,103,101,32]++x.pkg++[59,10]) a7G (q:=2) (k:=3) ⟨rfl,rfl,n_5 rfl⟩))) rfl ?_);intro _ _;refine qN [.box x.cells,.box d.cells,F7 tSB 2 4 true (([112,97,99,107,97,103,101,32]++x.pkg++[59,10])) [],.dead,A3 tU8 (([112,97,99,107,97,103,101,32]++x.pkg++[59,10])).length] rfl (qY J3 ?_);refine A6 hCC 5 rfl (α:=Nat × Bool) (fun x'=>[(7,.ptr 1 0),(8,(sv (V6 d))),(10,.ptr 2 0),(49,(.list (x.imports.map scv) (gnn x.imports.length) none)),(50,iv x.imports.length),(51,iv x'.1)]) (fun x'=>[.box x.cells,.box d.cells,F7 tSB 2 (kpn 4 x'.2) true (([112,97,99,107,97,103,101,32]++x.pkg++[59,10])++R9 (x.imports.take x'.1)) [],.dead,op1 x'.2 (([112,97,99,107,97,103,101,32]++x.pkg++[59,10])++R9 (x.imports.take x'.1)).length,op2 x'.2 (([112,97,99,107,97,103,101,32]++x.pkg++[59,10])++R9 (x.imports.take x'.1)).length]) (fun x'=>x'.1<=x.imports.length) (fun x'=>x.imports.length - x'.1) ⟨(0,false),[0,1,2,3,4,9],(n_4 _),⟨rfl,rfl⟩,ut_,⟨.inr ⟨_,rfl,.same rfl (Src.old x _)⟩,.inr ⟨_,rfl,.same rfl (De.old d _)⟩,.inr ⟨_,rfl,c2U de_ rfl (fun c hc=>by cases hc) (a1k _).symm⟩,.inl rfl,.inr ⟨_,rfl,T7 (a1k _).symm⟩,.inl rfl,tt⟩⟩ ?_;intro ⟨m,ph⟩ hm;dsimp only at hm ⊢;have bn:=a7T gj m;refine qk ?_;refine cC ?_ ?_<;>intro h4
    ·have ab:m < x.imports.length:=sm_ h4;obtain ⟨y,hy⟩:∃ y,x.imports[m]? = some y:=⟨x.imports[m]'ab,si_⟩;have dU:=gj y (n_2 hy);have es:=b3r hy;have ej:([112,97,99,107,97,103,101,32]++x.pkg++[59,10])++R9 (x.imports.take m)++([105,109,112,111,114,116,32]++y++[59,10])=([112,97,99,107,97,103,101,32]++x.pkg++[59,10])++R9 (x.imports.take (m+1)):=by rw [es];simp only [D7]
     refine qk (qY b67 ?_);refine qY b88 ?_;refine qY c4w ?_;refine qD (c4 rfl a2J j1 (A0 a5j _ (([112,97,99,107,97,103,101,32]++x.pkg++[59,10])++R9 (x.imports.take m)) (fun c hc=>by cases hc) ([105,109,112,111,114,116,32]++y++[59,10]) a7G (q:=2) (k:=kpn 4 ph) ⟨rfl,by cases ph<;>rfl,by cases ph<;>exact n_5 rfl⟩) rfl ?_);intro _ _;refine qN [.box x.cells,.box d.cells,F7 tSB 2 6 true (([112,97,99,107,97,103,101,32]++x.pkg++[59,10])++R9 (x.imports.take m)++([105,109,112,111,114,116,32]++y++[59,10])) [],.dead,.dead,.dead,A3 tU8 (([112,97,99,107,97,103,101,32]++x.pkg++[59,10])++R9 (x.imports.take m)++([105,109,112,111,114,116,32]++y++[59,10])).length] P5 ?_;refine qY l9 ?_;exact ⟨(m+1,true),[0,1,2,3,4,6],(show x.imports.length - (m+1) < x.imports.length - m/\m+1<=x.imports.length from ⟨om_,om_⟩),⟨rfl,rfl⟩,ut_,⟨.inr ⟨_,rfl,.same rfl (Src.old x _)⟩,.inr ⟨_,rfl,.same rfl (De.old d _)⟩,.inr ⟨_,rfl,c2U de_ rfl (fun c hc=>by cases hc) ej⟩,.inl rfl,.inl rfl,.inr ⟨_,rfl,T7 ej⟩,tt⟩⟩
    ·have bU:m=x.imports.length:=sm_ h4;rw [bU] at bn;have etk:x.imports.take m=x.imports:=by rw [bU];exact U5 (n_7 _)
     rw [etk];rw [<- bU,etk] at bn;refine j4 ?_;refine qC ?_ ?_<;>intro h5
     ·have u5:d.k=1:=sp_ h5;refine cW 9 ?_;refine hY b0I ?_;refine hY Q3 ?_;refine hY b88 ?_;refine hY c4w ?_;refine hY b4p ?_;refine hY a4Y ?_;refine hY (c5 rfl Tryz.call201 o6 (b0O d.params _ [44,32] rfl om_ (fun s hs=>⟨c4E (hd.par s hs).1,by have:=b4g hd s hs;omega⟩) _) rfl) ?_;refine hY (H4 rfl tt tt rfl rfl a7G) ?_;refine hY c4w ?_;refine X2 ?_;refine qD (c4 rfl a2J j1 (A0 a5j _ (([112,97,99,107,97,103,101,32]++x.pkg++[59,10])++R9 x.imports) (fun c hc=>by cases hc) ([102,117,110,99,32]++d.name++[40]++J8 [44,32] d.params++[41,32,61,32]) a7G (q:=2) (k:=kpn 4 ph) ⟨rfl,by cases ph<;>rfl,by cases ph<;>exact n_5 rfl⟩) rfl ?_);intro _ _;refine qN [.box x.cells,.box d.cells,F7 tSB 2 6 true (([112,97,99,107,97,103,101,32]++x.pkg++[59,10])++R9 x.imports++([102,117,110,99,32]++d.name++[40]++J8 [44,32] d.params++[41,32,61,32])) [],.dead,.dead,.dead,A3 tU8 (([112,97,99,107,97,103,101,32]++x.pkg++[59,10])++R9 x.imports++([102,117,110,99,32]++d.name++[40]++J8 [44,32] d.params++[41,32,61,32])).length] P5 ?_;refine qY c8x ?_;refine qD (c4 rfl a2J j1 (A0 a5j _ (([112,97,99,107,97,103,101,32]++x.pkg++[59,10])++R9 x.imports++([102,117,110,99,32]++d.name++[40]++J8 [44,32] d.params++[41,32,61,32])) (fun c hc=>by cases hc) (V6 d++[59,10]) a7G (q:=2) (k:=6) ⟨rfl,rfl,n_5 rfl⟩) rfl ?_);intro _ _;refine qN [.box x.cells,.box d.cells,F7 tSB 2 7 true (([112,97,99,107,97,103,101,32]++x.pkg++[59,10])++R9 x.imports++([102,117,110,99,32]++d.name++[40]++J8 [44,32] d.params++[41,32,61,32])++(V6 d++[59,10])) [],.dead,.dead,.dead,.dead,A3 tU8 (([112,97,99,107,97,103,101,32]++x.pkg++[59,10])++R9 x.imports++([102,117,110,99,32]++d.name++[40]++J8 [44,32] d.params++[41,32,61,32])++(V6 d++[59,10])).length] rfl (qD (c4 rfl b86 ⟨tt,tt⟩ (a26 (rest:=[]) (T:=tSB) (fun c hc=>by cases hc) true (([112,97,99,107,97,103,101,32]++x.pkg++[59,10])++R9 x.imports++([102,117,110,99,32]++d.name++[40]++J8 [44,32] d.params++[41,32,61,32])++(V6 d++[59,10])) (q:=2) (k:=7) ⟨rfl,rfl,n_5 rfl⟩) rfl ?_));intro _ _;refine c6 ?_;exact ⟨_,r9 (rs:=[.tmp 4,.tmp 5]) (cs:=[_,_]) rfl R4 (n_5 rfl),_,_,rfl,rfl,(by rw [a1l];rw [a41,n_1 u5];exact .old (D4 (cs:=[sv _,iv 0]) ⟨.val _,.val _,tt⟩).old)⟩
     ·have u5:¬ d.k=1:=sp_ h5;refine qC ?_ ?_<;>intro h6
      ·have u6:d.k=2:=sp_ h6;refine qY b88 ?_;refine qY c4w ?_;refine qD (c4 rfl a2J j1 (A0 a5j _ (([112,97,99,107,97,103,101,32]++x.pkg++[59,10])++R9 x.imports) (fun c hc=>by cases hc) ([116,101,115,116,32]++d.name++[32,61,32]) a7G (q:=2) (k:=kpn 4 ph) ⟨rfl,by cases ph<;>rfl,by cases ph<;>exact n_5 rfl⟩) rfl ?_);intro _ _;refine qN [.box x.cells,.box d.cells,F7 tSB 2 6 true (([112,97,99,107,97,103,101,32]++x.pkg++[59,10])++R9 x.imports++([116,101,115,116,32]++d.name++[32,61,32])) [],.dead,.dead,.dead,A3 tU8 (([112,97,99,107,97,103,101,32]++x.pkg++[59,10])++R9 x.imports++([116,101,115,116,32]++d.name++[32,61,32])).length] P5 ?_;refine qY c8x ?_;refine qD (c4 rfl a2J j1 (A0 a5j _ (([112,97,99,107,97,103,101,32]++x.pkg++[59,10])++R9 x.imports++([116,101,115,116,32]++d.name++[32,61,32])) (fun c hc=>by cases hc) (V6 d++[59,10]) a7G (q:=2) (k:=6) ⟨rfl,rfl,n_5 rfl⟩) rfl ?_);intro _ _;refine qN [.box x.cells,.box d.cells,F7 tSB 2 7 true (([112,97,99,107,97,103,101,32]++x.pkg++[59,10])++R9 x.imports++([116,101,115,116,32]++d.name++[32,61,32])++(V6 d++[59,10])) [],.dead,.dead,.dead,.dead,A3 tU8 (([112,97,99,107,97,103,101,32]++x.pkg++[59,10])++R9 x.imports++([116,101,115,116,32]++d.name++[32,61,32])++(V6 d++[59,10])).length] rfl (qD (c4 rfl b86 ⟨tt,tt⟩ (a26 (rest:=[]) (T:=tSB) (fun c hc=>by cases hc) true (([112,97,99,107,97,103,101,32]++x.pkg++[59,10])++R9 x.imports++([116,101,115,116,32]++d.name++[32,61,32])++(V6 d++[59,10])) (q:=2) (k:=7) ⟨rfl,rfl,n_5 rfl⟩) rfl ?_));intro _ _;refine c6 ?_;exact ⟨_,r9 (rs:=[.tmp 4,.tmp 5]) (cs:=[_,_]) rfl R4 (n_5 rfl),_,_,rfl,rfl,(by rw [a1l];rw [a41,n_0 u5,n_1 u6];exact .old (D4 (cs:=[sv _,iv 0]) ⟨.val _,.val _,tt⟩).old)⟩
      ·have u6:¬ d.k=2:=sp_ h6;refine qY b88 ?_;refine qY c4w ?_;refine qD (c4 rfl a2J j1 (A0 a5j _ (([112,97,99,107,97,103,101,32]++x.pkg++[59,10])++R9 x.imports) (fun c hc=>by cases hc) ([103,101,110,32,34]++d.name++[34,32,61,32]) a7G (q:=2) (k:=kpn 4 ph) ⟨rfl,by cases ph<;>rfl,by cases ph<;>exact n_5 rfl⟩) rfl ?_);intro _ _;refine qN [.box x.cells,.box d.cells,F7 tSB 2 6 true (([112,97,99,107,97,103,101,32]++x.pkg++[59,10])++R9 x.imports++([103,101,110,32,34]++d.name++[34,32,61,32])) [],.dead,.dead,.dead,A3 tU8 (([112,97,99,107,97,103,101,32]++x.pkg++[59,10])++R9 x.imports++([103,101,110,32,34]++d.name++[34,32,61,32])).length] P5 ?_;refine qY c8x ?_;refine qD (c4 rfl a2J j1 (A0 a5j _ (([112,97,99,107,97,103,101,32]++x.pkg++[59,10])++R9 x.imports++([103,101,110,32,34]++d.name++[34,32,61,32])) (fun c hc=>by cases hc) (V6 d++[59,10]) a7G (q:=2) (k:=6) ⟨rfl,rfl,n_5 rfl⟩) rfl ?_);intro _ _;refine qN [.box x.cells,.box d.cells,F7 tSB 2 7 true (([112,97,99,107,97,103,101,32]++x.pkg++[59,10])++R9 x.imports++([103,101,110,32,34]++d.name++[34,32,61,32])++(V6 d++[59,10])) [],.dead,.dead,.dead,.dead,A3 tU8 (([112,97,99,107,97,103,101,32]++x.pkg++[59,10])++R9 x.imports++([103,101,110,32,34]++d.name++[34,32,61,32])++(V6 d++[59,10])).length] rfl (qD (c4 rfl b86 ⟨tt,tt⟩ (a26 (rest:=[]) (T:=tSB) (fun c hc=>by cases hc) true (([112,97,99,107,97,103,101,32]++x.pkg++[59,10])++R9 x.imports++([103,101,110,32,34]++d.name++[34,32,61,32])++(V6 d++[59,10])) (q:=2) (k:=7) ⟨rfl,rfl,n_5 rfl⟩) rfl ?_));intro _ _;refine c6 ?_;exact ⟨_,r9 (rs:=[.tmp 4,.tmp 5]) (cs:=[_,_]) rfl R4 (n_5 rfl),_,_,rfl,rfl,(by rw [a1l];rw [a41,n_0 u5,n_0 u6];exact .old (D4 (cs:=[sv _,iv 0]) ⟨.val _,.val _,tt⟩).old)⟩
def U0 (n:Nat):Str:=if h:n < 128 then [UInt8.ofNat n] else UInt8.ofNat (n%128+128)::U0 (n / 128)
termination_by n
decreasing_by omega
theorem X0 (n:Nat):U0 n=if n < 128 then [UInt8.ofNat n] else UInt8.ofNat (n%128+128)::U0 (n / 128):=by
 rw [U0]
 split<;>rfl
theorem a3f {k:Nat} (h:n < 128^(k+1)):(U0 n).length<=k+1:=by
 induction k generalizing n with
 | zero=>rw [X0,n_1 (sp_ h)];exact n_7 _
 | succ k ih =>
  rw [X0]
  split
  ·simp
  ·have:=ih (n:=n / 128) (by rw [Nat.pow_succ] at h;exact Nat.div_lt_of_lt_mul (by rw [b3Z];exact h));simp;omega
def H0 (l s:Str):Str:=l++U0 s.length++s
theorem d8D:∀ x:Fin 256,(x.val ||| 128)=x.val%128+128:=by decide
theorem e0m:(n%256) ||| 128=n%128+128:=by
 have h:∀ x:Fin 256,(x.val ||| 128)=x.val%128+128:=d8D;have:=h ⟨n%256,a5m _ de_⟩;simp only at this;omega
theorem c9O (h:n < 256):((UInt8.ofNat n).toNat:Int)=(n:Int):=by
 rw [b7n,b5l (sp_ h)]
theorem d8t (n:Nat):IntKind.u8.wrap (n:Int)=((n%256:Nat):Int):=by
 simp [IntKind.wrap,IntKind.signed,IntKind.bits]
theorem b1N {C:Ctx} {E:Env} {y:Operand} {b:UInt8} {tok:Option Nat} (ey:E.val C y = .list [bcv b] nn tok):∀ M w v,Rel C M σ w->RV M w (E.val C y) v->c1y C w M ([b].map bcv) 1 v:=fun M w v hr h=>(a5y ey (by intro r hr;simp at hr;subst hr;rfl) M w v hr h).any
theorem d4b {L:Nat} {k p:Nat} (hs:ak[p]? = some k):C7 L ak (a0Y l k) (a0Y l p):=by
 refine .list (fun r hr c hc=>(a1I l r hr c hc).old) (fun j hj=>?_);cases hb:l.length with
 | zero=>rw [hb] at hj;cases hj
 | succ m=>rw [hb] at hj;injection hj with hj;subst hj;exact ⟨k,rfl,hs⟩
theorem d3C (m:Nat):CV.list [[CV.val (.int .u8 ((m%256 ||| 128:Nat):Int))]] true none = .list [bcv (UInt8.ofNat (m%128+128))] true none:=by
 rw [e0m,bcv,c9O om_]
theorem d1A (h:m < 128):CV.list [[CV.val (.int .u8 (m:Int))]] true none = .list [bcv (UInt8.ofNat m)] true none:=by
 rw [bcv,c9O om_]
def b1h (k:Nat) (g:b9):List b9:=List.replicate k .dead++[g]
theorem b1D (k:Nat) (g:b9):(b1h k g).length=k+1:=by simp [b1h]
theorem a7X (k:Nat) (g:b9):(b1h k g)[k]? = some g:=by
 rw [b1h,a1f si_];simp
theorem b1m (k:Nat) (g g':b9):(b1h k g).set k .dead++[g']=b1h (k+1) g':=by
 unfold b1h
 congr 1
 rw [List.replicate_succ']
 induction k with
 | zero=>rfl
 | succ k ih=>rw [List.replicate_succ,a9N,List.set_cons_succ,ih];rfl
theorem b6I {k:Nat} {g:b9}:E8 1 ((b1h k g).set k .dead++[A3 tU8 l.length]) (.ret (a0Y l (b1h k g).length)) (.ret (a0Y l 1)) [.dead,A3 tU8 l.length]:=by
 rw [b1m,b1D];refine ⟨[0,k+1],rfl,by simp [a0t],.ret (d4b rfl),.inl rfl,.inr ⟨_,a7X _ _,T7 rfl⟩,tt⟩
theorem b77 (l:Str) (nn:Bool) (n:Nat) (hl:l.length<=100000000000000) (hn:n < 18446744073709551616):b8 CC 204 [(.list (l.map bcv) nn none),.val (.int .u64 (n:Int))] [.dead] fun r τ=>E8 1 τ r (.ret (a0Y (l++U0 n) 1)) [.dead,A3 tU8 (l++U0 n).length]:=by
 refine qO Tryz.func204 ?_;refine qD (a35 (l:=[]) (new:=l) (p:=0) rfl rfl tt rfl (fun M w v hr h=>(a5y rfl (by intro r hr;obtain ⟨b,_,rfl⟩:=F4.1 hr;rfl) M w v hr h).any) X7 a1w b1j a4d rfl (.inl X7) rfl rfl a84 ?_);refine H8 (α:=Str × Nat × Nat) (fun x=>[(1,(.val (.int .u64 (x.2.1:Int)))),(5,(a0Y x.1 x.2.2))]) (fun x=>b1h x.2.2 (A3 tU8 x.1.length)) (fun x=>l++U0 n=x.1++U0 x.2.1/\x.2.1<=n) (fun x=>x.2.1) (l,n,1) ⟨rfl,n_7 _⟩ tu_ rfl ?_;intro ⟨b,m,k⟩ _ ⟨hb,hmn⟩;dsimp only at hb hmn ⊢;have aj:b.length<=l.length+10:=by
  have h1:=n_8 List.length hb;have h2:=a3f (n:=n) (k:=9) om_;simp only [n_6] at h1;omega
 refine qk (qC ?_ ?_)<;> intro h1
 ·have ft:¬ m < 128:=by have:=a8y h1;omega
  rw [X0 m,n_0 ft] at hb;refine qY (a6K rfl tt rfl b9O b2z (d8t m)) ?_;refine qY (d9J (a:=(m%256)) (b:=128) rfl tt rfl rfl rfl (a5m _ de_) de_) ?_;refine qY (A8 [[.val (.int .u8 ((m%256 ||| 128:Nat):Int))]] rfl ⟨tt,tt⟩ X7 a1w a4d rfl rfl rfl rfl rfl rfl rfl rfl rfl) ?_;refine qD (a35 (l:=b) (new:=[UInt8.ofNat (m%128+128)]) (p:=k) rfl tt tt rfl (b1N (d3C m)) X7 a1w b1j a4d rfl (.inl X7) rfl (a7X _ _) a84 ?_);refine qY (d8o (m:=7) rfl tt rfl rfl rfl de_ (show (m:Int) / 2^7=((m / 128:Nat):Int) by omega)) ?_;exact ⟨(b++[UInt8.ofNat (m%128+128)],m / 128,k+1),(show m / 128 < m by omega),(show l++U0 n=(b++[UInt8.ofNat (m%128+128)])++U0 (m / 128)/\m / 128<=n from ⟨by rw [hb];simp,om_⟩),⟨k8,⟨tt,(n_8 (a0Y _) (b1D k _))⟩,tt⟩,(b1m _ _ _)⟩
 ·have ft:m < 128:=by have:=a9k h1;omega
  rw [X0 m,n_1 ft] at hb;refine j4 ?_;refine qY d9m ?_;refine d9U ?_;refine c6 ?_;exact ⟨_,rE1,(by rw [hb];exact b6I)⟩
theorem b6X (h:n < 18446744073709551616):IntKind.u64.wrap (n:Int)=(n:Int):=by
 simp [IntKind.wrap,IntKind.signed,IntKind.bits];omega
theorem c1i (l:Str) (nn:Bool) (n:Nat) (hl:l.length<=100000000000000) (hn:n < 18446744073709551616) (σ:List b9):b8 CC 204 [(.list (l.map bcv) nn none),.val (.int .u64 (n:Int))] σ fun r τ=>∃ _:Unit,r = .ret (a0Y (l++U0 n) (σ.length+1))/\τ=σ++[.dead,A3 tU8 (l++U0 n).length]/\True :=
 a1L (α:=Unit) hCC (fun a ha=>by simp at ha;rcases ha with rfl | rfl;exact a14 _ _;exact .val _) (res:=fun _=>.ret (a0Y (l++U0 n) 1)) (res':=fun _ m=>.ret (a0Y (l++U0 n) (m+1))) (S:=fun _=>[.dead,A3 tU8 (l++U0 n).length]) (S':=fun _ _=>[.dead,A3 tU8 (l++U0 n).length]) (P:=fun _=>True)
  (a0e (I5 hCC ((b77 l nn n hl hn).mono fun r τ h=>⟨_,_,h,(),rfl,rfl,tt⟩))) (fun _ _=>rfl) (fun _ m i x h=>by
   rcases i with _ | _ | i
   ·injection h with h;subst h;exact ⟨_,rfl,.dead⟩
   ·injection h with h;subst h;exact ⟨_,rfl,a23 _ _⟩
   ·cases h) (fun _ m=>.ret (b0L rfl)) σ
theorem c4D {τ:List b9} {k:Nat} (h:l=l'):Cls n τ (a0Y l k) (.list (l'.map bcv) (gnn l'.length) none):=by
 subst h;refine .list rfl (fun i r r' h h'=>by rw [h] at h';injection h' with h';rw [h']) (fun i j r r' c c' h h' g g'=>?_);rw [h] at h';injection h' with h';subst h'
 rw [g] at g';injection g' with g';subst g'
 exact .old (a1I l r (n_2 h) c (n_2 g)).old
theorem a1A (l:Str) (nn:Bool) (s:Str) (hl:l.length<=100000000000) (hs:s.length<=100000000000) (σ:List b9):b8 CC 159 [(.list (l.map bcv) nn none),(sv s)] σ fun r Y=>r = .ret (.list ((H0 l s).map bcv) (gnn (H0 l s).length) none)/\Y=σ:=by
 refine b8.anyw hCC pu_ pu_ (c7 (qO Tryz.func159 ?_)) σ;refine qY Q2 ?_;refine qY c7X ?_;refine qD (c4 rfl Tryz.call204 j1 (c1i l nn s.length om_ om_ _) rfl ?_);have hpu:=a3f (n:=s.length) (k:=9) om_;intro _ _;refine qD (a35 (l:=(l++U0 s.length)) (new:=s) (p:=1) rfl tt tt rfl (b44 rfl) X7 a1w b1j a4d rfl (.inr t_7) rfl rfl (by simp only [n_6];omega) ?_);exact d6l
theorem b5h (h:n < 10):Lib.decDigits n=[UInt8.ofNat (48+n)]:=by rw [Lib.decDigits,dif_pos h]
theorem d8v (h:¬ n < 10):Lib.decDigits n=Lib.decDigits (n / 10)++Lib.decDigits (n%10):=by rw [Lib.decDigits,dif_neg h,b5h (a5m _ om_)]
theorem a5x:∀ (m n:Nat),n < 10^(m+1)->(Lib.decDigits n).length<=m+1
 | 0,n,h=>by rw [b5h om_];simp
 | m+1,n,h=>by
  by_cases h9:n < 10
  ·rw [b5h h9];simp
  ·have:=a5x m (n / 10) (by rw [Nat.pow_succ] at h;omega);rw [Lib.decDigits,dif_neg h9,n_6];simp;omega
theorem e08:∀ n:Nat,n < 10->(([48,49,50,51,52,53,54,55,56,57]:Str).take (n+1)).drop n=[UInt8.ofNat (48+n)]:=by decide
theorem a8h (h:b8 CC 148 [(.val (.int .u64 ((n:Int))))] [] fun r Y=>r = .ret (sv (Lib.decDigits n))/\Y=[]) (σ:List b9):b8 CC 148 [(.val (.int .u64 ((n:Int))))] σ fun r Y=>r = .ret (sv (Lib.decDigits n))/\Y=σ :=
 b8.anyw hCC pu_ pu_ h σ
theorem a83 (n:Nat) (hn:n<=9223372036854775807) (σ:List b9):b8 CC 148 [(.val (.int .u64 ((n:Int))))] σ fun r Y=>r = .ret (sv (Lib.decDigits n))/\Y=σ:=by
 refine b8.anyw hCC pu_ pu_ ?_ σ
 induction n using Nat.strongRecOn
 rename_i n ih;refine c7 (qO Tryz.func148 ?_);refine qC ?_ ?_<;>intro h1
 ·have hn9:n < 10:=sm_ h1;have e0:IntKind.u64.wrap ((n:Int)+1)=((n+1:Nat):Int):=b6X (n:=n+1) om_;refine qY a0c ?_;refine qY q_3 ?_;refine c6 ?_;exact ⟨_,rE1,_,_,rfl,rfl,D8 (by rw [b5h hn9];exact n_8 str (e08 n hn9))⟩
 ·have hn9:¬ n < 10:=sm_ h1;have hd:Int.tdiv (n:Int) 10=((n / 10:Nat):Int):=by rfl
  have hm:Int.tmod (n:Int) 10=((n%10:Nat):Int):=by rfl
  have g1:=a5x 18 (n / 10) om_;have g2:=a5x 18 (n%10) om_;have e1:IntKind.u64.wrap ((n:Int).tdiv 10)=((n / 10:Nat):Int):=by rw [hd];exact b6X om_
  have e2:(n:Int).tmod 10=((n%10:Nat):Int):=by exact hm
  refine qY (a0M rfl tt rfl rfl rfl (rfl)) ?_;refine qY (c5 rfl c3X ⟨tt,tt⟩ (by have h:=a8h (ih (n / 10) om_ om_) [];rw [<- e1] at h;exact h) rfl) ?_;refine qY (a0M rfl tt rfl rfl rfl (rfl)) ?_;refine qY (c5 rfl c3X ⟨tt,tt⟩ (by have h:=a8h (ih (n%10) om_ om_) [];rw [<- e2] at h;exact h) rfl) ?_;refine qY a1W ?_;refine c6 ?_;exact ⟨_,rE1,_,_,rfl,rfl,D8 (n_8 str (d8v hn9).symm)⟩
theorem a5k (u:Int) (h0 : -9007199254740992<=u) (eF:u<=9007199254740992) (σ:List b9):b8 CC 95 [iv u] σ fun r Y=>r = .ret (sv (Lib.itoa u))/\Y=σ:=by
 refine b8.anyw hCC pu_ pu_ (c7 (qO Tryz.func95 ?_)) σ;refine qC ?_ ?_<;>intro h1
 ·have hu:u < 0:=sp_ h1;obtain ⟨m,rfl⟩:∃ m:Nat,u = -(m:Int):=⟨u.natAbs,om_⟩;have g1:=a5x 18 m om_;have w1:IntKind.i64.wrap (0 - (-(m:Int)+1))=((m - 1:Nat):Int):=by rw [a95 om_ om_];omega
  have w2:IntKind.u64.wrap (IntKind.u64.wrap (IntKind.i64.wrap (0 - (-(m:Int)+1)))+1)=(m:Int):=by
   rw [w1,b6X om_,show (((m - 1:Nat):Int)+1)=(m:Int) by omega,b6X om_]
  refine qY l9 ?_;refine qY (c8g rfl tt rfl) ?_;refine qY (a6K rfl tt rfl c88 b9O rfl) ?_;refine qY a0c ?_;refine qY (c5 rfl c3X ⟨tt,tt⟩ (by have h:=a83 m om_ [];rw [<- w2] at h;exact h) rfl) ?_;refine qY a5a ?_;refine c6 ?_;exact ⟨_,a1R rfl tt rfl,_,_,rfl,rfl,D8 (n_8 str (Lib.itoa_neg m om_).symm)⟩
 ·have hu:¬ u < 0:=sp_ h1;obtain ⟨m,rfl⟩:∃ m:Nat,u=(m:Int):=⟨u.toNat,om_⟩;refine qY c7X ?_;refine qY (c5 rfl c3X ⟨tt,tt⟩ (a83 m om_ _) rfl) ?_;refine c6 ?_;exact ⟨_,a1R rfl tt rfl,_,_,rfl,rfl,D8 (n_8 str (Lib.itoa_nonneg m).symm)⟩
theorem x8 {a:Int} (h:(a == b)=true):a=b:=sp_ h
theorem w8 {a:Int} (h:(a == b)=false):¬ a=b:=sp_ h
theorem b02 (x:Ex) (σ:List b9):b8 CC 271 [(.agg x.cells)] σ fun r Y=>r = .ret (iv (a3Y x.k x.op))/\Y=σ:=by
 refine b8.anyw hCC pu_ pu_ (c7 (qO Tryz.func271 ?_)) σ;refine qD (G8 rfl tt j3 j6 ?_);refine qC ?_ ?_<;>intro h1
 ·have u1:x.k=5:=sp_ h1;exact d6N
 ·have u1:¬ x.k=5:=sp_ h1;refine qC ?_ ?_<;>intro h2
  ·have u2:¬ x.k=4:=sp_ h2;exact d5u
  ·have u2:x.k=4:=sp_ h2;refine qC ?_ ?_<;>intro h3
   ·have v3:=x8 h3;refine qC ?_ ?_<;>intro h4
    ·have v4:=x8 h4;exact b2I
    ·have v4:=w8 h4;refine qC ?_ ?_<;>intro h5
     ·have v5:=x8 h5;refine qC ?_ ?_<;>intro h6
      ·have v6:=x8 h6;exact b2I
      ·have v6:=w8 h6;exact b2I
     ·have v5:=w8 h5;refine qC ?_ ?_<;>intro h7
      ·have v7:=x8 h7;exact b2I
      ·have v7:=w8 h7;exact b2I
   ·have v3:=w8 h3;refine qC ?_ ?_<;>intro h8
    ·have v8:=x8 h8;exact b2I
    ·have v8:=w8 h8;refine qC ?_ ?_<;>intro h9
     ·have v9:=x8 h9;refine qC ?_ ?_<;>intro aY
      ·have iA:=x8 aY;exact b2I
      ·have iA:=w8 aY;exact b2I
     ·have v9:=w8 h9;refine qC ?_ ?_<;>intro cw
      ·have iE:=x8 cw;exact b2I
      ·have iE:=w8 cw;exact b2I
def SG:List Str:=[[],[43],[45],[42],[47],[37],[60],[61,61]]
theorem d7J (h:1<=o/\o<=7):SG[o.toNat]? = some (sgn o)/\(sgn o).length<=2:=by
 have:o=1\/o=2\/o=3\/o=4\/o=5\/o=6\/o=7:=by omega
 rcases this with rfl | rfl | rfl | rfl | rfl | rfl | rfl<;>exact ⟨rfl,de_⟩
theorem d8s (o:Int):1<=F6 o/\F6 o<=3:=by unfold F6;(repeat (first | split))<;>omega
def RWr (E:List Ex) (ps:List Str) (en pn:Bool) (t:Tr) (s:Nat):Prop:=∀ (pl:Int) (σ:List b9),b8 CC 226 [.list (E.map Ex.cv) en none,iv ((s+t.size - 1:Nat):Int),.list (ps.map scv) pn none,iv pl] σ fun r τ=>r = .ret (sv (t.txt ps pl))/\τ=σ
theorem c6p (eC:a8s E (.n k u o nm ch) s) (hn:V5 ps.length k u o nm ch.length) (hI:∀ (m:Nat) (c:Tr),ch[m]? = some c->RWr E ps en pn c (s+z8 (ch.take m))) (hL:∀ (m:Nat) (c:Tr) (pl:Int),ch[m]? = some c->(c.txt ps pl).length<=100000000) (dz:ch.length<=1000) (hTl:(ndT ps k u o nm (I7 ps ch (a0R k o))).length<=1000000000000) (pl:Int):b8 CC 226 [(.list (E.map Ex.cv) en none),iv ((s+(Tr.n k u o nm ch).size - 1:Nat):Int),(.list (ps.map scv) pn none),iv pl] [] fun r Y=>r = .ret (sv ((Tr.n k u o nm ch).txt ps pl))/\Y=[]:=by
 refine c7 (cO Tryz.func226 ?_);refine qs 3 (qY d7z ?_);refine c0f ?_;refine N8 hCC (α:=Str) (fun x=>[(3,iv pl),(9,.ptr 0 0),(10,sv x)]) (fun _=>[.box ((⟨k,u,o,nm,o4 ch s⟩:Ex)).cells]) (fun x=>x=ndT ps k u o nm (I7 ps ch (a0R k o))) z6 uz_ ?_ ?_
 ·
  refine qk (qC ?_ ?_)<;> intro h1
  ·have u1:k=1:=x8 h1;have bw:=hn.k1 u1;refine qY (c5 rfl c9I ⟨tt,tt⟩ (a5k u bw.1 bw.2 _) rfl) ?_;exact ⟨(Lib.itoa u),_,(by rw [ndT,n_1 u1]),tu_,rfl⟩
  ·have u1:¬ k=1:=w8 h1;refine qC ?_ ?_<;>intro h2
   ·have u2:k=2:=x8 h2;obtain ⟨bS,hk3⟩:=hn.k2 u2;obtain ⟨p,hpg⟩:=gx_ ps u.toNat;refine qY (p9 rfl tt tt rfl rfl t_2 t_0 om_ (i8 hpg) rfl) ?_;exact ⟨p,_,(by rw [ndT,n_0 u1,n_1 u2,a58,hpg];rfl),tu_,rfl⟩
   ·have u2:¬ k=2:=w8 h2;refine qC ?_ ?_<;>intro h3
    ·have u3:k=3:=x8 h3;have v6:¬ k=4:=by omega
     have v8:¬ k=5:=by omega
     have gH:=B7 (hn.k3 u3).1;have hpl0:a0R k o=[]:=n_0 v6;have hCl:(I7 ps ch (a0R k o)).length=ch.length:=a4H _ _ _;have hJ:=fun m=>a8X [44,32] (I7 ps ch (a0R k o)) m;have hjt:(J8 [44,32] (I7 ps ch (a0R k o))).length<=1000000000000:=by
      rw [ndT,n_0 u1,n_0 u2,n_0 v6,n_0 v8,n_1 u3,n_6,n_6] at hTl;omega
     refine qY X4 ?_;refine qY a1g ?_;refine j7 hCC (α:=Nat) (fun m=>[(0,(.list (E.map Ex.cv) en none)),(2,(.list (ps.map scv) pn none)),(3,iv pl),(9,.ptr 0 0),(10,sv (nm++[40]++G0 [44,32] (I7 ps ch (a0R k o)) m)),(40,(.list ((o4 ch s).map icv) (gnn (o4 ch s).length) none)),(41,(iv ((o4 ch s).length:Int))),(42,iv m)]) (fun _=>[.box ((⟨k,u,o,nm,o4 ch s⟩:Ex)).cells]) (fun m=>m<=ch.length) (fun m=>ch.length - m) 0 (n_4 _) ⟨k8,k8,k8,k8,⟨tt,(by show sv _=sv _;simp [G0,J8])⟩,k8,k8,k8,tt⟩ (ah:=[]) rfl z6 uz_ ?_;intro m hm;have hJm:=hJ m;refine qk (qC ?_ ?_)<;> intro h4
     ·have ab:m < ch.length:=by simp [T0] at h4;omega
      obtain ⟨c,hc⟩:∃ c,ch[m]? = some c:=⟨ch[m]'ab,si_⟩;have hg:=L6 (s:=s) hc;have hx:=a0A ps ch (a0R k o) m c hc;rw [show (a0R k o).getD m 0=0 by rw [hpl0];rfl] at hx;have bZ:=hL m c 0 hc;refine qY (p9 rfl tt tt rfl rfl t_4 t_1 om_ (i8 hg) rfl) ?_;refine qC ?_ ?_<;>intro h5
      ·have hm0:¬ m=0:=sm_ h5;refine qY X4 ?_;refine qY (c5 rfl b5H b06 (hI m c hc 0 _) rfl) ?_;refine b9a ?_;exact ⟨(m+1),_,⟨om_,om_⟩,⟨k8,k8,k8,k8,⟨tt,(by show sv _=sv _;rw [Z4 hx,n_0 hm0];simp [D7])⟩,k8,k8,k8,tt⟩,rfl⟩
      ·have hm0:m=0:=sm_ h5;refine qY (c5 rfl b5H b06 (hI m c hc 0 _) rfl) ?_;refine b9a ?_;exact ⟨(m+1),_,⟨om_,om_⟩,⟨k8,k8,k8,k8,⟨tt,(by show sv _=sv _;rw [Z4 hx,n_1 hm0];simp [D7])⟩,k8,k8,k8,tt⟩,rfl⟩
     ·have bU:m=ch.length:=by simp [T0] at h4;omega
      refine j4 ?_;refine qY X4 ?_;exact ⟨(nm++[40]++G0 [44,32] (I7 ps ch (a0R k o)) m++[41]),_,(by rw [ndT,n_0 u1,n_0 u2,n_0 v6,n_0 v8,n_1 u3,G0,bU,<- hCl,a57]),tu_,rfl⟩
    ·have u3:¬ k=3:=w8 h3;refine cC ?_ ?_<;>intro h6
     ·have v6:k=4:=x8 h6;have bh:=hn.k4 v6;have gl:=d8s o;obtain ⟨hsg,dQ⟩:=d7J bh;refine qs 2 (qY (c5 rfl Tryz.call271 ⟨tt,tt⟩ ((by have h:=b02 (⟨k,u,o,nm,o4 ch s⟩:Ex);rw [show a3Y (⟨k,u,o,nm,o4 ch s⟩:Ex).k (⟨k,u,o,nm,o4 ch s⟩:Ex).op=F6 o by show a3Y k o=_;rw [a3Y,n_0 om_,n_1 v6]] at h;exact h _)) rfl) ?_);refine qY l9 ?_;refine N8 hCC (α:=Int) (fun x=>[(0,(.list (E.map Ex.cv) en none)),(2,(.list (ps.map scv) pn none)),(3,iv pl),(9,.ptr 0 0),(14,iv x),(15,(iv (F6 o+1)))]) (fun _=>[.box ((⟨k,u,o,nm,o4 ch s⟩:Ex)).cells]) (fun x=>x=if F6 o=1 then F6 o+1 else F6 o) z6 uz_ ?_ ?_
      ·
       refine qk (qC ?_ ?_)<;> intro h7
       ·have w7:F6 o=1:=x8 h7;exact ⟨2,_,(by rw [n_1 w7,w7];rfl),tu_,rfl⟩
       ·have w7:¬ F6 o=1:=w8 h7;exact ⟨(F6 o),_,(by rw [n_0 w7]),tu_,rfl⟩
      ·rintro x hx;obtain ⟨c0,c1,rfl⟩:∃ a b,ch=[a,b]:=by
        have hc:=hn.cnt;rw [n_1 v6] at hc
        match ch,hc with
        | [a,b],_=>exact ⟨a,b,rfl⟩
       have dv:=hL 0 c0 x rfl;have cP:=hL 1 c1 (F6 o+1) rfl;have hoe:(⟨k,u,o,nm,o4 [c0,c1] s⟩:Ex).op=o:=rfl;refine cW 26 ?_;refine b3K ?_;refine hY d8Q ?_;refine b9s ?_;refine hY (c5 rfl b5H a2r (hI 0 c0 rfl x _) rfl) ?_;refine hY X4 ?_;refine hY (A8 (SG.map scv) rfl ⟨rfl,rfl,rfl,rfl,rfl,rfl,rfl,rfl,tt⟩ t_2 t_0 t_3 rfl rfl rfl rfl rfl rfl rfl rfl rfl) ?_;refine b3g ?_;refine hY (p9 rfl tt tt rfl rfl t_2 t_0 om_ (i8 hsg) rfl) ?_;refine hY a6w ?_;refine hY a1W ?_;refine hY X4 ?_;refine b3K ?_;refine hY d9s ?_;refine b9s ?_;refine hY (c5 rfl b5H a2r (hI 1 c1 rfl (F6 o+1) _) rfl) ?_;refine hY a1W ?_;refine a88 ?_;exact ⟨(c0.txt ps x++[32]++sgn o++[32]++c1.txt ps (F6 o+1)),_,(by rw [ndT,n_0 u1,n_0 u2,n_1 v6,a0R,n_1 v6,hx];simp [I7]),tu_,rfl⟩
     ·have v6:¬ k=4:=w8 h6;refine qk (qC ?_ ?_)<;> intro h8
      ·have v8:k=5:=x8 h8;obtain ⟨c0,c1,c2,rfl⟩:∃ a b c,ch=[a,b,c]:=by
        have hc:=hn.cnt;rw [n_0 v6,n_1 v8] at hc
        match ch,hc with
        | [a,b,c],_=>exact ⟨a,b,c,rfl⟩
       have dv:=hL 0 c0 0 rfl;have cP:=hL 1 c1 0 rfl;have cp:=hL 2 c2 0 rfl;refine cW 27 ?_;refine b3K ?_;refine hY d8Q ?_;refine hY a8b ?_;refine hY B2 ?_;refine hY (c5 rfl b5H b06 (hI 0 c0 rfl 0 _) rfl) ?_;refine hY a5a ?_;refine hY X4 ?_;refine b3K ?_;refine hY d9s ?_;refine hY a8b ?_;refine hY B2 ?_;refine hY (c5 rfl b5H b06 (hI 1 c1 rfl 0 _) rfl) ?_;refine hY a1W ?_;refine hY X4 ?_;refine b3K ?_;refine hY (p9 rfl tt rfl rfl rfl t_4 t_1 om_ (i8 (L6 (m:=2) (s:=s) rfl)) rfl) ?_;refine hY a8b ?_;refine hY B2 ?_;refine hY (c5 rfl b5H b06 (hI 2 c2 rfl 0 _) rfl) ?_;refine hY a1W ?_;refine a88 ?_;exact ⟨([105,102,32]++c0.txt ps 0++[32,116,104,101,110,32]++c1.txt ps 0++[32,101,108,115,101,32]++c2.txt ps 0),_,(by rw [ndT,n_0 u1,n_0 u2,n_0 v6,n_1 v8,a0R,n_0 v6];simp [I7]),tu_,rfl⟩
      ·have v8:¬ k=5:=w8 h8;refine qC ?_ ?_<;>intro h9
       ·have v9:k=6:=x8 h9;have gH:=L1 (hn.k678 (.inl v9));obtain ⟨c0,rfl⟩:∃ a,ch=[a]:=by
         have hc:=hn.cnt;rw [n_0 v6,n_0 v8,n_1 v9] at hc
         match ch,hc with
         | [a],_=>exact ⟨a,rfl⟩
        have dv:=hL 0 c0 0 rfl;refine cW 14 ?_;refine b85 ?_;refine hY a5a ?_;refine hY X4 ?_;refine b3K ?_;refine hY d8Q ?_;refine hY a8b ?_;refine hY B2 ?_;refine hY (c5 rfl b5H b06 (hI 0 c0 rfl 0 _) rfl) ?_;refine hY a1W ?_;refine hY X4 ?_;refine a88 ?_;exact ⟨([114,101,97,100,40,34]++nm++[34,44,32]++c0.txt ps 0++[41]),_,(by rw [ndT,n_0 u1,n_0 u2,n_0 v6,n_0 v8,n_0 u3,n_1 v9,a0R,n_0 v6];simp [I7]),tu_,rfl⟩
       ·have v9:¬ k=6:=w8 h9;refine qC ?_ ?_<;>intro aY
        ·have iA:k=7:=x8 aY;have gH:=L1 (hn.k678 (.inr (.inl iA)));refine a2G ?_;exact ⟨([115,105,122,101,40,34]++nm++[34,41]),_,(by rw [ndT,n_0 u1,n_0 u2,n_0 v6,n_0 v8,n_0 u3,n_0 v9,n_0 om_,a6y];rw [iA];simp),tu_,rfl⟩
        ·have iA:¬ k=7:=w8 aY;refine qC ?_ ?_<;>intro cw
         ·have iE:k=8:=x8 cw;have gH:=L1 (hn.k678 (.inr (.inr iE)));refine a2G ?_;exact ⟨([104,97,115,40,34]++nm++[34,41]),_,(by rw [ndT,n_0 u1,n_0 u2,n_0 v6,n_0 v8,n_0 u3,n_0 v9,n_0 om_,a6y];rw [iE];simp),tu_,rfl⟩
         ·have iE:¬ k=8:=w8 cw;refine qC ?_ ?_<;>intro da
          ·have v12:k=9:=x8 da;have gH:=B7 (hn.k9 v12);refine a2G ?_;exact ⟨([101,110,118,40,34]++nm++[34,41]),_,(by rw [ndT,n_0 u1,n_0 u2,n_0 v6,n_0 v8,n_0 u3,n_0 v9,n_0 om_,a6y];rw [v12];simp),tu_,rfl⟩
          ·have v12:¬ k=9:=w8 da;refine qC ?_ ?_<;>intro dr
           ·have v13:k=10:=x8 dr;have hk10:=hn.k10 v13;have bn:(Lib.itoa u).length<=19:=by
             obtain ⟨m,rfl⟩:∃ m:Nat,u=(m:Int):=⟨u.toNat,om_⟩;rw [Lib.itoa_nonneg];exact a5x 18 m om_
            refine qY (c5 rfl c9I ⟨tt,tt⟩ (a5k u om_ om_ _) rfl) ?_;refine a2G ?_;exact ⟨([102,108,105,112,40]++Lib.itoa u++[41]),_,(by rw [ndT,n_0 u1,n_0 u2,n_0 v6,n_0 v8,n_0 u3,n_0 v9,n_1 v13]),tu_,rfl⟩
           ·exfalso;have v13:¬ k=10:=w8 dr;have:=hn.kind;omega
 ·rintro x hx;subst hx;have hT:=hTl;refine qk (qY (c5 rfl Tryz.call271 ⟨tt,tt⟩ (b02 (⟨k,u,o,nm,o4 ch s⟩:Ex) _) rfl) ?_);refine qC ?_ ?_<;>intro gE
  ·have bY:a3Y k o < pl:=sp_ gE;refine a2G ?_;refine c6 ?_;exact ⟨_,a1R rfl tt rfl,_,_,rfl,rfl,D8 (by rw [Tr.txt,n_1 bY])⟩
  ·have bY:¬ a3Y k o < pl:=sp_ gE;refine c6 ?_;exact ⟨_,a1R rfl tt rfl,_,_,rfl,rfl,D8 (by rw [Tr.txt,n_0 bY])⟩
theorem b36 {E:List Ex} {ps:List Str} {en pn:Bool} (hE:E.length<=1000) (hp:∀ x∈ps,x.length<=80):∀ (n:Nat) (t:Tr) (s d:Nat),t.size<=n->a8s E t s->t.wf ps.length d->RWr E ps en pn t s
 | 0,t,s,d,hs,_,_=>by have:=t.size_pos;omega
 | n+1,.n k u o nm ch,s,d,hs,eC,hw=>fun pl σ=>by
  have hw':=hw;rw [Tr.wf] at hw';have aI:(Tr.n k u o nm ch).size<=E.length:=by
   obtain ⟨E0,E1,he,_⟩:=eC;rw [he,n_6,n_6,Tr.flat_len];omega
  rw [Tr.size] at hs aI;have fe:∀ (m:Nat) (c:Tr),ch[m]? = some c->c.size<=z8 ch:=fun m c hc=>by
   have h1:=a3T hc;have h2:=a06 ch (m+1);omega
  have hL:∀ (m:Nat) (c:Tr) (pl:Int),ch[m]? = some c->(c.txt ps pl).length<=100000000:=fun m c pl hc=>by
   have h1:=Tr.txt_len hp c _ pl (a5T hw'.2.2 hc);have h2:=fe m c hc;omega
  have bZ:=a3e ch;have hT:=c3t hp hw'.2.1 (I7 ps ch (a0R k o));have hT2:=a8t hp ch _ (a0R k o) hw'.2.2;rw [a4H] at hT;exact b8.anyw (args:=[_,_,_,_]) hCC ⟨a0q _ _,.val _,F5 _ _,.val _,tt⟩ (.val _) (c6p eC hw'.2.1 (fun m c hc=>b36 hE hp n c _ _ (by have:=fe m c hc;omega) (eC.child hc) (a5T hw'.2.2 hc)) hL om_ om_ pl) σ
theorem c31 (h:DeG d):∀ x∈d.params,x.length<=80:=fun x hx=>by have:=B7 (h.par x hx).1;omega
theorem c5A (h:DeG d) (en pn:Bool) (σ:List b9):b8 CC 226 [.list (d.body.map Ex.cv) en none,iv ((d.body.length:Int) - 1),.list (d.params.map scv) pn none,iv 0] σ fun r τ=>r = .ret (sv (V6 d))/\τ=σ:=by
 obtain ⟨t,h1,h2,h3⟩:=a7K h;have hl:d.body.length=t.size:=by rw [h1,Tr.flat_len]
 have hp:=t.size_pos;have hb:=h.blen;have:=b36 (E:=d.body) (en:=en) (pn:=pn) om_ (c31 h) t.size t 0 1 (n_7 _) ⟨[],[],by rw [h1];simp,rfl⟩ h2 0 σ;rw [show ((0+t.size - 1:Nat):Int)=(d.body.length:Int) - 1 by omega,<- h3] at this;exact this
noncomputable def b7G (d:De):Str:=a41 d++(V6 d++[59,10])
theorem c4B (d:De) (hd:DeG d) (σ:List b9):b8 CC 179 [(.agg d.cells)] σ fun r Y=>r = .ret (sv (b7G d))/\Y=σ:=by
 refine an_ Tryz.func179 ?_;refine d1h ?_;refine N8 hCC (α:=Str) (fun x=>[(1,.ptr 0 0),(3,sv x)]) (fun _=>[.box d.cells]) (fun x=>x++[32,61,32]=a41 d/\x.length<=2000) z6 uz_ ?_ ?_
 ·
  refine qk (qC ?_ ?_)<;> intro h1
  ·have u1:d.k=1:=x8 h1;have gH:=B7 (hd.name om_).1;refine a2G ?_;refine qY J3 ?_;refine j7 hCC (α:=Nat) (fun m=>[(1,.ptr 0 0),(3,sv ([102,117,110,99,32]++d.name++[40]++G0 [44,32] d.params m)),(15,(.list (d.params.map scv) (gnn d.params.length) none)),(16,iv d.params.length),(17,iv m)]) (fun _=>[.box d.cells]) (fun m=>m<=d.params.length) (fun m=>d.params.length - m) 0 (n_4 _) ⟨k8,⟨tt,(by show sv _=sv _;simp [G0,J8])⟩,k8,k8,k8,tt⟩ (ah:=[]) rfl z6 uz_ ?_;intro m hm;have hJ:=a8X [44,32] d.params m;have hJ2:=a3A [44,32] d.params;have hJ3:=b5r (b4g hd);have aX:=hd.parl;have e2:([44,32]:Str).length=2:=rfl;rw [e2] at hJ2;refine qk (qC ?_ ?_)<;> intro h2
   ·have ab:m < d.params.length:=sm_ h2;obtain ⟨y,hy⟩:∃ y,d.params[m]? = some y:=⟨d.params[m]'ab,si_⟩;have dU:=c31 hd y (n_2 hy);refine qY b67 ?_;refine qC ?_ ?_<;>intro h3
    ·have hm0:¬ m=0:=sm_ h3;refine qY X4 ?_;refine b9a ?_;exact ⟨(m+1),_,⟨om_,om_⟩,⟨k8,⟨tt,(by show sv _=sv _;rw [Z4 hy,n_0 hm0];simp [D7])⟩,k8,k8,k8,tt⟩,rfl⟩
    ·have hm0:m=0:=sm_ h3;refine b9a ?_;exact ⟨(m+1),_,⟨om_,om_⟩,⟨k8,⟨tt,(by show sv _=sv _;rw [Z4 hy,n_1 hm0];simp [D7])⟩,k8,k8,k8,tt⟩,rfl⟩
   ·have bU:m=d.params.length:=sm_ h2;refine j4 ?_;refine qY X4 ?_;exact ⟨([102,117,110,99,32]++d.name++[40]++G0 [44,32] d.params m++[41]),_,⟨by rw [a41,n_1 u1,G0,bU,a57];simp,by simp only [n_6,C5,I8];omega⟩,tu_,rfl⟩
  ·have u1:¬ d.k=1:=w8 h1;refine qC ?_ ?_<;>intro h4
   ·have u2:d.k=2:=x8 h4;have gH:=B7 (hd.name om_).1;refine qY a5a ?_;exact ⟨([116,101,115,116,32]++d.name),_,⟨by rw [a41,n_0 u1,n_1 u2];first | done | simp,by simp only [n_6,C5,I8];omega⟩,tu_,rfl⟩
   ·have u2:¬ d.k=2:=w8 h4;refine qC ?_ ?_<;>intro h5
    ·have u3:d.k=3:=x8 h5;have gH:=L1 (hd.path u3);refine a2G ?_;exact ⟨([103,101,110,32,34]++d.name++[34]),_,⟨by rw [a41,n_0 u1,n_0 u2];first | done | simp,by simp only [n_6,C5,I8];omega⟩,tu_,rfl⟩
    ·exfalso;have u3:¬ d.k=3:=w8 h5;have:=hd.kind;omega
 ·rintro x ⟨hx,hxl⟩;have hbl:=a8w hd;have hb:=hd.blen;refine qk (qY X4 ?_);refine b6U ?_;refine qY (c5 rfl b5H b06 (c5A hd _ _ _) rfl) ?_;refine b05 ?_;refine c6 ?_;exact ⟨_,a1R rfl tt rfl,_,_,rfl,rfl,D8 (by rw [b7G,<- hx];simp [D7])⟩
theorem c6k (x:Src) (h:a2b x) (σ:List b9):b8 CC 178 [(.agg x.cells)] σ fun r Y=>r = .ret (sv (([112,97,99,107,97,103,101,32]++x.pkg++[59,10])++R9 x.imports))/\Y=σ:=by
 refine b8.anyw hCC pu_ pu_ ?_ σ;have eu:=B7 h.pkg.1;have gj:∀ s∈x.imports,s.length<=80:=fun s hs=>by have:=B7 (h.imp s hs).1;omega
 refine c7 (qO Tryz.func178 ?_);refine qD (G8 rfl tt j3 j6 ?_);refine a2G ?_;refine qY J3 ?_;refine j7 hCC (α:=Nat) (fun m=>[(3,sv (([112,97,99,107,97,103,101,32]++x.pkg++[59,10])++R9 (x.imports.take m))),(11,(.list (x.imports.map scv) (gnn x.imports.length) none)),(12,iv x.imports.length),(13,iv m)]) (fun _=>[.box x.cells]) (fun m=>m<=x.imports.length) (fun m=>x.imports.length - m) 0 (n_4 _) ⟨⟨tt,(by show sv _=sv _;simp [R9])⟩,k8,k8,k8,tt⟩ (ah:=[]) rfl z6 uz_ ?_;intro m hm;have hI8:=a7T gj m;have himl:=h.impl;have eu:=B7 h.pkg.1;refine qk (qC ?_ ?_)<;> intro h1
 ·have ab:m < x.imports.length:=sm_ h1;obtain ⟨y,hy⟩:∃ y,x.imports[m]? = some y:=⟨x.imports[m]'ab,si_⟩;have dU:=gj y (n_2 hy);refine qY b67 ?_;refine a2G ?_;refine b9a ?_;exact ⟨(m+1),_,⟨om_,om_⟩,⟨⟨tt,(by show sv _=sv _;rw [a2m,hy];simp [R9,D7])⟩,k8,k8,k8,tt⟩,rfl⟩
 ·have bU:m=x.imports.length:=sm_ h1;refine z_9 ?_;exact ⟨_,a1R rfl tt rfl,_,_,rfl,rfl,D8 (by rw [bU,a57])⟩
theorem a5F (s:Str) (hs:s.length<=1000000000) (σ:List b9):b8 CC 221 [(sv s)] σ fun r Y=>r = .ret (.val (.bool (C3 s && !R6 s)))/\Y=σ:=by
 refine b8.anyw hCC pu_ pu_ (c7 (qO Tryz.func221 ?_)) σ;refine qY (c5 rfl c4L ⟨tt,tt⟩ (a1D s _) rfl) ?_;refine qG D6 ?_;refine qG (fun hg=>c5 rfl Tryz.call229 ⟨hg,tt⟩ (a6x s _) rfl) ?_;refine b70 ?_;refine c6 ?_;exact ⟨_,a1R rfl tt rfl,_,_,rfl,rfl,j8 rfl⟩
def arK (k:Int):Int:=if k=3 then -1 else if k=4 then 2 else if k=5 then 3 else if k=6 then 1 else 0
theorem b96 (k:Int) (σ:List b9):b8 CC 270 [iv k] σ fun r Y=>r = .ret (iv (arK k))/\Y=σ:=by
 refine b8.anyw hCC pu_ pu_ (c7 (qO Tryz.func270 ?_)) σ;refine qC ?_ ?_<;>intro h1
 ·have u1:=x8 h1;exact c6M
 ·have u1:=w8 h1;refine qC ?_ ?_<;>intro h2
  ·have u2:=x8 h2;exact c6M
  ·have u2:=w8 h2;refine qC ?_ ?_<;>intro h3
   ·have u3:=x8 h3;exact c6M
   ·have u3:=w8 h3;refine qC ?_ ?_<;>intro h4
    ·have u4:=x8 h4;exact c6M
    ·have u4:=w8 h4;exact c6M
theorem c0s (x:Ex) (np c:Nat) (h:V5 np x.k x.num x.op x.name c) (σ:List b9):b8 CC 222 [(.agg x.cells),iv np] σ fun r Y=>r = .ret (.val (.bool true))/\Y=σ:=by
 refine b8.anyw hCC pu_ pu_ (c7 (qO Tryz.func222 ?_)) σ;refine qD (G8 rfl tt j3 j6 ?_);refine b2h ?_;refine b2h ?_;refine b2h ?_;refine b2h ?_;refine b2h ?_;refine b2h ?_;refine b2h ?_;refine qG D6 ?_;refine qG a6u ?_;refine qG a9j ?_;refine qH rfl rfl (fun hk hg=>j5 rfl tt rfl a6N rfl t_0 de_) ?_;refine qH rfl rfl (fun hk hg=>o5 rfl ⟨hk,hg⟩ rfl t_9 rfl rfl) ?_;refine qH rfl rfl (fun hk hg=>a2L rfl ⟨hk,hg⟩ rfl rfl rfl (b2j _ _)) ?_;refine qG c22 ?_;refine qY R7 ?_;refine qG D6 ?_;refine qG a6u ?_;refine qG a9j ?_;refine d5D ?_;refine d2F ?_;refine qY R7 ?_;refine c5K ?_;refine b8K ?_;refine d5D ?_;refine d2F ?_;refine qY R7 ?_;refine qC ?_ ?_<;>intro h1
 ·exfalso;have hk:=h.kind;have hn:=h.num;have ho:=h.op;have bL:=h.name;simp only [a8j,U6,b7W,a1v,b6f,beq_eq_false_iff_ne,bne_iff_ne,ne_eq] at h1
  rcases h1 with (((h1 | h1) | ⟨h1,h2⟩) | ⟨h1,h2⟩) | ⟨h1,h2⟩<;>first|omega|exact a9k h2 (bL om_)|exact h2 (hn om_ om_ om_)|exact h2 (ho h1)
 ·refine qC ?_ ?_<;>intro h2
  ·have u2:=x8 h2;refine c5K ?_;refine a3G ?_;exact a98
  ·have u2:=w8 h2;refine qC ?_ ?_<;>intro h3
   ·have u3:=x8 h3;refine c5K ?_;refine qG D6 ?_;refine qG b39 ?_;refine qY M7 ?_;exact a98
   ·have u3:=w8 h3;refine qC ?_ ?_<;>intro h4
    ·have u4:=x8 h4;refine c5K ?_;refine a3G ?_;exact a98
    ·have u4:=w8 h4;refine qC ?_ ?_<;>intro h5
     ·have u5:=x8 h5;refine c5K ?_;refine a3G ?_;exact a98
     ·have u5:=w8 h5;refine qC ?_ ?_<;>intro h6
      ·have u6:=x8 h6;refine qY (c5 rfl c2H ⟨tt,tt⟩ (a5F x.name (by have:=h.len;omega) _) rfl) ?_;exact a98
      ·have u6:=w8 h6;refine qC ?_ ?_<;>intro h7
       ·have u7:=x8 h7;refine qY (c5 rfl c4L ⟨tt,tt⟩ (a1D x.name _) rfl) ?_;exact a98
       ·have u7:=w8 h7;refine qC ?_ ?_<;>intro h8
        ·have u8:=x8 h8;refine qC ?_ ?_<;>intro h9
         ·have u9:=x8 h9;refine qY c93 ?_;exact a98
         ·have u9:=w8 h9;exact a98
        ·have u8:=w8 h8;refine qC ?_ ?_<;>intro aY
         ·have u10:=x8 aY;refine qC ?_ ?_<;>intro cw
          ·have u11:=x8 cw;refine qY c93 ?_;exact a98
          ·have u11:=w8 cw;exact a98
         ·have u10:=w8 aY;refine qC ?_ ?_<;>intro da
          ·have u12:=x8 da;refine qY c93 ?_;exact a98
          ·have u12:=w8 da;exact a98
mutual
def Tr.dp:Tr->Nat
 | .n k _ _ _ ch=>dpL k ch 1
def dpL (k:Int):List Tr->Nat->Nat
 | [],n=>n
 | c::l,n=>dpL k l (max n (c.dp+if k=4 then 0 else 1))
end
theorem c9i {l:List Tr} (h:l[m]? = some c) (n:Nat):dpL k (l.drop m) n=dpL k (l.drop (m+1)) (max n (c.dp+if k=4 then 0 else 1)):=by
 obtain ⟨ab,rfl⟩:=n_3.1 h;rw [R2 ab,dpL]
mutual
theorem Tr.dp_le {np:Nat}:∀ (t:Tr) (d:Nat),t.wf np d->t.dp+d<=33
 | .n k u o nm ch,d,h=>by
  rw [Tr.wf] at h;rw [Tr.dp];exact d0k ch k d 1 om_ h.2.2
theorem d0k {np:Nat}:∀ (l:List Tr) (k:Int) (d n:Nat),n+d<=33->wfL np (if k=4 then d else d+1) l->dpL k l n+d<=33
 | [],k,d,n,hn,_=>by rw [dpL];exact hn
 | c::l,k,d,n,hn,h=>by
  rw [wfL] at h;have h1:=Tr.dp_le c _ h.1;rw [dpL];refine d0k l k d _ ?_ h.2;split at h1<;>rename_i hk<;>simp only [hk,if_true,if_false] at*<;> omega
end
def RDp (E:List Ex) (en:Bool) (t:Tr) (s:Nat):Prop:=∀ (σ:List b9),b8 CC 225 [.list (E.map Ex.cv) en none,iv ((s+t.size - 1:Nat):Int)] σ fun r τ=>r = .ret (iv t.dp)/\τ=σ
theorem c8p (eC:a8s E (.n k u o nm ch) s) (hI:∀ (m:Nat) (c:Tr),ch[m]? = some c->RDp E en c (s+z8 (ch.take m))) (hB:∀ (m:Nat) (c:Tr),ch[m]? = some c->c.dp<=1000) (dz:ch.length<=1000):b8 CC 225 [(.list (E.map Ex.cv) en none),(iv ((s+(Tr.n k u o nm ch).size - 1:Nat):Int))] [] fun r Y=>r = .ret (iv ((Tr.n k u o nm ch).dp:Int))/\Y=[]:=by
 refine c7 (qO Tryz.func225 ?_);refine qY d7z ?_;refine qY a1g ?_;refine j7 hCC (α:=Nat × Nat) (fun a=>[(0,(.list (E.map Ex.cv) en none)),(1,(iv ((s+(Tr.n k u o nm ch).size - 1:Nat):Int))),(5,iv a.2),(13,(.list ((o4 ch s).map icv) (gnn (o4 ch s).length) none)),(14,(iv ((o4 ch s).length:Int))),(15,iv a.1)]) (fun _=>[]) (fun a=>a.1<=ch.length/\a.2<=1001/\(Tr.n k u o nm ch).dp=dpL k (ch.drop a.1) a.2) (fun a=>ch.length - a.1) (0,1) ⟨n_4 _,de_,by rw [Tr.dp];rfl⟩ tu_ (ah:=[]) rfl z6 uz_ ?_;rintro ⟨m,n⟩ ⟨hm,hnb,hr⟩;dsimp only at hm hnb hr ⊢;refine qk (qC ?_ ?_)<;> intro h1
 ·have ab:m < ch.length:=by simp [T0] at h1;omega
  obtain ⟨c,hc⟩:∃ c,ch[m]? = some c:=⟨ch[m]'ab,si_⟩;have hg:=L6 (s:=s) hc;rw [c9i hc] at hr;have hcb:=hB m c hc;refine qY (p9 rfl tt tt rfl rfl t_4 t_1 om_ (i8 hg) rfl) ?_;refine qY (c5 rfl Tryz.call225 j1 (hI m c hc _) rfl) ?_;refine qY d7z ?_;refine qC ?_ ?_<;>intro h2
  ·have hk4:¬ k=4:=sp_ h2;rw [n_0 hk4] at hr;refine qY l9 ?_;refine qY (c6T rfl tt tt rfl rfl) ?_;refine qY l9 ?_;exact ⟨(m+1,max n (c.dp+1)),_,⟨do_,do_,do_,hr⟩,⟨k8,k8,⟨tt,(by show (iv (max (n:Int) ((c.dp:Int)+1)))=iv ((max n (c.dp+1):Nat):Int);congr 2;omega)⟩,k8,k8,k8,tt⟩,rfl⟩
  ·have hk4:k=4:=sp_ h2;rw [n_1 hk4] at hr;refine qY (c6T rfl tt tt rfl rfl) ?_;refine qY l9 ?_;exact ⟨(m+1,max n (c.dp+0)),_,⟨do_,do_,do_,hr⟩,⟨k8,k8,⟨tt,(by show (iv (max (n:Int) (c.dp:Int)))=iv ((max n (c.dp+0):Nat):Int);congr 2;omega)⟩,k8,k8,k8,tt⟩,rfl⟩
 ·have bU:m=ch.length:=by simp [T0] at h1;omega
  rw [bU,b2n,dpL] at hr;refine z_9 ?_;exact ⟨_,rE1,_,_,rfl,rfl,D2 (by rw [hr])⟩
theorem b87 {E:List Ex} {en:Bool} (hE:E.length<=1000) {np:Nat}:∀ (n:Nat) (t:Tr) (s d:Nat),t.size<=n->a8s E t s->t.wf np d->RDp E en t s
 | 0,t,s,d,hs,_,_=>by have:=t.size_pos;omega
 | n+1,.n k u o nm ch,s,d,hs,eC,hw=>fun σ=>by
  have hw':=hw;rw [Tr.wf] at hw';have aI:(Tr.n k u o nm ch).size<=E.length:=by
   obtain ⟨E0,E1,he,_⟩:=eC;rw [he,n_6,n_6,Tr.flat_len];omega
  rw [Tr.size] at hs aI;have fe:∀ (m:Nat) (c:Tr),ch[m]? = some c->c.size<=z8 ch:=fun m c hc=>by
   have h1:=a3T hc;have h2:=a06 ch (m+1);omega
  have bZ:=a3e ch;exact b8.anyw (args:=[_,_]) hCC ⟨a0q _ _,.val _,tt⟩ (.val _) (c8p eC (fun m c hc=>b87 hE n c _ _ (by have:=fe m c hc;omega) (eC.child hc) (a5T hw'.2.2 hc)) (fun m c hc=>by have:=Tr.dp_le c _ (a5T hw'.2.2 hc);omega) om_) σ
theorem c87 (h:DeG d) (en:Bool) (σ:List b9):∃ n:Nat,n<=32/\b8 CC 225 [.list (d.body.map Ex.cv) en none,iv ((d.body.length:Int) - 1)] σ fun r τ=>r = .ret (iv n)/\τ=σ:=by
 obtain ⟨t,h1,h2⟩:=h.tree;have hl:d.body.length=t.size:=by rw [h1,Tr.flat_len]
 have hp:=t.size_pos;have hb:=h.blen;have hdp:=Tr.dp_le t 1 h2;have:=b87 (E:=d.body) (en:=en) om_ t.size t 0 1 (n_7 _) ⟨[],[],by rw [h1];simp,rfl⟩ h2 σ;rw [show ((0+t.size - 1:Nat):Int)=(d.body.length:Int) - 1 by omega] at this;exact ⟨t.dp,om_,this⟩
def fiD (k:Int) (o pa pk:Str):List De->Nat->En->En
 | [],_,e=>e
 | d::l,j,e=>fiD k o pa pk l (j+1) (if (d.k == k && decide (d.name=o))=true then (if (e.ct+1 == 1)=true then ⟨pk,e.o,e.k,pa,j,e.ct+1⟩ else ⟨e.p,e.o,e.k,e.pl,e.ix,e.ct+1⟩) else e)
def fiL (k:Int) (p o:Str):List (Str × Src)->En->En
 | [],e=>e
 | x::l,e=>fiL k p o l (if ((k != 3) && !decide (x.2.pkg=p))=true then e else fiD k o x.1 x.2.pkg x.2.decls 0 e)
def fiE (L:List (Str × Src)) (k:Int) (p o:Str):En:=fiL k p o L ⟨if k=3 then [] else p,o,k,[],0,0⟩
theorem c7c {o pa pk:Str} {l:List De} {j:Nat} {e:En} (h:l[j]? = some d):fiD k o pa pk (l.drop j) j e=fiD k o pa pk (l.drop (j+1)) (j+1) (if (d.k == k && decide (d.name=o))=true then (if (e.ct+1 == 1)=true then ⟨pk,e.o,e.k,pa,j,e.ct+1⟩ else ⟨e.p,e.o,e.k,e.pl,e.ix,e.ct+1⟩) else e):=by
 obtain ⟨ab,rfl⟩:=n_3.1 h;rw [R2 ab];rfl
theorem d1j {p o:Str} {l:List (Str × Src)} {e:En} (h:l[i]? = some x):fiL k p o (l.drop i) e=fiL k p o (l.drop (i+1)) (if ((k != 3) && !decide (x.2.pkg=p))=true then e else fiD k o x.1 x.2.pkg x.2.decls 0 e):=by
 obtain ⟨ab,rfl⟩:=n_3.1 h;rw [R2 ab];rfl
theorem d4l (h:L[i]? = some x):(L.map Prod.fst)[i]? = some x.1:=by rw [O5,h];rfl
theorem c3p (h:L[i]? = some x):(L.map Prod.snd)[i]? = some x.2:=by rw [O5,h];rfl
theorem b9F (L:List (Str × Src)) (k:Int) (p o:Str) (hL:L.length<=1000) (hd:∀ x∈L,x.2.decls.length<=100000) (σ:List b9):b8 CC 62 [.agg (a0S (L.map Prod.fst) (L.map Prod.snd)),iv k,(sv p),(sv o)] σ fun r Y=>r = .ret (.agg (fiE L k p o).cells)/\Y=σ:=by
 refine an_ Tryz.func62 ?_;refine d1h ?_;refine qD (p8 rfl a9Y rfl j6 ?_);refine qY e0c ?_;refine d4z ?_;refine N8 hCC (α:=Str) (fun _=>[(1,iv k),(2,(sv p)),(3,(sv o)),(4,.ptr 0 0),(8,.ptr 1 0),(9,.ptr 2 0)]) (fun a=>[.box (a0S (L.map Prod.fst) (L.map Prod.snd)),.box En.z.cells,.box (⟨a,o,k,[],0,0⟩:En).cells]) (fun a=>a=if k=3 then [] else p) z6 uz_ ?_ ?_
 ·
  refine qk (qC ?_ ?_)<;> intro h1
  ·have hk:k=3:=sp_ h1;refine qD (j2 rfl tt rfl rfl j3 t_0 (.inl rfl) rfl rfl (nb rfl) ?_);exact ⟨([]:Str),_,(n_1 hk).symm,tu_,rfl⟩
  ·have hk:¬ k=3:=sp_ h1;exact ⟨p,_,(n_0 hk).symm,tu_,rfl⟩
 ·intro pp fH;have dQ:(L.map Prod.snd).length=L.length:=O3 _;refine qk (qY d1V ?_);refine j7 hCC (α:=Nat × En) (fun a=>[(1,iv k),(2,(sv p)),(3,(sv o)),(4,.ptr 0 0),(8,.ptr 1 0),(9,.ptr 2 0),(22,(.list ((L.map Prod.snd).map Src.cv) (gnn (L.map Prod.snd).length) none)),(23,(iv ((L.map Prod.snd).length:Int))),(24,iv a.1)]) (fun a=>[.box (a0S (L.map Prod.fst) (L.map Prod.snd)),.box En.z.cells,.box a.2.cells]) (fun a=>a.1<=L.length/\fiE L k p o=fiL k p o (L.drop a.1) a.2/\0<=a.2.ct/\a.2.ct<=100000*(a.1:Int)) (fun a=>L.length - a.1) (0,(⟨pp,o,k,[],0,0⟩:En)) ⟨n_4 _,by rw [fH];rfl,b2X _,b2X _⟩ tu_ (ah:=[]) rfl z6 uz_ ?_;intro ⟨i,e⟩ ⟨hi,hr,h0,hc⟩;dsimp only at hi hr h0 hc ⊢;refine qk (qC ?_ ?_)<;> intro h2
  ·have ab:i < L.length:=sm_ h2;obtain ⟨x,hb⟩:∃ x,L[i]? = some x:=⟨L[i]'ab,si_⟩;have gI:=hd x (n_2 hb);rw [d1j hb] at hr;refine qY d8L ?_;refine c4N ?_;refine qG d0C ?_;refine qG a2C ?_;refine qG D6 ?_;refine qG (fun hg=>a2L rfl hg hg rfl rfl (b2j _ _)) ?_;refine qY M7 ?_;refine qC ?_ ?_<;>intro h3
   ·rw [n_1 h3] at hr;exact d6t
   ·rw [n_0 (by rw [h3];exact Bool.false_ne_true)] at hr;refine qY a4z ?_;refine j7 hCC (α:=Nat × En) (fun a=>[(1,iv k),(2,(sv p)),(3,(sv o)),(4,.ptr 0 0),(8,.ptr 1 0),(9,.ptr 2 0),(10,iv i),(11,.ptr 3 0),(22,(.list ((L.map Prod.snd).map Src.cv) (gnn (L.map Prod.snd).length) none)),(23,(iv ((L.map Prod.snd).length:Int))),(24,iv i),(38,(.list (x.2.decls.map De.cv) (gnn x.2.decls.length) none)),(39,iv x.2.decls.length),(40,iv a.1)]) (fun a=>[.box (a0S (L.map Prod.fst) (L.map Prod.snd)),.box En.z.cells,.box a.2.cells,.box x.2.cells]) (fun a=>a.1<=x.2.decls.length/\fiE L k p o=fiL k p o (L.drop (i+1)) (fiD k o x.1 x.2.pkg (x.2.decls.drop a.1) a.1 a.2)/\0<=a.2.ct/\a.2.ct<=100000*(i:Int)+(a.1:Int)) (fun a=>x.2.decls.length - a.1) (0,e) ⟨n_4 _,hr,h0,do_⟩ tu_ (ah:=[]) rfl z6 uz_ ?_;intro ⟨j,e⟩ ⟨hj,hr,h0,hc⟩;dsimp only at hj hr h0 hc ⊢;refine qk (qC ?_ ?_)<;> intro h4
    ·have hjt:j < x.2.decls.length:=sm_ h4;obtain ⟨d,hdd⟩:∃ d,x.2.decls[j]? = some d:=⟨x.2.decls[j]'hjt,si_⟩;rw [c7c hdd] at hr;refine qY (p9 rfl tt tt rfl rfl b0S a4O om_ (i8 hdd) rfl) ?_;refine z_7 ?_;refine qG b9k ?_;refine b9N ?_;refine qC ?_ ?_<;>intro h5
     ·rw [n_1 h5] at hr;refine z_6 ?_;refine qC ?_ ?_<;>intro h6
      ·rw [n_1 h6] at hr;refine cF [] [0,1,2,3,4,5,6,7,8] (tl:=[(9,[2,3,4,5,6,7]),(10,[7]),(11,[7]),(12,[]),(13,[])]) ?_;refine chf rfl (c8 rfl c3N) ?_;refine chf rfl c7y ?_;refine chf rfl (c8 rfl b2m) ?_;refine chf rfl d1l ?_;refine chf rfl V4 ?_;refine chf rfl (c8 rfl b6o) ?_;refine chf rfl (c8 rfl a6w) ?_;refine chf rfl V4 ?_;refine chf rfl (c8 rfl b3j) ?_;refine D9 ?_;refine B1 rfl rfl rfl (j2 rfl tt tt rfl j3 t_0 (.inl rfl) rfl rfl (nb rfl) ?_);refine ⟨⟨(by exact c8 rfl b2m),(by exact c8 rfl a4Y),F1,(by exact c8 rfl b6o),(by exact c8 rfl a6w),F1,tt⟩,?_⟩;refine F2 rfl rfl (c8 rfl b3j) ⟨⟨F1,tt⟩,?_⟩;refine B1 rfl rfl rfl (j2 rfl tt tt rfl j3 t_0 (.inl rfl) rfl rfl (nb rfl) ?_);refine ⟨⟨F1,tt⟩,?_⟩;refine F2 rfl rfl (c8 rfl a9A) ⟨tt,?_⟩;refine B1 rfl rfl rfl (j2 rfl tt tt rfl j3 t_1 (.inl rfl) rfl rfl (nb rfl) ?_);refine a8A ?_;refine qY l9 ?_;exact ⟨(j+1,(⟨x.2.pkg,e.o,e.k,x.1,(j:Int),e.ct+1⟩:En)),_,⟨do_,do_,hr,do_,do_⟩,tu_,rfl⟩
      ·rw [n_0 (by rw [h6];exact Bool.false_ne_true)] at hr;refine qY l9 ?_;exact ⟨(j+1,(⟨e.p,e.o,e.k,e.pl,e.ix,e.ct+1⟩:En)),_,⟨do_,do_,hr,do_,do_⟩,tu_,rfl⟩
     ·rw [n_0 (by rw [h5];exact Bool.false_ne_true)] at hr;refine qY l9 ?_;exact ⟨(j+1,e),_,⟨do_,do_,hr,h0,do_⟩,tu_,rfl⟩
    ·have aE:x.2.decls.length<=j:=sm_ h4;rw [V2 aE] at hr;exact d6t
  ·have aE:L.length<=i:=sm_ h2;rw [V2 aE] at hr;replace hr:fiE L k p o=e:=hr;refine j4 ?_;refine qD (j2 rfl tt tt rfl j3 b5O j6 rfl rfl (nb rfl) ?_);refine c6 ?_;exact ⟨_,C6 rfl c3R,_,_,rfl,rfl,(by rw [hr];exact .old (En.pure _).old)⟩
def gV {α:Type}:List α->Nat->CV
 | [],_=>.list [] false none
 | x::l,q=>.vec q 0 (x::l).length
theorem b7R {α:Type} {l:List α} (h:l≠[]) (q:Nat):gV l q = .vec q 0 l.length:=by cases l;exact absurd rfl h;rfl
theorem c4Q {l:List Fi} (gB:D3 l=L) (nn:Bool) (h0:B4 l=0) (hl:l.length<=1000000) (hp:∀ f∈l,f.p.length<=1000000000) (hbl:∀ q b,C0 l q=some b->b.length<=1000000000) (hd:B4 l=0->∀ f∈l,C0 l f.p=some f.b) (σ:List b9):b8 CC 55 [.agg (r8 l nn)] σ fun r τ=>r = .ret (.agg (a0S (L.map Prod.fst) (L.map Prod.snd)))/\τ=σ:=by
 have h:=d4Q l nn hl hp hbl hd σ;rw [b28,b29,n_1 h0,n_1 h0,gB] at h;exact h
def okK:List Ex->Nat->List Int->Prop
 | [],_,st=>st.length=1
 | x::l,i,st=>x.args.length<=st.length/\x.args=st.drop (st.length - x.args.length)/\okK l (i+1) (st.take (st.length - x.args.length)++[(i:Int)])
theorem c92 {l:List Ex} {x:Ex} (h:l[i]? = some x) (st:List Int):okK (l.drop i) i st↔x.args.length<=st.length/\x.args=st.drop (st.length - x.args.length)/\okK (l.drop (i+1)) (i+1) (st.take (st.length - x.args.length)++[(i:Int)]):=by
 obtain ⟨ab,rfl⟩:=n_3.1 h;rw [R2 ab,okK]
def sO:List Int->List Int->b9
 | [],_=>.dead
 | x::l,rest=>.vec 1 ((x::l++rest).map icv)
theorem c7C {l:List Int} (h:l≠[]) (rest:List Int):sO l rest = .vec 1 ((l++rest).map icv):=by cases l;exact absurd rfl h;rfl
theorem b0y (n:Nat) (l r:List Int):I0 n (sO l r):=by
 cases l
 ·trivial
 ·exact b0C n _
theorem b7i (E:List Ex) (en:Bool) (hE:E.length<=1000) (hA:∀ x∈E,¬ arK x.k < 0->(x.args.length:Int)=arK x.k) (bh:okK E 0 []):b8 CC 223 [(.list (E.map Ex.cv) en none)] [] fun r τ=>∃ _:Unit,a1q 0 τ r (.ret (.val (.bool true)))/\True:=by
 refine qO Tryz.func223 ?_;refine qY b53 ?_;refine A6 hCC 0 rfl (α:=List Int × List Int × Nat) (fun a=>[(3,gV a.1 0),(8,(.list (E.map Ex.cv) en none)),(9,iv E.length),(10,iv a.2.2)]) (fun a=>[sO a.1 a.2.1]) (fun a=>a.2.2<=E.length/\a.1.length+a.2.1.length<=a.2.2/\okK (E.drop a.2.2) a.2.2 a.1) (fun a=>E.length - a.2.2) ⟨([],[],0),[99],⟨n_4 _,n_7 _,bh⟩,⟨rfl,rfl⟩,ut_,uq_⟩ ?_;rintro ⟨st,rest,i⟩ ⟨hi,hsr,hr⟩;dsimp only at hi hsr hr ⊢;refine qs 2 (qC ?_ ?_)<;> intro h1
 ·have ab:i < E.length:=sm_ h1;obtain ⟨x,hb⟩:∃ x,E[i]? = some x:=⟨E[i]'ab,si_⟩;rw [c92 hb] at hr;obtain ⟨k1,k2,hr⟩:=hr;have ik:=hA x (n_2 hb);by_cases az:st=[]
  ·subst az;refine F9 ?_;refine qs 2 (qY c4f ?_);refine c0f ?_;refine qY c6R ?_;refine N8 hCC (α:=Unit) (fun _=>[(3,(.list [] false none)),(4,iv i),(5,.ptr 1 0),(6,iv x.args.length),(8,(.list (E.map Ex.cv) en none)),(9,iv E.length),(10,iv i)]) (fun _=>[.dead,.box x.cells]) (fun _=>True) z6 uz_ ?_ ?_
   ·
    refine qk (qC ?_ ?_)<;> intro h2
    ·exact d2b
    ·have aE:¬ arK x.k < 0:=sp_ h2;have cj:=ik aE;exact ⟨(),_,tt,d8x,rfl⟩
   ·intro _ _;refine qk (qY a1g ?_);refine a2Q ?_;refine qG (fun hg=>a0f rfl hg rfl t_4 a7N rfl) ?_;refine b0R ?_;refine cC ?_ ?_<;>intro h3
    ·exfalso;simp at h3;simp at k1;simp [k1] at h3
    ·refine qk ?_;refine j7 hCC (α:=Nat) (fun k=>[(3,(.list [] false none)),(4,iv i),(5,.ptr 1 0),(6,iv x.args.length),(7,iv k),(8,(.list (E.map Ex.cv) en none)),(9,iv E.length),(10,iv i)]) (fun _=>[.dead,.box x.cells]) (fun k=>k<=x.args.length) (fun k=>x.args.length - k) 0 (n_4 _) tu_ (ah:=[]) rfl z6 uz_ ?_;intro k hk;refine qk ?_;refine cC ?_ ?_<;>intro h4
     ·exfalso;have:=Nat.le_zero.1 k1;simp at h4;omega
     ·have k0:x.args.length=0:=Nat.le_zero.1 k1;have hnil:∀ r∈([]:List (List CV)),r.length=1:=fun r h=>by cases h
      have dv:([]:List (List CV)).length=0:=rfl;have cP:([]:List Int).length=0:=rfl;refine j4 ?_;refine qY a1g ?_;refine qY a9h ?_;refine qY (a2w (h:=0) rfl tt rfl t_4 t_1 a9l rfl a5B a4g C1) ?_;refine qY d8X ?_;refine qD (d3Z 1 rfl tt tt rfl q_2 t_4 t_1 b95 t_8 rfl si_ c9m C1 si_ ?_);refine a4T ?_;exact ⟨(([]++[(i:Int)]),[],i+1),[2],⟨do_,do_,by dsimp only;simp,sp_ hr⟩,⟨rfl,rfl⟩,ut_,uq_⟩
  ·rw [b7R az,c7C az];by_cases bC:x.args.length=0/\rest=[]
   ·obtain ⟨dw,aL⟩:=bC;refine F9 ?_;refine qs 2 (qY c4f ?_);refine c0f ?_;refine qY c6R ?_;refine N8 hCC (α:=Unit) (fun _=>[(3,(.vec 0 0 st.length)),(4,iv i),(5,.ptr 1 0),(6,iv x.args.length),(8,(.list (E.map Ex.cv) en none)),(9,iv E.length),(10,iv i)]) (fun _=>[(.vec 1 ((st++rest).map icv)),.box x.cells]) (fun _=>True) z6 uz_ ?_ ?_
    ·
     refine qk (qC ?_ ?_)<;> intro h2
     ·exact d2b
     ·have aE:¬ arK x.k < 0:=sp_ h2;have cj:=ik aE;exact ⟨(),_,tt,d8x,rfl⟩
    ·intro _ _;refine qk (qY a1g ?_);refine a2Q ?_;refine qG (fun hg=>a0Z rfl hg rfl t_4 rfl rfl) ?_;refine b0R ?_;refine cC ?_ ?_<;>intro h3
     ·exfalso;simp at h3;omega
     ·refine d9Q ?_;intro k hk;refine qk (qC ?_ ?_)<;> intro h4
      ·have fP:k < x.args.length:=sm_ h4;obtain ⟨v,hv⟩:∃ v,x.args[k]? = some v:=⟨x.args[k]'fP,si_⟩;have cy:(st++rest)[st.length - x.args.length+k]? = some v:=by
        rw [R3 om_,<- a5v,<- k2,hv]
       refine cW 15 ?_;refine c8e ?_;refine hY B2 ?_;refine hY c2G ?_;refine b9s ?_;refine hY b8x ?_;refine hY B2 ?_;refine hY a9h ?_;refine hY B2 ?_;refine hY a4n ?_;refine d4W ?_;refine hY b1t ?_;refine X2 ?_;refine cC ?_ ?_<;>intro h5
       ·exfalso;simp at h5
       ·exact d6j
      ·refine j4 ?_;refine qY b8x ?_;refine qY a9h ?_;refine qY q_8 ?_;refine qY d8X ?_;refine qD (a5A (((st.take (st.length - x.args.length)++[(i:Int)])++[]).map icv) (st.take (st.length - x.args.length)++[(i:Int)]).length rfl tt tt rfl q_2 t_4 t_1 b95 t_8 rfl rfl (by simp [dw,aL]) si_ c9m C1 (by simp [dw,aL,icv]) (by simp [dw,aL]) ?_);refine a4T ?_;exact ⟨((st.take (st.length - x.args.length)++[(i:Int)]),[],i+1),[2],⟨do_,do_,by dsimp only;simp;omega,hr⟩,⟨rfl,rfl⟩,q_1,⟨.inr ⟨_,rfl,.same (c7C si_ _).symm (b0y _ _ _)⟩,tt⟩⟩
   ·have hin2:st.length - x.args.length+1<=st.length+rest.length:=by
     rcases b20 x.args.length with h | h
     ·have:rest≠[]:=fun e=>bC ⟨h,e⟩;have:=a94.2 this;omega
     ·omega
    refine F9 ?_;refine qs 2 (qY c4f ?_);refine c0f ?_;refine qY c6R ?_;refine N8 hCC (α:=Unit) (fun _=>[(3,(.vec 0 0 st.length)),(4,iv i),(5,.ptr 1 0),(6,iv x.args.length),(8,(.list (E.map Ex.cv) en none)),(9,iv E.length),(10,iv i)]) (fun _=>[(.vec 1 ((st++rest).map icv)),.box x.cells]) (fun _=>True) z6 uz_ ?_ ?_
    ·
     refine qk (qC ?_ ?_)<;> intro h2
     ·exact d2b
     ·have aE:¬ arK x.k < 0:=sp_ h2;have cj:=ik aE;exact ⟨(),_,tt,d8x,rfl⟩
    ·intro _ _;refine qk (qY a1g ?_);refine a2Q ?_;refine qG (fun hg=>a0Z rfl hg rfl t_4 rfl rfl) ?_;refine b0R ?_;refine cC ?_ ?_<;>intro h3
     ·exfalso;simp at h3;omega
     ·refine d9Q ?_;intro k hk;refine qk (qC ?_ ?_)<;> intro h4
      ·have fP:k < x.args.length:=sm_ h4;obtain ⟨v,hv⟩:∃ v,x.args[k]? = some v:=⟨x.args[k]'fP,si_⟩;have cy:(st++rest)[st.length - x.args.length+k]? = some v:=by
        rw [R3 om_,<- a5v,<- k2,hv]
       refine cW 15 ?_;refine c8e ?_;refine hY B2 ?_;refine hY c2G ?_;refine b9s ?_;refine hY b8x ?_;refine hY B2 ?_;refine hY a9h ?_;refine hY B2 ?_;refine hY a4n ?_;refine d4W ?_;refine hY b1t ?_;refine X2 ?_;refine cC ?_ ?_<;>intro h5
       ·exfalso;simp at h5
       ·exact d6j
      ·refine j4 ?_;refine qY b8x ?_;refine qY a9h ?_;refine qY q_8 ?_;refine qY d8X ?_;refine qD (b2x (((st.take (st.length - x.args.length)++[(i:Int)])++((st++rest).drop (st.length - x.args.length+1))).map icv) (st.take (st.length - x.args.length)++[(i:Int)]).length rfl tt tt rfl q_2 t_4 t_1 rfl L4 (by rw [L7];unfold Q8;simp [a6H,icv,a9d,List.map_drop,c3G];done) si_ rfl ?_);refine a4T ?_;exact ⟨((st.take (st.length - x.args.length)++[(i:Int)]),((st++rest).drop (st.length - x.args.length+1)),i+1),[0],⟨do_,do_,by dsimp only;simp;omega,hr⟩,⟨rfl,rfl⟩,q_1,⟨.inr ⟨_,rfl,.same (c7C si_ _).symm (b0y _ _ _)⟩,tt⟩⟩
 ·have eO:i=E.length:=sm_ h1;rw [eO,b2n,okK] at hr;obtain ⟨z,rfl⟩:=List.length_eq_one_iff.1 hr;refine j4 ?_;refine qY b8x ?_;refine c6 ?_;exact ⟨_,a1R rfl tt rfl,⟨(),.ret (.old (.val _)),tt⟩⟩
theorem c0A (E:List Ex) (en:Bool) (hE:E.length<=1000) (hA:∀ x∈E,¬ arK x.k < 0->(x.args.length:Int)=arK x.k) (bh:okK E 0 []) (σ:List b9):b8 CC 223 [.list (E.map Ex.cv) en none] σ fun r τ=>r = .ret (.val (.bool true))/\τ=σ :=
 (H5 (res:=fun _:Unit=>.ret (.val (.bool true))) (P:=fun _=>True) hCC (fun a h=>by simp at h;subst h;exact a0q _ _) (b7i E en hE hA bh) (fun _ _=>.val _) σ).mono fun r τ ⟨_,h1,h2,_⟩=>⟨h1,h2⟩
mutual
theorem b9Q:∀ (t:Tr) (s:Nat) (R:List Ex) (st:List Int),okK (t.flat s++R) s st↔okK R (s+t.size) (st++[((s+t.size - 1:Nat):Int)])
 | .n k u o nm ch,s,R,st=>by
  rw [Tr.flat,D7,b3E ch s _ st,List.singleton_append,okK,Tr.size];have hl:(st++o4 ch s).length - (o4 ch s).length=st.length:=by rw [n_6];omega
  dsimp only;rw [hl,List.drop_left,List.take_left,n_6,show s+(z8 ch+1) - 1=s+z8 ch by omega,<- a8T];exact ⟨fun h=>h.2.2,fun h=>⟨om_,rfl,h⟩⟩
theorem b3E:∀ (l:List Tr) (s:Nat) (R:List Ex) (st:List Int),okK (J9 l s++R) s st↔okK R (s+z8 l) (st++o4 l s)
 | [],s,R,st=>by rw [J9,z8,o4,a2e,a1k];rfl
 | t::l,s,R,st=>by rw [J9,D7,b9Q t s,b3E l,o4,z8,D7,List.singleton_append,a8T]
end
theorem c8X (t:Tr):okK (t.flat 0) 0 []:=by
 have:=(b9Q t 0 [] []).2 (by simp [okK]);rwa [a1k] at this
theorem DeG.ar (h:DeG d):∀ x∈d.body,V5 d.params.length x.k x.num x.op x.name x.args.length:=fun x hx=>by
 obtain ⟨t,h1,h2⟩:=h.tree;obtain ⟨j,hj⟩:=M6.1 hx;have hl:=(n_3.1 hj).1;rw [h1,Tr.flat_len] at hl;obtain ⟨y,z,ch,g⟩:=b5x h2 hl;rw [h1] at hj;obtain rfl:=Option.some.inj (hj.symm.trans g.e);exact g.ok
theorem V5.arK {np c:Nat} {k u o:Int} {nm:Str} (h:V5 np k u o nm c) (hn:¬ arK k < 0):(c:Int)=arK k:=by
 have hc:=h.cnt;unfold Go.Proofs.YtlppbmfecjabeaaGreatDoor.arK at hn ⊢;by_cases h3:k=3
 ·rw [n_1 h3] at hn;omega
 ·rw [n_0 h3] at hn ⊢;split at hc
  ·rename_i h4;rw [n_1 h4];omega
  ·rename_i h4;rw [n_0 h4];split at hc
   ·rename_i h5;rw [n_1 h5];omega
   ·rename_i h5;rw [n_0 h5];split at hc
    ·rename_i h6;rw [n_1 h6];omega
    ·rename_i h6;rw [n_0 h6];omega
theorem c4n (l:List De) (nn:Bool) (k:Int) (u:Str) (hl:l.length<=1000000):b8 CC 224 [.agg [sv [],.list [] false none,.list (l.map De.cv) nn none],iv k,(sv u)] [] fun r Y=>r = .ret (.val (.bool (l.any fun d=>(d.k == k) && decide (d.name=u))))/\Y=[]:=by
 refine c7 (qO Tryz.func224 ?_);refine d0o ?_;refine j7 hCC (α:=Nat) (fun i=>[(1,iv k),(2,(sv u)),(10,(.list (l.map De.cv) nn none)),(11,iv l.length),(12,iv i)]) (fun _=>[.box [sv [],.list [] false none,.list (l.map De.cv) nn none]]) (fun i=>i<=l.length/\(l.any fun d=>(d.k == k) && decide (d.name=u))=((l.drop i).any fun d=>(d.k == k) && decide (d.name=u))) (fun i=>l.length - i) 0 ⟨n_4 _,rfl⟩ tu_ (ah:=[]) rfl z6 uz_ ?_;intro i ⟨hi,hd⟩;refine qk (qC ?_ ?_)<;> intro h1
 ·have ab:i < l.length:=sm_ h1;obtain ⟨w,hb⟩:∃ w,l[i]? = some w:=⟨l[i]'ab,si_⟩;refine qY c9J ?_;refine z_7 ?_;refine qG b9k ?_;refine b9N ?_;refine qC ?_ ?_<;>intro h2
  ·have hw:((w.k == k) && decide (w.name=u))=true:=sp_ h2;refine c6 ?_;exact ⟨_,rE1,_,_,rfl,rfl,j8 (show true=(l.any fun d=>(d.k == k) && decide (d.name=u)) from (b24 hb hw).symm)⟩
  ·have hw:((w.k == k) && decide (w.name=u))=false:=sp_ h2;exact d6E
 ·have aE:l.length<=i:=sm_ h1;refine z_9 ?_;exact ⟨_,rE1,_,_,rfl,rfl,j8 (show false=(l.any fun d=>(d.k == k) && decide (d.name=u)) by rw [hd,V2 aE];rfl)⟩
theorem c43 (l:List De) (nn:Bool) (i:Nat) (k:Int) (u:Str) (hl:l.length<=1000000) (σ:List b9):b8 CC 224 [.agg [sv [],.list [] false none,.list (((l.map De.cv).take i).drop 0) nn none],iv k,sv u] σ fun r Y=>r = .ret (.val (.bool ((l.take i).any fun d=>(d.k == k) && decide (d.name=u))))/\Y=σ:=by
 rw [a9L,<- a9d];exact b8.anyw hCC (by repeat' (first|exact .val _|exact F5 [] _|exact a49 _ _|exact tt | refine r6 ?_ | refine ⟨?_,?_⟩)) (.val _) (c4n (l.take i) nn k u a4f) σ
theorem c4a (l:List Str) (nn:Bool) (i:Nat) (x:Str) (hl:l.length<=1000000) (σ:List b9):b8 CC 186 [.list (((l.map scv).take i).drop 0) nn none,sv x] σ fun r Y=>r = .ret (.val (.bool (decide (x∈l.take i))))/\Y=σ:=by
 rw [a9L,<- a9d];exact a71 (l.take i) nn x a4f σ
theorem c7h {l:List De} (h:(l.map fun d=>(d.k,d.name)).Nodup) (hd:l[i]? = some d):((l.take i).any fun y=>(y.k == d.k) && decide (y.name=d.name))=false:=by
 refine List.any_eq_false.2 fun y hy he=>?_;simp at he;refine a1V h (i:=i) (y:=(d.k,d.name)) (by rw [O5,hd];rfl) ?_;rw [<- a9d];exact F4.2 ⟨y,hy,by rw [he.1,he.2]⟩
theorem DeG.nlen (h:DeG d):d.name.length<=80:=by
 by_cases hk:d.k=3
 ·exact L1 (h.path hk)
 ·have:=B7 (h.name hk).1;omega
theorem c1D (x:Src) (h:a2b x) (σ:List b9):b8 CC 177 [.agg x.cells] σ fun r Y=>r = .ret (iv (0))/\Y=σ:=by
 refine b8.anyw hCC pu_ pu_ (c7 (qO Tryz.func177 ?_)) σ;refine qD (G8 rfl tt j3 j6 ?_);refine qY (c5 rfl c2H ⟨tt,tt⟩ (a5F x.pkg (by have:=B7 h.pkg.1;omega) _) rfl) ?_;refine qC ?_ ?_<;>intro h1
 ·exfalso;simp [h.pkg] at h1
 ·have bn:=h.impl;have eI:=h.decl;refine qY J3 ?_;refine j7 hCC (α:=Nat) (fun i=>[(1,.ptr 0 0),(24,(.list (x.imports.map scv) (gnn x.imports.length) none)),(25,iv x.imports.length),(26,iv i)]) (fun _=>[.box x.cells]) (fun i=>i<=x.imports.length) (fun i=>x.imports.length - i) 0 (n_4 _) tu_ (ah:=[]) rfl z6 uz_ ?_;intro i hi;refine qk (qC ?_ ?_)<;> intro h2
  ·have ab:i < x.imports.length:=sm_ h2;obtain ⟨y,hb⟩:∃ y,x.imports[i]? = some y:=⟨x.imports[i]'ab,si_⟩;have bL:=h.imp y (n_2 hb);refine d6n ?_;refine qC ?_ ?_<;>intro h3
   ·exfalso;simp [bL] at h3
   ·exact b4K
  ·refine j4 ?_;refine qY a4z ?_;refine j7 hCC (α:=Nat) (fun i=>[(1,.ptr 0 0),(35,(.list (x.decls.map De.cv) (gnn x.decls.length) none)),(36,iv x.decls.length),(37,iv i)]) (fun _=>[.box x.cells]) (fun i=>i<=x.decls.length) (fun i=>x.decls.length - i) 0 (n_4 _) tu_ (ah:=[]) rfl z6 uz_ ?_;intro i hi;refine qk (qC ?_ ?_)<;> intro h4
   ·have ab:i < x.decls.length:=sm_ h4;obtain ⟨d,hd⟩:∃ d,x.decls[i]? = some d:=⟨x.decls[i]'ab,si_⟩;have hg:=h.dec d (n_2 hd);have aX:=hg.parl;have hbl:=hg.blen;have gH:=hg.nlen;refine qY a9u ?_;refine z_7 ?_;refine qG b9v ?_;refine qG a5q ?_;refine a4c ?_;refine qG b9v ?_;refine qG a5q ?_;refine b8K ?_;refine qH rfl rfl (fun hk hg=>j5 rfl tt rfl b0s rfl a2j de_) ?_;refine qH rfl rfl (fun hk hg=>o5 rfl ⟨hk,hg⟩ rfl b9f rfl rfl) ?_;refine qH rfl rfl (fun hk hg=>a0f rfl ⟨hk,hg⟩ rfl t_2 a7N rfl) ?_;refine d2F ?_;refine qY R7 ?_;refine qG b9v ?_;refine qG a5q ?_;refine b8K ?_;refine d6e ?_;refine qH rfl rfl (fun hk hg=>c5 rfl c5N ⟨⟨hk,hg⟩,tt⟩ (a1E d.name _) rfl) ?_;refine c3C ?_;refine qY R7 ?_;refine qG b9v ?_;refine qG a5q ?_;refine b8K ?_;refine d6e ?_;refine qH rfl rfl (fun hk hg=>c5 rfl c2H ⟨⟨hk,hg⟩,tt⟩ (a5F d.name om_ _) rfl) ?_;refine c3C ?_;refine qY R7 ?_;refine qC ?_ ?_<;>intro h5
    ·exfalso;have hn:=hg.name;have hp:=hg.path;have hpa:=hg.pars
     rcases hg.kind with hk | hk | hk
     ·have a1:=hn om_;simp [hk,a1] at h5
     ·have a1:=hn om_;have a2:=hpa om_;simp [hk,a1,a2] at h5
     ·have a1:=hp hk;have a2:=hpa om_;simp [hk,a1,a2] at h5
    ·refine qY J3 ?_;refine j7 hCC (α:=Nat) (fun j=>[(1,.ptr 0 0),(6,.ptr 1 0),(35,(.list (x.decls.map De.cv) (gnn x.decls.length) none)),(36,iv x.decls.length),(37,iv i),(83,(.list (d.params.map scv) (gnn d.params.length) none)),(84,iv d.params.length),(85,iv j)]) (fun _=>[.box x.cells,.box d.cells]) (fun j=>j<=d.params.length) (fun j=>d.params.length - j) 0 (n_4 _) tu_ (ah:=[]) rfl z6 uz_ ?_;intro j hj;refine qk (qC ?_ ?_)<;> intro h6
     ·have ab:j < d.params.length:=sm_ h6;obtain ⟨y,hb⟩:∃ y,d.params[j]? = some y:=⟨d.params[j]'ab,si_⟩;have bL:=hg.par y (n_2 hb);refine d6n ?_;refine qC ?_ ?_<;>intro h7
      ·exfalso;simp [bL] at h7
      ·exact d6y
     ·refine j4 ?_;refine qY b53 ?_;refine j7 hCC (α:=Nat) (fun j=>[(1,.ptr 0 0),(6,.ptr 1 0),(35,(.list (x.decls.map De.cv) (gnn x.decls.length) none)),(36,iv x.decls.length),(37,iv i),(94,(.list (d.body.map Ex.cv) (gnn d.body.length) none)),(95,iv d.body.length),(96,iv j)]) (fun _=>[.box x.cells,.box d.cells]) (fun j=>j<=d.body.length) (fun j=>d.body.length - j) 0 (n_4 _) tu_ (ah:=[]) rfl z6 uz_ ?_;intro j hj;refine qk (qC ?_ ?_)<;> intro h8
      ·have ab:j < d.body.length:=sm_ h8;obtain ⟨y,hb⟩:∃ y,d.body[j]? = some y:=⟨d.body[j]'ab,si_⟩;refine qY c4f ?_;refine c0f ?_;refine qY J3 ?_;refine qY (c5 rfl Tryz.call222 j1 (c0s y d.params.length _ (hg.ar y (n_2 hb)) _) rfl) ?_;refine cC ?_ ?_<;>intro h9
       ·exfalso;simp at h9
       ·refine a4T ?_;exact ⟨(j+1),_,⟨om_,om_⟩,tu_,rfl⟩
      ·refine j4 ?_;refine qY (c5 rfl Tryz.call223 ⟨tt,tt⟩ (c0A d.body _ om_ (fun y hy=>(hg.ar y hy).arK) (by obtain ⟨t,ht,_⟩:=hg.tree;rw [ht];exact c8X t) _) rfl) ?_;refine cC ?_ ?_<;>intro aY
       ·exfalso;simp at aY
       ·exact b6r
   ·refine j4 ?_;refine qY J3 ?_;refine j7 hCC (α:=Nat) (fun i=>[(1,.ptr 0 0),(113,(.list (x.imports.map scv) (gnn x.imports.length) none)),(114,iv x.imports.length),(115,iv i)]) (fun _=>[.box x.cells]) (fun i=>i<=x.imports.length) (fun i=>x.imports.length - i) 0 (n_4 _) tu_ (ah:=[]) rfl z6 uz_ ?_;intro i hi;refine qk (qC ?_ ?_)<;> intro cw
    ·have ab:i < x.imports.length:=sm_ cw;obtain ⟨y,hb⟩:∃ y,x.imports[i]? = some y:=⟨x.imports[i]'ab,si_⟩;refine b3f ?_;refine c7D ?_;refine qG D6 ?_;refine qG (fun hg=>a2w (h:=i) rfl hg rfl t_2 t_0 a9l rfl ⟨hg,_,_,rfl,om_,om_⟩ a4g b8C) ?_;refine qG D6 ?_;refine qG (fun hg=>c5 rfl b7D ⟨hg,hg,tt⟩ (c4a x.imports _ i y om_ _) rfl) ?_;refine qY R7 ?_;refine qC ?_ ?_<;>intro da
     ·exfalso;have a1:=a1V h.impn hb;have a2:y≠x.pkg:=fun e=>h.impp (e ▸ n_2 hb);simp [a1,a2] at da
     ·exact b4K
    ·refine j4 ?_;refine qY a4z ?_;refine j7 hCC (α:=Nat) (fun i=>[(1,.ptr 0 0),(134,(.list (x.decls.map De.cv) (gnn x.decls.length) none)),(135,iv x.decls.length),(136,iv i)]) (fun _=>[.box x.cells]) (fun i=>i<=x.decls.length) (fun i=>x.decls.length - i) 0 (n_4 _) tu_ (ah:=[]) rfl z6 uz_ ?_;intro i hi;refine qk (qC ?_ ?_)<;> intro dr
     ·have ab:i < x.decls.length:=sm_ dr;obtain ⟨d,hd⟩:∃ d,x.decls[i]? = some d:=⟨x.decls[i]'ab,si_⟩;have hg:=h.dec d (n_2 hd);have aX:=hg.parl;refine qY a9u ?_;refine z_7 ?_;refine cW 10 ?_;refine hY b9I ?_;refine hY b9M ?_;refine hY B2 ?_;refine hY (a2w (h:=i) rfl tt rfl b0S a4O a9l rfl a5B a4g b8C) ?_;refine hY e0W ?_;refine hY c3g ?_;refine hY a1n ?_;refine hY b0I ?_;refine hY Q3 ?_;refine hY (c5 rfl Tryz.call224 C8 (c43 x.decls _ i d.k d.name om_ _) rfl) ?_;refine X2 ?_;refine qC ?_ ?_<;>intro gE
      ·exfalso;rw [c7h h.decn hd] at gE;cases gE
      ·refine qY J3 ?_;refine j7 hCC (α:=Nat) (fun j=>[(1,.ptr 0 0),(14,.ptr 1 0),(134,(.list (x.decls.map De.cv) (gnn x.decls.length) none)),(135,iv x.decls.length),(136,iv i),(152,(.list (d.params.map scv) (gnn d.params.length) none)),(153,iv d.params.length),(154,iv j)]) (fun _=>[.box x.cells,.box d.cells]) (fun j=>j<=d.params.length) (fun j=>d.params.length - j) 0 (n_4 _) tu_ (ah:=[]) rfl z6 uz_ ?_;intro j hj;refine qk (qC ?_ ?_)<;> intro h15
       ·have ab:j < d.params.length:=sm_ h15;obtain ⟨y,hb⟩:∃ y,d.params[j]? = some y:=⟨d.params[j]'ab,si_⟩;refine qY a6o ?_;refine qY (a2w (h:=j) rfl tt rfl t_2 t_0 a9l rfl a5B a4g b8C) ?_;refine qY (c5 rfl b7D j1 (c4a d.params _ j y om_ _) rfl) ?_;refine qC ?_ ?_<;>intro h16
        ·exfalso;simp [a1V hg.nod hb] at h16
        ·exact d6y
       ·refine j4 ?_;exact b4K
     ·refine j4 ?_;refine qY J3 ?_;refine qG c33 ?_;refine qG c3u ?_;refine qG c3A ?_;refine a4c ?_;refine cC ?_ ?_<;>intro h17
      ·exfalso;simp at h17;omega
      ·refine qk (qY a4z ?_);refine j7 hCC (α:=Nat) (fun i=>[(178,(.list (x.decls.map De.cv) (gnn x.decls.length) none)),(179,iv x.decls.length),(180,iv i)]) (fun _=>[.box x.cells]) (fun i=>i<=x.decls.length) (fun i=>x.decls.length - i) 0 (n_4 _) tu_ (ah:=[]) rfl z6 uz_ ?_;intro i hi;refine qk (qC ?_ ?_)<;> intro h18
       ·have ab:i < x.decls.length:=sm_ h18;obtain ⟨d,hd⟩:∃ d,x.decls[i]? = some d:=⟨x.decls[i]'ab,si_⟩;have hg:=h.dec d (n_2 hd);have aX:=hg.parl;have hbl:=hg.blen;obtain ⟨n,hn,hdeep⟩:=c87 hg (gnn d.body.length) [.box x.cells,.box d.cells];refine qY a9u ?_;refine z_7 ?_;refine qY J3 ?_;refine qG b7T ?_;refine qG b4c ?_;refine qG b7b ?_;refine a4c ?_;refine qG b7T ?_;refine qG b4c ?_;refine qG b7T ?_;refine qG b4c ?_;refine qG b7b ?_;refine qG d2u ?_;refine qG (fun hg=>c5 rfl Tryz.call225 ⟨hg,hg,tt⟩ (hdeep) rfl) ?_;refine a4c ?_;refine cC ?_ ?_<;>intro h19
        ·exfalso;simp at h19;omega
        ·exact b6r
       ·refine z_9 ?_;exact ⟨_,rE1,_,_,rfl,rfl,D2 rfl⟩
theorem b4X (am:WAt σ w q1 q2 t fl nn va br ms me) (k:Int) (p o:Str):b8 CC 90 [.ptr w 0,iv k,(sv p),(sv o)] σ fun r τ=>r = .ret (.agg (a0g va me k p o).cells)/\τ=σ :=
 b4b (fun a h=>by simp at h;rcases h with rfl | rfl | rfl<;>exact .val _) (En.pure _) (d1y fl nn va br ms me k p o) am
theorem d4c (am:WAt σ w q1 q2 t fl nn va br ms me) (s:Str) (cK:fl.length<=1000000):b8 CC 110 [.ptr w 0,(sv s)] σ fun r τ=>r = .ret (.tup [sv ((C0 fl s).getD []),.val (.bool (C0 fl s).isSome)])/\τ=σ :=
 b4b (fun a h=>by simp at h;subst h;exact .val _) (D4 (cs:=[sv _,.val _]) ⟨.val _,.val _,tt⟩) (c9s fl nn va br ms me s cK) am
def B5 (ms:SM) (fl:List Fi) (pkg:Str):List Fi:=fl.filter fun f=>(glk ms f.p).isSome && decide (((glk ms f.p).getD Src.z).pkg=pkg)
theorem b8a {y:Fi} (h:fl[i]? = some y) (pkg:Str):B5 ms (fl.drop i) pkg=(if ((glk ms y.p).isSome && decide (((glk ms y.p).getD Src.z).pkg=pkg))=true then [y] else [])++B5 ms (fl.drop (i+1)) pkg:=by
 obtain ⟨ab,rfl⟩:=n_3.1 h;rw [R2 ab];unfold B5;rw [a7V]
 split<;>rfl
theorem c6h (fl:List Fi) (nn va:Bool) (br:List Str) (ms:SM) (me:EM) (pkg:Str) (cK:fl.length<=1000000):b8 CC 158 [.ptr 0 0,(sv pkg)] (wst fl nn va br ms me) fun r τ=>E8 4 τ r (.ret (.list ((B5 ms fl pkg).map Fi.cv) (gnn (B5 ms fl pkg).length) none)) (wst fl nn va br ms me):=by
 refine cO Tryz.func158 ?_;refine z_0 ?_;refine b1x ?_;refine z_0 ?_;refine cY a2D ?_;refine b2r ?_;refine a4N ?_;refine cY (j5 rfl tt rfl c0h rfl b1u de_) ?_;refine d5Y ?_;refine cY a0I ?_;refine a73 ?_;refine A6 hCC 4 rfl (α:=Nat × List Fi) (fun x=>[(0,.ptr 0 0),(1,(sv pkg)),(5,(.list (x.2.map Fi.cv) (gnn x.2.length) (C2 x.2.length 4))),(14,(.list (fl.map Fi.cv) nn none)),(15,iv fl.length),(16,iv x.1)]) (fun x=>[wbx fl nn va br 1 2 3,smO ms,emO me,o8 br.length,o8 x.2.length]) (fun x=>x.1<=fl.length/\x.2.length<=x.1/\B5 ms fl pkg=x.2++B5 ms (fl.drop x.1) pkg) (fun x=>fl.length - x.1) ⟨(0,[]),[0,1,2,3,9],⟨n_4 _,n_7 _,rfl⟩,⟨rfl,rfl⟩,ut_,uq_⟩ ?_;intro ⟨i,aw⟩ ⟨hi,fJ,hr⟩;dsimp only at hi fJ hr ⊢;refine a7j ?_;refine cC ?_ ?_<;>intro h1
 ·have ab:(i:Int) < fl.length:=sp_ h1;obtain ⟨y,hb⟩:=gx_ fl i;rw [b8a hb] at hr;refine a4X ?_;refine z_0 ?_;refine cY c7u ?_;refine cY (W6 rfl tt rfl c7A a4a (nb rfl)) ?_;refine d5F ?_;refine b2r ?_;refine cF [] [0,1,2,3,4,5,6,7,8,9] (tl:=[(10,[0,1,2,3,4,5,6,7,8,9]),(11,[9]),(12,[])]) ?_;refine b2L ?_;refine chf rfl (c8 rfl b7N) ?_;refine chf rfl (c8 rfl b8J) ?_;refine b3x ?_;refine chf rfl (c8 rfl d9p) ?_;refine chf rfl V4 ?_;refine chf rfl b4v ?_;refine chf rfl b4v ?_;refine D9 ?_;refine B1 rfl rfl rfl (p8 rfl a3V rfl j6 ?_);refine ⟨⟨F1,a18,(by exact c8 rfl b7N),(by exact c8 rfl b8J),a6q,a5d,(by exact c8 rfl d9p),F1,a9g,a9g,tt⟩,?_⟩;refine B1 rfl rfl rfl (j2 rfl tt tt rfl j3 a3w j6 rfl rfl (nb rfl) ?_);refine ⟨⟨a9g,tt⟩,?_⟩;refine c0I ?_;refine a7x ?_;refine cG d0C ?_;refine cG a2C ?_;refine cG D6 ?_;refine cG b0D ?_;refine cY M7 ?_;refine x9 ?_;refine cC ?_ ?_<;>intro h2
  ·rw [n_1 (sp_ h2)] at hr;refine a6R ?_;refine cY (M3 rfl tt rfl c7A a4a rfl (nb rfl)) ?_;refine cY d3c ?_;refine cD (A7 rfl tt tt rfl si_ q_2 a7m a4a c6m a6h rfl (.inr rfl) q_7 c4R C1 ((aw++[y]).map Fi.cv) (aw++[y]).length si_ si_ ?_);refine z_3 ?_;refine a8v ?_;exact ⟨(i+1,aw++[y]),[0,1,2,3,7],⟨do_,do_,by dsimp only;simp;omega,by dsimp only;rw [hr,D7]⟩,⟨rfl,rfl⟩,ut_,uq_⟩
  ·rw [n_0 (sp_ h2),a2e] at hr;refine C9 ?_;refine a8v ?_;exact ⟨(i+1,aw),[0,1,2,3,4],⟨do_,do_,do_,hr⟩,⟨rfl,rfl⟩,ut_,uq_⟩
 ·have aE:fl.length<=i:=sm_ h1;rw [V2 aE] at hr;replace hr:B5 ms fl pkg=aw:=by rw [hr];exact a1k _
  refine j4 ?_;refine z_4 ?_;refine a1O ?_;exact ⟨_,rE1,(by rw [hr];exact a2U rfl (K4 (f:=Fi.cv) (fun a=>⟨.val _,.val _,tt⟩) _))⟩
theorem b6m (am:WAt σ w q1 q2 t fl nn va br ms me) (pkg:Str) (cK:fl.length<=1000000):b8 CC 158 [.ptr w 0,(sv pkg)] σ fun r τ=>r = .ret (.list ((B5 ms fl pkg).map Fi.cv) (gnn (B5 ms fl pkg).length) none)/\τ=σ :=
 b4b (fun a h=>by simp at h;subst h;exact .val _) (J2 _ _) (c6h fl nn va br ms me pkg cK) am
noncomputable def b7j (ms:SM) (x:En):Str:=((glk ms x.pl).bind fun s=>(s.decls[x.ix.toNat]?).map fun d=>a1l s d).getD []
noncomputable def a0J (ms:SM) (x:En):Str:=if x.ct=0 then [45] else if x.ct=1 then [61]++b7j ms x else [63]
def b2Z (ms:SM) (x:En):Prop:=x.ct=1->∃ (s:Src) (d:De) (i:Nat),glk ms x.pl=some s/\a2b s/\x.ix=(i:Int)/\s.decls[i]? = some d
theorem a8N {x:Src} (h:a2b x) (hd:DeG d):(a1l x d).length<=100000:=by
 have eI:=De.name_len hd;have hbl:=a8w hd;have eu:=B7 h.pkg.1;have himl:=h.impl;have gj:∀ s∈x.imports,s.length<=80:=fun s hs=>by have:=B7 (h.imp s hs).1;omega
 have bn:=a7T gj x.imports.length;rw [U5 (n_7 _)] at bn;have cd:=a3A [44,32] d.params;have dQ:=b5r (b4g hd);have hprl:=hd.parl;have e2:([44,32]:Str).length=2:=rfl;rw [e2] at cd;have hh:(a41 d).length<=1200:=by
  unfold a41
  split
  ·simp only [n_6,C5,I8];omega
  ·split
   ·simp only [n_6,C5,I8];omega
   ·simp only [n_6,C5,I8];omega
 unfold a1l;simp only [n_6,C5,I8];omega
theorem b4N (fl:List Fi) (nn va:Bool) (br:List Str) (ms:SM) (me:EM) (x:En) (hx:b2Z ms x):b8 CC 106 [.ptr 0 0,.agg x.cells] (wst fl nn va br ms me) fun r τ=>E8 4 τ r (.ret (sv (a0J ms x))) (wst fl nn va br ms me):=by
 refine cO Tryz.func106 ?_;refine b2H ?_;refine cY a2D ?_;refine a6z ?_;refine cY a9A ?_;refine cY a1n ?_;refine c5S ?_;refine a3p ?_;refine cC ?_ ?_<;>intro h1
 ·have u1:x.ct=0:=sp_ h1;refine z_0 ?_;refine b1x ?_;refine c6 ?_;exact ⟨_,rE1,(by rw [a0J,n_1 u1];exact a2U rfl (.old (.val _)))⟩
 ·have u1:¬ x.ct=0:=sp_ h1;refine a3p ?_;refine cC ?_ ?_<;>intro h2
  ·have u2:x.ct=1:=sp_ h2;obtain ⟨src,d,i,hg,hsg,hix,hdi⟩:=hx u2;have hdg:=hsg.dec d (n_2 hdi);have aj:=a8N hsg hdg;have ed:b7j ms x=a1l src d:=by rw [b7j,hg,n_9,hix,a2c,hdi];rfl
   refine F9 ?_;refine cW 15 ?_;refine a5g ?_;refine hY b7N ?_;refine hY b8J ?_;refine hY b3j ?_;refine hY Q3 ?_;refine hY (S9 (vc:=vcS) (l:=ms) (a:=x.pl) b9m rfl tt tt rfl rfl b7k a3V rfl rfl (show ((glk ms x.pl).map vcS).getD _=vcS src by rw [hg];rfl)) ?_;refine hY a9A ?_;refine hY a1n ?_;refine hY (c5 rfl Tryz.call156 j1 ((by have h:=c6c src hsg i d hdi hdg (n_3.1 hdi).1 ((wst fl nn va br ms me)++[.box x.cells]);rw [<- hix] at h;exact h)) rfl) ?_;refine hY B2 ?_;refine hY a9o ?_;refine hY a9o ?_;refine hY a1b ?_;refine b38 ?_;refine x9 ?_;refine z_4 ?_;refine cY (H4 rfl rfl tt rfl rfl (by show 1+(a1l src d).length<=_;omega)) ?_;refine a1O ?_;exact ⟨_,rE1,(by rw [a0J,n_0 u1,n_1 u2,ed];exact a2U rfl (.old (.val _)))⟩
  ·have u2:¬ x.ct=1:=sp_ h2;refine b0B ?_;refine b1x ?_;refine c6 ?_;exact ⟨_,rE1,(by rw [a0J,n_0 u1,n_0 u2];exact a2U rfl (.old (.val _)))⟩
theorem b6O (am:WAt σ w q1 q2 t fl nn va br ms me) (x:En) (hx:b2Z ms x):b8 CC 106 [.ptr w 0,.agg x.cells] σ fun r τ=>r = .ret (sv (a0J ms x))/\τ=σ :=
 b4b (fun a h=>by simp at h;subst h;exact En.pure _) (.val _) (b4N fl nn va br ms me x hx) am
theorem b9x (a b c d e f:Bool):(a && (b && c) && !(d && (e || f))) = !(((!a || !b) || !c) || (d && (e || f))):=by cases a<;>cases b<;>cases c<;>cases d<;>cases e<;>cases f<;>rfl
theorem b4o (x:Src) (d:De):([112,97,99,107,97,103,101,32]++x.pkg++[59,10])++R9 x.imports++b7G d=a1l x d:=by unfold a1l b7G;simp only [D7]
theorem c8H {x:Src} (h:a2b x) (hd:x.decls[i]? = some d):(([112,97,99,107,97,103,101,32]++x.pkg++[59,10])++R9 x.imports).length+(b7G d).length<=9223372036854775807:=by
 have:=a8N h (h.dec d (n_2 hd));rw [<- b4o,n_6] at this;omega
theorem c8o (a b:Int):decide (a < b) = !decide (b<=a):=by by_cases h:b<=a<;>simp [h]<;>omega
theorem c9V (a b:Int):decide (a > b) = !decide (a<=b):=by by_cases h:a<=b<;>simp [h]<;>omega
theorem a3N (l:List Va) (nn:Bool) (σ:List b9):b8 CC 53 [.agg (G6 l nn)] σ fun r Y=>r = .ret (.val (.bool (X9 l)))/\Y=σ:=by
 refine b8.anyw hCC pu_ pu_ (c7 (qO Tryz.func53 ?_)) σ;refine c8q ?_;refine qC ?_ ?_<;>intro h1
 ·have aj:¬ l.length<=16:=sm_ h1;refine c6 ?_;exact ⟨_,rE1,_,_,rfl,rfl,j8 (by rw [X9,a2f aj];rfl)⟩
 ·have aj:l.length<=16:=sm_ h1;refine qY c3Y ?_;refine j7 hCC (α:=Nat) (fun i=>[(1,.ptr 0 0),(10,(.list (l.map Va.cv) nn none)),(11,iv l.length),(12,iv i)]) (fun _=>[.box (G6 l nn)]) (fun i=>i<=l.length/\X9 l=evB (prv l i) (l.drop i)) (fun i=>l.length - i) 0 ⟨n_4 _,by rw [X9,a2a aj];rfl⟩ tu_ (ah:=[]) rfl z6 uz_ ?_;intro i ⟨hi,hr⟩;refine qk (qC ?_ ?_)<;> intro h2
  ·have ab:(i:Int) < l.length:=sp_ h2;obtain ⟨y,hb⟩:=gx_ l i;obtain ⟨p,hp⟩:=b5c (l:=l) (i:=i) om_;have fH:0 < i->l[i - 1]? = some p:=fun h=>(hp h).2;rw [b8V hb] at hr;refine b8W ?_;refine cW 30 ?_;refine d6w ?_;refine hY (c5 rfl c4L ⟨tt,tt⟩ (a1D y.n _) rfl) ?_;refine hY c99 ?_;refine hY B2 ?_;refine d0R ?_;refine c8A ?_;refine hY B2 ?_;refine d0R ?_;refine c8A ?_;refine c19 ?_;refine U3 rfl rfl tt rfl a7l ?_;refine U3 rfl rfl tt rfl a9j ?_;refine d9N ?_;refine d9g ?_;refine d5X ?_;refine a4V rfl rfl (fun h=>h) rfl (fun hk hg=>p9 rfl ⟨hk,hg⟩ ⟨hk,hg⟩ rfl rfl c4C c55 d2Z (i8 (hp (by change (_:Bool)=_ at hk;simp at hk hg;omega)).1) rfl) ?_;refine d9a ?_;refine d5q ?_;refine hY R7 ?_;refine X2 ?_;refine qC ?_ ?_<;>intro h3
   ·have u3:Z6 (prv l i) y=false:=by rw [Z6,Y5 fH,b9x,<- c8o,<- c9V];rw [h3];rfl
    rw [u3,Bool.false_and] at hr;exact d5U
   ·have u3:Z6 (prv l i) y=true:=by rw [Z6,Y5 fH,b9x,<- c8o,<- c9V];rw [h3];rfl
    rw [u3,b7e] at hr;exact b1Y
  ·exact d5b
theorem b0K (l:List Va) (nn:Bool) (s:Str) (hl:l.length<=1000000000) (σ:List b9):b8 CC 89 [.agg (G6 l nn),(sv s)] σ fun r Y=>r = .ret (.tup [(iv ((a0k l s).getD 0)),(.val (.bool ((a0k l s).isSome)))])/\Y=σ:=by
 refine b8.anyw hCC pu_ pu_ (c7 (qO Tryz.func89 ?_)) σ;refine qD (G8 rfl tt j3 j6 ?_);refine d9i ?_;intro i ⟨hi,hr⟩;refine qk (qC ?_ ?_)<;> intro h1
 ·have ab:(i:Int) < l.length:=sp_ h1;obtain ⟨y,hb⟩:=gx_ l i;rw [b3d hb] at hr;refine b8W ?_;refine qY a7u ?_;refine qC ?_ ?_<;>intro h2
  ·have u2:y.n=s:=sp_ h2;rw [n_1 u2] at hr;exact d4Y
  ·have u2:¬ y.n=s:=sp_ h2;rw [n_0 u2] at hr;exact b1Y
 ·have aE:l.length<=i:=sm_ h1;rw [V2 aE] at hr;exact d6P
theorem c4K (x:Src) (h:a2b x) (i:Nat) (d:De) (hd:x.decls[i]? = some d) (σ:List b9):b8 CC 147 [.agg x.cells,iv i] σ fun r Y=>r = .ret (.tup [(sv (a1l x d)),(iv (0))])/\Y=σ:=by
 refine b8.anyw hCC pu_ pu_ (c7 (qO Tryz.func147 ?_)) σ;refine qD (G8 rfl tt j3 j6 ?_);refine qY (c5 rfl Tryz.call177 ⟨tt,tt⟩ (c1D x h _) rfl) ?_;refine cC ?_ ?_<;>intro h1
 ·exfalso;simp at h1
 ·refine qk (qG D6 ?_);refine qG c33 ?_;refine qG c3u ?_;refine qG c3A ?_;refine b0R ?_;refine cC ?_ ?_<;>intro h2
  ·exfalso;have ab:=(n_3.1 hd).1;simp at h2;omega
  ·have ab:=(n_3.1 hd).1;have eI:=h.decl;refine qk ?_;refine cW 11 ?_;refine hY b80 ?_;refine hY (c5 rfl Tryz.call178 ⟨tt,tt⟩ (c6k x h _) rfl) ?_;refine hY b9I ?_;refine hY b9M ?_;refine hY B2 ?_;refine hY a9u ?_;refine hY c8E ?_;refine hY (c5 rfl Tryz.call179 ⟨tt,tt⟩ (c4B d (h.dec d (n_2 hd)) _) rfl) ?_;refine hY (H4 rfl tt tt rfl rfl (c8H h hd)) ?_;refine hY a1b ?_;refine hY a2D ?_;refine X2 ?_;refine c6 ?_;exact ⟨_,r9 (rs:=[.tmp 4,.tmp 5]) (cs:=[_,_]) rfl R4 (n_5 rfl),_,_,rfl,rfl,(by rw [b4o];exact .tups ⟨.old (.val _),.old (.val _),tt⟩)⟩
def a7t (L:List (Str × Src)) (e:En):Src × Int:=match L.find? (fun x=>decide (x.1=e.pl)) with
 | some x=>(x.2,e.ix)
 | none=>(Src.z,0)
theorem c5e (h:L[i]? = some x) (e:En):a7t (L.drop i) e=if x.1=e.pl then (x.2,e.ix) else a7t (L.drop (i+1)) e:=by
 obtain ⟨ab,rfl⟩:=n_3.1 h;rw [R2 ab];unfold a7t;rw [b8v];by_cases hh:L[i].1=e.pl
 ·simp [hh]
 ·simp [hh]
theorem b6x (L:List (Str × Src)) (e:En) (hL:L.length<=1000) (σ:List b9):b8 CC 146 [.agg (a0S (L.map Prod.fst) (L.map Prod.snd)),.agg e.cells] σ fun r Y=>r = .ret (.tup [.agg (a7t L e).1.cells,(iv ((a7t L e).2))])/\Y=σ:=by
 refine b8.anyw hCC pu_ pu_ (c7 (qO Tryz.func146 ?_)) σ;refine a9J ?_;refine qD (p8 rfl a3V rfl j6 ?_);refine qY J3 ?_;refine j7 hCC (α:=Nat) (fun i=>[(2,.ptr 0 0),(3,.ptr 1 0),(4,.ptr 2 0),(9,(iv ((L.map Prod.fst).length:Int))),(10,iv i)]) (fun _=>[.box (a0S (L.map Prod.fst) (L.map Prod.snd)),.box e.cells,.box Src.z.cells]) (fun i=>i<=L.length/\a7t L e=a7t (L.drop i) e) (fun i=>L.length - i) 0 ⟨n_4 _,rfl⟩ tu_ (ah:=[]) rfl z6 uz_ ?_;intro i ⟨hi,hr⟩;refine qk (qC ?_ ?_)<;> intro h1
 ·have ab:i < L.length:=sm_ h1;obtain ⟨x,hb⟩:∃ x,L[i]? = some x:=⟨L[i]'ab,si_⟩;rw [c5e hb] at hr;refine cW 8 ?_;refine hY b2m ?_;refine hY a4Y ?_;refine hY B2 ?_;refine hY b6o ?_;refine hY a6w ?_;refine hY b3j ?_;refine hY Q3 ?_;refine hY a7u ?_;refine X2 ?_;refine qC ?_ ?_<;>intro h2
  ·have u2:x.1=e.pl:=sp_ h2;rw [n_1 u2] at hr;refine cF [] [0,1,2,3,4,5,6] (tl:=[(7,[5,6]),(8,[])]) ?_;refine chf rfl d0j ?_;refine chf rfl (c8 rfl c2k) ?_;refine chf rfl V4 ?_;refine chf rfl (c8 rfl d8L) ?_;refine chf rfl (c8 rfl (W6 rfl tt rfl b6J a3w (nb rfl))) ?_;refine chf rfl (c8 rfl a9A) ?_;refine chf rfl b1o ?_;refine d3v ?_;refine ⟨⟨(by exact c8 rfl a9A),b1f,tt⟩,?_⟩;refine a89 ?_;exact ⟨_,r9 (rs:=[.cell 4 67,.tmp 5]) (cs:=[_,_]) rfl d3O (n_5 rfl),_,_,rfl,rfl,(by rw [hr];exact .tups ⟨.old (r6 (Src.pure _)).old,.old (.val _),tt⟩)⟩
  ·have u2:¬ x.1=e.pl:=sp_ h2;rw [n_0 u2] at hr;exact b1Y
 ·have aE:L.length<=i:=sm_ h1;rw [V2 aE] at hr;refine j4 ?_;refine qY e0I ?_;refine c4G ?_;exact ⟨_,r9 (rs:=[.cell 4 67,.tmp 5]) (cs:=[_,_]) rfl d3O (n_5 rfl),_,_,rfl,rfl,(by rw [hr];exact .tups ⟨.old (r6 (Src.pure Src.z)).old,.old (.val _),tt⟩)⟩
theorem d7Z (m:Nat):a68 .rem .u64 (m:Int) 128=some (.int .u64 ((m%128:Nat):Int)):=by
 have h:(m:Int).tmod 128=((m%128:Nat):Int):=by rw [c9p om_];omega
 simp [a68,h]
theorem d8F (m:Nat) (h:m < 18446744073709551616):a68 .quo .u64 (m:Int) 128=some (.int .u64 ((m / 128:Nat):Int)):=by
 have h':(m:Int).tdiv 128=((m / 128:Nat):Int):=by rw [c3Z om_];omega
 simp [a68,h',IntKind.wrap,IntKind.signed,IntKind.bits];omega
theorem d2n (m:Nat):CV.list [[CV.val (.int .u8 (IntKind.u8.wrap (((m%128:Nat):Int)+128)))]] true none = .list [bcv (UInt8.ofNat (m%128+128))] true none:=by
 have h:IntKind.u8.wrap (((m%128:Nat):Int)+128)=((m%128+128:Nat):Int):=by
  simp [IntKind.wrap,IntKind.signed,IntKind.bits];omega
 rw [h,bcv,c9O om_]
theorem b6D (l:Str) (nn:Bool) (n:Nat) (hl:l.length<=100000000000000) (hn:n < 18446744073709551616):b8 CC 150 [(.list (l.map bcv) nn none),.val (.int .u64 (n:Int))] [.dead] fun r τ=>E8 1 τ r (.ret (a0Y (l++U0 n) 1)) [.dead,A3 tU8 (l++U0 n).length]:=by
 refine qO Tryz.func150 ?_;refine qD (a35 (l:=[]) (new:=l) (p:=0) rfl rfl tt rfl (fun M w v hr h=>(a5y rfl (by intro r hr;obtain ⟨b,_,rfl⟩:=F4.1 hr;rfl) M w v hr h).any) X7 a1w b1j a4d rfl (.inl X7) rfl rfl a84 ?_);refine H8 (α:=Str × Nat × Nat) (fun x=>[(1,(.val (.int .u64 (x.2.1:Int)))),(5,(a0Y x.1 x.2.2))]) (fun x=>b1h x.2.2 (A3 tU8 x.1.length)) (fun x=>l++U0 n=x.1++U0 x.2.1/\x.2.1<=n) (fun x=>x.2.1) (l,n,1) ⟨rfl,n_7 _⟩ tu_ rfl ?_;intro ⟨b,m,k⟩ _ ⟨hb,hmn⟩;dsimp only at hb hmn ⊢;have aj:b.length<=l.length+10:=by
  have h1:=n_8 List.length hb;have h2:=a3f (n:=n) (k:=9) om_;simp only [n_6] at h1;omega
 refine qk (qC ?_ ?_)<;> intro h1
 ·have ft:¬ m < 128:=by have:=a8y h1;omega
  rw [X0 m,n_0 ft] at hb;refine qY (a0M rfl tt rfl rfl rfl ((d7Z m))) ?_;refine qY (a6K rfl tt rfl b9O b2z ((d8t (m%128)).trans (by rw [b5l om_]))) ?_;refine qY a0c ?_;refine qY (A8 [[.val (.int .u8 (IntKind.u8.wrap (((m%128:Nat):Int)+128)))]] rfl ⟨tt,tt⟩ X7 a1w a4d rfl rfl rfl rfl rfl rfl rfl rfl rfl) ?_;refine qD (a35 (l:=b) (new:=[UInt8.ofNat (m%128+128)]) (p:=k) rfl tt tt rfl (b1N (d2n m)) X7 a1w b1j a4d rfl (.inl X7) rfl (a7X _ _) a84 ?_);refine qY (a0M rfl tt rfl rfl rfl ((d8F m om_))) ?_;exact ⟨(b++[UInt8.ofNat (m%128+128)],m / 128,k+1),(show m / 128 < m by omega),(show l++U0 n=(b++[UInt8.ofNat (m%128+128)])++U0 (m / 128)/\m / 128<=n from ⟨by rw [hb];simp,om_⟩),⟨k8,⟨tt,(n_8 (a0Y _) (b1D k _))⟩,tt⟩,(b1m _ _ _)⟩
 ·have ft:m < 128:=by have:=a9k h1;omega
  rw [X0 m,n_1 ft] at hb;refine j4 ?_;refine qY d9m ?_;refine d9U ?_;refine c6 ?_;exact ⟨_,rE1,(by rw [hb];exact b6I)⟩
theorem c0H (l:Str) (nn:Bool) (n:Nat) (hl:l.length<=100000000000000) (hn:n < 18446744073709551616) (σ:List b9):b8 CC 150 [(.list (l.map bcv) nn none),.val (.int .u64 (n:Int))] σ fun r τ=>∃ _:Unit,r = .ret (a0Y (l++U0 n) (σ.length+1))/\τ=σ++[.dead,A3 tU8 (l++U0 n).length]/\True :=
 a1L (α:=Unit) hCC (fun a ha=>by simp at ha;rcases ha with rfl | rfl;exact a14 _ _;exact .val _) (res:=fun _=>.ret (a0Y (l++U0 n) 1)) (res':=fun _ m=>.ret (a0Y (l++U0 n) (m+1))) (S:=fun _=>[.dead,A3 tU8 (l++U0 n).length]) (S':=fun _ _=>[.dead,A3 tU8 (l++U0 n).length]) (P:=fun _=>True)
  (a0e (I5 hCC ((b6D l nn n hl hn).mono fun r τ h=>⟨_,_,h,(),rfl,rfl,tt⟩))) (fun _ _=>rfl) (fun _ m i x h=>by
   rcases i with _ | _ | i
   ·injection h with h;subst h;exact ⟨_,rfl,.dead⟩
   ·injection h with h;subst h;exact ⟨_,rfl,a23 _ _⟩
   ·cases h) (fun _ m=>.ret (b0L rfl)) σ
theorem a1r (l:Str) (nn:Bool) (s:Str) (hl:l.length<=100000000000) (hs:s.length<=100000000000) (σ:List b9):b8 CC 98 [(.list (l.map bcv) nn none),(sv s)] σ fun r Y=>r = .ret (.list ((H0 l s).map bcv) (gnn (H0 l s).length) none)/\Y=σ:=by
 refine b8.anyw hCC pu_ pu_ (c7 (qO Tryz.func98 ?_)) σ;refine qY Q2 ?_;refine qY c7X ?_;refine qD (c4 rfl Tryz.call150 j1 (c0H l nn s.length om_ om_ _) rfl ?_);have hpu:=a3f (n:=s.length) (k:=9) om_;intro _ _;refine qD (a35 (l:=(l++U0 s.length)) (new:=s) (p:=1) rfl tt tt rfl (b44 rfl) X7 a1w b1j a4d rfl (.inr t_7) rfl rfl (by simp only [n_6];omega) ?_);exact d6l
def a3I (fl:List Fi) (pkg:Str) (L:List (Str × Src)) (o:Str):Str:=L.foldl (fun o x=>if x.2.pkg=pkg then H0 (H0 o x.1) ((if B4 fl=0 then C0 fl x.1 else none).getD []) else o) o
theorem c49 (h:L[i]? = some x) (o:Str):a3I fl pkg (L.drop i) o=a3I fl pkg (L.drop (i+1)) (if x.2.pkg=pkg then H0 (H0 o x.1) ((if B4 fl=0 then C0 fl x.1 else none).getD []) else o):=by
 obtain ⟨ab,rfl⟩:=n_3.1 h;rw [R2 ab];rfl
theorem a5Z {s:Str} (h:s.length<=1000000000):(H0 l s).length<=l.length+s.length+10:=by
 have:=a3f (n:=s.length) (k:=9) om_;unfold H0;simp only [n_6];omega
def c7Y (L:List (Str × Src)) (k:Int) (p o:Str):Prop:=¬ (fiE L k p o).ct=0->¬ 1 < (fiE L k p o).ct->∃ (s:Src) (d:De) (i:Nat),a7t L (fiE L k p o)=(s,(i:Int))/\a2b s/\s.decls[i]? = some d
noncomputable def b1Q (L:List (Str × Src)) (k:Int) (p o:Str):Str:=if (fiE L k p o).ct=0 then [45] else if 1 < (fiE L k p o).ct then [63] else
 match (a7t L (fiE L k p o)).1.decls[(a7t L (fiE L k p o)).2.toNat]? with
 | some d=>[61]++a1l (a7t L (fiE L k p o)).1 d
 | none=>[61]
theorem a9s (fl:List Fi) (nn:Bool) (L:List (Str × Src)) (pkg:Str) (hl:fl.length<=1000000) (hL:L.length<=1000) (hP:∀ x∈L,x.1.length<=1000) (hbl:∀ q b,C0 fl q=some b->b.length<=100000) (σ:List b9):b8 CC 96 [.agg (r8 fl nn),.agg (a0S (L.map Prod.fst) (L.map Prod.snd)),(sv pkg)] σ fun r Y=>r = .ret (sv ([61]++a3I fl pkg L []))/\Y=σ:=by
 refine an_ Tryz.func96 ?_;refine b2H ?_;refine cD (G8 rfl tt j3 j6 ?_);refine b1x ?_;refine z_0 ?_;refine cY a2D ?_;refine a6z ?_;refine cY (j5 rfl tt rfl c3o rfl c4i de_) ?_;refine cY c2k ?_;refine cY d1V ?_;refine a73 ?_;refine j7 hCC (α:=Nat × Str) (fun a=>[(2,(sv pkg)),(3,.ptr 0 0),(4,.ptr 1 0),(7,(.list (a.2.map bcv) (gnn a.2.length) none)),(13,(.list ((L.map Prod.snd).map Src.cv) (gnn (L.map Prod.snd).length) none)),(14,(iv ((L.map Prod.snd).length:Int))),(15,iv a.1)]) (fun _=>[.box (r8 fl nn),.box (a0S (L.map Prod.fst) (L.map Prod.snd))]) (fun a=>a.1<=L.length/\a3I fl pkg L []=a3I fl pkg (L.drop a.1) a.2/\a.2.length<=200000*a.1) (fun a=>L.length - a.1) (0,[]) ⟨n_4 _,rfl,n_7 _⟩ tu_ (ah:=[]) rfl z6 uz_ ?_;rintro ⟨i,o⟩ ⟨hi,hr,ho⟩;dsimp only at hi hr ho ⊢;refine a7j ?_;refine cC ?_ ?_<;>intro h1
 ·have ab:i < L.length:=sm_ h1;obtain ⟨x,hb⟩:∃ x,L[i]? = some x:=⟨L[i]'ab,si_⟩;rw [c49 hb] at hr;have bb:=hP x (n_2 hb);have hda:((if B4 fl=0 then C0 fl x.1 else none).getD []).length<=100000:=by
   split
   ·cases hdf:C0 fl x.1 with
    | none=>exact n_4 _
    | some b=>exact hbl _ _ hdf
   ·exact n_4 _
  refine a4X ?_;refine z_4 ?_;refine cY d8L ?_;refine cY (W6 rfl tt rfl b6J a3w (nb rfl)) ?_;refine cD (p8 rfl a3V rfl j6 ?_);refine cY a1b ?_;refine cD (j2 rfl tt tt rfl j3 a3w j6 rfl rfl (nb rfl) ?_);refine a7y ?_;refine cY c3N ?_;refine cY Q3 ?_;refine cY B2 ?_;refine cY a7u ?_;refine x9 ?_;refine cC ?_ ?_<;>intro h2
  ·have u2:x.2.pkg=pkg:=sp_ h2;rw [n_1 u2] at hr;have bV:=a5Z (l:=o) (s:=x.1) om_;have cJ:=a5Z (l:=H0 o x.1) (s:=((if B4 fl=0 then C0 fl x.1 else none).getD [])) om_;refine F9 ?_;refine cW 12 ?_;refine hY U7 ?_;refine hY b2m ?_;refine hY a4Y ?_;refine hY B2 ?_;refine hY b6o ?_;refine hY a6w ?_;refine hY (c5 rfl c7H j1 (a8J fl nn x.1 hl _) rfl) ?_;refine hY B2 ?_;refine hY a9o ?_;refine hY a9o ?_;refine hY a1b ?_;refine b38 ?_;refine x9 ?_;refine a6R ?_;refine cY b2m ?_;refine cY a4Y ?_;refine cY B2 ?_;refine cY b6o ?_;refine cY a6w ?_;refine ye rfl c1O j1 (a1r o _ x.1 om_ om_ _) rfl ?_;refine cY B2 ?_;refine ye rfl c1O j1 (a1r (H0 o x.1) _ ((if B4 fl=0 then C0 fl x.1 else none).getD []) om_ om_ _) rfl ?_;refine z_3 ?_;refine a8v ?_;exact ⟨(i+1,H0 (H0 o x.1) ((if B4 fl=0 then C0 fl x.1 else none).getD [])),_,⟨do_,do_,hr,do_⟩,tu_,rfl⟩
  ·have u2:¬ x.2.pkg=pkg:=sp_ h2;rw [n_0 u2] at hr;refine C9 ?_;refine a8v ?_;exact ⟨(i+1,o),_,⟨do_,do_,hr,do_⟩,tu_,rfl⟩
 ·have aE:L.length<=i:=sm_ h1;rw [V2 aE] at hr;refine j4 ?_;refine z_4 ?_;refine cY b9U ?_;refine cY (H4 rfl rfl tt rfl rfl L4) ?_;refine a1O ?_;exact ⟨_,rE1,_,_,rfl,rfl,D8 (n_8 str c2S)⟩
theorem a3S (L:List (Str × Src)) (k:Int) (p o:Str) (hL:L.length<=1000) (hd:∀ x∈L,x.2.decls.length<=100000) (bh:c7Y L k p o) (σ:List b9):b8 CC 94 [.agg (a0S (L.map Prod.fst) (L.map Prod.snd)),iv k,(sv p),(sv o)] σ fun r Y=>r = .ret (sv (b1Q L k p o))/\Y=σ:=by
 refine b8.anyw hCC pu_ pu_ (c7 (qO Tryz.func94 ?_)) σ;refine qD (G8 rfl tt j3 j6 ?_);refine qY (c5 rfl Tryz.call62 a2r (b9F L k p o hL hd _) rfl) ?_;refine d4z ?_;refine qC ?_ ?_<;>intro h1
 ·have u1:(fiE L k p o).ct=0:=sp_ h1;refine c6 ?_;exact ⟨_,a1R rfl tt rfl,_,_,rfl,rfl,D8 (n_8 str (show ([45]:Str)=b1Q L k p o by unfold b1Q;rw [n_1 u1]))⟩
 ·have u1:¬ (fiE L k p o).ct=0:=sp_ h1;refine qC ?_ ?_<;>intro h2
  ·have u2:1 < (fiE L k p o).ct:=sp_ h2;refine c6 ?_;exact ⟨_,a1R rfl tt rfl,_,_,rfl,rfl,D8 (n_8 str (show ([63]:Str)=b1Q L k p o by unfold b1Q;rw [n_0 u1,n_1 u2]))⟩
  ·have u2:¬ 1 < (fiE L k p o).ct:=sm_ h2;obtain ⟨s,d,i,hD,hs,hdi⟩:=bh u1 u2;have hDI:∀ σ,b8 CC 146 [.agg (a0S (L.map Prod.fst) (L.map Prod.snd)),.agg (fiE L k p o).cells] σ fun r Y=>r = .ret (.tup [.agg s.cells,iv i])/\Y=σ:=fun σ=>by
    have h:=b6x L (fiE L k p o) hL σ;rw [hD] at h;exact h
   refine qY (c5 rfl Tryz.call146 j1 (hDI _) rfl) ?_;refine c4N ?_;refine qY (c5 rfl Tryz.call147 j1 (c4K s hs i d hdi _) rfl) ?_;refine qY (H4 rfl rfl tt rfl rfl (by have:=a8N hs (hs.dec d (n_2 hdi));simp;omega)) ?_;refine c6 ?_;exact ⟨_,a1R rfl tt rfl,_,_,rfl,rfl,D8 (n_8 str (by unfold b1Q;rw [n_0 u1,n_0 u2,hD];dsimp only;rw [a2c,hdi]))⟩
def b2i (l:Str) (fs:List Fi):Str:=fs.foldl (fun l f=>H0 (H0 l f.p) f.b) l
theorem c5h {fs:List Fi} {y:Fi} (h:fs[i]? = some y) (l:Str):b2i l (fs.drop i)=b2i (H0 (H0 l y.p) y.b) (fs.drop (i+1)):=by
 obtain ⟨ab,rfl⟩:=n_3.1 h;rw [R2 ab];rfl
theorem a3r {s:Str} (hs:s.length<=100000000000):(H0 l s).length<=l.length+s.length+10:=by
 have:=a3f (n:=s.length) (k:=9) om_;unfold H0;simp only [n_6];omega
theorem c7U {fs:List Fi} (h:∀ f∈fs,f.p.length<=100/\f.b.length<=100000) (l:Str):(b2i l fs).length<=l.length+fs.length*101000:=by
 induction fs generalizing l with
 | nil=>simp [b2i]
 | cons y fs ih =>
  have h1:=h y si_;have h2:=ih (fun f hf=>h f (by simp [hf])) (H0 (H0 l y.p) y.b);have h3:=a3r (l:=H0 l y.p) (s:=y.b) om_;have h4:=a3r (l:=l) (s:=y.p) om_;rw [C5,Q5];simp only [b2i,b9l] at h2 ⊢;omega
def P7 (ms:SM) (fl:List Fi) (pkg:Str):Str:=[61]++b2i [] (B5 ms fl pkg)
theorem a3X {f:Fi} (h:f∈B5 ms fl pkg):f∈fl:=(b2N.1 h).1
theorem a8m (ms:SM) (fl:List Fi) (pkg:Str):(B5 ms fl pkg).length<=fl.length:=List.length_filter_le _ _
theorem c1r (cK:fl.length<=1000) (gO:∀ f∈fl,f.p.length<=100/\f.b.length<=100000):(P7 ms fl pkg).length<=102000000:=by
 have h1:=c7U (fun f hf=>gO f (a3X hf)) (fs:=B5 ms fl pkg) [];have h2:=a8m ms fl pkg;have h3:(B5 ms fl pkg).length*101000<=1000*101000:=S4 _ om_;unfold P7;simp only [n_6,C5,I8] at h1 ⊢;omega
theorem d2N (fl:List Fi) (nn va:Bool) (br:List Str) (ms:SM) (me:EM):WAt (wst fl nn va br ms me) 0 1 2 3 fl nn va br ms me:=⟨rfl,rfl,rfl,rfl,b2c ⟨de_,de_,de_,de_,de_,de_⟩⟩
theorem c5s (fl:List Fi) (nn va:Bool) (br:List Str) (ms:SM) (me:EM) (pkg:Str) (cK:fl.length<=1000) (gO:∀ f∈fl,f.p.length<=100/\f.b.length<=100000):b8 CC 115 [.ptr 0 0,(sv pkg)] (wst fl nn va br ms me) fun r τ=>E8 4 τ r (.ret (sv (P7 ms fl pkg))) (wst fl nn va br ms me):=by
 have hffl:=a8m ms fl pkg;refine qO Tryz.func115 ?_;refine qY (c5 rfl Tryz.call158 j1 (b6m (d2N fl nn va br ms me) pkg om_) rfl) ?_;refine qY a0I ?_;refine j7 hCC (α:=Nat × Str) (fun x=>[(5,(.list (x.2.map bcv) (gnn x.2.length) none)),(10,(.list ((B5 ms fl pkg).map Fi.cv) (gnn (B5 ms fl pkg).length) none)),(11,(iv ((B5 ms fl pkg).length:Int))),(12,iv x.1)]) (fun _=>(wst fl nn va br ms me)) (fun x=>x.1<=(B5 ms fl pkg).length/\x.2.length<=x.1*101000/\b2i [] (B5 ms fl pkg)=b2i x.2 ((B5 ms fl pkg).drop x.1)) (fun x=>(B5 ms fl pkg).length - x.1) (0,[]) ⟨n_4 _,n_4 _,rfl⟩ tu_ (ah:=[]) rfl z6 uz_ ?_;intro ⟨i,l⟩ ⟨hi,hl,hr⟩;dsimp only at hi hl hr ⊢;refine qk (qC ?_ ?_)<;> intro h1
 ·have ab:(i:Int) < (B5 ms fl pkg).length:=sp_ h1;obtain ⟨y,hb⟩:∃ y,(B5 ms fl pkg)[i]? = some y:=⟨(B5 ms fl pkg)[i]'om_,si_⟩;rw [c5h hb] at hr;obtain ⟨fp,hyb⟩:=gO y (a3X (n_2 hb));have fh:=a3r (l:=l) (s:=y.p) om_;have cu:=a3r (l:=H0 l y.p) (s:=y.b) om_;have cQ:i*101000<=1000*101000:=S4 _ om_;refine b8L ?_;refine cW 8 ?_;refine hY B2 ?_;refine hY b1y ?_;refine hY Q3 ?_;refine hY (c5 rfl c29 j1 (a1A l _ y.p om_ om_ _) rfl) ?_;refine hY b1y ?_;refine hY Q3 ?_;refine hY (c5 rfl c29 j1 (a1A (H0 l y.p) _ y.b om_ om_ _) rfl) ?_;refine a88 ?_;refine qY l9 ?_;exact ⟨(i+1,H0 (H0 l y.p) y.b),_,⟨do_,do_,do_,hr⟩,tu_,rfl⟩
 ·have aE:(B5 ms fl pkg).length<=i:=sm_ h1;rw [V2 aE] at hr;replace hr:b2i [] (B5 ms fl pkg)=l:=hr;have cQ:i*101000<=1000*101000:=S4 _ om_;refine j4 ?_;refine qY b9U ?_;refine qY (H4 rfl rfl tt rfl rfl (by show 1+l.length<=_;omega)) ?_;refine c6 ?_;exact ⟨_,rE1,(by rw [P7,hr];exact a2U rfl (.old (.val _)))⟩
theorem b6R (am:WAt σ w q1 q2 t fl nn va br ms me) (pkg:Str) (cK:fl.length<=1000) (gO:∀ f∈fl,f.p.length<=100/\f.b.length<=100000):b8 CC 115 [.ptr w 0,(sv pkg)] σ fun r τ=>r = .ret (sv (P7 ms fl pkg))/\τ=σ :=
 b4b (fun a h=>by simp at h;subst h;exact .val _) (.val _) (c5s fl nn va br ms me pkg cK gO) am
end Go.Proofs.YtlppbmfecjabeaaGreatDoor
namespace Go.Proofs
open Go.Shelf
def Tryz.lays190_ren:Go.Shelf.Ren:=⟨fun | 190=>161 | 125=>166 | 258=>206 | 128=>216 | 129=>217 | 302=>252 | 303=>253 | 304=>254 | 305=>255 | 306=>256 | 307=>257 | 308=>258 | 309=>259 | 310=>260 | 333=>291 | 329=>265 | 330=>266 | 334=>292 | 335=>293 | 336=>294 | 344=>311 | n=>n,fun | 31=>26 | 9=>9 | 3=>3 | 46=>141 | 0=>0 | 51=>262 | 53=>86 | 4=>4 | 183=>256 | 182=>255 | 131=>139 | 5=>5 | 218=>292 | 222=>296 | 228=>320 | 229=>321 | n=>n,fun | n=>n⟩
theorem Tryz.lays190:Go.Proofs.Lays.n190 Tryz.prog Tryz.lays190_ren:={
 mixed:=by kernel_rfl
 f125:=Tryz.func166.trans (n_8 some o7)
 f128:=Tryz.func216.trans (n_8 some o7)
 f129:=c9Y.trans (n_8 some o7)
 f190:=Tryz.func161.trans (n_8 some o7)
 f258:=Tryz.func206.trans (n_8 some o7)
 f302:=Tryz.func252.trans (n_8 some o7)
 f303:=Tryz.func253.trans (n_8 some o7)
 f304:=Tryz.func254.trans (n_8 some o7)
 f305:=Tryz.func255.trans (n_8 some o7)
 f306:=Tryz.func256.trans (n_8 some o7)
 f307:=Tryz.func257.trans (n_8 some o7)
 f308:=Tryz.func258.trans (n_8 some o7)
 f309:=Tryz.func259.trans (n_8 some o7)
 f310:=Tryz.func260.trans (n_8 some o7)
 f329:=Tryz.func265.trans (n_8 some o7)
 f330:=Tryz.func266.trans (n_8 some o7)
 f333:=Tryz.func291.trans (n_8 some o7)
 f334:=Tryz.func292.trans (n_8 some o7)
 f335:=Tryz.func293.trans (n_8 some o7)
 f336:=Tryz.func294.trans (n_8 some o7)
 f344:=Tryz.func311.trans (n_8 some o7)
 t0:=c98
 a0:=d1L
 z0:=c7K
 v0:=c9D
 t3:=b7L
 a3:=a2l
 z3:=t_1
 v3:=t_8
 t4:=c8Z
 a4:=c3c
 z4:=c1U
 v4:=c6z
 t5:=d1G
 a5:=c8w
 z5:=a1w
 v5:=a4d
 t9:=b9r
 a9:=t_9
 z9:=t_0
 v9:=t_3
 t31:=Tryz.underlying26
 a31:=b9f
 z31:=a2j
 v31:=Tryz.zeroValue26
 t46:=c91
 a46:=c9x
 z46:=c66
 v46:=c7x
 t51:=c6G
 a51:=c8I
 z51:=c7I
 v51:=c9W
 t53:=c7t
 a53:=c8O
 z53:=d0g
 v53:=d0V
 t131:=Tryz.underlying139
 a131:=Tryz.isAgg139
 z131:=Tryz.sizeOf139
 v131:=Tryz.zeroValue139
 t182:=Tryz.underlying255
 a182:=Tryz.isAgg255
 z182:=Tryz.sizeOf255
 v182:=Tryz.zeroValue255
 t183:=Tryz.underlying256
 a183:=Tryz.isAgg256
 z183:=Tryz.sizeOf256
 v183:=Tryz.zeroValue256
 t218:=Tryz.underlying292
 a218:=Tryz.isAgg292
 z218:=Tryz.sizeOf292
 v218:=Tryz.zeroValue292
 t222:=Tryz.underlying296
 a222:=Tryz.isAgg296
 z222:=Tryz.sizeOf296
 v222:=Tryz.zeroValue296
 t228:=Tryz.underlying320
 a228:=Tryz.isAgg320
 z228:=Tryz.sizeOf320
 v228:=Tryz.zeroValue320
 t229:=Tryz.underlying321
 a229:=Tryz.isAgg321
 z229:=Tryz.sizeOf321
 v229:=Tryz.zeroValue321}
end Go.Proofs
namespace Go.Proofs.YtlppbmfecjabeaaGreatDoor
open Go Go.Cl
variable {fl:List Fi} {ms:SM} {i w k q1 q2 t j:Nat} {σ G H W:List b9} {N B br:List Str} {me:EM} {pkg x n s y path:Str} {v b v':b9} {nn:Bool} {L:List (Str × Src)} {f:Fi} {ev:List Va}
theorem c76 {ss:List Str} (az:ss≠[]) (aj:ss.length<=1000000) (hk:σ[k]? = some (.vec 1 (ss.map scv))):b8 CC 161 [.vec k 0 ss.length] σ fun r τ=>∃ _:Unit,r = .ret (.tup [])/\τ=σ.set k (.vec 1 ((a0o ss).map scv))/\True :=
 (d1E (f:=161) (fun blk off cap ss w h1 h2 h3=>b8G Tryz.lays190 blk off cap ss w h1 h2 h3) az om_ hk).mono fun r τ h=>⟨(),h.1,h.2,tt⟩
def a1h (ms:SM) (f:Fi):List Str:=((glk ms f.p).getD Src.z).imports
inductive Reach (ms:SM) (fl:List Fi) (pkg:Str):Str->Prop where
 | base:Reach ms fl pkg pkg
 | step {n:Str} {f:Fi} {s:Str}:Reach ms fl pkg n->f∈B5 ms fl n->s∈a1h ms f->Reach ms fl pkg s
def allI (ms:SM) (fl:List Fi):List Str:=fl.flatMap (a1h ms)
theorem b8p (h:Reach ms fl pkg n):n∈pkg::allI ms fl:=by
 cases h with
 | base=>simp
 | step _ hf hs=>exact a8g _ (b1L.2 ⟨_,a3X hf,hs⟩)
structure NmI (ms:SM) (fl:List Fi) (pkg:Str) (N:List Str):Prop where
 nd:N.Nodup
 rch:∀ n∈N,Reach ms fl pkg n
 pk:pkg∈N
theorem NmI.len (h:NmI ms fl pkg N):N.length<=1+(allI ms fl).length:=by
 have:=List.Nodup.length_le_of_subset h.nd (fun n hn=>b8p (h.rch n hn));simpa [b5S] using this
theorem NmI.snoc (h:NmI ms fl pkg N) (hn:n∈N) (hf:f∈B5 ms fl n) (hs:s∈a1h ms f) (hsN:s∉N):NmI ms fl pkg (N++[s]) where
 nd:=a3L h.nd hsN
 rch:=fun m hm=>by
  rcases L8.1 hm with hm | hm
  ·exact h.rch m hm
  ·simp at hm;subst hm;exact .step (h.rch n hn) hf hs
 pk:=a9O _ h.pk
theorem b5V (h:NmI ms fl pkg N) (hc:∀ n∈N,∀ f∈B5 ms fl n,∀ s∈a1h ms f,s∈N) (n:Str):n∈N↔Reach ms fl pkg n :=
 ⟨h.rch n,fun hr=>by
  induction hr with
  | base=>exact h.pk
  | step _ hf hs ih=>exact hc _ ih _ hf _ hs⟩
theorem a9x {A:List Str} (hA:A.Nodup) (hB:B.Nodup) (h:∀ n,n∈A↔n∈B):a0o A=a0o B:=by
 have hp:A.Perm B:=(List.perm_ext_iff_of_nodup hA hB).2 h;have tr:∀ (a b c:Str),decide (a<=b)=true->decide (b<=c)=true->decide (a<=c)=true:=fun a b c h1 h2=>by
  simp only [a1v] at h1 h2 ⊢;exact List.le_trans h1 h2
 have to:∀ (a b:Str),(decide (a<=b) || decide (b<=a))=true:=fun a b=>by
  simp only [a8j,a1v];exact List.le_total a b
 refine List.Perm.eq_of_pairwise (le:=fun a b=>decide (a<=b)=true) (fun a b _ _ h1 h2=>?_) (c3K tr to A) (c3K tr to B) ((b12 A _).trans (hp.trans (b12 B _).symm));simp only [a1v] at h1 h2;exact c3v h1 h2
open Classical in
noncomputable def a36 (ms:SM) (fl:List Fi) (pkg:Str):List Str:=if h:∃ N:List Str,N.Nodup/\∀ n,n∈N↔Reach ms fl pkg n then a0o h.choose else []
theorem a5L (hN:N.Nodup) (h:∀ n,n∈N↔Reach ms fl pkg n):a36 ms fl pkg=a0o N:=by
 have dD:∃ N:List Str,N.Nodup/\∀ n,n∈N↔Reach ms fl pkg n:=⟨N,hN,h⟩;unfold a36;rw [dif_pos dD];exact a9x dD.choose_spec.1 hN fun n=>(dD.choose_spec.2 n).trans (h n).symm
def a9M (ms:SM) (fl:List Fi) (l:Str) (N:List Str):Str:=N.foldl (fun l s=>H0 (H0 l s) (P7 ms fl s)) l
theorem c4W (h:N[i]? = some y) (l:Str):a9M ms fl l (N.drop i)=a9M ms fl (H0 (H0 l y) (P7 ms fl y)) (N.drop (i+1)):=by
 obtain ⟨ab,rfl⟩:=n_3.1 h;rw [R2 ab];rfl
noncomputable def a6m (ms:SM) (fl:List Fi) (pkg:Str):Str:=[61]++a9M ms fl [] (a36 ms fl pkg)
def tst (W G:List b9) (v:b9) (H:List b9):List b9:=W++G++v::H
theorem a3J (hW:W.length=4):(tst W G v H)[4+G.length]? = some v:=by
 rw [tst,a1f (by simp [hW])];simp [hW]
theorem c3I (hW:W.length=4):(tst W G v H).set (4+G.length) v'=tst W G v' H:=by
 rw [tst,b3Y _ _ (by simp [hW])];simp [hW,tst]
theorem d4i (hW:W.length=4):(tst W G v H).set (4+G.length) .dead++[v']=tst W (G++.dead::H) v' []:=by
 rw [c3I hW];simp [tst]
theorem d3G (hW:W.length=4):(tst W G v H).length=4+(G++b9.dead::H).length:=by
 simp [tst,hW]
theorem c2a (a b:b9):(tst W G v H++[a]).set (tst W G v H).length b=tst W G v (H++[b]):=by
 rw [b3Y _ _ (n_7 _)];simp [tst]
theorem b2w (s:Str) (hk:σ[k]? = some (.vec 1 (N.map scv))) (hl:N.length<=1000000):b8 CC 160 [.vec k 0 N.length,sv s] σ fun r Y=>r = .ret (.val (.bool (decide (s∈N))))/\Y=σ:=by
 have h:=a67 N true s om_;refine a6t (len:=N.length) (V:=N.map scv) hCC (fun a ha=>by simp at ha;subst ha;exact .val _) (fun r hr c hc=>?_) si_ hk ?_
 ·obtain ⟨x,_,rfl⟩:=F4.1 hr;simp [scv] at hc;subst hc;exact .val _
 ·rw [show ((N.map scv).drop 0).take N.length=N.map scv from by rw [a9L,U5 si_]];exact h
theorem c2p (fl:List Fi) (nn va:Bool) (br:List Str) (ms:SM) (me:EM):WAt (tst (wst fl nn va br ms me) G v H) 0 1 2 3 fl nn va br ms me:=⟨rfl,rfl,rfl,rfl,b2c ⟨de_,de_,de_,de_,de_,de_⟩⟩
theorem c7r (h:f∈fl):(a1h ms f).length<=(allI ms fl).length:=by
 unfold allI
 induction fl with
 | nil=>cases h
 | cons x l ih =>
  rw [a9R,n_6]
  rcases J5.1 h with rfl | h
  ·omega
  ·have:=ih h;omega
theorem c9a (fl:List Fi) (nn va:Bool) (br:List Str) (ms:SM) (me:EM) (pkg:Str) (cK:fl.length<=64) (gO:∀ f∈fl,f.p.length<=100/\f.b.length<=100000) (dS:(allI ms fl).length<=512) (di:∀ {n:Str},Reach ms fl pkg n->n.length<=100000):b8 CC 117 [.ptr 0 0,(sv pkg)] (wst fl nn va br ms me) fun r τ=>E8 4 τ r (.ret (sv (a6m ms fl pkg))) (wst fl nn va br ms me):=by
 refine qO Tryz.func117 ?_;refine qD (c3h rfl tt rfl rfl t_2 t_0 t_3 rfl ?_);refine H8 (α:=Nat × List Str × List b9 × List b9) (fun x=>[(0,.ptr 0 0),(5,.vec (4+x.2.2.1.length) 0 x.2.1.length),(6,iv x.1)]) (fun x=>tst (wst fl nn va br ms me) x.2.2.1 (.vec 1 (x.2.1.map scv)) x.2.2.2) (fun x=>NmI ms fl pkg x.2.1/\x.1<=x.2.1.length/\∀ n∈x.2.1.take x.1,∀ f∈B5 ms fl n,∀ s∈a1h ms f,s∈x.2.1) (fun x=>1+(allI ms fl).length - x.1) (0,[pkg],[],[]) ⟨⟨si_,fun n hn=>by simp at hn;subst hn;exact .base,si_⟩,n_4 _,fun n hn=>by simp at hn⟩ tu_ rfl ?_;intro ⟨i,N,G,H⟩ _ ⟨hN,hi,hc⟩;dsimp only at hN hi hc ⊢;have hNl:=hN.len;have fQ:=dS;refine qk (qY c21 ?_);refine qC ?_ ?_<;>intro h1
 ·have ab:i < N.length:=sm_ h1;obtain ⟨n,gn⟩:∃ n,N[i]? = some n:=⟨N[i]'ab,si_⟩;have hffl:=a8m ms fl n;refine qY (T8 rfl tt tt rfl rfl t_2 t_0 (a3J rfl) om_ om_) ?_;refine qY (O8 rfl tt rfl t_9 (a3J rfl) (i8 (by rw [L7];exact gn)) rfl) ?_;refine qY (c5 rfl Tryz.call158 j1 (b6m (c2p fl nn va br ms me) n om_) rfl) ?_;refine qY a0I ?_;refine H8 (α:=Nat × List Str × List b9 × List b9) (fun x=>[(0,.ptr 0 0),(5,.vec (4+x.2.2.1.length) 0 x.2.1.length),(6,iv i),(27,(.list ((B5 ms fl n).map Fi.cv) (gnn (B5 ms fl n).length) none)),(28,(iv ((B5 ms fl n).length:Int))),(29,iv x.1)]) (fun x=>tst (wst fl nn va br ms me) x.2.2.1 (.vec 1 (x.2.1.map scv)) x.2.2.2) (fun x=>NmI ms fl pkg x.2.1/\(∃ t,x.2.1=N++t)/\x.1<=(B5 ms fl n).length/\∀ f∈(B5 ms fl n).take x.1,∀ s∈a1h ms f,s∈x.2.1) (fun x=>(B5 ms fl n).length - x.1) (0,N,G,H) ⟨hN,⟨[],si_⟩,n_4 _,fun f hf=>by simp at hf⟩ tu_ rfl ?_;intro ⟨q,N1,G1,H1⟩ _ ⟨hN1,ci,hq,ca⟩;dsimp only at hN1 ci hq ca ⊢;have hNl1:=hN1.len;refine qk (qC ?_ ?_)<;> intro h2
  ·have hlq:q < (B5 ms fl n).length:=sm_ h2;obtain ⟨y,hy⟩:∃ y,(B5 ms fl n)[q]? = some y:=⟨(B5 ms fl n)[q]'hlq,si_⟩;have eN:=n_2 hy;refine qY (p9 rfl tt tt rfl rfl a7m a4a om_ (i8 hy) rfl) ?_;refine qD (p8 rfl a6h rfl j6 ?_);refine qD (j2 rfl tt tt rfl j3 a4a j6 b0Q rfl (nb rfl) ?_);refine b4t ?_;refine hY b7N ?_;refine hY b8J ?_;refine hY b1y ?_;refine hY (o5 rfl tt rfl t_9 (by rw [b1v si_]) rfl) ?_;refine hY (S9 (vc:=vcS) (l:=ms) (a:=y.p) b9m rfl tt tt rfl rfl b7k a3V rfl rfl (a5R Src.z rfl _)) ?_;refine hY (a3n rfl tt rfl a6A rfl b9f rfl) ?_;refine hY J3 ?_;refine hY d5o ?_;refine X2 ?_;refine H8 (α:=Nat × List Str × List b9 × List b9) (fun x=>[(0,.ptr 0 0),(5,.vec (4+x.2.2.1.length) 0 x.2.1.length),(6,iv i),(27,(.list ((B5 ms fl n).map Fi.cv) (gnn (B5 ms fl n).length) none)),(28,(iv ((B5 ms fl n).length:Int))),(29,iv q),(40,(.list ((a1h ms y).map scv) (gnn (a1h ms y).length) none)),(41,(iv ((a1h ms y).length:Int))),(42,iv x.1)]) (fun x=>tst (wst fl nn va br ms me) x.2.2.1 (.vec 1 (x.2.1.map scv)) x.2.2.2) (fun x=>NmI ms fl pkg x.2.1/\(∃ t,x.2.1=N1++t)/\x.1<=(a1h ms y).length/\∀ s∈(a1h ms y).take x.1,s∈x.2.1) (fun x=>(a1h ms y).length - x.1) (0,N1,G1,H1++[.box y.cells]) ⟨hN1,⟨[],si_⟩,n_4 _,fun f hf=>by simp at hf⟩ tu_ (c2a _ _) ?_;intro ⟨r,N2,G2,H2⟩ _ ⟨gx,du,hr,cr⟩;dsimp only at gx du hr cr ⊢;have hNl2:=gx.len;have bn:(a1h ms y).length<=(allI ms fl).length:=c7r (a3X eN);refine qk (qC ?_ ?_)<;> intro h3
   ·have gl:r < (a1h ms y).length:=sm_ h3;obtain ⟨s,hs⟩:∃ s,(a1h ms y)[r]? = some s:=⟨(a1h ms y)[r]'gl,si_⟩;have hsm:=n_2 hs;have fU:(a1h ms y).take (r+1)=(a1h ms y).take r++[s]:=by rw [a2m,hs];rfl
    refine qY c9v ?_;refine qY (c5 rfl c9e j1 (b2w s (a3J rfl) om_) rfl) ?_;refine qC ?_ ?_<;>intro h4
    ·have gF:s∉N2:=sp_ h4;obtain ⟨t1,fc⟩:=ci;obtain ⟨t2,fo⟩:=du;have hnN2:n∈N2:=by rw [fo,fc];simp [n_2 gn]
     have fm:=gx.snoc hnN2 eN hsm gF;have hsnl:=fm.len;rw [n_6,b9T] at hsnl;refine qY d9e ?_;refine qD (a5A ((N2++[s]).map scv) (N2++[s]).length rfl tt tt rfl q_2 t_2 t_0 a32 t_3 rfl (a3J rfl) C1 si_ a3Z C1 si_ si_ ?_);refine qY l9 ?_;exact ⟨(r+1,N2++[s],G2++.dead::H2,[]),do_,⟨fm,⟨t2++[s],by rw [fo,D7]⟩,do_,fun z hz=>by
      dsimp only at hz ⊢;rw [fU] at hz
      rcases L8.1 hz with hz | hz
      ·exact a9O _ (cr z hz)
      ·simp at hz;subst hz;simp⟩,⟨k8,⟨tt,(n_8 (fun k=>CV.vec k 0 (N2++[s]).length) (d3G rfl))⟩,k8,k8,k8,k8,k8,k8,k8,tt⟩,(d4i rfl)⟩
    ·have gF:s∈N2:=sp_ h4;refine qY l9 ?_;exact ⟨(r+1,N2,G2,H2),do_,⟨gx,du,do_,fun z hz=>by
      dsimp only at hz ⊢;rw [fU] at hz
      rcases L8.1 hz with hz | hz
      ·exact cr z hz
      ·simp at hz;subst hz;exact gF⟩,tu_,rfl⟩
   ·have hre:r=(a1h ms y).length:=sm_ h3;obtain ⟨t1,fc⟩:=ci;obtain ⟨t2,fo⟩:=du;have fU:(B5 ms fl n).take (q+1)=(B5 ms fl n).take q++[y]:=by rw [a2m,hy];rfl
    refine b7M ?_;exact ⟨(q+1,N2,G2,H2),do_,⟨gx,⟨t1++t2,by rw [fo,fc,D7]⟩,do_,fun z hz s hs=>by
     dsimp only at hz ⊢;rw [fU] at hz
     rcases L8.1 hz with hz | hz
     ·rw [fo];exact a9O _ (ca z hz s hs)
     ·simp at hz;subst hz;exact cr s (by rw [hre,U5 (n_7 _)];exact hs)⟩,tu_,rfl⟩
  ·have hqe:q=(B5 ms fl n).length:=sm_ h2;obtain ⟨t1,fc⟩:=ci;have fU:N1.take (i+1)=N.take i++[n]:=by
    rw [fc,c3G om_,a2m,gn];rfl
   refine b7M ?_;exact ⟨(i+1,N1,G1,H1),do_,⟨hN1,by dsimp only;rw [fc,n_6];omega,fun z hz f hf s hs=>by
    dsimp only at hz ⊢;rw [fU] at hz
    rcases L8.1 hz with hz | hz
    ·rw [fc];exact a9O _ (hc z hz f hf s hs)
    ·simp at hz;subst hz;exact ca f (by rw [hqe,U5 (n_7 _)];exact hf) s hs⟩,tu_,rfl⟩
 ·have eO:i=N.length:=sm_ h1;have bZ:=b5V hN (fun n hn=>hc n (by rw [eO,U5 (n_7 _)];exact hn));have hT:=a5L hN.nd bZ;have aX:(a0o N).length=N.length:=b4q _;have az:N≠[]:=fun h=>by have:=hN.pk;rw [h] at this;cases this
  refine j4 ?_;refine qD (c4 rfl Tryz.call161 ⟨tt,tt⟩ (c76 az om_ (a3J rfl)) rfl ?_);intro _ _;refine qN (tst (wst fl nn va br ms me) G (.vec 1 ((a0o N).map scv)) H) (c3I rfl) ?_;refine qY c21 ?_;refine H8 (α:=Nat × Str) (fun x=>[(0,.ptr 0 0),(11,(.list (x.2.map bcv) (gnn x.2.length) none)),(58,.vec (4+G.length) 0 N.length),(59,iv N.length),(60,iv x.1)]) (fun _=>tst (wst fl nn va br ms me) G (.vec 1 ((a0o N).map scv)) H) (fun x=>x.1<=N.length/\x.2.length<=x.1*103000000/\a9M ms fl [] (a0o N)=a9M ms fl x.2 ((a0o N).drop x.1)) (fun x=>N.length - x.1) (0,[]) ⟨n_4 _,n_4 _,rfl⟩ tu_ rfl ?_;intro ⟨j,l⟩ _ ⟨hj,hl,hr⟩;dsimp only at hj hl hr ⊢;refine qk (qC ?_ ?_)<;> intro h5
  ·have hlj:j < N.length:=sm_ h5;obtain ⟨s,hs⟩:∃ s,(a0o N)[j]? = some s:=⟨(a0o N)[j]'om_,si_⟩;rw [c4W hs] at hr;have dQ:=di (hN.rch s ((b12 N _).mem_iff.1 (n_2 hs)));have hfc:=c1r (ms:=ms) (pkg:=s) om_ gO;have fh:=a3r (l:=l) (s:=s) om_;have cu:=a3r (l:=H0 l s) (s:=P7 ms fl s) om_;have hj2:j*103000000<=600*103000000:=S4 _ om_;refine qY (T8 rfl tt tt rfl rfl t_2 t_0 (a3J rfl) om_ om_) ?_;refine qY (O8 rfl tt rfl t_9 (a3J rfl) (i8 (by rw [L7];exact hs)) rfl) ?_;refine qY (c5 rfl c29 j1 (a1A l _ s om_ om_ _) rfl) ?_;refine qY (c5 rfl Tryz.call115 j1 (b6R (c2p fl nn va br ms me) s om_ gO) rfl) ?_;refine qY (c5 rfl c29 j1 (a1A (H0 l s) _ (P7 ms fl s) om_ om_ _) rfl) ?_;refine qY l9 ?_;exact ⟨(j+1,H0 (H0 l s) (P7 ms fl s)),do_,⟨do_,do_,hr⟩,tu_,rfl⟩
  ·have hje:j=N.length:=sm_ h5;rw [hje,<- aX,b2n] at hr;replace hr:a9M ms fl [] (a0o N)=l:=hr;have hj2:j*103000000<=600*103000000:=S4 _ om_;refine j4 ?_;refine qY b9U ?_;refine qY (H4 rfl rfl tt rfl rfl (by show 1+l.length<=_;omega)) ?_;refine c6 ?_;exact ⟨_,rE1,(by rw [a6m,hT,hr];exact a2U rfl (.old (.val _)))⟩
theorem d3Y {va:Bool} (am:WAt σ w q1 q2 t fl nn va br ms me) (pkg:Str) (cK:fl.length<=64) (gO:∀ f∈fl,f.p.length<=100/\f.b.length<=100000) (dS:(allI ms fl).length<=512) (di:∀ {n:Str},Reach ms fl pkg n->n.length<=100000):b8 CC 117 [.ptr w 0,(sv pkg)] σ fun r τ=>r = .ret (sv (a6m ms fl pkg))/\τ=σ :=
 b4b (fun a h=>by simp at h;subst h;exact .val _) (.val _) (c9a fl nn va br ms me pkg cK gO dS di) am
theorem d3R (l:List Str) (nn:Bool) (u:Str) (hl:l.length<=1000000):b8 CC 149 [(.list (l.map scv) nn none),(sv u)] [] fun r Y=>r = .ret (.val (.bool (decide (u∈l))))/\Y=[]:=by
 refine c7 (qO Tryz.func149 ?_);refine d9P ?_;intro i ⟨hi,hd⟩;refine qk (qC ?_ ?_)<;> intro h1
 ·have ab:i < l.length:=sm_ h1;obtain ⟨w,hb⟩:∃ w,l[i]? = some w:=⟨l[i]'ab,si_⟩;refine b3f ?_;refine qC ?_ ?_<;>intro h2
  ·have hw:w=u:=sp_ h2;exact d7k
  ·have hw:¬ w=u:=sp_ h2;exact d6B
 ·have aE:l.length<=i:=sm_ h1;refine z_9 ?_;exact ⟨_,rE1,_,_,rfl,rfl,j8 (show false=decide (u∈l) by rw [hd,V2 aE];simp)⟩
inductive a6G (L:List (Str × Src)) (pkg:Str):Str->Prop where
 | base:a6G L pkg pkg
 | step {n:Str} {x:Str × Src} {s:Str}:a6G L pkg n->x∈L->x.2.pkg=n->s∈x.2.imports->a6G L pkg s
def b0v (L:List (Str × Src)):List Str:=L.flatMap fun x=>x.2.imports
theorem c4b (h:a6G L pkg n):n∈pkg::b0v L:=by
 cases h with
 | base=>simp
 | step _ hf _ hs=>exact a8g _ (b1L.2 ⟨_,hf,hs⟩)
structure NmL (L:List (Str × Src)) (pkg:Str) (N:List Str):Prop where
 nd:N.Nodup
 rch:∀ n∈N,a6G L pkg n
 pk:pkg∈N
theorem NmL.len (h:NmL L pkg N):N.length<=1+(b0v L).length:=by
 have:=List.Nodup.length_le_of_subset h.nd (fun n hn=>c4b (h.rch n hn));simpa [b5S] using this
theorem NmL.snoc {x:Str × Src} (h:NmL L pkg N) (hn:x.2.pkg∈N) (hf:x∈L) (hs:s∈x.2.imports) (hsN:s∉N):NmL L pkg (N++[s]) where
 nd:=a3L h.nd hsN
 rch:=fun m hm=>by
  rcases L8.1 hm with hm | hm
  ·exact h.rch m hm
  ·simp at hm;subst hm;exact .step (h.rch _ hn) hf rfl hs
 pk:=a9O _ h.pk
theorem b7o (h:NmL L pkg N) (hc:∀ n∈N,∀ x∈L,x.2.pkg=n->∀ s∈x.2.imports,s∈N) (n:Str):n∈N↔a6G L pkg n :=
 ⟨h.rch n,fun hr=>by
  induction hr with
  | base=>exact h.pk
  | step _ hf hp hs ih=>exact hc _ ih _ hf hp _ hs⟩
def swk (B:List Str) (i k:Nat) (x:Str):List Str:=B.take k++x::((B.take i).drop k++B.drop (i+1))
theorem b8Z (h:B[i]? = some x):swk B i i x=B:=by
 obtain ⟨ab,rfl⟩:=n_3.1 h;rw [swk,V2 L4,a2e,<- R2 ab,b3s]
theorem b0i (h:B[j]? = some y) (hj:j+1<=i):B.take (j+1)=B.take j++[y]/\(B.take i).drop j=y::(B.take i).drop (j+1):=by
 obtain ⟨ab,rfl⟩:=n_3.1 h;refine ⟨by rw [a2m,a09 ab];rfl,?_⟩;rw [R2 a4f,List.getElem_take]
theorem d2T (hk:k<=i) (hi:i < B.length):(swk B i k x).length=B.length:=by
 simp only [swk,n_6,C5,b7c,a5u];omega
theorem c1c (hk:k<=i) (hi:i < B.length):(swk B i k x)[k]? = some x:=by
 rw [swk,a1f a4f,a5u,show k - min k B.length=0 by omega];rfl
theorem b4Q (hj:j < k) (h:B[j]? = some y):(swk B i k x)[j]? = some y:=by
 have:=(n_3.1 h).1;rw [swk,R3 a4f,a2d,n_1 hj,h]
theorem c8y (h:B[j]? = some y) (hj:j+1<=i):((swk B i (j+1) x).set (j+1) y).set j x=swk B i j x:=by
 obtain ⟨h1,h2⟩:=b0i h hj;have ab:=(n_3.1 h).1;have hl:(B.take j).length=j:=by rw [a5u];omega
 unfold swk;rw [h1,h2,D7,b3Y _ _ (by rw [hl];omega),hl,show j+1 - j=1 by omega,b3Y _ _ (by rw [hl];exact n_7 _),hl,a85];rfl
theorem d3M (hB:(B.take i).Pairwise (·<=·)) (hg:∀ z∈(B.take i).drop k,x<=z) (hx:k=0\/∃ y,B[k - 1]? = some y/\y<=x) (hk:k<=i):(B.take k++x::(B.take i).drop k).Pairwise (·<=·):=by
 have he:B.take i=B.take k++(B.take i).drop k:=by
  have:=b3s k (B.take i);rw [List.take_take,b27 hk] at this;exact this.symm
 rw [he,List.pairwise_append] at hB;obtain ⟨p1,p2,p3⟩:=hB;refine List.pairwise_append.2 ⟨p1,a4x.2 ⟨hg,p2⟩,fun a ha b hb=>?_⟩
 rcases J5.1 hb with rfl | hb
 ·rcases hx with rfl | ⟨y,hy,hyx⟩
  ·simp at ha
  ·by_cases hk0:k=0
   ·subst hk0;simp at ha
   ·obtain ⟨k,rfl⟩:∃ k',k=k'+1:=⟨k - 1,om_⟩;rw [c1K] at hy;rw [(b0i hy hk).1,List.pairwise_append] at p1;rw [(b0i hy hk).1] at ha
    rcases L8.1 ha with ha | ha
    ·exact List.le_trans (p1.2.2 a ha y si_) hyx
    ·simp at ha;subst ha;exact hyx
 ·exact p3 a ha b hb
theorem d8B {A:List Str} (hp:A.Perm N) (hs:A.Pairwise (·<=·)):A=a0o N:=by
 have tr:∀ (a b c:Str),decide (a<=b)=true->decide (b<=c)=true->decide (a<=c)=true:=fun a b c h1 h2=>by
  simp only [a1v] at h1 h2 ⊢;exact List.le_trans h1 h2
 have to:∀ (a b:Str),(decide (a<=b) || decide (b<=a))=true:=fun a b=>by
  simp only [a8j,a1v];exact List.le_total a b
 refine List.Perm.eq_of_pairwise (le:=fun a b=>decide (a<=b)=true) (fun a b _ _ h1 h2=>?_) (hs.imp fun h=>sp_ h) (c3K tr to N) (hp.trans (b12 N _).symm);simp only [a1v] at h1 h2;exact c3v h1 h2
theorem c89 (h:B[i]? = some x) (hk:k<=i):(swk B i k x).Perm B:=by
 have e1:B=B.take k++((B.take i).drop k++x::B.drop (i+1)):=by
  have h1:=b8Z h;have h2:=b3s k (B.take i);rw [List.take_take,b27 hk] at h2;rw [swk,V2 a4f,a2e] at h1;rw [<- D7,h2,h1]
 refine List.Perm.trans ?_ (List.Perm.of_eq e1.symm);exact List.Perm.append_left _ List.perm_middle.symm
theorem c6D (hk:k<=i) (hi:i < B.length):(swk B i k x).take (i+1)=B.take k++x::(B.take i).drop k:=by
 have hl:(B.take k++x::(B.take i).drop k).length=i+1:=by simp only [n_6,C5,b7c,a5u];omega
 rw [swk,show B.take k++x::((B.take i).drop k++B.drop (i+1))=(B.take k++x::(B.take i).drop k)++B.drop (i+1) by simp,c3G om_,U5 om_]
theorem a0X:(tst [b] G v H)[1+G.length]? = some v:=by
 rw [tst,a1f L4];simp [b5S]
theorem c0D:(tst [b] G v H).set (1+G.length) v'=tst [b] G v' H:=by
 rw [tst,b3Y _ _ L4];simp [b5S,tst]
theorem d0T:(tst [b] G v H).set (1+G.length) .dead++[v']=tst [b] (G++.dead::H) v' []:=by
 rw [c0D];simp [tst]
theorem d8I:(tst [b] G v H).length=1+(G++b9.dead::H).length:=by
 simp [tst];omega
theorem d3S {s:Nat} {V:List (List CV)} {p:Nat} {c:List CV} (h:(tst [b] G (.vec s V) H)[p]? = some (.box c)):(tst [b] (G++.dead::H) v' [])[p]? = some (.box c):=by
 have hp:1+G.length≠p:=fun e=>by rw [<- e,a0X] at h;cases h
 rw [<- d0T (v:=.vec s V),R3 (by rw [List.length_set];exact (n_3.1 h).1),a2i hp];exact h
theorem d8Y (a:b9):(tst [b] G v (H++[a]))[(tst [b] G v H).length]? = some a:=by
 have:tst [b] G v (H++[a])=tst [b] G v H++[a]:=by simp [tst]
 rw [this,a1f (n_7 _),a85];rfl
theorem d0m (s:Str) (hk:σ[k]? = some (.vec 1 (N.map scv))) (hl:N.length<=1000000):b8 CC 149 [.vec k 0 N.length,sv s] σ fun r Y=>r = .ret (.val (.bool (decide (s∈N))))/\Y=σ:=by
 have h:=d3R N true s om_;refine a6t (len:=N.length) (V:=N.map scv) hCC (fun a ha=>by simp at ha;subst ha;exact .val _) (fun r hr c hc=>?_) si_ hk ?_
 ·obtain ⟨x,_,rfl⟩:=F4.1 hr;simp [scv] at hc;subst hc;exact .val _
 ·rw [show ((N.map scv).drop 0).take N.length=N.map scv from by rw [a9L,U5 si_]];exact h
theorem c3B (l:List Str) (i:Nat) (s:Str):(l.map scv).set i [sv s]=(l.set i s).map scv:=by rw [List.map_set];rfl
theorem c68 {x:Str × Src} (h:x∈L):x.2.imports.length<=(b0v L).length:=by
 unfold b0v
 induction L with
 | nil=>cases h
 | cons y l ih =>
  rw [a9R,n_6]
  rcases J5.1 h with rfl | h
  ·omega
  ·have:=ih h;omega
theorem c5l (L:List (Str × Src)) (pkg:Str) (hL:L.length<=1000) (hA:(b0v L).length<=100000):b8 CC 97 [.agg (a0S (L.map Prod.fst) (L.map Prod.snd)),(sv pkg)] [] fun r τ=>∃ N:List Str,a1q 0 τ r (.ret (.list ((a0o N).map scv) true none))/\(N.Nodup/\∀ n,n∈N↔a6G L pkg n):=by
 refine qO Tryz.func97 ?_;refine qD (G8 rfl tt j3 j6 ?_);refine qD (c3h rfl tt rfl rfl t_2 t_0 t_3 rfl ?_);refine H8 (α:=Nat × List Str × List b9 × List b9) (fun x=>[(2,.ptr 0 0),(5,.vec (1+x.2.2.1.length) 0 x.2.1.length),(6,iv x.1)]) (fun x=>tst [.box (a0S (L.map Prod.fst) (L.map Prod.snd))] x.2.2.1 (.vec 1 (x.2.1.map scv)) x.2.2.2) (fun x=>NmL L pkg x.2.1/\x.1<=x.2.1.length/\∀ n∈x.2.1.take x.1,∀ y∈L,y.2.pkg=n->∀ s∈y.2.imports,s∈x.2.1) (fun x=>1+(b0v L).length - x.1) (0,[pkg],[],[]) ⟨⟨si_,fun n hn=>by simp at hn;subst hn;exact .base,si_⟩,n_4 _,fun n hn=>by simp at hn⟩ tu_ rfl ?_;intro ⟨i,N,G,H⟩ _ ⟨hN,hi,hc⟩;dsimp only at hN hi hc ⊢;have hNl:=hN.len;refine qk (qY c21 ?_);refine qC ?_ ?_<;>intro h1
 ·have ab:i < N.length:=sm_ h1;obtain ⟨n,gn⟩:∃ n,N[i]? = some n:=⟨N[i]'ab,si_⟩;refine qY d1V ?_;refine H8 (α:=Nat × List Str × List b9 × List b9) (fun x=>[(2,.ptr 0 0),(5,.vec (1+x.2.2.1.length) 0 x.2.1.length),(6,iv i),(22,(.list ((L.map Prod.snd).map Src.cv) (gnn (L.map Prod.snd).length) none)),(23,(iv ((L.map Prod.snd).length:Int))),(24,iv x.1)]) (fun x=>tst [.box (a0S (L.map Prod.fst) (L.map Prod.snd))] x.2.2.1 (.vec 1 (x.2.1.map scv)) x.2.2.2) (fun x=>NmL L pkg x.2.1/\(∃ t,x.2.1=N++t)/\x.1<=L.length/\∀ y∈L.take x.1,y.2.pkg=n->∀ s∈y.2.imports,s∈x.2.1) (fun x=>L.length - x.1) (0,N,G,H) ⟨hN,⟨[],si_⟩,n_4 _,fun y hy=>by simp at hy⟩ tu_ rfl ?_;intro ⟨q,N1,G1,H1⟩ _ ⟨hN1,ci,hq,ca⟩;dsimp only at hN1 ci hq ca ⊢;have hNl1:=hN1.len;refine qs 2 (qC ?_ ?_)<;> intro h2
  ·have hlq:q < L.length:=sm_ h2;obtain ⟨y,hy⟩:∃ y,L[q]? = some y:=⟨L[q]'hlq,si_⟩;have eN:=n_2 hy;have hyi:=c68 eN;refine F9 ?_;refine qs 1 (qY (p9 rfl tt tt rfl rfl b79 a3w om_ (i8 (c3p hy)) rfl) ?_);refine qD (p8 rfl a3V rfl j6 ?_);refine qD (j2 rfl tt tt rfl j3 a3w j6 b0Q rfl (nb rfl) ?_);refine z_0 ?_;refine cY (j5 rfl tt rfl a6A rfl a2j de_) ?_;refine qY (o5 rfl tt rfl b9f (by rw [b1v si_]) rfl) ?_;refine qY J3 ?_;refine qk ?_;refine H8 (α:=Nat × List Str × List b9 × List b9) (fun x=>[(2,.ptr 0 0),(5,.vec (1+x.2.2.1.length) 0 x.2.1.length),(6,iv i),(8,.ptr (tst [.box (a0S (L.map Prod.fst) (L.map Prod.snd))] G1 (.vec 1 (N1.map scv)) H1).length 0),(22,(.list ((L.map Prod.snd).map Src.cv) (gnn (L.map Prod.snd).length) none)),(23,(iv ((L.map Prod.snd).length:Int))),(24,iv q),(29,(.list (y.2.imports.map scv) (gnn y.2.imports.length) none)),(30,iv y.2.imports.length),(31,iv x.1)]) (fun x=>tst [.box (a0S (L.map Prod.fst) (L.map Prod.snd))] x.2.2.1 (.vec 1 (x.2.1.map scv)) x.2.2.2) (fun x=>NmL L pkg x.2.1/\(∃ t,x.2.1=N1++t)/\x.1<=y.2.imports.length/\(∀ s∈y.2.imports.take x.1,y.2.pkg=n->s∈x.2.1)/\(tst [.box (a0S (L.map Prod.fst) (L.map Prod.snd))] x.2.2.1 (.vec 1 (x.2.1.map scv)) x.2.2.2)[(tst [.box (a0S (L.map Prod.fst) (L.map Prod.snd))] G1 (.vec 1 (N1.map scv)) H1).length]? = some (.box y.2.cells)) (fun x=>y.2.imports.length - x.1) (0,N1,G1,H1++[.box y.2.cells]) ⟨hN1,⟨[],si_⟩,n_4 _,fun s hs=>by simp at hs,d8Y _⟩ tu_ (c2a _ _) ?_;intro ⟨r,N2,G2,H2⟩ _ ⟨gx,du,hr,cr,hbx⟩;dsimp only at gx du hr cr hbx ⊢;have hNl2:=gx.len;refine qk (qC ?_ ?_)<;> intro h3
   ·have gl:r < y.2.imports.length:=sm_ h3;obtain ⟨s,hs⟩:∃ s,y.2.imports[r]? = some s:=⟨y.2.imports[r]'gl,si_⟩;have hsm:=n_2 hs;have fU:y.2.imports.take (r+1)=y.2.imports.take r++[s]:=by rw [a2m,hs];rfl
    obtain ⟨t1,fc⟩:=ci;obtain ⟨t2,fo⟩:=du;have gn2:N2[i]? = some n:=by rw [fo,fc,D7,R3 ab];exact gn
    have hiN2:i < N2.length:=(n_3.1 gn2).1;refine qY c9v ?_;refine cW 13 ?_;refine hY c3N ?_;refine hY (o5 rfl tt rfl t_9 hbx rfl) ?_;refine b5U ?_;refine hY (T8 rfl tt tt rfl rfl t_2 t_0 a0X om_ om_) ?_;refine hY (O8 rfl tt rfl t_9 a0X (i8 (by rw [L7];exact gn2)) rfl) ?_;refine hY a7u ?_;refine c19 ?_;refine U3 rfl rfl tt rfl D6 ?_;refine U3 rfl rfl tt rfl (fun hg=>c5 rfl Tryz.call149 ⟨hg,hg,tt⟩ (d0m s a0X om_) rfl) ?_;refine U3 rfl rfl tt rfl a6u ?_;refine hY M7 ?_;refine X2 ?_;refine qC ?_ ?_<;>intro h4
    ·have gF:y.2.pkg=n/\s∉N2:=sp_ h4;have fm:=gx.snoc (gF.1 ▸ n_2 gn2) eN hsm gF.2;have hsnl:=fm.len;rw [n_6,b9T] at hsnl;refine qY d9e ?_;refine qD (a5A ((N2++[s]).map scv) (N2++[s]).length rfl tt tt rfl q_2 t_2 t_0 a32 t_3 rfl a0X C1 si_ a3Z C1 si_ si_ ?_);refine qY l9 ?_;exact ⟨(r+1,N2++[s],G2++.dead::H2,[]),do_,⟨fm,⟨t2++[s],by rw [fo,D7]⟩,do_,fun z hz hp=>by
      dsimp only at hz ⊢;rw [fU] at hz
      rcases L8.1 hz with hz | hz
      ·exact a9O _ (cr z hz hp)
      ·simp at hz;subst hz;simp,d3S hbx⟩,⟨k8,⟨tt,(n_8 (fun k=>CV.vec k 0 (N2++[s]).length) d8I)⟩,k8,k8,k8,k8,k8,k8,k8,k8,tt⟩,d0T⟩
    ·have gF:y.2.pkg=n->s∈N2:=sp_ h4;refine qY l9 ?_;exact ⟨(r+1,N2,G2,H2),do_,⟨gx,⟨t2,fo⟩,do_,fun z hz hp=>by
      dsimp only at hz ⊢;rw [fU] at hz
      rcases L8.1 hz with hz | hz
      ·exact cr z hz hp
      ·simp at hz;subst hz;exact gF hp,hbx⟩,tu_,rfl⟩
   ·have hre:r=y.2.imports.length:=sm_ h3;obtain ⟨t1,fc⟩:=ci;obtain ⟨t2,fo⟩:=du;have fU:L.take (q+1)=L.take q++[y]:=by rw [a2m,hy];rfl
    refine j4 ?_;refine a4T ?_;exact ⟨(q+1,N2,G2,H2),do_,⟨gx,⟨t1++t2,by rw [fo,fc,D7]⟩,do_,fun z hz hp s hs=>by
     dsimp only at hz ⊢;rw [fU] at hz
     rcases L8.1 hz with hz | hz
     ·rw [fo];exact a9O _ (ca z hz hp s hs)
     ·simp at hz;subst hz;exact cr s (by rw [hre,U5 (n_7 _)];exact hs) hp⟩,tu_,rfl⟩
  ·have hqe:q=L.length:=sm_ h2;obtain ⟨t1,fc⟩:=ci;have fU:N1.take (i+1)=N.take i++[n]:=by
    rw [fc,c3G om_,a2m,gn];rfl
   refine b7M ?_;exact ⟨(i+1,N1,G1,H1),do_,⟨hN1,by dsimp only;rw [fc,n_6];omega,fun z hz f hf hp s hs=>by
    dsimp only at hz ⊢;rw [fU] at hz
    rcases L8.1 hz with hz | hz
    ·rw [fc];exact a9O _ (hc z hz f hf hp s hs)
    ·simp at hz;subst hz;exact ca f (by rw [hqe,U5 (n_7 _)];exact hf) hp s hs⟩,tu_,rfl⟩
 ·have eO:i=N.length:=sm_ h1;have bZ:=b7o hN (fun n hn=>hc n (by rw [eO,U5 (n_7 _)];exact hn));refine j4 ?_;refine qY c21 ?_;refine H8 (α:=Nat × List Str) (fun x=>[(5,.vec (1+G.length) 0 N.length),(55,iv N.length),(56,iv x.1)]) (fun x=>tst [.box (a0S (L.map Prod.fst) (L.map Prod.snd))] G (.vec 1 (x.2.map scv)) H) (fun x=>x.1<=N.length/\x.2.Perm N/\(x.2.take x.1).Pairwise (·<=·)) (fun x=>N.length - x.1) (0,N) ⟨n_4 _,List.Perm.refl _,si_⟩ tu_ rfl ?_;intro ⟨m,B⟩ _ ⟨hm,hP,hS⟩;dsimp only at hm hP hS ⊢;have hBl:=hP.length_eq;refine qk (qC ?_ ?_)<;> intro h5
  ·have fV:m < B.length:=sm_ h5;obtain ⟨x0,hx0⟩:∃ x,B[m]? = some x:=⟨B[m]'fV,si_⟩;refine H8 (α:=Nat) (fun k=>[(5,.vec (1+G.length) 0 N.length),(12,iv k),(55,iv N.length),(56,iv m)]) (fun k=>tst [.box (a0S (L.map Prod.fst) (L.map Prod.snd))] G (.vec 1 ((swk B m k x0).map scv)) H) (fun k=>k<=m/\∀ z∈(B.take m).drop k,x0<=z) (fun k=>k) m ⟨n_7 _,fun z hz=>by rw [V2 a4f] at hz;cases hz⟩ tu_ (by rw [b8Z hx0]) ?_;intro k _ ⟨hkm,hgt⟩;have dQ:=d2T (x:=x0) hkm fV;obtain ⟨y,hy⟩:∃ y,0 < k->B[k - 1]? = some y:=⟨B.getD (k - 1) [],fun h=>by rw [a58,a09 om_];rfl⟩;refine qk ?_;refine cW 14 ?_;refine b8i ?_;refine c19 ?_;refine U3 rfl rfl tt rfl D6 ?_;refine U3 rfl rfl tt rfl d9v ?_;refine U3 rfl rfl tt rfl (fun hg=>O8 rfl hg rfl t_9 a0X (i8 (by rw [L7];exact c1c hkm fV)) rfl) ?_;refine U3 rfl rfl tt rfl D6 ?_;refine c8V ?_;refine U3 rfl rfl tt rfl d9v ?_;refine U3 rfl rfl tt rfl (fun hg=>O8 rfl hg rfl t_9 a0X (i8 (by rw [L7,show ((k:Int) - 1).toNat=k - 1 by omega];exact b4Q (sm_ hg) (hy (sm_ hg)))) rfl) ?_;refine d0N ?_;refine X2 ?_;refine qC ?_ ?_<;>intro h6
   ·have u6:0 < k/\Op.bytesLess x0 y=true:=sp_ h6;have hyk:=hy u6.1;obtain ⟨j,rfl⟩:∃ j,k=j+1:=⟨k - 1,om_⟩;rw [c1K] at hyk;have hj1:(((j+1:Nat):Int) - 1).toNat=j:=by omega
    have hxy:x0<=y:=by have:=u6.2;rw [bytesLess_eq,a1v] at this;exact Std.le_of_lt this
    refine cF [] [0,1,2,3,4,5,6,7,8,9,10,11,12,13,14] (tl:=[(15,[2,3,4]),(16,[]),(17,[])]) ?_;refine a6Y ?_;refine a6Y ?_;refine chf rfl (c8 rfl V3) ?_;refine a6Y ?_;refine chf rfl (c8 rfl V3) ?_;refine chf rfl c24 ?_;refine chf rfl d9X ?_;refine a6Y ?_;refine chf rfl c24 ?_;refine chf rfl d9X ?_;refine chf rfl c24 ?_;refine D9 ?_;refine B1 rfl rfl rfl (P8 (((swk B m (j+1) x0).set (j+1) y).map scv) rfl tt tt rfl j3 t_0 (.inl rfl) a0X (i8 (by rw [L7];exact c1c hkm fV)) rfl (nb rfl) (by simp only [L7,a2c];exact c3B _ _ _) c0D ?_);refine ⟨⟨F1,F1,(by exact c8 rfl V3),tt⟩,?_⟩;refine F2 rfl rfl c24 ⟨tt,?_⟩;refine B1 rfl rfl rfl (P8 ((swk B m j x0).map scv) rfl tt tt rfl j3 t_0 (.inl rfl) a0X (i8 (by rw [L7,hj1,a2i om_];exact b4Q om_ hyk)) rfl (nb rfl) (by rw [L7,hj1];refine (c3B _ _ _).trans ?_;rw [c8y hyk hkm]) c0D ?_);refine a8A ?_;refine qY V3 ?_;exact ⟨j,om_,⟨om_,fun z hz=>by rw [(b0i hyk hkm).2] at hz;rcases J5.1 hz with rfl | hz;exact hxy;exact hgt z hz⟩,⟨k8,⟨tt,(n_8 (fun z:Int=>iv z) om_)⟩,k8,k8,tt⟩,rfl⟩
   ·have u6:k=0\/∃ y,B[k - 1]? = some y/\y<=x0:=by
     rcases b20 k with h0 | h0
     ·exact .inl h0
     ·refine .inr ⟨y,hy h0,?_⟩;have hb:Op.bytesLess x0 y=false:=by simpa [h0] using h6
      rw [bytesLess_eq,b2R] at hb;exact List.not_lt.1 hb
    refine b7M ?_;exact ⟨(m+1,swk B m k x0),do_,⟨do_,(c89 hx0 hkm).trans hP,by dsimp only;rw [c6D hkm fV];exact d3M hS hgt u6 hkm⟩,tu_,rfl⟩
  ·have bU:m=N.length:=sm_ h5;rw [bU,<- hBl,U5 (n_7 _)] at hS;obtain rfl:=d8B hP hS;refine z_9 ?_;exact ⟨_,rE1,⟨N,.ret (by rw [<- hBl];exact c7B om_ a0X (fun r hr c hc=>by obtain ⟨x,_,rfl⟩:=F4.1 hr;simp [scv] at hc;subst hc;exact .val _)),hN.nd,bZ⟩⟩
open Classical in
noncomputable def a0b (L:List (Str × Src)) (pkg:Str):List Str:=if h:∃ N:List Str,N.Nodup/\∀ n,n∈N↔a6G L pkg n then a0o h.choose else []
theorem b9G (hN:N.Nodup) (h:∀ n,n∈N↔a6G L pkg n):a0b L pkg=a0o N:=by
 have dD:∃ N:List Str,N.Nodup/\∀ n,n∈N↔a6G L pkg n:=⟨N,hN,h⟩;unfold a0b;rw [dif_pos dD];exact a9x dD.choose_spec.1 hN fun n=>(dD.choose_spec.2 n).trans (h n).symm
theorem c6t (h:n∈a0b L pkg):a6G L pkg n:=by
 unfold a0b at h;split at h
 ·rename_i dD;exact (dD.choose_spec.2 n).1 ((b12 _ _).mem_iff.1 h)
 ·cases h
theorem c54 (L:List (Str × Src)) (pkg:Str):(a0b L pkg).length<=1+(b0v L).length:=by
 unfold a0b
 split
 ·rename_i dD;have h1:(a0o dD.choose).length=dD.choose.length:=b4q _;have h2:=List.Nodup.length_le_of_subset dD.choose_spec.1 (fun n hn=>c4b ((dD.choose_spec.2 n).1 hn));rw [h1];simpa [b5S] using h2
 ·exact n_4 _
theorem d1d (L:List (Str × Src)) (pkg:Str) (hL:L.length<=1000) (hA:(b0v L).length<=100000) (σ:List b9):b8 CC 97 [.agg (a0S (L.map Prod.fst) (L.map Prod.snd)),sv pkg] σ fun r τ=>r = .ret (.list ((a0b L pkg).map scv) true none)/\τ=σ :=
 (H5 (res:=fun N:List Str=>.ret (.list ((a0o N).map scv) true none)) (P:=fun N=>N.Nodup/\∀ n,n∈N↔a6G L pkg n) hCC (fun a h=>by
  simp at h
  rcases h with rfl | rfl
  ·exact r6 ⟨F5 _ _,a5M _ _,tt⟩
  ·exact .val _) (c5l L pkg hL hA) (fun _ _=>F5 _ _) σ).mono fun r τ ⟨N,h1,h2,h3,h4⟩=>⟨by rw [h1,b9G h3 h4],h2⟩
def c1v (fl:List Fi) (L:List (Str × Src)) (N:List Str) (o:Str):Str:=N.foldl (fun o q=>H0 (H0 o q) ([61]++a3I fl q L [])) o
theorem c5M {q:Str} (h:N[i]? = some q) (o:Str):c1v fl L (N.drop i) o=c1v fl L (N.drop (i+1)) (H0 (H0 o q) ([61]++a3I fl q L [])):=by
 obtain ⟨ab,rfl⟩:=n_3.1 h;rw [R2 ab];rfl
theorem b8s {fl:List Fi} {pkg:Str} (hbl:∀ q b,C0 fl q=some b->b.length<=100000):∀ (L:List (Str × Src)) (o:Str),(∀ x∈L,x.1.length<=1000)->(a3I fl pkg L o).length<=o.length+200000*L.length
 | [],o,_=>n_7 _
 | x::l,o,hP=>by
  have hx:=hP x si_;have ih:=b8s (pkg:=pkg) hbl l (if x.2.pkg=pkg then H0 (H0 o x.1) ((if B4 fl=0 then C0 fl x.1 else none).getD []) else o) fun y hy=>hP y (by simp [hy]);have hd:((if B4 fl=0 then C0 fl x.1 else none).getD []).length<=100000:=by
   split
   ·cases hdf:C0 fl x.1 with
    | none=>exact n_4 _
    | some b=>exact hbl _ _ hdf
   ·exact n_4 _
  have q1:=a5Z (l:=o) (s:=x.1) om_;have q2:=a5Z (l:=H0 o x.1) (s:=(if B4 fl=0 then C0 fl x.1 else none).getD []) om_;have e:a3I fl pkg (x::l) o=a3I fl pkg l (if x.2.pkg=pkg then H0 (H0 o x.1) ((if B4 fl=0 then C0 fl x.1 else none).getD []) else o):=rfl;rw [e,C5];have h2:(if x.2.pkg=pkg then H0 (H0 o x.1) ((if B4 fl=0 then C0 fl x.1 else none).getD []) else o).length<=o.length+200000:=by
   split<;>omega
  omega
noncomputable def inR (fl:List Fi) (L:List (Str × Src)) (ev:List Va) (k:Ky):Str :=
 if k.k=1 then b1Q L 1 k.a k.b else if k.k=2 then b1Q L 2 k.a k.b else if k.k=3 then b1Q L 3 [] k.a else
 if k.k=4 then (if (if B4 fl=0 then C0 fl k.a else none).isSome=true then [61]++(if B4 fl=0 then C0 fl k.a else none).getD [] else [45]) else
 if k.k=5 then (if (a0k ev k.a).isSome=true then [61]++Lib.itoa ((a0k ev k.a).getD 0) else [45]) else
 if k.k=6 then [61]++a3I fl k.a L [] else [61]++c1v fl L (a0b L k.a) []
structure d3d (fl:List Fi) (L:List (Str × Src)):Prop where
 hl:fl.length<=1000000
 hL:L.length<=64
 hA:(b0v L).length<=512
 hP:∀ x∈L,x.1.length<=1000
 hbl:∀ q b,C0 fl q=some b->b.length<=100000
 hd:∀ x∈L,x.2.decls.length<=100000
 hi:∀ x∈L,∀ s∈x.2.imports,s.length<=1000
 ok:∀ k p o,c7Y L k p o
theorem d3d.rch (h:d3d fl L) (hp:pkg.length<=1000) (hr:a6G L pkg n):n.length<=1000:=by
 cases hr with
 | base=>exact hp
 | step _ hx _ hs=>exact h.hi _ hx _ hs
theorem c6Z (fl:List Fi) (nn:Bool) (L:List (Str × Src)) (ev:List Va) (en:Bool) (k:Ky) (h:d3d fl L) (eH:ev.length<=1000000000) (fR:∀ v,a0k ev k.a=some v->-9007199254740992<=v/\v<=9007199254740992) (hka:k.a.length<=1000) (σ:List b9):b8 CC 54 [.agg (r8 fl nn),.agg (a0S (L.map Prod.fst) (L.map Prod.snd)),.agg (G6 ev en),.agg k.cells] σ fun r Y=>r = .ret (sv (inR fl L ev k))/\Y=σ:=by
 refine b8.anyw hCC pu_ pu_ (c7 (qO Tryz.func54 ?_)) σ;refine a9J ?_;refine a9J ?_;refine qC ?_ ?_<;>intro h1
 ·have w1:k.k=1:=sp_ h1;refine qY (c5 rfl d0L ⟨tt,rfl,tt,tt,tt⟩ (a3S L 1 k.a k.b (by have:=h.hL;omega) h.hd (h.ok _ _ _) _) rfl) ?_;refine c6 ?_;exact ⟨_,a1R rfl tt rfl,_,_,rfl,rfl,D8 (n_8 str (show _=inR fl L ev k by unfold inR;rw [n_1 w1]))⟩
 ·have w1:¬ k.k=1:=sp_ h1;refine qC ?_ ?_<;>intro h2
  ·have w2:k.k=2:=sp_ h2;refine qY (c5 rfl d0L ⟨tt,rfl,tt,tt,tt⟩ (a3S L 2 k.a k.b (by have:=h.hL;omega) h.hd (h.ok _ _ _) _) rfl) ?_;refine c6 ?_;exact ⟨_,a1R rfl tt rfl,_,_,rfl,rfl,D8 (n_8 str (show _=inR fl L ev k by unfold inR;rw [n_0 w1,n_1 w2]))⟩
  ·have w2:¬ k.k=2:=sp_ h2;refine qC ?_ ?_<;>intro h3
   ·have w3:k.k=3:=sp_ h3;refine qY (c5 rfl d0L ⟨tt,rfl,rfl,tt,tt⟩ (a3S L 3 [] k.a (by have:=h.hL;omega) h.hd (h.ok _ _ _) _) rfl) ?_;refine c6 ?_;exact ⟨_,a1R rfl tt rfl,_,_,rfl,rfl,D8 (n_8 str (show _=inR fl L ev k by unfold inR;rw [n_0 w1,n_0 w2,n_1 w3]))⟩
   ·have w3:¬ k.k=3:=sp_ h3;refine qC ?_ ?_<;>intro h4
    ·have w4:k.k=4:=sp_ h4;refine qY (c5 rfl c7H j1 (a8J fl nn k.a h.hl _) rfl) ?_;refine qC ?_ ?_<;>intro h5
     ·have v4:(if B4 fl=0 then C0 fl k.a else none).isSome=true:=h5;have eI:((if B4 fl=0 then C0 fl k.a else none).getD []).length<=100000:=by
       split
       ·cases hdf:C0 fl k.a with
        | none=>exact n_4 _
        | some b=>exact h.hbl _ _ hdf
       ·exact n_4 _
      refine qY (H4 rfl rfl tt rfl rfl L4) ?_;refine c6 ?_;exact ⟨_,a1R rfl tt rfl,_,_,rfl,rfl,D8 (n_8 str (show _=inR fl L ev k by unfold inR;rw [n_0 w1,n_0 w2,n_0 w3,n_1 w4,n_1 v4]))⟩
     ·have v4:¬ (if B4 fl=0 then C0 fl k.a else none).isSome=true:=by rw [show (if B4 fl=0 then C0 fl k.a else none).isSome=false from h5];decide
      refine c6 ?_;exact ⟨_,a1R rfl tt rfl,_,_,rfl,rfl,D8 (n_8 str (show _=inR fl L ev k by unfold inR;rw [n_0 w1,n_0 w2,n_0 w3,n_1 w4,n_0 v4]))⟩
    ·have w4:¬ k.k=4:=sp_ h4;refine qC ?_ ?_<;>intro h6
     ·have w5:k.k=5:=sp_ h6;refine qY (c5 rfl Tryz.call89 j1 (b0K ev en k.a eH _) rfl) ?_;refine qC ?_ ?_<;>intro h7
      ·have v5:(a0k ev k.a).isSome=true:=h7;obtain ⟨z,hz⟩:=b6z.1 v5;have hzr:=fR z hz;have eS:(a0k ev k.a).getD 0=z:=by rw [hz];rfl
       have hit:=a5r (n:=z) om_ om_;refine qY (c5 rfl c9I ⟨tt,tt⟩ (a5k _ (by rw [eS];exact hzr.1) (by rw [eS];exact hzr.2) _) rfl) ?_;refine qY (H4 rfl rfl tt rfl rfl (by rw [eS];simp;omega)) ?_;refine c6 ?_;exact ⟨_,a1R rfl tt rfl,_,_,rfl,rfl,D8 (n_8 str (show _=inR fl L ev k by unfold inR;rw [n_0 w1,n_0 w2,n_0 w3,n_0 w4,n_1 w5,n_1 v5]))⟩
      ·have v5:¬ (a0k ev k.a).isSome=true:=by rw [show (a0k ev k.a).isSome=false from h7];decide
       refine c6 ?_;exact ⟨_,a1R rfl tt rfl,_,_,rfl,rfl,D8 (n_8 str (show _=inR fl L ev k by unfold inR;rw [n_0 w1,n_0 w2,n_0 w3,n_0 w4,n_1 w5,n_0 v5]))⟩
     ·have w5:¬ k.k=5:=sp_ h6;refine qC ?_ ?_<;>intro h8
      ·have w6:k.k=6:=sp_ h8;refine qY (c5 rfl Tryz.call96 C8 (a9s fl nn L k.a h.hl (by have:=h.hL;omega) h.hP h.hbl _) rfl) ?_;refine c6 ?_;exact ⟨_,a1R rfl tt rfl,_,_,rfl,rfl,D8 (n_8 str (show _=inR fl L ev k by unfold inR;rw [n_0 w1,n_0 w2,n_0 w3,n_0 w4,n_0 w5,n_1 w6]))⟩
      ·have w6:¬ k.k=6:=sp_ h8;have htl:=c54 L k.a;have hA:=h.hA;have hL:=h.hL;refine qY (c5 rfl Tryz.call97 j1 (d1d L k.a om_ om_ _) rfl) ?_;refine qY J3 ?_;refine j7 hCC (α:=Nat × Str) (fun a=>[(4,.ptr 0 0),(5,.ptr 1 0),(13,(.list (a.2.map bcv) (gnn a.2.length) none)),(75,(.list ((a0b L k.a).map scv) true none)),(76,(iv ((a0b L k.a).length:Int))),(77,iv a.1)]) (fun _=>[.box (r8 fl nn),.box (a0S (L.map Prod.fst) (L.map Prod.snd)),.box (G6 ev en),.box k.cells]) (fun a=>a.1<=(a0b L k.a).length/\c1v fl L (a0b L k.a) []=c1v fl L ((a0b L k.a).drop a.1) a.2/\a.2.length<=20000000*a.1) (fun a=>(a0b L k.a).length - a.1) (0,[]) ⟨n_4 _,rfl,n_7 _⟩ tu_ (ah:=[]) rfl z6 uz_ ?_;rintro ⟨i,o⟩ ⟨hi,hr,ho⟩;dsimp only at hi hr ho ⊢;refine qk (qC ?_ ?_)<;> intro h9
       ·have ab:i < (a0b L k.a).length:=sm_ h9;obtain ⟨q,hb⟩:∃ q,(a0b L k.a)[i]? = some q:=⟨(a0b L k.a)[i]'ab,si_⟩;rw [c5M hb] at hr;have hq:=h.rch hka (c6t (n_2 hb));have hfi:=b8s (pkg:=q) h.hbl L [] h.hP;have hfj:([61]++a3I fl q L []).length<=12800001:=by simp at hfi ⊢;omega
        have q1:=a5Z (l:=o) (s:=q) om_;have q2:=a5Z (l:=H0 o q) (s:=[61]++a3I fl q L []) om_;refine qY a6o ?_;refine cW 9 ?_;refine b5U ?_;refine hY (c5 rfl c1O j1 (a1r o _ q om_ om_ _) rfl) ?_;refine hY U7 ?_;refine hY (M3 rfl tt rfl c71 c17 rfl (nb rfl)) ?_;refine hY B2 ?_;refine hY (c5 rfl Tryz.call96 C8 (a9s fl nn L q h.hl om_ h.hP h.hbl _) rfl) ?_;refine hY (c5 rfl c1O j1 (a1r (H0 o q) _ ([61]++a3I fl q L []) om_ om_ _) rfl) ?_;refine a88 ?_;refine qY l9 ?_;exact ⟨(i+1,H0 (H0 o q) ([61]++a3I fl q L [])),_,⟨do_,do_,hr,do_⟩,tu_,rfl⟩
       ·have aE:(a0b L k.a).length<=i:=sm_ h9;rw [V2 aE] at hr;refine j4 ?_;refine qY b9U ?_;refine qY (H4 rfl rfl tt rfl rfl L4) ?_;refine c6 ?_;exact ⟨_,a1R rfl tt rfl,_,_,rfl,rfl,D8 (n_8 str (show _=inR fl L ev k by unfold inR;rw [n_0 w1,n_0 w2,n_0 w3,n_0 w4,n_0 w5,n_0 w6];rw [hr];rfl))⟩
def er (t:Tok):Tok:=⟨t.k,t.t,t.n,0⟩
theorem a3W {va:Bool} (am:WAt σ w q1 q2 t fl nn va br ms me) (l:List b9):WAt (σ++l) w q1 q2 t fl nn va br ms me:=⟨a1z am.hw l,a1z am.hs l,a1z am.he l,a1z am.ht l,am.nd⟩
structure WOk (fl:List Fi) (ms:SM) (me:EM):Prop where
 len:fl.length<=64
 fb:∀ f∈fl,f.p.length<=100/\f.b.length<=100000
 src:∀ p s,glk ms p=some s->a2b s
 ent:∀ k e,glk me k=some e->b2Z ms e
theorem WOk.find (h:WOk fl ms me) (k:Int) (p o:Str):b2Z ms (a0g true me k p o):=by
 unfold a0g;rw [n_1 rfl]
 split
 ·rename_i x hx;exact h.ent _ _ hx
 ·intro h1;cases h1
theorem WOk.imp (h:WOk fl ms me) (f:Fi):(a1h ms f).length<=8/\∀ s∈a1h ms f,s.length<=24:=by
 unfold a1h;cases hg:glk ms f.p with
 | none=>exact ⟨n_4 _,fun s hs=>by cases hs⟩
 | some x =>
  have:=h.src _ _ hg;exact ⟨this.impl,fun s hs=>B7 (this.imp s hs).1⟩
theorem WOk.allI {fl:List Fi} {ms:SM} {me:EM} (h:WOk fl ms me):(allI ms fl).length<=512:=by
 have:∀ l:List Fi,(Go.Proofs.YtlppbmfecjabeaaGreatDoor.allI ms l).length<=8*l.length:=fun l=>by
  induction l with
  | nil=>exact n_4 _
  | cons x l ih =>
   have:=(h.imp x).1;unfold Go.Proofs.YtlppbmfecjabeaaGreatDoor.allI at ih ⊢;rw [a9R,n_6,C5];omega
 have h1:=this fl;have h2:=h.len;omega
theorem WOk.reach {fl:List Fi} {ms:SM} {me:EM} (h:WOk fl ms me) {pkg:Str} (hp:pkg.length<=100) {n:Str} (hr:Reach ms fl pkg n):n.length<=100000:=by
 cases hr with
 | base=>omega
 | @step _ f _ _ _ hs=>have:=(h.imp f).2 _ hs;omega
noncomputable def R1 (fl:List Fi) (ms:SM) (me:EM) (ev:List Va) (k:Ky):Str :=
 if k.k=1 then a0J ms (a0g true me 1 k.a k.b) else if k.k=2 then a0J ms (a0g true me 2 k.a k.b) else if k.k=3 then a0J ms (a0g true me 3 [] k.a)
 else if k.k=4 then (if (C0 fl k.a).isSome then [61]++(C0 fl k.a).getD [] else [45]) else if k.k=5 then (if (a0k ev k.a).isSome then [61]++Lib.itoa ((a0k ev k.a).getD 0) else [45])
 else if k.k=6 then P7 ms fl k.a else a6m ms fl k.a
theorem b4d {b:Str} (h:C0 fl s=some b):∃ f∈fl,f.b=b:=by
 unfold C0 at h;rw [N6] at h;obtain ⟨f,hf,rfl⟩:=h;exact ⟨f,b8M hf,rfl⟩
theorem c8b {v:Int} (fR:∀ v∈ev,-9223372036854775808<=v.v/\v.v<=9223372036854775807) (h:a0k ev s=some v) : -9223372036854775808<=v/\v<=9223372036854775807:=by
 unfold a0k at h;rw [N6] at h;obtain ⟨x,hx,rfl⟩:=h;exact fR x (b8M hx)
theorem d9V (am:WAt σ w q1 q2 t fl nn true br ms me) (bh:WOk fl ms me) (k:Ky):b8 CC 105 [.ptr w 0,.agg k.cells] σ fun r τ=>r = .ret (sv (a0J ms (a0g true me 1 k.a k.b)))/\τ=σ:=by
 refine c7 (cO Tryz.func105 ?_);refine b2U ?_;refine a7x ?_;refine cY a3b ?_;refine cY (o5 rfl tt rfl t_9 b0Q rfl) ?_;refine cY a3b ?_;refine qY (o5 rfl tt rfl t_9 b0Q rfl) ?_;refine qY (c5 rfl d1O ⟨tt,rfl,tt,tt,tt⟩ (b4X (a3W am _) 1 k.a k.b) rfl) ?_;refine qY d0d ?_;exact d0l
theorem e0i (am:WAt σ w q1 q2 t fl nn true br ms me) (bh:WOk fl ms me) (k:Ky):b8 CC 107 [.ptr w 0,.agg k.cells] σ fun r τ=>r = .ret (sv (a0J ms (a0g true me 2 k.a k.b)))/\τ=σ:=by
 refine c7 (cO Tryz.func107 ?_);refine b2U ?_;refine a7x ?_;refine cY a3b ?_;refine cY (o5 rfl tt rfl t_9 b0Q rfl) ?_;refine cY a3b ?_;refine qY (o5 rfl tt rfl t_9 b0Q rfl) ?_;refine qY (c5 rfl d1O ⟨tt,rfl,tt,tt,tt⟩ (b4X (a3W am _) 2 k.a k.b) rfl) ?_;refine qY d0d ?_;exact d0l
theorem e0Z (am:WAt σ w q1 q2 t fl nn true br ms me) (bh:WOk fl ms me) (k:Ky):b8 CC 108 [.ptr w 0,.agg k.cells] σ fun r τ=>r = .ret (sv (a0J ms (a0g true me 3 [] k.a)))/\τ=σ:=by
 refine c7 (cO Tryz.func108 ?_);refine b2U ?_;refine a7x ?_;refine cY a3b ?_;refine qY (o5 rfl tt rfl t_9 b0Q rfl) ?_;refine qY (c5 rfl d1O ⟨tt,rfl,rfl,tt,tt⟩ (b4X (a3W am _) 3 [] k.a) rfl) ?_;refine qY d0d ?_;exact d0l
theorem e0A (am:WAt σ w q1 q2 t fl nn true br ms me) (bh:WOk fl ms me) (k:Ky):b8 CC 109 [.ptr w 0,.agg k.cells] σ fun r τ=>r = .ret (sv (if (C0 fl k.a).isSome then [61]++(C0 fl k.a).getD [] else [45]))/\τ=σ:=by
 refine c7 (cO Tryz.func109 ?_);refine b2U ?_;refine z_4 ?_;refine cY a3b ?_;refine qY (o5 rfl tt rfl t_9 b0Q rfl) ?_;refine qY (c5 rfl Tryz.call110 j1 (d4c (a3W am _) k.a (by have:=bh.len;omega)) rfl) ?_;refine qk ?_;refine cC ?_ ?_<;>intro h1
 ·have u1:(C0 fl k.a).isSome=false:=sp_ h1;refine qk ?_;refine c6 ?_;exact ⟨_,rE1,_,_,rfl,rfl,D8 (by rw [u1];rfl)⟩
 ·have u1:(C0 fl k.a).isSome=true:=sp_ h1;obtain ⟨b,hb⟩:=b6z.1 u1;obtain ⟨f,hf,gO⟩:=b4d hb;have aj:=(bh.fb f hf).2;rw [hb];refine qk (qY (H4 rfl rfl tt rfl rfl (by show 1+b.length<=_;rw [<- gO];omega)) ?_);refine c6 ?_;exact ⟨_,rE1,_,_,rfl,rfl,D8 (show str ([61]++(some b).getD [])=_ from rfl)⟩
theorem e0q (am:WAt σ w q1 q2 t fl nn true br ms me) (bh:WOk fl ms me) (k:Ky):b8 CC 114 [.ptr w 0,.agg k.cells] σ fun r τ=>r = .ret (sv (P7 ms fl k.a))/\τ=σ:=by
 refine c7 (cO Tryz.func114 ?_);refine b2U ?_;refine z_4 ?_;refine cY a3b ?_;refine qY (o5 rfl tt rfl t_9 b0Q rfl) ?_;refine qY (c5 rfl Tryz.call115 j1 (b6R (a3W am _) k.a (by have:=bh.len;omega) bh.fb) rfl) ?_;exact d0l
theorem d8Z (am:WAt σ w q1 q2 t fl nn true br ms me) (bh:WOk fl ms me) (k:Ky)(hka:k.a.length<=100):b8 CC 116 [.ptr w 0,.agg k.cells] σ fun r τ=>r = .ret (sv (a6m ms fl k.a))/\τ=σ:=by
 refine c7 (cO Tryz.func116 ?_);refine b2U ?_;refine z_4 ?_;refine cY a3b ?_;refine qY (o5 rfl tt rfl t_9 b0Q rfl) ?_;refine qY (c5 rfl Tryz.call117 j1 (d3Y (a3W am _) k.a bh.len bh.fb bh.allI (bh.reach hka)) rfl) ?_;exact d0l
theorem d9C {q:Nat} (hq:σ[q]? = some (.box (G6 ev nn))) (fR:∀ v∈ev,-9223372036854775808<=v.v/\v.v<=9223372036854775807) (eH:ev.length<=1000000000) (k:Ky):b8 CC 111 [.ptr w 0,.agg k.cells,.ptr q 0] σ fun r τ=>r = .ret (sv (if (a0k ev k.a).isSome then [61]++Lib.itoa ((a0k ev k.a).getD 0) else [45]))/\τ=σ:=by
 refine c7 (cO Tryz.func111 ?_);refine b2U ?_;refine z_0 ?_;refine cY (M3 rfl tt rfl c5Q b5f (a1z hq _) (nb rfl)) ?_;refine cY a3b ?_;refine qY (o5 rfl tt rfl t_9 b0Q rfl) ?_;refine qY (c5 rfl Tryz.call112 j1 (b2G ev nn k.a eH _) rfl) ?_;refine qk ?_;refine cC ?_ ?_<;>intro h1
 ·have u1:(a0k ev k.a).isSome=false:=sp_ h1;refine qk ?_;refine c6 ?_;exact ⟨_,rE1,_,_,rfl,rfl,D8 (by rw [u1];rfl)⟩
 ·have u1:(a0k ev k.a).isSome=true:=sp_ h1;obtain ⟨v,hv⟩:=b6z.1 u1;have hvr:=c8b fR hv;rw [hv];have bn:=a5r hvr.1 hvr.2;refine qk (qY (c5 rfl d1f ⟨tt,tt⟩ (c0q v hvr.1 hvr.2 _) rfl) ?_);refine qY (H4 rfl rfl tt rfl rfl (by show 1+(Lib.itoa v).length<=_;omega)) ?_;refine c6 ?_;exact ⟨_,rE1,_,_,rfl,rfl,D8 (show str ([61]++Lib.itoa v)=_ from rfl)⟩
theorem b5m:∀ {pv:Option Fi} {l:List Fi},rvE pv l=0->(∀ g,pv=some g->∀ f∈l,g.p < f.p)/\l.Pairwise fun a b=>a.p < b.p
 | _,[],_=>⟨fun _ _ f hf=>(by cases hf),List.Pairwise.nil⟩
 | pv,x::l,h=>by
  rw [rvE] at h;split at h
  ·rename_i hs;obtain ⟨h1,h2⟩:=b5m h;have hx:∀ g,pv=some g->g.p < x.p:=fun g hg=>by
    subst hg;unfold J0 at hs;split at hs
    ·cases hs
    ·split at hs
     ·cases hs
     ·rename_i h3;split at hs
      ·cases hs
      ·rename_i h4;simp only [Option.any_some,a1v] at h3 h4;rw [bytesLess_eq,a1v] at h4
       rcases List.le_total g.p x.p with h5 | h5
       ·rcases Decidable.em (g.p < x.p) with h6 | h6
        ·exact h6
        ·exact absurd (c3v h5 (List.not_lt.1 h6)).symm h3
       ·rcases Decidable.em (g.p < x.p) with h6 | h6
        ·exact h6
        ·exact absurd (c3v h5 (List.not_lt.1 h4)) h3
   refine ⟨fun g hg f hf=>?_,.cons (fun f hf=>h1 x rfl f hf) h2⟩
   rcases J5.1 hf with rfl | hf
   ·exact hx g hg
   ·exact List.lt_trans (hx g hg) (h1 x rfl f hf)
  ·rename_i hs;exact absurd h hs
structure WI (seen:List Str) (ms:SM) (me:EM):Prop where
 src:∀ p x,glk ms p=some x->a2b x/\p∈seen
 ent:∀ k e,glk me k=some e->1<=e.ct/\b2Z ms e
theorem b75 {ms:SM} {path:Str} {x:Src} (hg:glk ms path=some x) (hx:a2b x):∀ (n k:Nat) (me:EM),x.decls.length - k=n->(∀ k e,glk me k=some e->1<=e.ct/\b2Z ms e)->∀ q e,glk (addDs me path x.pkg (x.decls.drop k) k) q=some e->1<=e.ct/\b2Z ms e
 | 0,k,me,hn,h,q,e,he=>by
  rw [V2 om_,addDs] at he;exact h q e he
 | n+1,k,me,hn,h,q,e,he=>by
  obtain ⟨d,hd⟩:=gx_ x.decls k;rw [a64 hd] at he;refine b75 hg hx n (k+1) _ om_ (fun q e he=>?_) q e he;rw [a2I,P1] at he;split at he
  ·injection he with he
   subst he
   split
   ·rename_i f hf;obtain ⟨h1,_⟩:=h _ _ hf;exact ⟨by simp only;omega,fun hc=>by simp only at hc;omega⟩
   ·exact ⟨b2X _,fun _=>⟨x,d,k,hg,hx,rfl,hd⟩⟩
  ·exact h q e he
theorem b2Z.put {e:En} {x:Src} (h:b2Z ms e) (hp:glk ms path=none):b2Z (U4 ms path x) e:=fun hc=>by
 obtain ⟨s,d,i,h1,h2⟩:=h hc;refine ⟨s,d,i,?_,h2⟩;rw [P1,n_0]
 ·exact h1
 ·intro he;rw [he,hp] at h1;cases h1
theorem d1B {seen:List Str} {s:WS} (h:WI seen s.2.1 s.2.2) (hf:f.p∉seen):WI (f.p::seen) (a0K s f).2.1 (a0K s f).2.2:=by
 have hw:WI (f.p::seen) s.2.1 s.2.2:=⟨fun p x hp=>⟨(h.src p x hp).1,a8g _ (h.src p x hp).2⟩,h.ent⟩;unfold a0K
 split
 ·split
  ·exact hw
  ·rename_i x hx;have hn:glk s.2.1 f.p=none:=by
    cases hg:glk s.2.1 f.p with
    | none=>rfl
    | some y=>exact absurd (h.src _ _ hg).2 hf
   have bh:=a8Y hx;refine ⟨fun p y hp=>?_,?_⟩
   ·simp only [P1] at hp;split at hp
    ·rename_i e;injection hp with hp
     subst hp;exact ⟨bh,by rw [e];simp⟩
    ·exact ⟨(h.src p y hp).1,a8g _ (h.src p y hp).2⟩
   ·have hg:glk (U4 s.2.1 f.p x) f.p=some x:=by rw [P1,n_1 rfl]
    have:=b75 hg bh _ 0 s.2.2 rfl (fun k e he=>⟨(h.ent k e he).1,(h.ent k e he).2.put hn⟩);simpa using this
 ·exact hw
theorem c35:∀ {l:List Fi} {seen:List Str} {s:WS},WI seen s.2.1 s.2.2->(∀ f∈l,f.p∉seen)->(l.Pairwise fun a b=>a.p < b.p)->∃ seen',WI seen' (a8F l s).2.1 (a8F l s).2.2
 | [],seen,s,h,_,_=>⟨seen,h⟩
 | f::l,seen,s,h,hn,hp=>by
  have h1:=d1B h (hn f si_);refine c35 (l:=l) h1 (fun g hg hm=>?_) (a4x.1 hp).2
  rcases J5.1 hm with hm | hm
  ·have:=(a4x.1 hp).1 g hg;rw [hm] at this;exact absurd this (List.lt_irrefl _)
  ·exact hn g (by simp [hg]) hm
theorem c2E (h:B4 fl=0):WOk fl (A2 fl).2.1 (A2 fl).2.2:=by
 obtain ⟨h1,h2⟩:=a1a h;have h0:rvE none fl=0:=by
  unfold B4 at h;split at h
  ·cases h
  ·exact h
 obtain ⟨seen,h3⟩:=c35 (l:=fl) (seen:=[]) (s:=([],[],[])) ⟨fun p x hp=>(by cases hp),fun k e he=>(by cases he)⟩ (fun f _ hm=>(by cases hm)) (b5m h0).2;rw [A2,n_1 h];exact ⟨h1,fun f hf=>by have:=L1 (h2 f hf).1;have:=(h2 f hf).2;omega,fun p s hp=>(h3.src p s hp).1,fun k e he=>(h3.ent k e he).2⟩
abbrev fv (f:FuncId):CV:=.val (.func (.func f) #[] #[])
def a0i (b:Nat):List (Int × CV):=[(1,fv 105),(2,fv 107),(3,fv 108),(4,fv 109),(5,.clo 111 [.ptr b 0]),(6,fv 114),(7,fv 116)]
abbrev cmO (b:Nat):b9:=.map (gm kv (fun c:CV=>c) (a0i b))
def cfv (b:Nat) (k:Int):CV:=(glk (a0i b) k).getD (I2 .nilFunc)
theorem d3l {L b:Nat} (h:b < L):I0 L (cmO b):=fun x hx=>by
 obtain ⟨y,hy,rfl⟩:=F4.1 hx;refine ⟨.val _,?_⟩;simp only [a0i,J5,a7v,or_false] at hy
 rcases hy with rfl | rfl | rfl | rfl | rfl | rfl | rfl
 ·exact .val _
 ·exact .val _
 ·exact .val _
 ·exact .val _
 ·refine .clo fun i c hi=>?_
  rcases i with _ | i
  ·injection hi with hi;subst hi;exact .ptr h
  ·cases hi
 ·exact .val _
 ·exact .val _
theorem d4t {R:Nat->Nat->Prop} {b b':Nat} (h:R b b'):I4 R (cmO b) (cmO b'):=.map ⟨rfl,fun i x x' h1 h2=>by
 rcases i with _ | _ | _ | _ | _ | _ | _ | i
 ·injection h1 with h1;injection h2 with h2;subst h1 h2;exact ⟨.pure (.val _),.pure (.val _)⟩
 ·injection h1 with h1;injection h2 with h2;subst h1 h2;exact ⟨.pure (.val _),.pure (.val _)⟩
 ·injection h1 with h1;injection h2 with h2;subst h1 h2;exact ⟨.pure (.val _),.pure (.val _)⟩
 ·injection h1 with h1;injection h2 with h2;subst h1 h2;exact ⟨.pure (.val _),.pure (.val _)⟩
 ·injection h1 with h1;injection h2 with h2;subst h1 h2
  refine ⟨.pure (.val _),.clo rfl fun i c c' g g'=>?_⟩
  rcases i with _ | i
  ·injection g with g;injection g' with g';subst g g';exact .ptr h
  ·cases g
 ·injection h1 with h1;injection h2 with h2;subst h1 h2;exact ⟨.pure (.val _),.pure (.val _)⟩
 ·injection h1 with h1;injection h2 with h2;subst h1 h2;exact ⟨.pure (.val _),.pure (.val _)⟩
 ·cases h1⟩
theorem b5j (ev:List Va) (en:Bool):b8 CC 58 [.agg (G6 ev en)] [] fun r τ=>∃ _:Unit,r = .ret (.map 1)/\τ=[.box (G6 ev en),cmO 0]/\True:=by
 refine qO Tryz.func58 ?_;refine qD (G8 rfl tt j3 j6 ?_);refine qD (T9 rfl ?_);refine qD (o3 (vc:=fun c:CV=>c) (l:=(a0i 0).take 0) (a:=1) (b:=((a0i 0).getD 0 (0,fv 0)).2) a0G (.inr rfl) tt rfl tt rfl rfl rfl b8P rfl ?_);refine qD (o3 (vc:=fun c:CV=>c) (l:=(a0i 0).take 1) (a:=2) (b:=((a0i 0).getD 1 (0,fv 0)).2) a0G (.inr rfl) tt rfl tt rfl rfl rfl b8P rfl ?_);refine qD (o3 (vc:=fun c:CV=>c) (l:=(a0i 0).take 2) (a:=3) (b:=((a0i 0).getD 2 (0,fv 0)).2) a0G (.inr rfl) tt rfl tt rfl rfl rfl b8P rfl ?_);refine qD (o3 (vc:=fun c:CV=>c) (l:=(a0i 0).take 3) (a:=4) (b:=((a0i 0).getD 3 (0,fv 0)).2) a0G (.inr rfl) tt rfl tt rfl rfl rfl b8P rfl ?_);refine qY (a7Y rfl ⟨tt,tt⟩) ?_;refine qD (o3 (vc:=fun c:CV=>c) (l:=(a0i 0).take 4) (a:=5) (b:=((a0i 0).getD 4 (0,fv 0)).2) a0G (.inr rfl) tt rfl tt rfl rfl rfl b8P rfl ?_);refine qD (o3 (vc:=fun c:CV=>c) (l:=(a0i 0).take 5) (a:=6) (b:=((a0i 0).getD 5 (0,fv 0)).2) a0G (.inr rfl) tt rfl tt rfl rfl rfl b8P rfl ?_);refine qD (o3 (vc:=fun c:CV=>c) (l:=(a0i 0).take 6) (a:=7) (b:=((a0i 0).getD 6 (0,fv 0)).2) a0G (.inr rfl) tt rfl tt rfl rfl rfl b8P rfl ?_);refine c6 ?_;exact ⟨_,rE1,(by exact ⟨(),rfl,rfl,tt⟩)⟩
theorem b6a (ev:List Va) (en:Bool) (σ:List b9):b8 CC 58 [.agg (G6 ev en)] σ fun r τ=>∃ _:Unit,r = .ret (.map (σ.length+1))/\τ=σ++[.box (G6 ev en),cmO σ.length]/\True :=
 a1L (α:=Unit) hCC (fun a ha=>by simp at ha;subst ha;exact r6 ⟨a1d _ _,tt⟩) (res:=fun _=>.ret (.map 1)) (res':=fun _ m=>.ret (.map (m+1))) (S:=fun _=>[.box (G6 ev en),cmO 0]) (S':=fun _ m=>[.box (G6 ev en),cmO m]) (P:=fun _=>True) (b5j ev en) (fun _ _=>rfl) (fun _ m i x h=>by
  rcases i with _ | _ | i
  ·injection h with h;subst h;exact ⟨_,rfl,.box (L3 (fun c hc=>by simp at hc;subst hc;exact a1d _ _))⟩
  ·injection h with h;subst h;exact ⟨_,rfl,d4t si_⟩
  ·cases h) (fun _ m=>.ret (.map rfl)) σ
theorem b0r {k:Ky} (h:O2 k=true):(k.k=1\/k.k=2\/k.k=3\/k.k=4\/k.k=5\/k.k=6\/k.k=7)/\k.a.length<=100:=by
 unfold O2 at h;split at h
 ·rename_i h1;simp only [a8j,beq_iff_eq] at h1;simp only [U6] at h;have:=B7 h.1;exact ⟨om_,om_⟩
 ·split at h
  ·rename_i h1;simp only [a8j,beq_iff_eq] at h1;simp only [U6] at h;have:=L1 h.1;exact ⟨om_,om_⟩
  ·split at h
   ·rename_i h1;simp only [a8j,beq_iff_eq] at h1;simp only [U6] at h;have:=B7 h.1;exact ⟨om_,om_⟩
   ·cases h
theorem d7v {b:Nat} (am:WAt σ w q1 q2 t fl nn true br ms me) (bh:WOk fl ms me) {en:Bool} (hb:σ[b]? = some (.box (G6 ev en))) (fR:∀ v∈ev,-9223372036854775808<=v.v/\v.v<=9223372036854775807) (eH:ev.length<=1000000000) {k:Ky} (hk:O2 k=true) :
 c3e CC (cfv b k.k) [.ptr w 0,.agg k.cells] σ (sv (R1 fl ms me ev k)):=by
 obtain ⟨gz,hka⟩:=b0r hk
 rcases gz with h | h | h | h | h | h | h
 ·refine .inl ⟨105,by rw [h];rfl,Tryz.call105,?_⟩;rw [R1,n_1 h];exact d9V am bh k
 ·refine .inl ⟨107,by rw [h];rfl,Tryz.call107,?_⟩;rw [R1,n_0 om_,n_1 h];exact e0i am bh k
 ·refine .inl ⟨108,by rw [h];rfl,Tryz.call108,?_⟩;rw [R1,n_0 om_,n_0 om_,n_1 h];exact e0Z am bh k
 ·refine .inl ⟨109,by rw [h];rfl,Tryz.call109,?_⟩;rw [R1,n_0 om_,n_0 om_,n_0 om_,n_1 h];exact e0A am bh k
 ·refine .inr ⟨111,[.ptr b 0],by rw [h];rfl,Tryz.call111,?_⟩;rw [R1,n_0 om_,n_0 om_,n_0 om_,n_0 om_,n_1 h];exact d9C hb fR eH k
 ·refine .inl ⟨114,by rw [h];rfl,Tryz.call114,?_⟩;rw [R1,n_0 om_,n_0 om_,n_0 om_,n_0 om_,n_0 om_,n_1 h];exact e0q am bh k
 ·refine .inl ⟨116,by rw [h];rfl,Tryz.call116,?_⟩;rw [R1,n_0 om_,n_0 om_,n_0 om_,n_0 om_,n_0 om_,n_0 om_];exact d8Z am bh k hka
noncomputable def J7 (fl:List Fi) (ev:List Va) (l:List Ky):Option (List Str) :=
 if B4 fl=0/\X9 ev=true/\l.all O2=true then some (l.map (R1 fl (A2 fl).2.1 (A2 fl).2.2 ev)) else none
def c1X (o:Option (List Str)):CV:=.tup [.list ((o.getD []).map scv) (gnn (o.getD []).length) none,iv (if o.isSome then 0 else 1)]
theorem d8d (b:Nat) (k:Int):((glk (a0i b) k).map fun c:CV=>c).getD (I2 .nilFunc)=cfv b k:=by unfold cfv;cases glk (a0i b) k<;>rfl
theorem c5i {p:Ky->Bool} {l:List Ky} {y:Ky} (h:l[i]? = some y) (ha:(l.take i).all p=true) (hy:p y=true):(l.take (i+1)).all p=true:=by
 rw [a2m,h,List.all_append,ha];simp [hy]
theorem c9A {p:Ky->Bool} {l:List Ky} {y:Ky} (h:l[i]? = some y) (hy:p y=false):l.all p≠true:=fun hh=>by
 rw [a5D] at hh;rw [hh y (n_2 h)] at hy;cases hy
theorem b5P (fl:List Fi) (nn:Bool) (cK:∀ f∈fl,f.p.length<=1000000000) (ev:List Va) (en:Bool) (hvr:∀ v∈ev,-9223372036854775808<=v.v/\v.v<=9223372036854775807) (l:List Ky) (nk:Bool) (hl:l.length<=1000000000) (hk:∀ k∈l,k.a.length<=1000000000/\k.b.length<=1000000000):b8 CC 16 [.agg (r8 fl nn),.agg (G6 ev en),.list (l.map Ky.cv) nk none] [] fun r τ=>∃ _:Unit,a1q 0 τ r (.ret (c1X (J7 fl ev l)))/\True:=by
 refine qO Tryz.func16 ?_;refine a9J ?_;refine qD (c4 rfl Tryz.call56 ⟨tt,tt⟩ (c64 fl nn cK _) rfl ?_);intro _ _;refine qG (fun hg=>M3 rfl tt rfl c5Q b5f rfl (nb rfl)) ?_;refine qG (fun hg=>c5 rfl Tryz.call57 ⟨hg,tt⟩ (a4t ev en _) rfl) ?_;refine b73 ?_;refine cC ?_ ?_<;>intro h1
 ·have hv:¬ (B4 fl=0/\X9 ev=true/\l.all O2=true):=by
   rintro ⟨u1,u2,_⟩;simp [u1,u2] at h1
  refine qk ?_;refine c6 ?_;exact ⟨_,r9 (rs:=[.tmp 6,.tmp 7]) (cs:=[_,_]) rfl R4 (n_5 rfl),(by rw [J7,n_0 hv];exact ⟨(),.ret (.tups ⟨.old (A5 _ ([]:List Str) _),.old (.val _),tt⟩),tt⟩)⟩
 ·have hv:B4 fl=0/\X9 ev=true:=sp_ h1;have bh:=c2E hv.1;have hva:(B4 fl == 0)=true:=by simp [hv.1]
  rw [hva];refine qk (qD (c4 rfl Tryz.call58 ⟨tt,tt⟩ (b6a ev en _) rfl ?_));intro _ _;refine qY b0t ?_;refine A6 hCC 8 rfl (α:=Nat) (fun i=>[(8,.ptr 2 0),(9,.map 7),(10,(.list (((l.take i).map (R1 fl (A2 fl).2.1 (A2 fl).2.2 ev)).map scv) (gnn ((l.take i).map (R1 fl (A2 fl).2.1 (A2 fl).2.2 ev)).length) (C2 ((l.take i).map (R1 fl (A2 fl).2.1 (A2 fl).2.2 ev)).length 8))),(27,(.list (l.map Ky.cv) nk none)),(28,iv l.length),(29,iv i)]) (fun i=>[.box (r8 fl nn),.box (G6 ev en),wbx fl nn true (A2 fl).1 3 4 5,smO (A2 fl).2.1,emO (A2 fl).2.2,o8 (A2 fl).1.length,.box (G6 ev en),cmO 6,o8 ((l.take i).map (R1 fl (A2 fl).2.1 (A2 fl).2.2 ev)).length]) (fun i=>i<=l.length/\(l.take i).all O2=true) (fun i=>l.length - i) ⟨0,[0,1,2,3,4,5,6,7,13],⟨n_4 _,rfl⟩,⟨rfl,rfl⟩,ut_,uq_⟩ ?_;intro i ⟨hi,bq⟩;refine qk (qC ?_ ?_)<;> intro h2
  ·have ab:i < l.length:=sm_ h2;obtain ⟨y,hy⟩:∃ y,l[i]? = some y:=⟨l[i]'ab,si_⟩;have dU:=hk y (n_2 hy);refine qY (p9 rfl tt tt rfl rfl t_6 t_5 om_ (i8 hy) rfl) ?_;refine d3y ?_;refine qY (c5 rfl Tryz.call59 ⟨tt,tt⟩ (c1F y dU.1 dU.2 _) rfl) ?_;refine qC ?_ ?_<;>intro h3
   ·have cy:¬ (B4 fl=0/\X9 ev=true/\l.all O2=true):=fun u=>c9A hy (sp_ h3) u.2.2;refine c6 ?_;exact ⟨_,r9 (rs:=[.tmp 6,.tmp 7]) (cs:=[_,_]) rfl R4 (n_5 rfl),(by rw [J7,n_0 cy];exact ⟨(),.ret (.tups ⟨.old (A5 _ ([]:List Str) _),.old (.val _),tt⟩),tt⟩)⟩
   ·have hyk:O2 y=true:=sp_ h3;have htk1:l.take (i+1)=l.take i++[y]:=by rw [a2m,hy];rfl
    refine qY (S9 (vc:=fun c:CV=>c) (l:=a0i 6) (a:=y.k) a0G rfl tt tt rfl rfl b8P Tryz.zeroValue115 rfl rfl (d8d 6 y.k)) ?_;refine qY (c5m rfl tt rfl j1 (by exact d7v (w:=2) (q1:=3) (q2:=4) (t:=5) (b:=6) ⟨rfl,rfl,rfl,rfl,b2c ⟨de_,de_,de_,de_,de_,de_⟩⟩ bh rfl hvr (b6u (b3c hv.2) (nb rfl)) hyk) rfl) ?_;refine qY (A8 [scv ((R1 fl (A2 fl).2.1 (A2 fl).2.2 ev) y)] rfl ⟨tt,tt⟩ t_2 t_0 t_3 rfl rfl rfl rfl rfl rfl rfl rfl rfl) ?_;refine qD (A7 rfl tt tt rfl si_ q_2 t_2 t_0 a32 t_3 rfl (.inr rfl) q_7 a3Z C1 (((l.take (i+1)).map (R1 fl (A2 fl).2.1 (A2 fl).2.2 ev)).map scv) ((l.take (i+1)).map (R1 fl (A2 fl).2.1 (A2 fl).2.2 ev)).length (by rw [htk1,a6H,a6H];rfl) (by rw [htk1];simp) ?_);refine qY l9 ?_;exact ⟨(i+1),[0,1,2,3,4,5,6,7,10],⟨om_,om_,c5i hy bq hyk⟩,⟨rfl,rfl⟩,ut_,uq_⟩
  ·have aE:l.length<=i:=sm_ h2;have hta:l.take i=l:=U5 aE;refine z_9 ?_;exact ⟨_,r9 (rs:=[.tmp 6,.tmp 7]) (cs:=[_,_]) rfl R4 (n_5 rfl),(by rw [J7,n_1 ⟨hv.1,hv.2,by rw [<- hta];exact bq⟩,hta];exact ⟨(),.ret (.tups ⟨.tok (fun r hr c hc=>(C4 (f:=scv) (fun _=>O4.all ⟨.val _,tt⟩) _) r hr c hc),.old (.val _),tt⟩),tt⟩)⟩
theorem c1B (o:Option (List Str)):r4 (c1X o):=D4 (cs:=[_,_]) ⟨F5 _ _,.val _,tt⟩
theorem a2A (fl:List Fi) (nn:Bool) (cK:∀ f∈fl,f.p.length<=1000000000) (ev:List Va) (en:Bool) (hvr:∀ v∈ev,-9223372036854775808<=v.v/\v.v<=9223372036854775807) (l:List Ky) (nk:Bool) (hl:l.length<=1000000000) (hk:∀ k∈l,k.a.length<=1000000000/\k.b.length<=1000000000) (σ:List b9):b8 CC 16 [.agg (r8 fl nn),.agg (G6 ev en),.list (l.map Ky.cv) nk none] σ fun r τ=>r = .ret (c1X (J7 fl ev l))/\τ=σ :=
 (H5 (res:=fun _:Unit=>.ret (c1X (J7 fl ev l))) (P:=fun _=>True) hCC (fun a h=>by simp at h;rcases h with rfl | rfl | rfl;exact r6 (cs:=r8 _ _) ⟨J2 _ _,tt⟩;exact r6 (cs:=G6 _ _) ⟨a1d _ _,tt⟩;exact a00 _ _) (b5P fl nn cK ev en hvr l nk hl hk) (fun _ _=>c1B _) σ).mono fun r τ ⟨_,h1,h2,_⟩=>⟨h1,h2⟩
noncomputable def b5q (fl:List Fi) (ev:List Va) (k:Ky):Option Str:=(J7 fl ev [k]).map fun l=>l.getD 0 []
def c1j (o:Option Str):CV:=.tup [sv (o.getD []),iv (if o.isSome then 0 else 1)]
theorem c4O {k:List Ky} {l:List Str} (h:J7 fl ev k=some l):l=k.map (R1 fl (A2 fl).2.1 (A2 fl).2.2 ev):=by
 unfold J7 at h;split at h
 ·injection h with h;exact h.symm
 ·cases h
theorem c8C {d:De} (h:DeG d) {k u o:Int} {nm:Str} (hb:d.body=[⟨k,u,o,nm,[]⟩]):V6 d=(Tr.n k u o nm []).txt d.params 0:=by
 obtain ⟨t,h1,h2,h3⟩:=a7K h;rw [h3];rw [hb] at h1;have hl:=Tr.flat_len t 0;rw [<- h1] at hl
 rcases t with ⟨k',u',o',nm',ch⟩
 have dz:ch=[]:=by
  rcases ch with _ | ⟨c,ch⟩
  ·rfl
  ·have:=c.size_pos;simp only [Tr.size,z8,C5,I8] at hl;omega
 subst dz;simp only [Tr.flat,J9,o4,a2e,List.cons.injEq,Ex.mk.injEq,and_true] at h1;obtain ⟨rfl,rfl,rfl,rfl⟩:=h1;rfl
def a0x (f:Fi):Option Src:=if a4l f.p=true then Q0 f.b else none
def deK (x:Src) (d:De):Nm:=F3 d.k x.pkg d.name
def c1k (q:Nm) (f:Fi):List (Src × De):=match a0x f with
 | none=>[]
 | some x=>(x.decls.filter fun d=>decide (deK x d=q)).map fun d=>(x,d)
def occ (q:Nm) (fl:List Fi):List (Src × De):=fl.flatMap (c1k q)
noncomputable def e0b:List (Src × De)->Str
 | []=>[45]
 | [(x,d)]=>[61]++a1l x d
 | _=>[63]
def a8i (ms:SM) (o:Option En):List (Src × De)->Prop
 | []=>o=none
 | (x,d)::t=>∃ e,o=some e/\e.ct=1+(t.length:Int)/\glk ms e.pl=some x/\0<=e.ix/\x.decls[e.ix.toNat]? = some d
theorem a8i.add {O:Nm->List (Src × De)} (h:∀ q,a8i ms (glk me q) (O q)) {x:Src} {d:De} (hg:glk ms path=some x) (hd:x.decls[i]? = some d) (q:Nm):a8i ms (glk (a2I me ⟨x.pkg,d.name,d.k,path,(i:Int),1⟩) q) (O q++if deK x d=q then [(x,d)] else []):=by
 rw [a2I,P1];show a8i ms (if q=F3 d.k x.pkg d.name then _ else _) _;by_cases hq:deK x d=q
 ·rw [n_1 hq];subst hq;have h1:=h (deK x d);rw [n_1 (show deK x d=F3 d.k x.pkg d.name from rfl)];cases hO:O (deK x d) with
  | nil =>
   rw [hO] at h1;have h1:glk me (F3 d.k x.pkg d.name)=none:=h1;simp only [h1];exact ⟨_,rfl,rfl,hg,Int.natCast_nonneg _,sp_ hd⟩
  | cons y t =>
   obtain ⟨y,z⟩:=y;rw [hO] at h1;obtain ⟨e,h2,h3,h4,h5,h6⟩:=h1;have h2:glk me (F3 d.k x.pkg d.name)=some e:=h2;simp only [h2];refine ⟨_,rfl,?_,h4,h5,h6⟩;show e.ct+1=1+((t++[(x,d)]).length:Int);rw [h3,n_6];simp only [C5,I8];omega
 ·rw [n_0 hq,a1k];rw [n_0 (fun e=>hq e.symm)];exact h q
theorem a8i.addDs {ms:SM} {path:Str} {x:Src} (hg:glk ms path=some x):∀ (n k:Nat) (me:EM) (O:Nm->List (Src × De)),x.decls.length - k=n->(∀ q,a8i ms (glk me q) (O q))->∀ q,a8i ms (glk (addDs me path x.pkg (x.decls.drop k) k) q) (O q++(((x.decls.drop k).filter fun d=>decide (deK x d=q)).map fun d=>(x,d)))
 | 0,k,me,O,hn,h,q=>by
  rw [V2 om_,Go.Proofs.YtlppbmfecjabeaaGreatDoor.addDs];simpa using h q
 | n+1,k,me,O,hn,h,q=>by
  obtain ⟨d,hd⟩:=gx_ x.decls k;rw [a64 hd];have h1:=a8i.addDs hg n (k+1) _ _ om_ (fun q=>a8i.add h hg hd q) q;have hdr:x.decls.drop k=d::x.decls.drop (k+1):=by
   obtain ⟨ab,rfl⟩:=n_3.1 hd;exact R2 ab
  rw [hdr,a7V];by_cases hq:deK x d=q
  ·rw [n_1 (sp_ hq),b2C];rw [n_1 hq,D7] at h1;exact h1
  ·rw [n_0 (sp_ hq)];rw [n_0 hq,a1k] at h1;exact h1
theorem a8i.put {o:Option En} {l:List (Src × De)} {x:Src} (h:a8i ms o l) (hp:glk ms path=none):a8i (U4 ms path x) o l:=by
 rcases l with _ | ⟨⟨y,d⟩,t⟩
 ·exact h
 ·obtain ⟨e,h1,h2,h3,h4⟩:=h;refine ⟨e,h1,h2,?_,h4⟩;rw [P1,n_0]
  ·exact h3
  ·intro he;rw [he,hp] at h3;cases h3
structure WRd (dn:List Fi) (ms:SM) (me:EM):Prop where
 src:∀ f∈dn,glk ms f.p=a0x f
 non:∀ p,(∀ f∈dn,f.p≠p)->glk ms p=none
 ent:∀ q,a8i ms (glk me q) (occ q dn)
theorem WRd.step {dn:List Fi} {s:WS} (h:WRd dn s.2.1 s.2.2) (hf:∀ g∈dn,g.p≠f.p):WRd (dn++[f]) (a0K s f).2.1 (a0K s f).2.2:=by
 have hnone:=h.non f.p hf;have hocc:∀ q,occ q (dn++[f])=occ q dn++c1k q f:=fun q=>by simp [occ]
 cases hs:a0x f with
 | none =>
  have hw:(a0K s f).2=s.2:=by
   unfold a0K;unfold a0x at hs
   split
   ·rename_i h1;rw [n_1 h1] at hs;rw [hs]
   ·rfl
  have e1:(a0K s f).2.1=s.2.1:=by rw [hw]
  have e2:(a0K s f).2.2=s.2.2:=by rw [hw]
  rw [e1,e2];refine ⟨fun g hg=>?_,fun p hp=>h.non p fun g hg=>hp g (by simp [hg]),fun q=>?_⟩
  ·rcases L8.1 hg with hg | hg
   ·exact h.src g hg
   ·rw [a9H.1 hg,hs];exact hnone
  ·rw [hocc,c1k,hs,a1k];exact h.ent q
 | some x =>
  have hw:(a0K s f).2=(U4 s.2.1 f.p x,addDs s.2.2 f.p x.pkg x.decls 0):=by
   unfold a0K;unfold a0x at hs;split at hs
   ·rename_i h1;rw [n_1 h1,hs]
   ·cases hs
  have e1:(a0K s f).2.1=U4 s.2.1 f.p x:=by rw [hw]
  have e2:(a0K s f).2.2=addDs s.2.2 f.p x.pkg x.decls 0:=by rw [hw]
  rw [e1,e2];refine ⟨fun g hg=>?_,fun p hp=>?_,fun q=>?_⟩
  ·rw [P1]
   rcases L8.1 hg with hg | hg
   ·rw [n_0 (hf g hg)];exact h.src g hg
   ·rw [a9H.1 hg,n_1 rfl,hs]
  ·rw [P1,n_0 (fun e=>hp f si_ e.symm)];exact h.non p fun g hg=>hp g (by simp [hg])
  ·rw [hocc,c1k,hs];have hg:glk (U4 s.2.1 f.p x) f.p=some x:=by rw [P1,n_1 rfl]
   have:=a8i.addDs hg _ 0 s.2.2 (fun q=>occ q dn) rfl (fun q=>(h.ent q).put hnone) q;simpa using this
theorem WRd.all:∀ {l dn:List Fi} {s:WS},WRd dn s.2.1 s.2.2->(l.Pairwise fun a b=>a.p≠b.p)->(∀ g∈dn,∀ f∈l,g.p≠f.p)->WRd (dn++l) (a8F l s).2.1 (a8F l s).2.2
 | [],dn,s,h,_,_=>by simpa [a8F] using h
 | f::l,dn,s,h,hp,hd=>by
  have h1:=h.step (f:=f) fun g hg=>hd g hg f si_;obtain ⟨fh,cu⟩:=a4x.1 hp;have:=WRd.all (l:=l) h1 cu (fun g hg e he=>by
   rcases L8.1 hg with hg | hg
   ·exact hd g hg e (by simp [he])
   ·rw [a9H.1 hg];exact fh e he)
  rw [D7] at this;exact this
theorem e0z (h:B4 fl=0):fl.Pairwise fun a b=>a.p≠b.p:=by
 have h0:rvE none fl=0:=by
  unfold B4 at h;split at h
  ·cases h
  ·exact h
 exact (b5m h0).2.imp fun {a b} cX he=>by rw [he] at cX;exact List.lt_irrefl _ cX
theorem b0k (h:B4 fl=0):WRd fl (A2 fl).2.1 (A2 fl).2.2:=by
 have:=WRd.all (l:=fl) (dn:=[]) (s:=([],[],[])) ⟨fun f hf=>by simp at hf,fun p _=>rfl,fun q=>rfl⟩ (e0z h) (fun g hg=>by simp at hg);rw [A2,n_1 h];simpa using this
theorem b3G {k:Int} {p o:Str} (h:glk me (F3 k p o)=none):(a0g true me k p o).ct=0:=by
 unfold a0g;rw [n_1 rfl,h]
theorem c4x (h:B4 fl=0) (k:Int) (p o:Str):a0J (A2 fl).2.1 (a0g true (A2 fl).2.2 k p o)=e0b (occ (F3 k p o) fl):=by
 have h1:=(b0k h).ent (F3 k p o);cases hO:occ (F3 k p o) fl with
 | nil =>
  rw [hO] at h1;unfold a0J;rw [n_1 (b3G h1)];rfl
 | cons y t =>
  obtain ⟨x,d⟩:=y;rw [hO] at h1;obtain ⟨e,h2,h3,h4,h5,h6⟩:=h1;have he:a0g true (A2 fl).2.2 k p o=e:=by
   unfold a0g;rw [n_1 rfl,h2]
  rw [he];unfold a0J;rw [n_0 om_];cases t with
  | nil =>
   rw [n_1 (sp_ h3)];unfold b7j;rw [h4];simp only [n_9,h6,b6A,a8S];rfl
  | cons z t =>
   rw [n_0 (by rw [h3,C5];omega)];rfl
theorem a6J (h:B4 fl=0) (pkg:Str):B5 (A2 fl).2.1 fl pkg=fl.filter fun f=>decide ((a0x f).map Src.pkg=some pkg):=by
 unfold B5;refine List.filter_congr fun f hf=>?_;rw [(b0k h).src f hf];cases a0x f<;>simp
end Go.Proofs.YtlppbmfecjabeaaGreatDoor
