/- Part 4 of what the claim needs: values without addresses, and what the program's functions do with them. -/
import Derived.Shelf.LaysM
import Derived.Shelf.Strconv.Itoa3
import Derived.Test.YtlppbmfecjabeaaGreatDoorF3
set_option linter.all false
set_option maxRecDepth 100000
set_option maxHeartbeats 4000000
namespace Go.Proofs.YtlppbmfecjabeaaGreatDoor
open Go Go.Cl
variable {T:TypeId} {rest:List CV} {n q k:Nat} {l s:Str} {σ:List b9} {b:List Ex} {R:Nat->Nat->Prop} {a:Bool}
theorem b6f (s:Str) (a:Nat) (ks:List Int):sub s a (A2 s a ks)=(s.drop a).takeWhile (inK ks):=by
 unfold sub A2;rw [List.drop_take,Nat.add_sub_cancel_left];have h:=List.takeWhile_prefix (inK ks) (l:=s.drop a);exact (List.prefix_iff_eq_take.1 h).symm
theorem c3E {a:Nat} {b:UInt8} (hb:s[a]? = some b) (hk:k8 b.toNat=1) (hl:¬ 24 < A2 s a [1,2,3] - a):A9 (sub s a (A2 s a [1,2,3]))=true:=by
 have aj:(sub s a (A2 s a [1,2,3])).length=A2 s a [1,2,3] - a:=by
  rw [b6f];unfold A2;omega
 rw [b6f] at aj ⊢;obtain ⟨ae,rfl⟩:=n_3.1 hb;have bE:((s.drop a).takeWhile (inK [1,2,3])).all (inK [1,2,3])=true:=a5p.2 fun c hc=>a1p hc;rw [R4 ae,b6C,n_1 (by simp [inK,hk])] at aj bE ⊢;unfold A9;simp only [S7,a1X];exact ⟨⟨om_,hk⟩,bE⟩
theorem c9U {a:Nat} {b:UInt8} (hb:s[a]? = some b):((D3 s a b).1.k=1->A9 (D3 s a b).1.t=true)/\(D3 s a b).1.n<=9007199254740992:=by
 have z:((⟨0,[],0,0⟩:Tok).k=1->A9 (⟨0,[],0,0⟩:Tok).t=true)/\(⟨0,[],0,0⟩:Tok).n<=9007199254740992:=⟨fun h=>absurd h de_,de_⟩;unfold D3
 split
 ·rename_i hk
  split
  ·exact z
  ·rename_i hl;exact ⟨fun _=>c3E hb hk hl,show (0:Int)<=9007199254740992 by decide⟩
 ·split
  ·split
   ·exact z
   ·rename_i hl;exact ⟨fun h=>absurd h (show ¬ (2:Int)=1 by decide),show a3N _<=9007199254740992 by omega⟩
  ·split
   ·split
    ·exact z
    ·exact ⟨fun h=>absurd h (show ¬ (3:Int)=1 by decide),show (0:Int)<=9007199254740992 by decide⟩
   ·split
    ·split
     ·exact ⟨fun h=>absurd h (show ¬ (4:Int)=1 by decide),show (0:Int)<=9007199254740992 by decide⟩
     ·exact ⟨fun h=>absurd h (show ¬ (4:Int)=1 by decide),show (0:Int)<=9007199254740992 by decide⟩
    ·exact z
theorem b4h (s:Str):∀ (f i:Nat) (T:List Tok),a0l f s i=some T->∀ t∈T,(t.k=1->A9 t.t=true)/\t.n<=9007199254740992
 | 0,i,T,h=>by cases h
 | f+1,i,T,h=>by
  rw [a0l] at h;cases hb:s[A2 s i [5]]? with
  | none =>
   rw [hb] at h;injection h with h
   subst h;intro t ht;simp at ht;subst ht;exact ⟨fun h=>absurd h (show ¬ (5:Int)=1 by decide),show (0:Int)<=9007199254740992 by decide⟩
  | some b =>
   rw [hb] at h;simp only at h;split at h
   ·exact b4h s f _ T h
   ·split at h
    ·cases h
    ·cases hq:a0l f s (D3 s (A2 s i [5]) b).2.1.toNat with
     | none=>rw [hq] at h;cases h
     | some T' =>
      rw [hq] at h;simp only [b2u,Option.some.injEq] at h;subst h;intro t ht
      rcases P0.1 ht with rfl | ht
      ·exact c9U hb
      ·exact b4h s f _ T' hq t ht
theorem d0e {T:List Tok} (h:a2K s=some T):TG T:=fun i=>by
 have hc:=(b0o h).1.nn i;unfold a2K at h;split at h
 ·cases h
 ·rcases b8Y (T:=T) i with h1 | h1
  ·have:=b4h s _ _ T h _ h1;exact ⟨this.1,hc.1,this.2⟩
  ·rw [h1];exact ⟨fun h=>absurd h de_,de_,de_⟩
theorem b2t {x:Ex} {w:Nat × List Ex} (h:V8 b x=some w) (hb:b.length<=256):w.2.length<=256:=by
 unfold V8 at h;split at h
 ·cases h
 ·injection h with h
  subst h;simp only [n_7,b2o];omega
theorem W8 {x:Ex} {m:Nat} {y:PX} (h:K7 b x m=some y) (hb:b.length<=256):y.2.2.length<=256:=b2t (w:=(y.1,y.2.2)) (a2D h).1 hb
theorem c3g {T:List Tok} {F:PF} (hF:∀ d n b x,b.length<=256->F.ex d n b=some x->x.2.2.length<=256) {u:Str} {d:Nat} {y:PX} (hb:b.length<=256) (h:W5 T F u d n b=some y):y.2.2.length<=256:=by
 unfold W5 at h;obtain ⟨n1,_,h⟩:=c8 h;split at h
 ·obtain ⟨s,h1,h⟩:=c8 h;obtain ⟨n2,_,h⟩:=c8 h;obtain ⟨x,h3,h⟩:=c8 h;obtain ⟨m,_,h⟩:=c8 h;exact W8 h (hF _ _ _ _ hb h3)
 ·split at h
  ·obtain ⟨s,h1,h⟩:=c8 h;obtain ⟨m,_,h⟩:=c8 h;exact W8 h hb
  ·split at h
   ·obtain ⟨s,h1,h⟩:=c8 h;obtain ⟨m,_,h⟩:=c8 h;exact W8 h hb
   ·split at h
    ·obtain ⟨s,h1,h⟩:=c8 h;split at h
     ·obtain ⟨m,_,h⟩:=c8 h;exact W8 h hb
     ·cases h
    ·obtain ⟨s,h1,h⟩:=c8 h;split at h
     ·cases h
     ·obtain ⟨m,_,h⟩:=c8 h;exact W8 h hb
theorem c0U {T:List Tok} {ps:List Str}:∀ f:Nat,
 (∀ d n b x,b.length<=256->(A0 T ps f).ex d n b=some x->x.2.2.length<=256) /\
 (∀ lv d n b x,b.length<=256->(A0 T ps f).bin lv d n b=some x->x.2.2.length<=256) /\
 (∀ d n b x,b.length<=256->(A0 T ps f).fac d n b=some x->x.2.2.length<=256) /\
 (∀ lv d i n b x,b.length<=256->(A0 T ps f).lp lv d i n b=some x->x.2.2.length<=256) /\
 (∀ d n b bj y,b.length<=256->(A0 T ps f).ag d n b bj=some y->y.2.2.length<=256)
 | 0=>by
  refine ⟨fun d n b x _ h=>?_,fun lv d n b x _ h=>?_,fun d n b x _ h=>?_,fun lv d i n b x _ h=>?_,fun d n b bj y _ h=>?_⟩<;>cases h
 | f+1=>by
  obtain ⟨hE,hB,hF,hL,hA⟩:=c0U (T:=T) (ps:=ps) f;refine ⟨fun d n b x hb h=>?_,fun lv d n b x hb h=>?_,fun d n b y hb h=>?_,fun lv d i n b x hb h=>?_,fun d n b bj y hb h=>?_⟩
  ·change (G3 T ps (A0 T ps f)).ex d n b=some x at h;simp only [G3] at h;split at h
   ·cases h
   ·split at h
    ·obtain ⟨x1,h1,h⟩:=c8 h;obtain ⟨n2,_,h⟩:=c8 h;obtain ⟨x2,h2,h⟩:=c8 h;obtain ⟨n3,_,h⟩:=c8 h;obtain ⟨x3,h3,h⟩:=c8 h;exact W8 h (hE _ _ _ _ (hE _ _ _ _ (hE _ _ _ _ hb h1) h2) h3)
    ·exact hB _ _ _ _ _ hb h
  ·change (G3 T ps (A0 T ps f)).bin lv d n b=some x at h;simp only [G3] at h;split at h
   ·exact hF _ _ _ _ hb h
   ·obtain ⟨x1,h1,h⟩:=c8 h;exact hL _ _ _ _ _ _ (hB _ _ _ _ _ hb h1) h
  ·change (G3 T ps (A0 T ps f)).fac d n b=some y at h;simp only [G3] at h;split at h
   ·exact W8 h hb
   ·split at h
    ·obtain ⟨s,h1,h⟩:=c8 h;exact W8 h hb
    ·split at h
     ·obtain ⟨x1,h1,h⟩:=c8 h;obtain ⟨m,_,h⟩:=c8 h;injection h with h
      subst h;exact hE _ _ _ x1 hb h1
     ·split at h
      ·cases h
      ·split at h
       ·exact c3g hE hb h
       ·split at h
        ·cases h
        ·split at h
         ·obtain ⟨a,h1,h⟩:=c8 h;unfold a12 at h1;obtain ⟨n1,_,h1⟩:=c8 h1;refine W8 h ?_;split at h1
          ·injection h1 with h1
           subst h1;exact hb
          ·exact hA _ _ _ _ _ hb h1
         ·split at h
          ·cases h
          ·exact W8 h hb
  ·change (G3 T ps (A0 T ps f)).lp lv d i n b=some x at h;simp only [G3] at h;split at h
   ·injection h with h
    subst h;exact hb
   ·obtain ⟨y,h1,h⟩:=c8 h;obtain ⟨w,h2,h⟩:=c8 h;have hw:=b2t h2 (hB _ _ _ _ _ hb h1);split at h
    ·injection h with h
     subst h;exact hw
    ·exact hL _ _ _ _ _ _ hw h
  ·change (G3 T ps (A0 T ps f)).ag d n b bj=some y at h;simp only [G3] at h;obtain ⟨x1,h1,h⟩:=c8 h;have hx:=hE _ _ _ _ hb h1;split at h
   ·exact hA _ _ _ _ _ hx h
   ·obtain ⟨m,_,h⟩:=c8 h;injection h with h
    subst h;exact hx
theorem a7e {T:List Tok} (hT:TG T) {x:Tok × Nat} (h:J3 T n=some x):A9 x.1.t=true/\P6 x.1.t=false:=by
 obtain ⟨y,h1,h2⟩:=c8 h;obtain ⟨e1,e2⟩:=a5L h1;split at h2
 ·cases h2
 ·rename_i hr;injection h2 with h2
  subst h2;refine ⟨?_,sp_ hr⟩;rw [e1];exact (hT n).1 e2
structure a8p (l:List Str):Prop where
 ok:∀ s∈l,A9 s=true/\P6 s=false
 len:l.length<=8
 nod:l.Nodup
theorem a3r {α:Type} {l:List α} {x:α} (h:l.Nodup) (hx:x∉l):(l++[x]).Nodup:=by
 rw [List.nodup_append];exact ⟨h,si_,fun a ha b hb=>by simp at hb;subst hb;exact fun e=>hx (e ▸ ha)⟩
theorem a8p.snoc {l:List Str} {x:Str} (h:a8p l) (hx:A9 x=true/\P6 x=false) (h8:¬ l.length=8) (hn:¬ x∈l):a8p (l++[x]):=⟨fun s hs=>by
 rcases Y1.1 hs with hs | hs
 ·exact h.ok s hs
 ·simp at hs;subst hs;exact hx,by have:=h.len;rw [n_7,b2o];omega,a3r h.nod hn⟩
theorem b5t {T:List Tok} (hT:TG T):∀ (f n:Nat) (l:List Str) (y:List Str × Nat),a8p l->a19 f T n l=some y->a8p y.1
 | 0,n,l,y,_,h=>by cases h
 | f+1,n,l,y,hl,h=>by
  rw [a19] at h;obtain ⟨x,h1,h⟩:=c8 h;have hx:=a7e hT h1;split at h
  ·cases h
  ·rename_i h8;split at h
   ·cases h
   ·rename_i hn;have hs:=hl.snoc hx h8 hn;split at h
    ·exact b5t hT f _ _ y hs h
    ·obtain ⟨m,_,h⟩:=c8 h;injection h with h
     subst h;exact hs
theorem a4V:a8p []:=⟨fun s h=>(by cases h),n_5 _,List.nodup_nil⟩
theorem c57 {T:List Tok} (hT:TG T) {kd:Int} {y:List Str × Nat} (h:a2G T kd n=some y):a8p y.1/\(kd≠1->y.1=[]):=by
 unfold a2G at h;split at h
 ·rename_i hk;unfold K5 at h;obtain ⟨m,_,h⟩:=c8 h;refine ⟨?_,fun h=>absurd hk h⟩;split at h
  ·injection h with h
   subst h;exact a4V
  ·exact b5t hT _ _ _ y a4V h
 ·injection h with h
  subst h;exact ⟨a4V,fun _=>rfl⟩
theorem c28 (s:Str):F9 s=0\/F9 s=1\/F9 s=2\/F9 s=3:=by
 unfold F9 dkL;rw [O0,O0,O0]
 split
 ·exact .inr (.inr (.inr rfl))
 ·split
  ·exact .inr (.inr (.inl rfl))
  ·split
   ·exact .inr (.inl rfl)
   ·exact .inl rfl
theorem c6p {T:List Tok} (hT:TG T) {bs:List De} {y:De × Nat} (h:a0n T bs n=some y):DeG y.1/\(bs.any fun d=>(d.k == y.1.k) && decide (d.name=y.1.name))=false:=by
 unfold a0n at h;split at h
 ·cases h
 ·rename_i h0;split at h
  ·cases h
  ·obtain ⟨x,h1,h⟩:=c8 h;split at h
   ·cases h
   ·rename_i hany;obtain ⟨q,h2,h⟩:=c8 h;obtain ⟨m,_,h⟩:=c8 h;obtain ⟨e,h3,h⟩:=c8 h;obtain ⟨m2,_,h⟩:=c8 h;injection h with h
    subst h;obtain ⟨p1,p2⟩:=c57 hT h2;obtain ⟨t,t1,_,t3⟩:=(c1x hT (8*T.length+6)).1 _ _ _ _ h3;have aj:=(c0U (8*T.length+6)).1 _ _ _ _ (n_5 _) h3;refine ⟨⟨?_,fun hk=>?_,fun hk=>?_,p2,p1.ok,p1.len,p1.nod,⟨t,by rw [t1];rfl,t3⟩,aj⟩,sp_ hany⟩
    ·have:=c28 (tk T n).t
     rcases this with g | g | g | g
     ·exact absurd (.inr g) h0
     ·exact .inl g
     ·exact .inr (.inl g)
     ·exact .inr (.inr g)
    ·unfold a2P at h1;rw [n_0 hk] at h1;exact a7e hT h1
    ·unfold a2P at h1;rw [n_1 hk] at h1;exact a6P h1
structure c9b (l:List De):Prop where
 ok:∀ d∈l,DeG d
 nod:(l.map fun d=>(d.k,d.name)).Nodup
theorem b20 {T:List Tok} (hT:TG T):∀ (f n:Nat) (l:List De) (y:List De × Nat),c9b l->R1 f T n l=some y->c9b y.1
 | 0,n,l,y,_,h=>by cases h
 | f+1,n,l,y,hl,h=>by
  rw [R1] at h;split at h
  ·injection h with h
   subst h;exact hl
  ·obtain ⟨x,h1,h⟩:=c8 h;obtain ⟨g1,g2⟩:=c6p hT h1;refine b20 hT f _ _ y ⟨fun d hd=>?_,?_⟩ h
   ·rcases Y1.1 hd with hd | hd
    ·exact hl.ok d hd
    ·simp at hd;subst hd;exact g1
   ·rw [b5r];refine a3r hl.nod fun hm=>?_;obtain ⟨d,hd,he⟩:=I9.1 hm;injection he with e1 e2
    have:=List.any_eq_false.1 g2 d hd;simp [e1,e2] at this
structure d6e (pkg:Str) (l:List Str):Prop where
 g:a8p l
 p:pkg∉l
theorem b67 {T:List Tok} (hT:TG T) {pkg:Str}:∀ (f n:Nat) (l:List Str) (y:List Str × Nat),d6e pkg l->a04 f T pkg n l=some y->d6e pkg y.1
 | 0,n,l,y,_,h=>by cases h
 | f+1,n,l,y,hl,h=>by
  rw [a04] at h;split at h
  ·split at h
   ·cases h
   ·rename_i h8;obtain ⟨x,h1,h⟩:=c8 h;split at h
    ·cases h
    ·rename_i cz;obtain ⟨m,_,h⟩:=c8 h;refine b67 hT f _ _ y ⟨hl.g.snoc (a7e hT h1) h8 fun hm=>cz (.inr hm),fun hm=>?_⟩ h
     rcases Y1.1 hm with hm | hm
     ·exact hl.p hm
     ·simp at hm;exact cz (.inl hm.symm)
  ·injection h with h
   subst h;exact hl
theorem c7w {T:List Tok} (hT:TG T) {x:Src} (h:a0V T=some x):a2f x:=by
 have aj:=b2R h;unfold a0V at h;obtain ⟨n1,_,h⟩:=c8 h;obtain ⟨w,h1,h⟩:=c8 h;obtain ⟨n2,_,h⟩:=c8 h;obtain ⟨y,h2,h⟩:=c8 h;obtain ⟨z,h3,h⟩:=c8 h;injection h with h
 subst h;have hi:=b67 hT _ _ _ _ ⟨a4V,fun h=>(by cases h)⟩ h2;have hd:=b20 hT _ _ _ _ (⟨fun d h=>(by cases h),List.nodup_nil⟩:c9b []) h3;exact ⟨a7e hT h1,hi.g.ok,hi.g.len,hi.g.nod,hi.p,hd.ok,aj,hd.nod⟩
theorem a7s {x:Src} (h:O5 s=some x):a2f x:=by
 unfold O5 at h;obtain ⟨T,h1,h2⟩:=c8 h;exact c7w (d0e h1) h2
abbrev tU8:Nat:=5
def a4A (T:TypeId) (n:Nat):Prop:=liesAt CC.P CC.P.depth T (n / CC.P.cellsOf T) 0 244 1=true
def d3f (q:Nat):Bool->CV
 | true=>.ptr q 0
 | false=>.val (.pointer none)
def E8 (T:TypeId) (q s:Nat) (a:Bool) (l:Str) (rest:List CV):b9:=.boxT (some T) (d3f q a::a0D l s::rest)
def bSt (T:TypeId) (a:Bool) (l:Str) (rest:List CV):List b9:=[E8 T 0 1 a l rest,A1 tU8 l.length]
def a7D (T:TypeId) (l:Str) (rest:List CV):List b9:=[E8 T 0 2 true l rest,.dead,A1 tU8 l.length]
theorem c4H (hT:a4A T (rest.length+2)) (l:Str):b8 CC 246 [.ptr 0 0] (bSt T false l rest) fun r τ=>r = .ret (.tup [])/\τ=bSt T true l rest:=by
 refine qO c5u ?_;refine qY (c2z rfl tt rfl c6l) ?_;refine qC ?_ ?_<;>intro h1
 ·refine qY (b8O rfl tt rfl rfl (Nat.succ_pos _) 244 B4 B4 B4) ?_;refine qY (d4E (e:=Extern.AbiNoEscape.same) rfl Tryz.func285 rfl rfl rfl rfl tt rfl (fun v w=>rfl)) ?_;refine qY (b3U rfl tt rfl rfl 244 B4 B4 B4 hT) ?_;refine qD (j3 rfl tt tt rfl j2 Tryz.sizeOf242 (.inl rfl) rfl rfl (nb rfl) ?_);exact ⟨_,rE0,⟨rfl,rfl⟩⟩
 ·cases h1
theorem c35 (l:Str):b8 CC 246 [.ptr 0 0] (bSt T true l rest) fun r τ=>r = .ret (.tup [])/\τ=bSt T true l rest:=by
 refine qO c5u ?_;refine qY (b6e rfl tt rfl c6l) ?_;refine qC ?_ ?_<;>intro h1
 ·cases h1
 ·refine qY (b26 rfl tt tt rfl rfl 244 B4 B4) ?_;refine qC ?_ ?_<;>intro h2
  ·cases h2
  ·exact ⟨_,rE0,⟨rfl,rfl⟩⟩
theorem b33 (hT:a4A T (rest.length+2)) (a:Bool) (l:Str):b8 CC 246 [.ptr 0 0] (bSt T a l rest) fun r τ=>∃ _:Unit,r = .ret (.tup [])/\τ=bSt T true l rest/\True:=by
 cases a
 ·exact (c4H hT l).mono fun r τ h=>⟨(),h.1,h.2,tt⟩
 ·exact (c35 l).mono fun r τ h=>⟨(),h.1,h.2,tt⟩
theorem b1A (hT:a4A T (rest.length+2)) (a:Bool) (l:Str) (c:UInt8) (hl:l.length < 140737488355328):b8 CC 306 [.ptr 0 0,.val (.int .u8 c.toNat)] (bSt T a l rest) fun r τ=>∃ _:Unit,r = .ret (.val .nilIface)/\τ=a7D T (l++[c]) rest/\True:=by
 refine qO Tryz.func306 ?_;refine qD (c5 rfl c1K ⟨tt,tt⟩ (b33 hT a l) rfl ?_);intro _ _;refine qY d5X ?_;refine qD (a27 (l:=l) (new:=[c]) (p:=1) rfl tt tt rfl (fun M w v hr h=>(a2M (V:=[bcv c]) rfl (by intro r hr;simp at hr;subst hr;rfl) M w v hr h).any) t_7 t_9 b02 a3J rfl (.inl t_7) rfl rfl a8q ?_);refine qD (j3 rfl tt tt rfl j2 c7g (.inl rfl) rfl rfl (nb rfl) ?_);refine c6 ?_;exact ⟨_,rE1,⟨(),rfl,rfl,tt⟩⟩
theorem a8O (hT:a4A T (rest.length+2)) (a:Bool) (l:Str) (s:Str) (hl:l.length+s.length<=140737488355328):b8 CC 200 [.ptr 0 0,sv s] (bSt T a l rest) fun r τ=>∃ _:Unit,r = .ret (.tup [iv s.length,.val .nilIface])/\τ=a7D T (l++s) rest/\True:=by
 refine qO Tryz.func200 ?_;refine qD (c5 rfl c1K ⟨tt,tt⟩ (b33 hT a l) rfl ?_);intro _ _;refine qD (a27 (l:=l) (new:=s) (p:=1) rfl tt tt rfl (b4c rfl) t_7 t_9 b02 a3J rfl (.inr t_5) rfl rfl a8q ?_);refine d2W ?_;exact d1x
theorem b8f (a:Bool) (c:UInt8) (l:Str):b8 CC 202 [.ptr 0 0] (bSt T a (c::l) rest) fun r τ=>r = .ret (sv (c::l))/\τ=[E8 T 0 1 a (c::l) rest,.dead]:=by
 refine qO Tryz.func202 ?_;refine b2b ?_;refine b2q ?_;refine hY (b7E rfl tt rfl si_) ?_;refine a3Z ?_;refine b2q ?_;refine hY a8k ?_;refine Y5 ?_;refine qD ((a9Q (q:=1) (k:=0) (i:=1) (l:=c::l)) rfl tt tt rfl rfl rfl rfl rfl si_ B4 B4 ?_);refine c6 ?_;exact ⟨_,rE1,⟨rfl,rfl⟩⟩
theorem b8n (a:Bool):b8 CC 202 [.ptr 0 0] (bSt T a [] rest) fun r τ=>r = .ret (sv [])/\τ=[E8 T 0 1 a [] rest,.dead]:=by
 refine qO Tryz.func202 ?_;refine b2b ?_;refine b2q ?_;refine hY (b4x rfl tt rfl) ?_;refine a3Z ?_;refine b2q ?_;refine hY a8k ?_;refine Y5 ?_;refine qD (a8X rfl tt tt rfl rfl ?_);refine c6 ?_;exact ⟨_,rE1,⟨rfl,rfl⟩⟩
def BAt (σ:List b9) (q s:Nat) (T:TypeId) (a:Bool) (l:Str) (rest:List CV):Prop:=σ[q]? = some (E8 T q s a l rest)/\σ[s]? = some (A1 tU8 l.length)/\q≠s
theorem a1m (l:Str):∀ r∈l.map bcv,∀ c∈r,u0 c:=fun r hr c hc=>by
 obtain ⟨b,_,rfl⟩:=I9.1 hr;simp [bcv] at hc;subst hc;exact .val _
theorem b0U {s s':Nat} (h:R s s'):O9 R (a0D l s) (a0D l s'):=by
 refine .list rfl (fun i r r' h1 h2=>by rw [h1] at h2;injection h2 with h2;rw [h2]) (fun i j r r' c c' h1 h2 h3 h4=>?_) ?_
 ·rw [h1] at h2;injection h2 with h2;subst h2;rw [h3] at h4;injection h4 with h4;subst h4
  exact .pure (a1m l r (n_2 h1) c (n_2 h3))
 ·cases hb:l.length with
  | zero=>exact .inl ⟨rfl,rfl⟩
  | succ m=>exact .inr ⟨s,s',rfl,rfl,h⟩
theorem a6K {q' s s':Nat} (hq:R q q') (h:R s s') (hr:∀ c∈rest,u0 c):H8 R (E8 T q s a l rest) (E8 T q' s' a l rest):=by
 refine .box (.cons ?_ (.cons (b0U h) (L3 hr)));cases a
 ·exact .pure (.val _)
 ·exact .ptr hq
theorem a2x (t:TypeId) (m:Nat):H8 R (A1 t m) (A1 t m):=by
 cases m with
 | zero=>exact .dead
 | succ m=>exact .tip _
theorem b8y {α:Type} {f:FuncId} {args:List CV} {c:α->CV} {l':α->Str} {rest':α->List CV} {P:α->Prop} (ap:∀ a∈args,u0 a) (hc:∀ x,P x->u0 (c x)) (hr:∀ c∈rest,u0 c) (bp:∀ x,P x->∀ c∈rest' x,u0 c)
 (h:b8 CC f (.ptr 0 0::args) (bSt T a l rest) fun r τ=>∃ x,r = .ret (c x)/\τ=a7D T (l' x) (rest' x)/\P x) {σ:List b9} {q s:Nat} (ao:BAt σ q s T a l rest) :
 b8 CC f (.ptr q 0::args) σ fun r τ=>∃ x,r = .ret (c x)/\τ=(σ.set q (E8 T q σ.length true (l' x) (rest' x))).set s .dead++[A1 tU8 (l' x).length]/\P x:=by
 obtain ⟨h1,h2,h3⟩:=ao;have hq:=(n_3.1 h1).1;have hs:=(n_3.1 h2).1;refine J4 [q,s] hCC rfl (fun i j k g1 g2=>?_) (fun i k ob g1 g2=>?_) (.cons (.ptr rfl) (L3 ap)) h fun r τ hk=>?_
 ·rcases i with _ | _ | i<;>rcases j with _ | _ | j<;>simp at g1 g2<;>first|rfl|(exfalso;exact h3 (g1.trans g2.symm))|(exfalso;exact h3 (g2.trans g1.symm))
 ·rcases i with _ | _ | i
  ·simp [bSt] at g1 g2;subst g1 g2;exact ⟨_,h1,a6K rfl rfl hr⟩
  ·simp [bSt] at g1 g2;subst g1 g2;exact ⟨_,h2,a2x _ _⟩
  ·simp at g1
 ·obtain ⟨x,rfl,rfl,hp⟩:=hk;refine ⟨by simp [bSt,a7D],.ret (c x),(σ.set q (E8 T q σ.length true (l' x) (rest' x))).set s .dead++[A1 tU8 (l' x).length],(.ret (.pure (hc x hp))),by simp [bSt,a7D],fun k hk bx=>?_,fun i k y ha hx=>?_,x,rfl,rfl,hp⟩
  ·have n1:q≠k:=fun e=>bx a2u;have n2:s≠k:=fun e=>bx a2u;rw [V3 (sp_ hk)];simp [n1,n2]
  ·rcases ha with ha | ⟨ha,rfl⟩
   ·rcases i with _ | _ | i
    ·simp [a7D] at ha hx;subst ha hx;refine ⟨E8 T q σ.length true (l' x) (rest' x),?_,a6K (.inl rfl) (.inr ⟨si_,si_⟩) (bp x hp)⟩;rw [V3 (sp_ hq),a2i h3.symm];simp [hq]
    ·simp [a7D] at ha hx;subst ha hx;refine ⟨.dead,?_,.dead⟩;rw [V3 (sp_ hs)];simp [hs]
    ·simp at ha
   ·rcases i with _ | _ | _ | i
    ·simp at ha
    ·simp at ha
    ·simp [a7D] at hx;subst hx;refine ⟨A1 tU8 (l' x).length,?_,a2x _ _⟩;rw [a0y si_];simp
    ·simp [a7D] at hx
theorem a08 (hT:a4A T (rest.length+2)) (a:Bool) (l:Str) (hr:∀ c∈rest,u0 c) (c:UInt8) (hl:l.length < 140737488355328) {s:Nat} (ao:BAt σ q s T a l rest) :
 b8 CC 306 [.ptr q 0,.val (.int .u8 c.toNat)] σ fun r τ=>∃ _:Unit,r = .ret (.val .nilIface)/\τ=(σ.set q (E8 T q σ.length true (l++[c]) rest)).set s .dead++[A1 tU8 (l++[c]).length]/\True :=
 b8y (c:=fun _=>.val .nilIface) (l':=fun _=>l++[c]) (rest':=fun _=>rest) (fun a h=>by simp at h;subst h;exact .val _) (fun _ _=>.val _) hr (fun _ _=>hr) (b1A hT a l c hl) ao
theorem z6 (hT:a4A T (rest.length+2)) (a:Bool) (l:Str) (hr:∀ c∈rest,u0 c) (s:Str) (hl:l.length+s.length<=140737488355328) (ao:BAt σ q k T a l rest) :
 b8 CC 200 [.ptr q 0,sv s] σ fun r τ=>∃ _:Unit,r = .ret (.tup [iv s.length,.val .nilIface])/\τ=(σ.set q (E8 T q σ.length true (l++s) rest)).set k .dead++[A1 tU8 (l++s).length]/\True :=
 b8y (c:=fun _=>.tup [iv s.length,.val .nilIface]) (l':=fun _=>l++s) (rest':=fun _=>rest) (fun a h=>by simp at h;subst h;exact .val _) (fun _ _=>C0 ⟨.val _,.val _,tt⟩) hr (fun _ _=>hr) (a8O hT a l s hl) ao
theorem b9G (a:Bool) (l:Str):b8 CC 202 [.ptr 0 0] (bSt T a l rest) fun r τ=>∃ _:Unit,r = .ret (sv l)/\τ=[E8 T 0 1 a l rest,.dead]/\True:=by
 cases l with
 | nil=>exact (b8n a).mono fun r τ h=>⟨(),h.1,h.2,tt⟩
 | cons c l=>exact (b8f a c l).mono fun r τ h=>⟨(),h.1,h.2,tt⟩
theorem a2H (hr:∀ c∈rest,u0 c) (a:Bool) (l:Str) (ao:BAt σ q k T a l rest):b8 CC 202 [.ptr q 0] σ fun r τ=>∃ _:Unit,r = .ret (sv l)/\τ=σ.set k .dead/\True:=by
 obtain ⟨h1,h2,h3⟩:=ao;have hq:=(n_3.1 h1).1;have hs:=(n_3.1 h2).1;refine J4 [q,k] hCC rfl (fun i j k g1 g2=>?_) (fun i k ob g1 g2=>?_) (.cons (.ptr rfl) .nil) (b9G (T:=T) (rest:=rest) a l) fun r τ hk=>?_
 ·rcases i with _ | _ | i<;>rcases j with _ | _ | j<;>simp at g1 g2<;>first|rfl|(exfalso;exact h3 (g1.trans g2.symm))|(exfalso;exact h3 (g2.trans g1.symm))
 ·rcases i with _ | _ | i
  ·simp [bSt] at g1 g2;subst g1 g2;exact ⟨_,h1,a6K rfl rfl hr⟩
  ·simp [bSt] at g1 g2;subst g1 g2;exact ⟨_,h2,a2x _ _⟩
  ·simp at g1
 ·obtain ⟨x,rfl,rfl,hp⟩:=hk;refine ⟨by simp [bSt],.ret (sv l),σ.set k .dead,.ret (.pure (.val _)),by simp [bSt],fun j hj hjs=>?_,fun i j y ha hx=>?_,x,rfl,rfl,hp⟩
  ·have n2:k≠j:=fun e=>hjs a2u;simp [n2]
  ·rcases ha with ha | ⟨ha,rfl⟩
   ·rcases i with _ | _ | i
    ·simp at ha hx;subst ha hx;exact ⟨_,by rw [a2i h3.symm];exact h1,a6K (.inl rfl) (.inl rfl) hr⟩
    ·simp at ha hx;subst ha hx;exact ⟨.dead,by simp [hs],.dead⟩
    ·simp at ha
   ·rcases i with _ | _ | i<;>simp at ha hx
theorem b21 {τ:List b9} {c:CV} (h0:τ[0]? = some (E8 T 0 k true l rest)) (hk:τ[k]? = some (A1 tU8 l.length)) (h2:2<=k) (hr:∀ c∈rest,u0 c) (hc:Old 2 c):F8 2 τ (.ret c) (.ret c) (a7D T l rest):=by
 have k1:a5B 2 [0,1,k]=true:=rfl;have k2:a0f [0,1,k]=true:=by
  have e0:(k == 0)=false:=by simp;omega
  have e1:(k == 1)=false:=by simp;omega
  have e2:(0 == k)=false:=by simp;omega
  have e3:(1 == k)=false:=by simp;omega
  simp [a0f];omega
 refine ⟨[0,1,k],k1,k2,.ret (.old hc),.inr ⟨_,h0,.box ⟨.old (.ptr de_),.list (fun r hr c hc=>(a1m l r hr c hc).old) ?_,?_⟩⟩,.inl rfl,.inr ⟨_,hk,.same rfl (b3c _ _ _)⟩,tt⟩
 ·intro j hj;cases hb:l.length with
  | zero=>rw [hb] at hj;cases hj
  | succ m=>rw [hb] at hj;injection hj with hj;subst hj;exact ⟨k,rfl,rfl⟩
 ·have:∀ l:List CV,(∀ c∈l,u0 c)->b3o 2 l:=fun l=>by
   induction l with
   | nil=>intro _;trivial
   | cons x l ih=>intro h;exact ⟨(h x si_).old,ih fun c hc=>h c (by simp [hc])⟩
  exact a6D (this rest hr)
theorem d4b {C:Ctx} {M:A5} {w:World} {s:Nat} (hr:Rel C M σ w) (ao:BAt σ q s T a l rest):∃ M',Ext M w M' w/\Rel C M' ((σ.set q (E8 T q σ.length a l rest)).set s .dead++[A1 tU8 l.length]) w:=by
 obtain ⟨h1,h2,h3⟩:=ao;have hq:=(n_3.1 h1).1;have hs:=(n_3.1 h2).1;cases l with
 | nil =>
  rw [show σ.set q (E8 T q σ.length a [] rest)=σ from a1v h1,show σ.set s b9.dead=σ from a1v h2];obtain ⟨aI,bc⟩:=hr.addDead ⟨0,0,0⟩;exact ⟨_,bc,aI⟩
 | cons x l =>
  obtain ⟨ps,co⟩:∃ p,M.pl[s]? = some p:=⟨_,a1u (by rw [hr.len];exact hs)⟩;obtain ⟨pq,hpq⟩:∃ p,M.pl[q]? = some p:=⟨_,a1u (by rw [hr.len];exact hq)⟩;obtain ⟨⟨bk,_⟩,_⟩:=hr.obj s ps _ co h2;obtain ⟨bc,aI⟩:=hr.tipNew (m:=(x::l).length) co h2 (n_6 _) bk;have hpq':(M.add ps).pl[q]? = some pq:=bc.get hpq;have hps':(M.add ps).pl[s]? = some ps:=bc.get co;have hpn:(M.add ps).pl[σ.length]? = some ps:=by simp [A5.add,<- hr.len]
  have hbq:(σ.set s b9.dead++[b9.tipT (some tU8) (x::l).length])[q]? = some (E8 T q s a (x::l) rest):=by
   rw [V3 (sp_ hq),a2i h3.symm,h1]
  obtain ⟨⟨ak,ty,e1,e2,e3,e4⟩,hf,cr⟩:=aI.obj q pq _ hpq' hbq;have aO:∀ (i:Nat) (c:CV),(d3f q a::a0D (x::l) σ.length::rest)[i]? = some c->RV (M.add ps) w c (ak.getD i undef):=fun i c hi=>by
   rcases i with _ | _ | i
   ·exact e4 0 c hi
   ·injection hi with hi
    subst hi;have hl:=e4 1 _ rfl;obtain ⟨a',cap',b',off',s'',fh,fW,q1,q2,q3,q4,q5,q6,q7,q8,q9,q10⟩:=hl.list_inv;rw [fW];refine RV.list' (L:=((x::l).map bcv).length) rfl fh q1 q2 (by rw [q3]) (fun h=>by cases h) q5 q6 q7 q8 q9 (fun k' aH=>?_);obtain ⟨s3,g1,g2,g3,g4⟩:=q10 s rfl;injection aH with aH
    subst aH;refine ⟨s3,?_,g2,g3,g4⟩;rw [hps'] at g1;rw [hpn,g1]
   ·exact e4 (i+2) c hi
  have hro:Q3 (M.add ps) w pq (E8 T q σ.length a (x::l) rest):=⟨ak,ty,e1,e2,fun c hc=>by
   rcases P0.1 hc with rfl | hc
   ·cases a<;>rfl
   ·rcases P0.1 hc with rfl | hc
    ·rfl
    ·exact e3 c (a4r _ (a4r _ hc)),aO⟩
  have hfin:=aI.putObj (ob:=E8 T q σ.length a (x::l) rest) hpq' hbq rfl hf cr (.cells ak ((some T).getD ty) (0,0)) (by rw [World.putObj_self w e1];exact hro);rw [World.putObj_self w e1] at hfin;refine ⟨_,bc,?_⟩;have aW:(σ.set s b9.dead++[b9.tipT (some tU8) (x::l).length]).set q (E8 T q σ.length a (x::l) rest)=(σ.set q (E8 T q σ.length a (x::l) rest)).set s .dead++[A1 tU8 (x::l).length]:=by
   rw [List.set_append_left _ _ (sp_ hq),List.set_comm _ _ h3.symm];rfl
  rw [<- aW];exact hfin
theorem c9Y {C:Ctx} {c:Code} {Q:A8->Env->List b9->Prop} {E:Env} (T:TypeId) (q s:Nat) (a:Bool) (l:Str) (rest:List CV) (ao:BAt σ q s T a l rest) (h:CWp C n c Q E ((σ.set q (E8 T q σ.length a l rest)).set s .dead++[A1 tU8 l.length])):CWp C n c Q E σ:=fun M w ac hr hf=>by
 obtain ⟨M',h1,h2⟩:=d4b hr ao;exact wp_mono (h _ w ac h2 (hf.mono h1)) fun _ _ _=>Q4.later h1
end Go.Proofs.YtlppbmfecjabeaaGreatDoor
namespace Go.Proofs
open Go.Shelf
def Tryz.laysM171_ren:Go.Shelf.Ren:=⟨fun | 171=>113 | 243=>157 | 246=>203 | 283=>248 | 284=>249 | 285=>250 | 286=>251 | 129=>217 | 317=>287 | 318=>288 | 319=>289 | 320=>290 | 337=>309 | 338=>310 | n=>n,fun | 3=>3 | 9=>9 | 2=>2 | 4=>4 | 171=>282 | 0=>0 | 53=>86 | 37=>149 | 5=>5 | 173=>284 | 212=>313 | 51=>262 | 20=>20 | 213=>314 | 46=>141 | 232=>331 | 233=>332 | n=>n,fun | 17=>1 | 18=>2 | 19=>3 | n=>n⟩
theorem Tryz.laysM171:Go.Proofs.LaysM.n171 Tryz.prog Tryz.laysM171_ren:={
 mixed:=by kernel_rfl
 f129:=Tryz.func217.trans (n_9 some B4)
 f171:=Tryz.func113.trans (n_9 some B4)
 f243:=Tryz.func157.trans (n_9 some B4)
 f246:=Tryz.func203.trans (n_9 some B4)
 f283:=Tryz.func248.trans (n_9 some B4)
 f284:=Tryz.func249.trans (n_9 some B4)
 f285:=Tryz.func250.trans (n_9 some B4)
 f286:=Tryz.func251.trans (n_9 some B4)
 f317:=Tryz.func287.trans (n_9 some B4)
 f318:=Tryz.func288.trans (n_9 some B4)
 f319:=Tryz.func289.trans (n_9 some B4)
 f320:=Tryz.func290.trans (n_9 some B4)
 f337:=Tryz.func309.trans (n_9 some B4)
 f338:=Tryz.func310.trans (n_9 some B4)
 t0:=Tryz.underlying0
 a0:=Tryz.isAgg0
 z0:=Tryz.sizeOf0
 v0:=Tryz.zeroValue0
 t2:=Tryz.underlying2
 a2:=Tryz.isAgg2
 z2:=Tryz.sizeOf2
 v2:=Tryz.zeroValue2
 t3:=c6b
 a3:=a10
 z3:=t_1
 v3:=t_8
 t4:=Tryz.underlying4
 a4:=c8D
 z4:=c7h
 v4:=Tryz.zeroValue4
 t5:=Tryz.underlying5
 a5:=Tryz.isAgg5
 z5:=t_9
 v5:=a3J
 t9:=Tryz.underlying9
 a9:=t_6
 z9:=t_0
 v9:=t_3
 t20:=Tryz.underlying20
 a20:=Tryz.isAgg20
 z20:=Tryz.sizeOf20
 v20:=Tryz.zeroValue20
 t37:=Tryz.underlying149
 a37:=Tryz.isAgg149
 z37:=c7g
 v37:=Tryz.zeroValue149
 t46:=Tryz.underlying141
 a46:=Tryz.isAgg141
 z46:=Tryz.sizeOf141
 v46:=Tryz.zeroValue141
 t51:=Tryz.underlying262
 a51:=Tryz.isAgg262
 z51:=Tryz.sizeOf262
 v51:=Tryz.zeroValue262
 t53:=Tryz.underlying86
 a53:=Tryz.isAgg86
 z53:=Tryz.sizeOf86
 v53:=Tryz.zeroValue86
 t171:=Tryz.underlying282
 a171:=Tryz.isAgg282
 z171:=Tryz.sizeOf282
 v171:=Tryz.zeroValue282
 t173:=Tryz.underlying284
 a173:=Tryz.isAgg284
 z173:=Tryz.sizeOf284
 v173:=Tryz.zeroValue284
 t212:=Tryz.underlying313
 a212:=Tryz.isAgg313
 z212:=Tryz.sizeOf313
 v212:=Tryz.zeroValue313
 t213:=Tryz.underlying314
 a213:=Tryz.isAgg314
 z213:=Tryz.sizeOf314
 t232:=Tryz.underlying331
 a232:=Tryz.isAgg331
 z232:=Tryz.sizeOf331
 v232:=Tryz.zeroValue331
 t233:=Tryz.underlying332
 a233:=Tryz.isAgg332
 z233:=Tryz.sizeOf332
 v233:=Tryz.zeroValue332
 g17:=by kernel_rfl
 g18:=by kernel_rfl
 g19:=by kernel_rfl
 i0:=by kernel_rfl
 i2:=by kernel_rfl
 i3:=by kernel_rfl
 i4:=by kernel_rfl
 i5:=by kernel_rfl
 i9:=by kernel_rfl
 i20:=by kernel_rfl
 i37:=by kernel_rfl
 i46:=by kernel_rfl
 i51:=by kernel_rfl
 i53:=by kernel_rfl
 i171:=by kernel_rfl
 i173:=by kernel_rfl
 i212:=by kernel_rfl
 i232:=by kernel_rfl
 i233:=by kernel_rfl
 m17:=by kernel_rfl
 m18:=by kernel_rfl
 m19:=by kernel_rfl}
end Go.Proofs
namespace Go.Proofs.YtlppbmfecjabeaaGreatDoor
open Go Go.Cl
variable {fl:List Fi} {ms:SM} {n s m i k w q1 q2 t L:Nat} {σ:List b9} {nn va en pn a:Bool} {E:List Ex} {l nm l':Str} {br ps:List Str} {me:EM} {T:TypeId} {rest:List CV} {d:De} {u o:Int} {ch:List Tr} {am:List Nat}
theorem b8k (n:Int) (h0 : -9223372036854775808<=n) (h1:n<=9223372036854775807) (σ:List b9):b8 CC 113 [iv n] σ fun r Y=>r = .ret (sv (Lib.itoa n))/\Y=σ :=
 b0S (fun M σ w vs hr hn hx=>by
  have hv:vs = #[.int .i64 n]:=by
   refine b79 fun i=>?_
   rcases i with _ | i
   ·have h:=r6 (hx 0 _ rfl);have hs:0 < vs.size:=by rw [hn];exact Nat.succ_pos _
    simp only [a0k,a1r hs,a8H] at h;rw [a1r hs,h];rfl
   ·have hs:vs.size<=i+1:=by rw [hn];show 1<=i+1;omega
    rw [a9C hs];rfl
  subst hv;have ht:Lib.pow10Tab=[1,10,100,1000,10000,100000,1000000,10000000,100000000,1000000000,10000000000,100000000000,1000000000000,10000000000000,100000000000000,1000000000000000,10000000000000000,100000000000000000,1000000000000000000,10000000000000000000]:=by decide
  refine Any.strconv_Itoa Tryz.laysM171 n h0 h1 w ?_;rw [ht];exact GV.tab (C:=CC) (hr.glob 1 c3V rfl) B4) σ
theorem b5x {u:Nat} (hn:0 < n) (h:u < 10^n):(Lib.decDigits u).length<=n:=by
 induction n generalizing u with
 | zero=>omega
 | succ n ih =>
  rw [Lib.decDigits]
  split
  ·simp
  ·rcases b1h n with rfl | hn
   ·omega
   ·have:=ih (u:=u / 10) hn (by rw [Nat.pow_succ] at h;omega);simp;omega
theorem a3V {n:Int} (h0 : -9223372036854775808<=n) (h1:n<=9223372036854775807):(Lib.itoa n).length<=20:=by
 unfold Lib.itoa
 split
 ·have:=b5x (u:=n.natAbs) (n:=19) om_ om_;simp;omega
 ·have:=b5x (u:=n.toNat) (n:=19) om_ om_;omega
def a3w (k o:Int):Int:=if k=5 then 0 else if k=4 then F0 o else 4
theorem a9u (x:Ex) (σ:List b9):b8 CC 305 [.agg x.cells] σ fun r Y=>r = .ret (iv (a3w x.k x.op))/\Y=σ:=by
 refine b8.anyw hCC pu_ pu_ (c7 (qO Tryz.func305 ?_)) σ;refine qD (F5 rfl tt j2 j4 ?_);refine qC ?_ ?_<;>intro h1
 ·have u1:x.k=5:=sp_ h1;exact d2C
 ·have u1:¬ x.k=5:=sp_ h1;refine qC ?_ ?_<;>intro h2
  ·have u2:x.k=4:=sp_ h2;refine qY (c4 rfl Tryz.call319 ⟨tt,tt⟩ (a62 x.op _) rfl) ?_;refine c6 ?_;exact ⟨_,rE1,_,_,rfl,rfl,F1 (by rw [a3w,n_0 u1,n_1 u2])⟩
  ·have u2:¬ x.k=4:=sp_ h2;exact d2D
def sgn (o:Int):Str:=(glk S0 o).getD []
def a5E (k:Int):Str:=if k=7 then [115,105,122,101] else if k=8 then [104,97,115] else if k=9 then [101,110,118] else []
def J2 (sep:Str):List Str->Str
 | []=>[]
 | [x]=>x
 | x::y::l=>x++sep++J2 sep (y::l)
def ndT (ps:List Str) (k u o:Int) (nm:Str) (cs:List Str):Str :=
 if k=1 then Lib.itoa u else if k=2 then ps.getD u.toNat [] else if k=4 then cs.getD 0 []++([32]++sgn o++[32])++cs.getD 1 [] else if k=5 then [105,102,32]++cs.getD 0 []++[32,116,104,101,110,32]++cs.getD 1 []++[32,101,108,115,101,32]++cs.getD 2 []
 else if k=3 then nm++[40]++J2 [44,32] cs++[41] else if k=6 then [114,101,97,100,40,34]++nm++[34,44,32]++cs.getD 0 []++[41] else if k=10 then [102,108,105,112,40]++Lib.itoa u++[41] else a5E k++([40,34]++nm++[34,41])
def a0C (k o:Int):List Int:=if k=4 then [if F0 o=1 then F0 o+1 else F0 o,F0 o+1] else []
mutual
def Tr.txt (ps:List Str):Tr->Int->Str
 | .n k u o nm ch,pl=>if a3w k o < pl then [40]++ndT ps k u o nm (H5 ps ch (a0C k o))++[41] else ndT ps k u o nm (H5 ps ch (a0C k o))
def H5 (ps:List Str):List Tr->List Int->List Str
 | [],_=>[]
 | t::l,cj=>t.txt ps (cj.headD 0)::H5 ps l cj.tail
end
theorem a4d (ps:List Str):∀ (l:List Tr) (cj:List Int),(H5 ps l cj).length=l.length
 | [],_=>rfl
 | t::l,cj=>by rw [H5,C4,a4d ps l,C4]
theorem Z8 (ps:List Str):∀ (l:List Tr) (cj:List Int) (m:Nat) (c:Tr),l[m]? = some c->(H5 ps l cj)[m]? = some (c.txt ps (cj.getD m 0))
 | [],_,_,_,h=>by simp at h
 | t::l,cj,0,c,h=>by
  injection h with h
  subst h;rw [H5];cases cj<;>rfl
 | t::l,cj,m+1,c,h=>by
  rw [H5,c6q,Z8 ps l cj.tail m c h];cases cj<;>rfl
def a7H (E:List Ex) (t:Tr) (s:Nat):Prop:=∃ E0 E1,E=E0++t.flat s++E1/\E0.length=s
theorem a7H.node {k:Int} (h:a7H E (.n k u o nm ch) s):E[s+x8 ch]? = some ⟨k,u,o,nm,o3 ch s⟩:=by
 obtain ⟨E0,E1,rfl,rfl⟩:=h;rw [Tr.flat,F7,a0y om_,F7,a0y (by rw [P4];omega),P4];rw [show E0.length+x8 ch - E0.length - x8 ch=0 by omega];rfl
theorem a8A:∀ (l:List Tr) (m s:Nat) (c:Tr),l[m]? = some c->∃ X,J1 l s=J1 (l.take m) s++c.flat (s+x8 (l.take m))++X
 | [],_,_,_,h=>by simp at h
 | t::l,0,s,c,h=>by
  injection h with h
  subst h;exact ⟨_,rfl⟩
 | t::l,m+1,s,c,h=>by
  obtain ⟨X,hX⟩:=a8A l m (s+t.size) c h;refine ⟨X,?_⟩;rw [J1,hX,a6E,J1,x8,a8W];simp only [F7]
theorem a7H.child {k:Int} {c:Tr} (h:a7H E (.n k u o nm ch) s) (hc:ch[m]? = some c):a7H E c (s+x8 (ch.take m)):=by
 obtain ⟨E0,E1,rfl,rfl⟩:=h;obtain ⟨X,hX⟩:=a8A ch m E0.length c hc;refine ⟨E0++J1 (ch.take m) E0.length,X++[⟨k,u,o,nm,o3 ch E0.length⟩]++E1,?_,?_⟩
 ·rw [Tr.flat,hX];simp only [F7]
 ·rw [n_7,P4]
theorem a2t {l:List Tr} {c:Tr} (h:l[m]? = some c):c.size<=x8 l:=by
 induction l generalizing m with
 | nil=>simp at h
 | cons t l ih =>
  rw [x8]
  rcases m with _ | m
  ·injection h with h;subst h;omega
  ·have:=ih h;omega
abbrev TW:Nat:=309
theorem a16:a4A TW 5:=by unfold a4A;kernel_rfl
def WR (E:List Ex) (ps:List Str) (en pn:Bool) (d:Int):List CV:=[.list (E.map Ex.cv) en none,.list (ps.map scv) pn none,iv d]
theorem F2 (E:List Ex) (ps:List Str) (en pn:Bool) (d:Int):∀ c∈WR E ps en pn d,u0 c:=fun c hc=>by
 simp only [WR,P0,a8Z,or_false] at hc
 rcases hc with rfl | rfl | rfl
 ·exact a0i _ _
 ·exact E7 _ _
 ·exact .val _
def WEG (E:List Ex) (ps:List Str) (en pn:Bool) (t:Tr) (s:Nat) (ok:Int->Prop):Prop:=∀ (pl dp:Int) (a:Bool) (b:Str) (d:Int),ok pl->0<=dp->dp+2*t.size+1<=1000000000->b.length+(t.txt ps pl).length<=100000000000000->∀ (σ:List b9) (q k:Nat),BAt σ q k TW a b (WR E ps en pn d) ->
 b8 CC 284 [.ptr q 0,iv ((s+t.size - 1:Nat):Int),iv pl,iv dp] σ fun r τ=>∃ d':Int,r = .ret (.tup [])/\τ=(σ.set q (E8 TW q σ.length true (b++t.txt ps pl) (WR E ps en pn d'))).set k .dead++[A1 tU8 (b++t.txt ps pl).length]/\True
theorem a9x {pl dp:Int} {T:Str} {b:Str} {d:Int} (h:b8 CC 284 [.ptr 0 0,iv i,iv pl,iv dp] (bSt TW a b (WR E ps en pn d)) fun r τ=>∃ d':Int,F8 2 τ r (.ret (.tup [])) (a7D TW (b++T) (WR E ps en pn d'))/\True)
 (σ:List b9) (q k:Nat) (ao:BAt σ q k TW a b (WR E ps en pn d)):b8 CC 284 [.ptr q 0,iv i,iv pl,iv dp] σ fun r τ=>∃ d':Int,r = .ret (.tup [])/\τ=(σ.set q (E8 TW q σ.length true (b++T) (WR E ps en pn d'))).set k .dead++[A1 tU8 (b++T).length]/\True :=
 b8y (c:=fun _:Int=>.tup []) (l':=fun _=>b++T) (rest':=fun d'=>WR E ps en pn d') (P:=fun _=>True) (fun a h=>by simp at h;rcases h with rfl | rfl | rfl<;>exact .val _) (fun _ _=>C0 trivial) (F2 _ _ _ _ _) (fun _ _=>F2 _ _ _ _ _)
  (L6 hCC (h.mono fun r τ hh=>by
   obtain ⟨d',h1,h2⟩:=hh;exact ⟨_,_,h1,d',rfl,rfl,tt⟩)) ao
def W3:List Str:=[[105,102,32],[32,116,104,101,110,32],[32,101,108,115,101,32]]
def ifP:List Str->Nat->Str
 | _,0=>[]
 | cs,m+1=>ifP cs m++W3.getD m []++cs.getD m []
def F6 (sep:Str) (cs:List Str) (m:Nat):Str:=J2 sep (cs.take m)
theorem Y4 {sep:Str} {cs:List Str} {c:Str} (h:cs[m]? = some c):F6 sep cs (m+1)=F6 sep cs m++(if m=0 then [] else sep)++c:=by
 unfold F6;have:∀ (cs:List Str) (m:Nat) (c:Str),cs[m]? = some c->J2 sep (cs.take (m+1))=J2 sep (cs.take m)++(if m=0 then [] else sep)++c:=by
  intro cs
  induction cs with
  | nil=>intro m c h;simp at h
  | cons x l ih =>
   intro m c h
   rcases m with _ | m
   ·simp at h;subst h;simp [J2]
   ·rw [a6E,a6E];have:=ih m c (sp_ h)
    rcases l with _ | ⟨y,l⟩
    ·simp at h
    ·rcases m with _ | m
     ·simp only [a6E,List.take_zero,J2] at this ⊢;simp at this ⊢;simpa using h
     ·simp only [a6E,J2] at this ⊢;rw [this];simp
 exact this cs m c h
theorem b30 {β:Type} {k:Int} {y:β}:∀ {l:List (Int × β)},glk l k=some y->(k,y)∈l
 | [],h=>by cases h
 | (b,c)::l,h=>by
  rw [glk] at h;split at h
  ·rename_i e;injection h with h
   subst h e;simp
  ·exact a4r _ (b30 h)
theorem d4H (h:m < 3):∃ w,W3[m]? = some w:=by
 match m,h with
 | 0,_=>exact ⟨_,rfl⟩
 | 1,_=>exact ⟨_,rfl⟩
 | 2,_=>exact ⟨_,rfl⟩
theorem b7N:∀ l:List Tr,l.length<=x8 l
 | []=>n_6 _
 | t::l=>by rw [x8,C4];have:=b7N l;have:=t.size_pos;omega
def kp (ph:Bool):Nat:=match ph with | false=>3 | true=>4
def op1 (ph:Bool) (m:Nat):b9:=match ph with | false=>A1 tU8 m | true=>.dead
def op2 (ph:Bool) (m:Nat):b9:=match ph with | false=>.dead | true=>A1 tU8 m
theorem a5O {s':Nat} (hL:0 < L) (hs:am[s']? = some s) (hr:∀ c∈rest,u0 c) (he:l=l'):a9n L am (E8 T 0 s a l rest) (E8 T 0 s' a l' rest):=by
 subst he;refine .box ⟨?_,.list (fun r hr c hc=>(a1m l r hr c hc).old) (fun j hj=>?_),?_⟩
 ·cases a
  ·exact .old (.val _)
  ·exact .old (.ptr hL)
 ·cases hb:l.length with
  | zero=>rw [hb] at hj;cases hj
  | succ m=>rw [hb] at hj;injection hj with hj;subst hj;exact ⟨s,rfl,hs⟩
 ·have:∀ l:List CV,(∀ c∈l,u0 c)->b3o L l:=fun l=>by
   induction l with
   | nil=>intro _;trivial
   | cons x l ih=>intro h;exact ⟨(h x si_).old,ih fun c hc=>h c (by simp [hc])⟩
  exact a6D (this rest hr)
theorem S2 (he:l=l'):a9n L am (A1 tU8 l.length) (A1 tU8 l'.length):=he ▸ .same rfl (b3c _ _ _)
theorem a21:Old 2 (.tup []):=(C0 (cs:=[]) tt).old
def W0:List (Int × Str):=[(7,[115,105,122,101]),(8,[104,97,115]),(9,[101,110,118])]
theorem c6X (k:Int):(glk W0 k).getD []=a5E k:=by
 unfold a5E
 split
 ·subst_vars;rfl
 ·split
  ·subst_vars;rfl
  ·split
   ·subst_vars;rfl
   ·rename_i h1 h2 h3;have e:∀ x∈W0,x.1≠k:=fun x hx=>by
     simp only [W0,P0,a8Z,or_false] at hx
     rcases hx with rfl | rfl | rfl<;>simp only<;>omega
    cases hg:glk W0 k with
    | none=>rfl
    | some y =>
     exact absurd rfl (e _ (b30 hg))
theorem c0N (o:Int):(sgn o).length<=100:=by
 unfold sgn;cases hg:glk S0 o with
 | none=>exact n_5 _
 | some y =>
  have:∀ x∈S0,x.2.length<=100:=by decide
  exact this _ (b30 hg)
theorem b4F (o:Int):1<=F0 o/\F0 o<=3:=by unfold F0;split;omega;split<;>omega
theorem M4 (a b:Str):(a++b).length=a.length+b.length:=n_7
theorem a7a {l:List Tr} (h:l.length=n) (hm:m < n):∃ c,l[m]? = some c:=⟨l[m]'om_,si_⟩
theorem d1o (cs:List Str):∀ m,m<=3->(ifP cs m).length<=(ifP cs 3).length:=by
 intro m hm;have h1:∀ n,(ifP cs n).length<=(ifP cs (n+1)).length:=fun n=>by rw [ifP];simp only [n_7];omega
 have e0:=h1 0;have e1:=h1 1;have e2:=h1 2
 rcases m with _ | _ | _ | _ | m<;>simp only [K9,Nat.reduceAdd] at*<;> omega
theorem a7B (sep:Str) (cs:List Str) (m:Nat):(F6 sep cs m).length<=(J2 sep cs).length:=by
 unfold F6
 induction cs generalizing m with
 | nil=>simp
 | cons x l ih =>
  rcases m with _ | m
  ·simp [J2]
  ·rw [a6E]
   rcases l with _ | ⟨y,l⟩
   ·simp
   ·rcases m with _ | m
    ·simp [J2]
    ·have:=ih (m+1);rw [a6E] at this ⊢;simp only [J2,n_7] at this ⊢;omega
theorem b1M (k:Int):(a5E k).length<=4:=by
 unfold a5E
 split;decide
 split;decide
 split<;>decide
theorem b1O {k:Int} (dY:a7H E (.n k u o nm ch) s) (hn:U6 ps.length k u o nm ch.length) (_:E.length<=1000000) (hI:∀ m c,ch[m]? = some c->WEG E ps en pn c (s+x8 (ch.take m)) (fun _=>True)) (T:Str) (hT:T=ndT ps k u o nm (H5 ps ch (a0C k o))) (pl dp:Int) (aT:¬ a3w k o < pl) (bR:0<=dp) (hd:dp+2*((x8 ch+1:Nat):Int)<=1000000000) (a:Bool) (b:Str) (d:Int) (hb:b.length+T.length<=100000000000000):b8 CC 284 [.ptr 0 0,(iv ((s+x8 ch:Nat):Int)),iv pl,iv dp] (bSt TW a b (WR E ps en pn d)) fun r τ=>∃ d':Int,F8 2 τ r (.ret (.tup [])) (a7D TW (b++T) (WR E ps en pn d'))/\True:=by
 refine d2T ?_;refine d1N ?_;refine qC ?_ ?_<;>intro h1
 ·exact absurd (sp_ h1) aT
 ·have hnk:=hn.kind;refine qY (c6N rfl tt tt rfl rfl) ?_;refine qD (j3 rfl tt tt rfl j2 t_1 (.inl rfl) rfl rfl (nb rfl) ?_);refine cC ?_ ?_<;>intro h2
  ·refine K8 [E8 TW 0 1 a b (WR E ps en pn (max d dp)),A1 tU8 b.length,.box (Ex.cells ⟨k,u,o,nm,o3 ch s⟩)] rfl ?_;have u2:k=1:=sp_ h2;have bm:=hn.k1 u2;have eT:T=Lib.itoa u:=by rw [hT,ndT,n_1 u2]
   rw [eT] at hb;refine cW 6 ?_;refine b2w ?_;refine b2P ?_;refine hY (c4 rfl c69 ⟨tt,tt⟩ (b8k u om_ om_ _) rfl) ?_;refine Y5 ?_;refine qD (c5 rfl a2p j1 (z6 a16 _ (b) (F2 _ _ _ _ _) (Lib.itoa u) a3Y ⟨rfl,rfl,n_4 rfl⟩) rfl ?_);intro _ _;exact ⟨_,rE0,⟨(max d dp),c5N,tt⟩⟩
  ·have u2:¬ k=1:=sp_ h2;refine qk ?_;refine cC ?_ ?_<;>intro h3
   ·refine K8 [E8 TW 0 1 a b (WR E ps en pn (max d dp)),A1 tU8 b.length,.box (Ex.cells ⟨k,u,o,nm,o3 ch s⟩)] rfl ?_;have u3:k=2:=sp_ h3;have fx:=hn.k2 u3;have hnum:0<=(Ex.mk k u o nm (o3 ch s)).num:=fx.1;have eT:T=ps.getD u.toNat []:=by rw [hT,ndT,n_0 om_,n_1 u3]
    rw [eT] at hb;have g0:ps[u.toNat]? = some (ps.getD u.toNat []):=by
     have ae:u.toNat < ps.length:=by omega
     simp [List.getD,ae]
    refine cW 11 ?_;refine b2w ?_;refine a3Z ?_;refine hY (j5 rfl tt rfl c2w rfl a2W de_) ?_;refine hY a6R ?_;refine b2P ?_;refine hY (o9 rfl tt tt rfl rfl t_2 t_0 om_ (i8 g0) rfl) ?_;refine hY a6I ?_;refine Y5 ?_;refine qD (c5 rfl a2p j1 (z6 a16 _ (b) (F2 _ _ _ _ _) (ps.getD u.toNat []) a3Y ⟨rfl,rfl,n_4 rfl⟩) rfl ?_);intro _ _;exact ⟨_,rE0,⟨(max d dp),c5N,tt⟩⟩
   ·have u3:¬ k=2:=sp_ h3;refine qk ?_;refine cC ?_ ?_<;>intro h4
    ·refine K8 [E8 TW 0 1 a b (WR E ps en pn (max d dp)),A1 tU8 b.length,.box (Ex.cells ⟨k,u,o,nm,o3 ch s⟩)] rfl ?_;have u4:k=4:=sp_ h4;have du:ch.length=2:=by have:=hn.cnt;rw [n_1 u4] at this;exact this
     obtain ⟨c0,g0⟩:=a7a (m:=0) du de_;obtain ⟨c1,g1⟩:=a7a (m:=1) du de_;have eE:=a2t g0;have bY:=a2t g1;have bS:=b4F o;have dW:=c0N o;have elv:a3w k o=F0 o:=by rw [a3w,n_0 om_,n_1 u4]
     refine qk (qY (c4 rfl Tryz.call305 ⟨tt,tt⟩ ((elv ▸ a9u ⟨k,u,o,nm,o3 ch s⟩ _)) rfl) ?_);refine qC ?_ ?_<;>intro h5
     ·have u5:F0 o=1:=sp_ h5;have eT:T=c0.txt ps (F0 o+1)++([32]++sgn o++[32])++c1.txt ps (F0 o+1):=by rw [hT,ndT,n_0 om_,n_0 om_,n_1 u4];simp only [a5m,Z8 ps ch _ 0 c0 g0,Z8 ps ch _ 1 c1 g1,a8H];simp [a0C,u4,u5]
      rw [eT] at hb;refine qY o7 ?_;refine qY d4g ?_;refine qD (c5 rfl b1G a3A (hI 0 c0 g0 (F0 o+1) (dp) _ (b) _ trivial om_ om_ a3Y _ _ _ ⟨rfl,rfl,n_4 rfl⟩) rfl ?_);rintro d1 _;dsimp only;refine qN [E8 TW 0 3 true (b++c0.txt ps (F0 o+1)) (WR E ps en pn d1),.dead,.box (Ex.cells ⟨k,u,o,nm,o3 ch s⟩),A1 tU8 (b++c0.txt ps (F0 o+1)).length] rfl ?_;refine d2d ?_;refine chf rfl c8c ?_;refine chf rfl (c9 rfl b64) ?_;refine chf rfl a90 ?_;refine d2Y ?_;intro _ _;refine a1c [E8 TW 0 3 true (b++c0.txt ps (F0 o+1)) (WR E ps en pn d1),.dead,.box (Ex.cells ⟨k,u,o,nm,o3 ch s⟩),A1 tU8 (b++c0.txt ps (F0 o+1)).length,.map (gm kv sv S0)] rfl ?_;refine d3e ?_;refine D7 rfl rfl (c9 rfl (G8 rfl rfl tt rfl rfl (by show 1+(sgn o).length<=_;omega))) ⟨⟨F3,a1F,b2h,tt⟩,?_⟩;refine D7 rfl rfl d5u ⟨⟨F3,a1F,b2h,tt⟩,?_⟩;refine B8 rfl rfl rfl (c5 rfl a2p j1 (z6 a16 _ (b++c0.txt ps (F0 o+1)) (F2 _ _ _ _ _) ([32]++sgn o++[32]) a3Y ⟨rfl,rfl,n_4 rfl⟩) rfl ?_);intro _ _;refine a1c [E8 TW 0 5 true (b++c0.txt ps (F0 o+1)++([32]++sgn o++[32])) (WR E ps en pn d1),.dead,.box (Ex.cells ⟨k,u,o,nm,o3 ch s⟩),.dead,.map (gm kv sv S0),A1 tU8 (b++c0.txt ps (F0 o+1)++([32]++sgn o++[32])).length] rfl ?_;refine a8D ?_;refine d3k ?_;refine qD (c5 rfl b1G a3A (hI 1 c1 g1 (F0 o+1) (dp) _ (b++c0.txt ps (F0 o+1)++([32]++sgn o++[32])) _ trivial om_ om_ a3Y _ _ _ ⟨rfl,rfl,n_4 rfl⟩) rfl ?_);rintro d2 _;dsimp only;exact ⟨_,rE0,⟨d2,d5I,tt⟩⟩
     ·have u5:¬ F0 o=1:=sp_ h5;have eT:T=c0.txt ps (F0 o)++([32]++sgn o++[32])++c1.txt ps (F0 o+1):=by rw [hT,ndT,n_0 om_,n_0 om_,n_1 u4];simp only [a5m,Z8 ps ch _ 0 c0 g0,Z8 ps ch _ 1 c1 g1,a8H];simp [a0C,u4,u5]
      rw [eT] at hb;refine qY d4g ?_;refine qD (c5 rfl b1G a3A (hI 0 c0 g0 (F0 o) (dp) _ (b) _ trivial om_ om_ a3Y _ _ _ ⟨rfl,rfl,n_4 rfl⟩) rfl ?_);rintro d1 _;dsimp only;refine qN [E8 TW 0 3 true (b++c0.txt ps (F0 o)) (WR E ps en pn d1),.dead,.box (Ex.cells ⟨k,u,o,nm,o3 ch s⟩),A1 tU8 (b++c0.txt ps (F0 o)).length] rfl ?_;refine d2d ?_;refine chf rfl c8c ?_;refine chf rfl (c9 rfl b64) ?_;refine chf rfl a90 ?_;refine d2Y ?_;intro _ _;refine a1c [E8 TW 0 3 true (b++c0.txt ps (F0 o)) (WR E ps en pn d1),.dead,.box (Ex.cells ⟨k,u,o,nm,o3 ch s⟩),A1 tU8 (b++c0.txt ps (F0 o)).length,.map (gm kv sv S0)] rfl ?_;refine d3e ?_;refine D7 rfl rfl (c9 rfl (G8 rfl rfl tt rfl rfl (by show 1+(sgn o).length<=_;omega))) ⟨⟨F3,a1F,b2h,tt⟩,?_⟩;refine D7 rfl rfl d5u ⟨⟨F3,a1F,b2h,tt⟩,?_⟩;refine B8 rfl rfl rfl (c5 rfl a2p j1 (z6 a16 _ (b++c0.txt ps (F0 o)) (F2 _ _ _ _ _) ([32]++sgn o++[32]) a3Y ⟨rfl,rfl,n_4 rfl⟩) rfl ?_);intro _ _;refine a1c [E8 TW 0 5 true (b++c0.txt ps (F0 o)++([32]++sgn o++[32])) (WR E ps en pn d1),.dead,.box (Ex.cells ⟨k,u,o,nm,o3 ch s⟩),.dead,.map (gm kv sv S0),A1 tU8 (b++c0.txt ps (F0 o)++([32]++sgn o++[32])).length] rfl ?_;refine a8D ?_;refine d3k ?_;refine qD (c5 rfl b1G a3A (hI 1 c1 g1 (F0 o+1) (dp) _ (b++c0.txt ps (F0 o)++([32]++sgn o++[32])) _ trivial om_ om_ a3Y _ _ _ ⟨rfl,rfl,n_4 rfl⟩) rfl ?_);rintro d2 _;dsimp only;exact ⟨_,rE0,⟨d2,d5I,tt⟩⟩
    ·have u4:¬ k=4:=sp_ h4;have ep:a0C k o=[]:=by rw [a0C,n_0 u4]
     refine qk ?_;refine cC ?_ ?_<;>intro h6
     ·have u6:k=5:=sp_ h6;have du:ch.length=3:=by have:=hn.cnt;rw [n_0 u4,n_1 u6] at this;exact this
      have eT:T=ifP (H5 ps ch []) 3:=by
       rw [hT,ndT,n_0 om_,n_0 om_,n_0 om_,n_1 u6,ep];simp [ifP,W3]
      have bW:=d1o (H5 ps ch []);rw [eT] at hb;refine K8 [E8 TW 0 1 a b (WR E ps en pn (max d dp)),A1 tU8 b.length,.box (Ex.cells ⟨k,u,o,nm,o3 ch s⟩)] rfl ?_;refine c9Y TW 0 1 a b (WR E ps en pn (max d dp)) ⟨rfl,rfl,n_4 rfl⟩ ?_;refine K8 [E8 TW 0 3 a b (WR E ps en pn (max d dp)),.dead,.box (Ex.cells ⟨k,u,o,nm,o3 ch s⟩),A1 tU8 b.length] rfl ?_;refine qk (qY (B3 (W3.map scv) rfl ⟨rfl,rfl,rfl,tt⟩ t_2 t_0 t_3 rfl rfl rfl rfl rfl rfl rfl rfl rfl) ?_);refine qY I7 ?_;refine B9 hCC 4 rfl (α:=Nat × Bool × Bool × Int) (fun x=>[(0,.ptr 0 0),(3,iv dp),(8,.ptr 2 0),(127,.list (W3.map scv) true none),(128,(iv (3))),(129,iv x.1)]) (fun x=>[E8 TW 0 (kp x.2.1) x.2.2.1 (b++ifP (H5 ps ch []) x.1) (WR E ps en pn x.2.2.2),.dead,.box (Ex.cells ⟨k,u,o,nm,o3 ch s⟩),op1 x.2.1 (b++ifP (H5 ps ch []) x.1).length,op2 x.2.1 (b++ifP (H5 ps ch []) x.1).length]) (fun x=>x.1<=3/\(0 < x.1->x.2.2.1=true)) (fun x=>3 - x.1) ⟨(0,false,a,max d dp),[0,1,2,3,7],⟨n_5 _,fun h=>absurd h (Nat.lt_irrefl _)⟩,⟨rfl,rfl⟩,ut_,⟨.inr ⟨_,rfl,a5O de_ rfl (F2 _ _ _ _ _) (by simp [ifP])⟩,.inl rfl,.inr ⟨_,rfl,.same rfl b4Z⟩,.inr ⟨_,rfl,S2 (by simp [ifP])⟩,.inl rfl,tt⟩⟩ ?_;intro ⟨m,ph,a',d'⟩ ⟨hm,hma⟩;dsimp only at hm hma ⊢;refine qk (qC ?_ ?_)<;> intro h7
      ·have ae:m < 3:=sm_ h7;obtain ⟨w,gw⟩:=d4H ae;obtain ⟨c,gm⟩:=a7a (m:=m) du ae;have hzm:=a2t gm;have es:ifP (H5 ps ch []) (m+1)=ifP (H5 ps ch []) m++w++c.txt ps 0:=by
        rw [ifP];simp only [a5m,gw,Z8 ps ch _ m c gm,a8H];simp
       have hbm:=bW (m+1) om_;rw [es] at hbm;refine qY (o9 rfl tt tt rfl rfl t_2 t_0 om_ (i8 gw) rfl) ?_;refine qD (c5 rfl a2p j1 (z6 a16 _ (b++ifP (H5 ps ch []) m) (F2 _ _ _ _ _) (w) (by simp only [M4] at hb hbm ⊢;omega) ⟨rfl,by cases ph<;>rfl,by cases ph<;>exact n_4 rfl⟩) rfl ?_);intro _ _;refine qN [E8 TW 0 5 true (b++ifP (H5 ps ch []) m++w) (WR E ps en pn d'),.dead,.box (Ex.cells ⟨k,u,o,nm,o3 ch s⟩),.dead,.dead,A1 tU8 (b++ifP (H5 ps ch []) m++w).length] O1 ?_;refine qY (o9 rfl tt tt rfl rfl t_4 t_1 om_ (i8 (K4 gm)) rfl) ?_;refine qY o7 ?_;refine qD (c5 rfl b1G ⟨tt,tt,rfl,tt,tt⟩ (hI m c gm 0 (dp+1) _ (b++ifP (H5 ps ch []) m++w) _ trivial om_ om_ (by simp only [M4] at hb hbm ⊢;omega) _ _ _ ⟨rfl,rfl,n_4 rfl⟩) rfl ?_);rintro d3 _;dsimp only;refine qN [E8 TW 0 6 true (b++ifP (H5 ps ch []) m++w++c.txt ps 0) (WR E ps en pn d3),.dead,.box (Ex.cells ⟨k,u,o,nm,o3 ch s⟩),.dead,.dead,.dead,A1 tU8 (b++ifP (H5 ps ch []) m++w++c.txt ps 0).length] rfl (qY o7 ?_);exact ⟨(m+1,true,true,d3),[0,1,2,3,6],(show 3 - (m+1) < 3 - m/\m+1<=3/\(0 < m+1->true=true) from ⟨om_,om_,fun _=>rfl⟩),⟨rfl,rfl⟩,ut_,⟨.inr ⟨_,rfl,a5O de_ rfl (F2 _ _ _ _ _) c0T⟩,.inl rfl,.inr ⟨_,rfl,.same rfl b4Z⟩,.inl rfl,.inr ⟨_,rfl,S2 c0T⟩,tt⟩⟩
      ·have h3m:m=3:=sm_ h7;subst h3m;obtain rfl:=hma de_;refine j6 ?_;exact ⟨_,rE0,⟨d',(by rw [eT];exact b21 (k:=kp ph) rfl O1 (by cases ph<;>decide) (F2 _ _ _ _ _) a21),tt⟩⟩
     ·have u6:¬ k=5:=sp_ h6;refine qk ?_;refine cC ?_ ?_<;>intro h8
      ·refine K8 [E8 TW 0 1 a b (WR E ps en pn (max d dp)),A1 tU8 b.length,.box (Ex.cells ⟨k,u,o,nm,o3 ch s⟩)] rfl ?_;have u8:k=3:=sp_ h8;have eT:T=nm++[40]++J2 [44,32] (H5 ps ch [])++[41]:=by
        rw [hT,ndT,n_0 om_,n_0 om_,n_0 om_,n_0 om_,n_1 u8,ep]
       have bW:=a7B [44,32] (H5 ps ch []);rw [eT] at hb;have hbn:=hb;simp only [M4,C4,I3] at hbn;refine qk ?_;refine cW 6 ?_;refine b2w ?_;refine b6U ?_;refine hY (G8 rfl tt rfl rfl rfl (by show nm.length+1<=_;omega)) ?_;refine Y5 ?_;refine qD (c5 rfl a2p j1 (z6 a16 _ (b) (F2 _ _ _ _ _) (nm++[40]) a3Y ⟨rfl,rfl,n_4 rfl⟩) rfl ?_);intro _ _;refine qN [E8 TW 0 3 true (b++(nm++[40])) (WR E ps en pn (max d dp)),.dead,.box (Ex.cells ⟨k,u,o,nm,o3 ch s⟩),A1 tU8 (b++(nm++[40])).length] rfl (qY a02 ?_);refine B9 hCC 4 rfl (α:=Nat × Bool × Int) (fun x=>[(0,.ptr 0 0),(3,iv dp),(159,.list ((o3 ch s).map icv) (gnn (o3 ch s).length) none),(160,(iv ((o3 ch s).length:Int))),(161,iv x.1)]) (fun x=>[E8 TW 0 (kp x.2.1) true (b++(nm++[40])++F6 [44,32] (H5 ps ch []) x.1) (WR E ps en pn x.2.2),.dead,.box (Ex.cells ⟨k,u,o,nm,o3 ch s⟩),op1 x.2.1 (b++(nm++[40])++F6 [44,32] (H5 ps ch []) x.1).length,op2 x.2.1 (b++(nm++[40])++F6 [44,32] (H5 ps ch []) x.1).length]) (fun x=>x.1<=ch.length) (fun x=>ch.length - x.1) ⟨(0,false,max d dp),[0,1,2,3,7],(n_5 _),⟨rfl,rfl⟩,ut_,⟨.inr ⟨_,rfl,a5O de_ rfl (F2 _ _ _ _ _) (by simp [F6,J2])⟩,.inl rfl,.inr ⟨_,rfl,.same rfl b4Z⟩,.inr ⟨_,rfl,S2 (by simp [F6,J2])⟩,.inl rfl,tt⟩⟩ ?_;intro ⟨m,ph,d'⟩ hm;dsimp only at hm ⊢;have cE:=R0 ch s;have cr:=b7N ch;refine qk ?_;refine cC ?_ ?_<;>intro h9
       ·have ae:m < ch.length:=sm_ h9;obtain ⟨c,gm⟩:=a7a (m:=m) rfl ae;have hzm:=a2t gm;have es:=Y4 (sep:=[44,32]) (Z8 ps ch [] m c gm);have hbm:=bW (m+1);rw [es] at hbm;simp only [M4,List.getD_nil] at hbm es;refine qk (qY (o9 rfl tt tt rfl rfl t_4 t_1 om_ (i8 (K4 gm)) rfl) ?_);refine qC ?_ ?_<;>intro aU
        ·have u10:¬ m=0:=sm_ aU;rw [n_0 u10] at hbm es;refine qD (c5 rfl a2p o4 (z6 a16 _ (b++(nm++[40])++F6 [44,32] (H5 ps ch []) m) (F2 _ _ _ _ _) ([44,32]) c8x ⟨rfl,by cases ph<;>rfl,by cases ph<;>exact n_4 rfl⟩) rfl ?_);intro _ _;refine qN [E8 TW 0 5 true (b++(nm++[40])++F6 [44,32] (H5 ps ch []) m++[44,32]) (WR E ps en pn d'),.dead,.box (Ex.cells ⟨k,u,o,nm,o3 ch s⟩),.dead,.dead,A1 tU8 (b++(nm++[40])++F6 [44,32] (H5 ps ch []) m++[44,32]).length] O1 ?_;refine qY o7 ?_;refine qD (c5 rfl b1G ⟨tt,tt,rfl,tt,tt⟩ (hI m c gm 0 (dp+1) _ (b++(nm++[40])++F6 [44,32] (H5 ps ch []) m++[44,32]) _ trivial om_ om_ c8x _ _ _ ⟨rfl,rfl,n_4 rfl⟩) rfl ?_);rintro d3 _;dsimp only;refine qN [E8 TW 0 6 true (b++(nm++[40])++F6 [44,32] (H5 ps ch []) m++[44,32]++c.txt ps 0) (WR E ps en pn d3),.dead,.box (Ex.cells ⟨k,u,o,nm,o3 ch s⟩),.dead,.dead,.dead,A1 tU8 (b++(nm++[40])++F6 [44,32] (H5 ps ch []) m++[44,32]++c.txt ps 0).length] rfl (qY o7 ?_);exact ⟨(m+1,true,d3),[0,1,2,3,6],do_,⟨rfl,rfl⟩,ut_,⟨.inr ⟨_,rfl,a5O de_ rfl (F2 _ _ _ _ _) c0T⟩,.inl rfl,.inr ⟨_,rfl,.same rfl b4Z⟩,.inl rfl,.inr ⟨_,rfl,S2 c0T⟩,tt⟩⟩
        ·have u10:m=0:=sm_ aU;rw [n_1 u10] at hbm es;refine qY o7 ?_;refine qD (c5 rfl b1G ⟨tt,tt,rfl,tt,tt⟩ (hI m c gm 0 (dp+1) _ (b++(nm++[40])++F6 [44,32] (H5 ps ch []) m) _ trivial om_ om_ c8x _ _ _ ⟨rfl,by cases ph<;>rfl,by cases ph<;>exact n_4 rfl⟩) rfl ?_);rintro d3 _;dsimp only;refine qN [E8 TW 0 5 true (b++(nm++[40])++F6 [44,32] (H5 ps ch []) m++c.txt ps 0) (WR E ps en pn d3),.dead,.box (Ex.cells ⟨k,u,o,nm,o3 ch s⟩),.dead,.dead,A1 tU8 (b++(nm++[40])++F6 [44,32] (H5 ps ch []) m++c.txt ps 0).length] O1 ?_;refine qY o7 ?_;exact ⟨(m+1,true,d3),[0,1,2,3,5],do_,⟨rfl,rfl⟩,ut_,⟨.inr ⟨_,rfl,a5O de_ rfl (F2 _ _ _ _ _) (by rw [es];simp only [F7,a72])⟩,.inl rfl,.inr ⟨_,rfl,.same rfl b4Z⟩,.inl rfl,.inr ⟨_,rfl,S2 (by rw [es];simp only [F7,a72])⟩,tt⟩⟩
       ·have bX:m=ch.length:=sm_ h9;subst bX;have ej:F6 [44,32] (H5 ps ch []) ch.length=J2 [44,32] (H5 ps ch []):=by rw [F6,W1 (by rw [a4d];exact n_6 _)]
        rw [ej];refine j6 ?_;refine qD (c5 rfl c03 o4 (a08 a16 _ (b++(nm++[40])++J2 [44,32] (H5 ps ch [])) (F2 _ _ _ _ _) 41 (by simp only [M4,C4,I3] at hbn ⊢;omega) ⟨rfl,by cases ph<;>rfl,by cases ph<;>exact n_4 rfl⟩) rfl ?_);intro _ _;refine qN [E8 TW 0 5 true (b++(nm++[40])++J2 [44,32] (H5 ps ch [])++[41]) (WR E ps en pn d'),.dead,.box (Ex.cells ⟨k,u,o,nm,o3 ch s⟩),.dead,.dead,A1 tU8 (b++(nm++[40])++J2 [44,32] (H5 ps ch [])++[41]).length] O1 ?_;exact ⟨_,rE0,⟨d',d5E,tt⟩⟩
      ·have u8:¬ k=3:=sp_ h8;refine qk ?_;refine cC ?_ ?_<;>intro ck
       ·refine K8 [E8 TW 0 1 a b (WR E ps en pn (max d dp)),A1 tU8 b.length,.box (Ex.cells ⟨k,u,o,nm,o3 ch s⟩)] rfl ?_;have u11:k=6:=sp_ ck;have du:ch.length=1:=by have:=hn.cnt;rw [n_0 u4,n_0 u6,n_1 u11] at this;exact this
        obtain ⟨c0,g0⟩:=a7a (m:=0) du de_;have eE:=a2t g0;have eT:T=([114,101,97,100,40,34]++nm++[34,44,32])++c0.txt ps 0++[41]:=by
         rw [hT,ndT,n_0 om_,n_0 om_,n_0 om_,n_0 om_,n_0 om_,n_1 u11,ep];simp only [a5m,Z8 ps ch _ 0 c0 g0,a8H];simp
        rw [eT] at hb;have hbn:=hb;simp only [M4,C4,I3] at hbn;refine qk ?_;refine cW 7 ?_;refine b2w ?_;refine b6U ?_;refine hY (G8 rfl rfl tt rfl rfl (by show 6+nm.length<=_;omega)) ?_;refine hY (G8 rfl tt rfl rfl rfl (by show ([114,101,97,100,40,34]++nm:Str).length+3<=_;rw [M4];simp;omega)) ?_;refine Y5 ?_;refine qD (c5 rfl a2p j1 (z6 a16 _ (b) (F2 _ _ _ _ _) ([114,101,97,100,40,34]++nm++[34,44,32]) a3Y ⟨rfl,rfl,n_4 rfl⟩) rfl ?_);intro _ _;refine qN [E8 TW 0 3 true (b++([114,101,97,100,40,34]++nm++[34,44,32])) (WR E ps en pn (max d dp)),.dead,.box (Ex.cells ⟨k,u,o,nm,o3 ch s⟩),A1 tU8 (b++([114,101,97,100,40,34]++nm++[34,44,32])).length] rfl (qY d4g ?_);refine qY o7 ?_;refine qD (c5 rfl b1G ⟨tt,tt,rfl,tt,tt⟩ (hI 0 c0 g0 (0) (dp+1) _ (b++([114,101,97,100,40,34]++nm++[34,44,32])) _ trivial om_ om_ a3Y _ _ _ ⟨rfl,rfl,n_4 rfl⟩) rfl ?_);rintro d3 _;dsimp only;refine qN [E8 TW 0 4 true (b++([114,101,97,100,40,34]++nm++[34,44,32])++c0.txt ps 0) (WR E ps en pn d3),.dead,.box (Ex.cells ⟨k,u,o,nm,o3 ch s⟩),.dead,A1 tU8 (b++([114,101,97,100,40,34]++nm++[34,44,32])++c0.txt ps 0).length] rfl (qD (c5 rfl c03 o4 (a08 a16 _ (b++([114,101,97,100,40,34]++nm++[34,44,32])++c0.txt ps 0) (F2 _ _ _ _ _) 41 a3Y ⟨rfl,rfl,n_4 rfl⟩) rfl ?_));intro _ _;exact ⟨_,rE0,⟨d3,d5E,tt⟩⟩
       ·have u11:¬ k=6:=sp_ ck;refine qk ?_;refine cC ?_ ?_<;>intro cQ
        ·refine K8 [E8 TW 0 1 a b (WR E ps en pn (max d dp)),A1 tU8 b.length,.box (Ex.cells ⟨k,u,o,nm,o3 ch s⟩)] rfl ?_;have u12:k=10:=sp_ cQ;have hr12:=hn.k10 u12;have eT:T=[102,108,105,112,40]++Lib.itoa u++[41]:=by
          rw [hT,ndT,n_0 om_,n_0 om_,n_0 om_,n_0 om_,n_0 om_,n_0 om_,n_1 u12]
         rw [eT] at hb;have bh:=a3V (n:=u) om_ om_;refine cW 8 ?_;refine b2w ?_;refine b2P ?_;refine hY (c4 rfl c69 ⟨tt,tt⟩ (b8k u om_ om_ _) rfl) ?_;refine hY (G8 rfl rfl tt rfl rfl (by show 5+(Lib.itoa u).length<=_;omega)) ?_;refine hY (G8 rfl tt rfl rfl rfl (by show ([102,108,105,112,40]++Lib.itoa u:Str).length+1<=_;rw [M4];simp;omega)) ?_;refine Y5 ?_;refine qD (c5 rfl a2p j1 (z6 a16 _ (b) (F2 _ _ _ _ _) ([102,108,105,112,40]++Lib.itoa u++[41]) a3Y ⟨rfl,rfl,n_4 rfl⟩) rfl ?_);intro _ _;exact ⟨_,rE0,⟨(max d dp),c5N,tt⟩⟩
        ·refine K8 [E8 TW 0 1 a b (WR E ps en pn (max d dp)),A1 tU8 b.length,.box (Ex.cells ⟨k,u,o,nm,o3 ch s⟩)] rfl ?_;have u12:¬ k=10:=sp_ cQ;have eT:T=a5E k++[40,34]++nm++[34,41]:=by
          rw [hT,ndT,n_0 om_,n_0 om_,n_0 om_,n_0 om_,n_0 om_,n_0 om_,n_0 om_];simp only [F7]
         rw [eT] at hb;have hbn:=hb;simp only [M4,C4,I3] at hbn;have hwl:=b1M k;refine qk (qD (S4 rfl ?_));refine qD (l8 (vc:=sv) (l:=W0.take 0) (a:=7) (b:=[115,105,122,101]) a0m (.inr rfl) tt rfl rfl rfl rfl rfl a1Y rfl ?_);refine qD (l8 (vc:=sv) (l:=W0.take 1) (a:=8) (b:=[104,97,115]) a0m (.inr rfl) tt rfl rfl rfl rfl rfl a1Y rfl ?_);refine qD (l8 (vc:=sv) (l:=W0.take 2) (a:=9) (b:=[101,110,118]) a0m (.inr rfl) tt rfl rfl rfl rfl rfl a1Y rfl ?_);refine qY (R5 (vc:=sv) (l:=W0) (a:=k) a0m rfl tt tt rfl rfl a1Y t_3 rfl rfl ((a5f ([]:Str) rfl _).trans (n_9 sv (c6X k)))) ?_;refine cW 9 ?_;refine b2w ?_;refine hY A3 ?_;refine hY (G8 rfl tt rfl rfl rfl (by first|omega|(simp only [C4,I3];omega))) ?_;refine b6U ?_;refine hY (G8 rfl tt tt rfl rfl (by first|omega|(simp only [M4,C4,I3];omega))) ?_;refine hY (G8 rfl tt rfl rfl rfl (by first|omega|(simp only [M4,C4,I3];omega))) ?_;refine Y5 ?_;refine qD (c5 rfl a2p j1 (z6 a16 _ (b) (F2 _ _ _ _ _) (a5E k++[40,34]++nm++[34,41]) a3Y ⟨rfl,rfl,n_4 rfl⟩) rfl ?_);intro _ _;exact ⟨_,rE0,⟨(max d dp),(by rw [eT];exact b21 (k:=4) rfl rfl de_ (F2 _ _ _ _ _) a21),tt⟩⟩
theorem c2D {k:Int} (dY:a7H E (.n k u o nm ch) s) (T:Str) (pl dp:Int) (aT:a3w k o < pl) (bR:0<=dp) (hd:dp+2*((x8 ch+1:Nat):Int)+1<=1000000000) (a:Bool) (b:Str) (d:Int) (hb:b.length+([40]++T++[41]:Str).length<=100000000000000)
 (hW:∀ (dp:Int) (a:Bool) (b:Str) (d:Int),0<=dp->dp+2*((x8 ch+1:Nat):Int)<=1000000000->b.length+T.length<=100000000000000->∀ (σ:List b9) (q k:Nat),BAt σ q k TW a b (WR E ps en pn d) ->
  b8 CC 284 [.ptr q 0,iv ((s+x8 ch:Nat):Int),iv 0,iv dp] σ fun r τ=>∃ d':Int,r = .ret (.tup [])/\τ=(σ.set q (E8 TW q σ.length true (b++T) (WR E ps en pn d'))).set k .dead++[A1 tU8 (b++T).length]/\True) :
 b8 CC 284 [.ptr 0 0,(iv ((s+x8 ch:Nat):Int)),iv pl,iv dp] (bSt TW a b (WR E ps en pn d)) fun r τ=>∃ d':Int,F8 2 τ r (.ret (.tup [])) (a7D TW (b++([40]++T++[41])) (WR E ps en pn d'))/\True:=by
 refine d2T ?_;refine d1N ?_;refine cC ?_ ?_<;>intro h1
 ·refine K8 [E8 TW 0 1 a b (WR E ps en pn d),A1 tU8 b.length,.box (Ex.cells ⟨k,u,o,nm,o3 ch s⟩)] rfl ?_;refine qk (qD (c5 rfl c03 o4 (a08 a16 _ (b) (F2 _ _ _ _ _) 40 a3Y ⟨rfl,rfl,n_4 rfl⟩) rfl ?_));intro _ _;refine qN [E8 TW 0 3 true (b++[40]) (WR E ps en pn d),.dead,.box (Ex.cells ⟨k,u,o,nm,o3 ch s⟩),A1 tU8 (b++[40]).length] rfl (qY o7 ?_);refine qD (c5 rfl b1G ⟨tt,tt,rfl,tt,tt⟩ (hW (dp+1) true (b++[40]) d om_ om_ a3Y _ 0 3 ⟨rfl,rfl,n_4 rfl⟩) rfl ?_);rintro d1 _;dsimp only;refine qN [E8 TW 0 4 true (b++[40]++T) (WR E ps en pn d1),.dead,.box (Ex.cells ⟨k,u,o,nm,o3 ch s⟩),.dead,A1 tU8 (b++[40]++T).length] rfl (qD (c5 rfl c03 o4 (a08 a16 _ (b++[40]++T) (F2 _ _ _ _ _) 41 a3Y ⟨rfl,rfl,n_4 rfl⟩) rfl ?_));intro _ _;refine c6 ?_;exact ⟨_,rE0,⟨d1,(by simp only [<- F7];exact b21 (k:=5) rfl rfl de_ (F2 _ _ _ _ _) a21),tt⟩⟩
 ·exact absurd aT (sp_ h1)
theorem a48 {np d:Nat}:∀ {l:List Tr} {m:Nat} {c:Tr},wfL np d l->l[m]? = some c->c.wf np d
 | [],_,_,_,h=>by simp at h
 | t::l,0,c,h,hc=>by rw [wfL] at h;injection hc with hc;subst hc;exact h.1
 | t::l,m+1,c,h,hc=>by rw [wfL] at h;exact a48 h.2 (sp_ hc)
theorem c5D (k o:Int):0<=a3w k o:=by
 unfold a3w
 split;decide
 split
 ·have:=b4F o;omega
 ·decide
theorem b63 {E:List Ex} {ps:List Str} {en pn:Bool} (hE:E.length<=1000000):∀ (n:Nat) (t:Tr) (s:Nat),t.size<=n->a7H E t s->(∃ d,t.wf ps.length d)->WEG E ps en pn t s (fun _=>True)
 | 0,t,_,h,_,_=>by have:=t.size_pos;omega
 | n+1,.n k u o nm ch,s,aF,dY,⟨dd,hw⟩=>by
  rw [Tr.wf] at hw;obtain ⟨_,hn,hwl⟩:=hw;have hI:∀ m c,ch[m]? = some c->WEG E ps en pn c (s+x8 (ch.take m)) (fun _=>True):=fun m c hc=>by
   have:=a2t hc;rw [Tr.size] at aF;exact b63 hE n c _ om_ (dY.child hc) ⟨_,a48 hwl hc⟩
  intro pl dp a b d _ bR hd hb σ q k' ao;rw [Tr.size] at hd ⊢;rw [show s+(x8 ch+1) - 1=s+x8 ch by omega];rw [Tr.txt] at hb ⊢;by_cases aT:a3w k o < pl
  ·rw [n_1 aT] at hb ⊢;refine a9x (c2D dY (ndT ps k u o nm (H5 ps ch (a0C k o))) pl dp aT bR om_ a b d hb fun dp' a' b' d' h0 h1 h2 Y q' k'' hσ'=>?_) σ q k' ao;have hp0:=c5D k o;exact a9x (b1O dY hn hE hI _ rfl 0 dp' om_ h0 h1 a' b' d' h2) Y q' k'' hσ'
  ·rw [n_0 aT] at hb ⊢;exact a9x (b1O dY hn hE hI _ rfl pl dp aT bR om_ a b d hb) σ q k' ao
def a8M (cs:List Str):Nat:=(cs.map List.length).sum
theorem c6x (cs:List Str):(cs.getD 0 []).length+(cs.getD 1 []).length+(cs.getD 2 []).length<=a8M cs:=by
 rcases cs with _ | ⟨a,_ | ⟨b,_ | ⟨c,l⟩⟩⟩<;>simp [a8M,List.getD]<;>omega
theorem a2Z (sep:Str):∀ cs:List Str,(J2 sep cs).length<=a8M cs+sep.length*cs.length
 | []=>by simp [J2]
 | [x]=>by simp [J2,a8M]
 | x::y::l=>by
  have:=a2Z sep (y::l);simp only [J2,n_7,a8M,b3E,List.sum_cons,C4,Nat.mul_add] at this ⊢;omega
theorem c1Z (hp:∀ s∈ps,s.length<=80) {k:Int} {c:Nat} (hn:U6 ps.length k u o nm c) (cs:List Str):(ndT ps k u o nm cs).length<=a8M cs+2*cs.length+290:=by
 have hg:=c6x cs;have hj:=a2Z [44,32] cs;have hs:=c0N o;have hw:=b1M k;have bI:=hn.len;have e2:([44,32]:Str).length=2:=rfl;rw [e2] at hj;unfold ndT
 split
 ·rename_i h1;have:=hn.k1 h1;have:=a3V (n:=u) om_ om_;omega
 split
 ·have:(ps.getD u.toNat []).length<=80:=by
   rw [a5m];cases hh:ps[u.toNat]? with
   | none=>exact n_5 _
   | some x=>exact hp x (n_2 hh)
  omega
 split
 ·simp only [n_7,C4,I3];omega
 split
 ·simp only [n_7,C4,I3];omega
 split
 ·simp only [n_7,C4,I3];omega
 split
 ·simp only [n_7,C4,I3];omega
 split
 ·rename_i aU;have:=hn.k10 aU;have:=a3V (n:=u) om_ om_;simp only [n_7,C4,I3];omega
 ·simp only [n_7,C4,I3];omega
mutual
theorem Tr.txt_len {ps:List Str} (hp:∀ s∈ps,s.length<=80):∀ (t:Tr) (d:Nat) (pl:Int),t.wf ps.length d->(t.txt ps pl).length+2<=300*t.size
 | .n k u o nm ch,d,pl,h=>by
  rw [Tr.wf] at h;have h1:=c1Z hp h.2.1 (H5 ps ch (a0C k o));have h2:=a7O hp ch _ (a0C k o) h.2.2;rw [a4d] at h1;rw [Tr.txt,Tr.size];have:([40]++ndT ps k u o nm (H5 ps ch (a0C k o))++[41]:Str).length=(ndT ps k u o nm (H5 ps ch (a0C k o))).length+2:=by simp
  split
  ·rw [this];omega
  ·omega
theorem a7O {ps:List Str} (hp:∀ s∈ps,s.length<=80):∀ (l:List Tr) (d:Nat) (cj:List Int),wfL ps.length d l->a8M (H5 ps l cj)+2*l.length<=300*x8 l
 | [],_,_,_=>by simp [H5,a8M]
 | t::l,d,cj,h=>by
  rw [wfL] at h;have h1:=Tr.txt_len hp t d (cj.headD 0) h.1;have h2:=a7O hp l d cj.tail h.2;rw [H5,x8];simp only [a8M,b3E,List.sum_cons,C4] at h2 ⊢;omega
end
theorem c3U (en pn:Bool) (hE:E.length<=1000000) (t:Tr) (ht:E=t.flat 0) (hw:∃ d,t.wf ps.length d) (hp:∀ s∈ps,s.length<=80):b8 CC 245 [(.list (E.map Ex.cv) en none),(.list (ps.map scv) pn none)] [] fun r τ=>∃ d:Int,a0T 0 τ r (.ret (.tup [sv (t.txt ps 0),iv d]))/\True:=by
 have aF:E.length=t.size:=by rw [ht,Tr.flat_len]
 have gx:=t.size_pos;have dY:a7H E t 0:=⟨[],[],by rw [ht];simp,rfl⟩;obtain ⟨dd,hwd⟩:=hw;have htl:=t.txt_len hp dd 0 hwd;have hx:=b63 (en:=en) (pn:=pn) hE t.size t 0 (n_6 _) dY ⟨dd,hwd⟩ 0 1 false [] 0 trivial om_ om_ (by simp only [I3];omega) ([E8 TW 0 1 false [] (WR E ps en pn 0)]++[.dead]) 0 1 ⟨rfl,rfl,n_4 rfl⟩;replace hx:=U2 hx;rw [show ((0+t.size - 1:Nat):Int)=(E.length:Int) - 1 by omega] at hx;simp only [a72] at hx;refine qO Tryz.func245 ?_;refine qY (A7 #[(0,2),(2,1),(3,1),(4,1)] rfl j1 c2w Tryz.zeroValue309 rfl ⟨_,rfl⟩ (fun w=>by kernel_rfl) rfl rfl) ?_;refine qD (d4I rfl tt j2 j4 ?_);refine b5z ?_;refine qD (c5 rfl b1G ⟨tt,tt,rfl,rfl,tt⟩ (hx) rfl ?_);rintro d1 _;dsimp only;refine cF [] [0,1,2,4,5,6,7] (tl:=[(3,[3,4,5,6]),(8,[3,4,5,6]),(9,[])]) ?_;refine b1q ?_;refine chf rfl c8c ?_;refine b1q ?_;refine chf rfl (c9 rfl c8a) ?_;refine chf rfl a90 ?_;refine D6 ?_;refine B8 rfl rfl rfl (c5 rfl c4R ⟨tt,tt⟩ (a2H (rest:=WR E ps en pn d1) (T:=TW) (F2 _ _ _ _ _) true _ (q:=0) (k:=2) ⟨rfl,rfl,n_4 rfl⟩) rfl ?_);intro _ _;refine ⟨⟨F3,a1F,(by exact c9 rfl c8a),a9z,tt⟩,?_⟩;refine D7 rfl rfl b3e ⟨⟨F3,a1F,(by exact c9 rfl c8a),a9z,tt⟩,?_⟩;refine b3f ?_;exact ⟨_,p8 (rs:=[.tmp 4,.tmp 5]) (cs:=[_,_]) rfl T1 (n_4 rfl),⟨d1,.ret (.old (C0 (cs:=[sv (t.txt ps 0),iv d1]) ⟨.val _,.val _,tt⟩).old),tt⟩⟩
theorem c5J (en pn:Bool) (hE:E.length<=1000000) (t:Tr) (ht:E=t.flat 0) (hw:∃ d,t.wf ps.length d) (hp:∀ s∈ps,s.length<=80) (σ:List b9):b8 CC 245 [(.list (E.map Ex.cv) en none),(.list (ps.map scv) pn none)] σ fun r τ=>∃ d:Int,r = .ret (.tup [sv (t.txt ps 0),iv d])/\τ=σ/\True :=
 G4 (res:=fun d:Int=>.ret (.tup [sv (t.txt ps 0),iv d])) (P:=fun _=>True) hCC (fun c hc=>by simp at hc;rcases hc with rfl | rfl;exact a0i _ _;exact E7 _ _) (c3U en pn hE t ht hw hp) (fun d _=>C0 ⟨.val _,.val _,tt⟩) σ
abbrev tSB:Nat:=244
theorem a4k:a4A tSB 2:=by unfold a4A;kernel_rfl
def d3S (T:TypeId) (rest:List CV):List b9:=[.boxT (some T) (.ptr 0 0::.list [] true (some 2)::rest),.dead,.tipT (some tU8) 0]
theorem c66 {c:CV} {obs:List b9}:b8 CC 246 [.ptr 0 0] (.boxT (some T) (.ptr 0 0::c::rest)::obs) fun r τ=>∃ _:Unit,r = .ret (.tup [])/\τ = .boxT (some T) (.ptr 0 0::c::rest)::obs/\True:=by
 refine qO c5u ?_;refine qY (b6e rfl tt rfl c6l) ?_;refine qC ?_ ?_<;>intro h1
 ·cases h1
 ·refine qY (b26 rfl tt tt rfl rfl 244 B4 B4) ?_;refine qC ?_ ?_<;>intro h2
  ·cases h2
  ·exact ⟨_,rE0,⟨(),rfl,rfl,tt⟩⟩
theorem c95 (n:Nat) (h1:1<=n) (h2:n<=1000000000):b8 CC 286 [.ptr 0 0,iv n] [.boxT (some T) (.ptr 0 0::.list [] false none::rest),.dead] fun r τ=>∃ _:Unit,r = .ret (.tup [])/\τ=d3S T rest/\True:=by
 refine cO Tryz.func286 ?_;refine D4 ?_;refine cF [] [0,1,2,3,4,5,6,7,9,10,11,12,13] (tl:=[(8,[8,9,10,11,12]),(14,[]),(15,[])]) ?_;refine b1q ?_;refine chf rfl (c9 rfl b2C) ?_;refine chf rfl (c9 rfl b6F) ?_;refine chf rfl (c9 rfl (c56 rfl tt rfl t_7)) ?_;refine chf rfl (c9 rfl (b5O rfl rfl tt rfl rfl om_ om_)) ?_;refine chf rfl X0 ?_;refine chf rfl (c9 rfl a3E) ?_;refine b1q ?_;refine chf rfl (c9 rfl b2C) ?_;refine chf rfl (c9 rfl b6F) ?_;refine chf rfl (c9 rfl a8k) ?_;refine D6 ?_;refine B8 rfl rfl rfl (b3P (t:=149) (e:=5) rfl Tryz.func308 rfl rfl rfl rfl B4 tt (n_9 (fun z:Int=>iv z) (show (2*0+(n:Int))=n by omega)) om_ ?_);refine ⟨⟨F3,a1F,(by exact c9 rfl b2C),(by exact c9 rfl b6F),(by exact c9 rfl a8k),tt⟩,?_⟩;refine D7 rfl rfl (c9 rfl (b6S rfl tt tt rfl rfl h1 t_7 t_9)) ⟨tt,?_⟩;refine b85 ?_;refine a6T ?_;refine cY a5D ?_;refine cY b2C ?_;refine cY b6F ?_;refine cD (d1d rfl tt tt rfl rfl t_7 t_9 ?_);refine z8 ?_;refine a3y ?_;refine cY A3 ?_;refine cY a5D ?_;refine cY b2C ?_;refine cD (j3 rfl tt tt rfl j2 c7g (.inl rfl) rfl rfl (nb rfl) ?_);refine z8 ?_;exact ⟨_,rE0,⟨(),rfl,rfl,tt⟩⟩
theorem d0D (hT:a4A T (rest.length+2)) (n:Nat) (aZ:1<=n) (cb:n<=1000000000):b8 CC 247 [.ptr 0 0,iv n] (bSt T false [] rest) fun r τ=>∃ _:Unit,r = .ret (.tup [])/\τ=d3S T rest/\True:=by
 refine qO Tryz.func247 ?_;refine qD (c5 rfl c1K ⟨tt,tt⟩ (b33 hT false []) rfl ?_);intro _ _;refine qC ?_ ?_<;>intro h1
 ·exact absurd (a9m h1) om_
 ·refine cW 13 ?_;refine a3Z ?_;refine b2q ?_;refine hY (c56 rfl tt rfl t_7) ?_;refine a3Z ?_;refine b2q ?_;refine hY a8k ?_;refine hY (b08 rfl tt tt rfl rfl si_ si_) ?_;refine hY A3 ?_;refine hY b0h ?_;refine Y5 ?_;refine qC ?_ ?_<;>intro h2
  ·refine qD (c5 rfl Tryz.call286 j1 (c95 n aZ cb) rfl ?_);intro _ _;exact ⟨_,rE0,⟨(),rfl,rfl,tt⟩⟩
  ·exact absurd (b7Y h2) (by show ¬ ¬ (0 - 0:Int) < n;omega)
theorem a8R (s:Str) (hs:s≠[]) (hl:s.length<=140737488355328):b8 CC 200 [.ptr 0 0,sv s] (d3S T rest) fun r τ=>∃ _:Unit,r = .ret (.tup [iv s.length,.val .nilIface])/\τ=[E8 T 0 3 true s rest,.dead,.dead,A1 tU8 s.length]/\True:=by
 refine qO Tryz.func200 ?_;refine qD (c5 rfl c1K ⟨tt,tt⟩ (c66) rfl ?_);intro _ _;refine qD (c9u (new:=s) (p:=2) rfl tt tt rfl (b4c rfl) t_7 t_9 b02 a3J rfl (.inr t_5) rfl rfl hs a8q ?_);refine d2W ?_;exact d1x
theorem d1c {a b:Int} (hb:0 < b) (h1:0<=a) (h2:a<=9223372036854775807):a6z .quo .i64 a b=some (.int .i64 (a.tdiv b)):=by
 have aC:b≠0:=by omega
 have h0:0<=a.tdiv b:=Int.tdiv_nonneg h1 om_;have h3:a.tdiv b<=a:=by rw [c1Q h1];exact Int.ediv_le_self b h1
 simp only [a6z,n_0 aC];rw [a83 om_ om_]
theorem c7C {sep:Str} {n:Int} (dK:sep.length=2) (h1:0 < n) (h2:n<=1000):¬ (9223372036854775807:Int).tdiv n<=(sep.length:Int):=by
 rw [dK,c1Q de_];have:=Int.le_ediv_of_mul_le h1 (show 1000000*n<=9223372036854775807 by omega);omega
theorem List.take_one_eq {α:Type} {l:List α} {x:α} (h:l[0]? = some x):l.take (0+1)=[x]:=by
 cases l with
 | nil=>simp at h
 | cons a l=>simp at h;subst h;rfl
theorem b0m {sep:Str} {l:List Str} (hs:sep.length=2) (hl:∀ s∈l,1<=s.length/\s.length<=1000):∀ m,(F6 sep l m).length<=m*1002
 | 0=>by simp [F6,J2]
 | m+1=>by
  have ih:=b0m (sep:=sep) (l:=l) hs hl m;cases hg:l[m]? with
  | none =>
   have:l.length<=m:=sp_ hg;have e:F6 sep l (m+1)=F6 sep l m:=by unfold F6;rw [W1 (show l.length<=m+1 by omega),W1 (show l.length<=m by omega)]
   rw [e];exact b8D ih (R6 _ (Nat.le_succ m))
  | some y =>
   have:=(hl y (n_2 hg)).2;rw [Y4 hg,n_7,n_7]
   split
   ·simp;omega
   ·omega
theorem a9L (l:List Str) (nn:Bool) (sep:Str) (dK:sep.length=2) (hl:l.length<=1000) (cT:∀ s∈l,1<=s.length/\s.length<=1000) (σ:List b9):b8 CC 201 [(.list (l.map scv) nn none),(sv sep)] σ fun r Y=>r = .ret (sv (J2 sep l))/\Y=σ:=by
 refine an_ Tryz.func201 ?_;refine qs 3 (qY I7 ?_);refine qC ?_ ?_<;>intro h1
 ·have h0:l=[]:=sp_ h1;refine c6 ?_;exact ⟨_,rE1,_,_,rfl,rfl,C9 (by rw [h0];rfl)⟩
 ·have dD:¬ l.length=0:=by simp at h1;simpa using h1
  refine qC ?_ ?_<;>intro h2
  ·have h1l:l.length=1:=sm_ h2;obtain ⟨e0,he0⟩:∃ e0,l=[e0]:=by
    rcases l with _ | ⟨a,_ | ⟨b,l⟩⟩
    ·simp at h1l
    ·exact ⟨a,rfl⟩
    ·simp at h1l
   have g0:l[0]? = some e0:=by rw [he0];rfl
   refine qY (o9 rfl tt rfl rfl rfl t_2 t_0 om_ (i8 g0) rfl) ?_;refine c6 ?_;exact ⟨_,rE1,_,_,rfl,rfl,C9 (by rw [he0];rfl)⟩
  ·have h2l:2<=l.length:=by
    have:¬ (l.length:Int)=1:=sp_ h2;omega
   refine L9 hCC (α:=Nat) (fun n=>[(0,(.list (l.map scv) nn none)),(1,(sv sep)),(5,iv n)]) (fun _=>[]) (fun n=>1<=n/\n<=2000) w8 uz_ ?_ ?_
   ·
    refine a5R ?_;refine qC ?_ ?_<;>intro h3
    ·refine qY O8 ?_;refine qY I7 ?_;refine qY Y8 ?_;refine qY (a0d rfl rfl tt rfl rfl (d1c om_ om_ om_)) ?_;refine qC ?_ ?_<;>intro h4
     ·exact absurd (a9m h4) (c7C dK om_ om_)
     ·have bt:(sep.length:Int)*((l.length:Int) - 1)=2*((l.length:Int) - 1):=by rw [dK];rfl
      refine qY O8 ?_;refine qY I7 ?_;refine qY Y8 ?_;refine qY (b5O rfl tt tt rfl rfl (by rw [bt];omega) (by rw [bt];omega)) ?_;refine qY a3E ?_;exact ⟨(2*(l.length - 1)),_,⟨om_,om_⟩,⟨o0,o0,⟨tt,(n_9 (fun z:Int=>iv z) (show (0+(sep.length:Int)*((l.length:Int) - 1))=((2*(l.length - 1):Nat):Int) by rw [bt];omega))⟩,tt⟩,rfl⟩
    ·exact absurd (b7Y h3) (by show ¬ ¬ (0:Int) < sep.length;rw [dK];decide)
   ·intro n ⟨aZ,cb⟩;refine b2S ?_;refine j7 hCC (α:=Nat × Nat) (fun x=>[(0,(.list (l.map scv) nn none)),(1,(sv sep)),(5,iv x.2),(39,(.list (l.map scv) nn none)),(40,iv l.length),(41,iv x.1)]) (fun _=>[]) (fun x=>x.1<=l.length/\1<=x.2/\x.2<=2000+1000*x.1) (fun x=>l.length - x.1) (0,n) ⟨n_5 _,aZ,om_⟩ tu_ (ah:=[]) rfl w8 uz_ ?_;intro ⟨i,n'⟩ ⟨hi,hn1',hn2'⟩;dsimp only at hi hn1' hn2' ⊢;refine qk (qC ?_ ?_)<;> intro h5
    ·have ae:i < l.length:=sm_ h5;obtain ⟨y,hy⟩:∃ y,l[i]? = some y:=⟨l[i]'ae,si_⟩;have dT:=cT y (n_2 hy);refine qY b5e ?_;refine qY O8 ?_;refine qY (b08 rfl rfl tt rfl rfl om_ om_) ?_;refine qC ?_ ?_<;>intro h6
     ·exact absurd (a9m h6) om_
     ·refine qY O8 ?_;refine qY a3E ?_;refine qY o7 ?_;exact ⟨(i+1,n'+y.length),_,⟨do_,do_,do_,do_⟩,tu_,rfl⟩
    ·have hie:i=l.length:=sm_ h5;obtain ⟨e0,g0⟩:=gx_ l 0;have he0:=cT e0 (n_2 g0);refine j6 ?_;refine qD (b5b rfl Tryz.zeroValue244 rfl j4 ?_);refine qD (c5 rfl Tryz.call247 j1 ((U2 (d0D a4k n' hn1' om_))) rfl ?_);intro _ _;refine qY (o9 rfl tt rfl rfl rfl t_2 t_0 om_ (i8 g0) rfl) ?_;refine qD (c5 rfl a2p j1 (a8R e0 (by intro h;rw [h] at he0;simp at he0) om_) rfl ?_);intro _ _;refine qY (a3b (l:=1) rfl tt rfl t_2 t_0 b07 ⟨rfl,_,_,rfl,om_,om_⟩ rfl a8w si_) ?_;refine qY I7 ?_;refine B9 hCC 4 rfl (α:=Nat × Bool) (fun x=>[(1,(sv sep)),(8,.ptr 0 0),(63,(.list ((l.drop 1).map scv) nn none)),(64,(iv ((l.length - 1:Nat):Int))),(65,iv x.1)]) (fun x=>[E8 tSB 0 (kp x.2) true (F6 sep l (x.1+1)) [],.dead,.dead,op1 x.2 (F6 sep l (x.1+1)).length,op2 x.2 (F6 sep l (x.1+1)).length]) (fun x=>x.1+1<=l.length) (fun x=>l.length - x.1) ⟨(0,false),[0,1,2,3,7],(show 0+1<=l.length by omega),⟨rfl,rfl⟩,⟨⟨tt,ur_⟩,⟨tt,ur_⟩,⟨tt,(by first|exact ur_|exact .same (show CV.list (((l.map scv).take (l.map scv).length).drop 1) nn none=_ from by rw [W1 (n_6 _),List.map_drop]) uo_)⟩,⟨tt,(by first|exact ur_|exact .same (show (iv ((((l.map scv).take (l.map scv).length).drop 1).length:Int))=_ from by simp) uo_)⟩,⟨tt,ur_⟩,tt⟩,⟨.inr ⟨_,rfl,a5O de_ rfl (fun c hc=>by cases hc) (by rw [F6,List.take_one_eq g0];rfl)⟩,.inl rfl,.inl rfl,.inr ⟨_,rfl,S2 (by rw [F6,List.take_one_eq g0];rfl)⟩,.inl rfl,tt⟩⟩ ?_;intro ⟨m,ph⟩ hm;dsimp only at hm ⊢;refine qk (qC ?_ ?_)<;> intro h7
     ·have ae:m+1 < l.length:=sm_ h7;obtain ⟨y,hy⟩:∃ y,l[m+1]? = some y:=⟨l[m+1]'ae,si_⟩;have dT:=cT y (n_2 hy);have hy':(l.drop 1)[m]? = some y:=by rw [a5s,b3N];exact hy
      have es:=Y4 (sep:=sep) hy;rw [n_0 om_] at es;have bU:=b0m (sep:=sep) (l:=l) dK cT (m+1);have hjl2:(m+1)*1002<=1000*1002:=R6 _ om_;refine qY (o9 rfl tt tt rfl rfl t_2 t_0 om_ (i8 hy') rfl) ?_;refine qD (c5 rfl a2p j1 (z6 a4k _ (F6 sep l (m+1)) (fun c hc=>by cases hc) sep om_ (σ:=_) (q:=0) (k:=kp ph) ⟨rfl,by cases ph<;>rfl,by cases ph<;>exact n_4 rfl⟩) rfl ?_);intro _ _;refine qN [E8 tSB 0 5 true (F6 sep l (m+1)++sep) [],.dead,.dead,.dead,.dead,A1 tU8 (F6 sep l (m+1)++sep).length] O1 ?_;refine qD (c5 rfl a2p j1 (z6 a4k _ (F6 sep l (m+1)++sep) (fun c hc=>by cases hc) y (by rw [M4];omega) (q:=0) (k:=5) ⟨rfl,rfl,n_4 rfl⟩) rfl ?_);intro _ _;refine qN [E8 tSB 0 6 true (F6 sep l (m+1)++sep++y) [],.dead,.dead,.dead,.dead,.dead,A1 tU8 (F6 sep l (m+1)++sep++y).length] rfl (qY o7 ?_);exact ⟨(m+1,true),[0,1,2,3,6],(show l.length - (m+1) < l.length - m/\m+1+1<=l.length from ⟨om_,om_⟩),⟨rfl,rfl⟩,ut_,⟨.inr ⟨_,rfl,a5O de_ rfl (fun c hc=>by cases hc) es.symm⟩,.inl rfl,.inl rfl,.inl rfl,.inr ⟨_,rfl,S2 es.symm⟩,tt⟩⟩
     ·have bX:m+1=l.length:=sm_ h7;refine j6 ?_;refine qD (c5 rfl c4R ⟨tt,tt⟩ (a2H (rest:=[]) (T:=tSB) (fun c hc=>by cases hc) true (F6 sep l (m+1)) (q:=0) (k:=kp ph) ⟨rfl,by cases ph<;>rfl,by cases ph<;>exact n_4 rfl⟩) rfl ?_);intro _ _;refine c6 ?_;exact ⟨_,rE1,_,_,rfl,rfl,C9 (by rw [bX,F6,W1 (n_6 _)])⟩
open Classical in
noncomputable def U1 (d:De):Str:=if h:∃ t:Tr,d.body=t.flat 0/\t.wf d.params.length 1 then h.choose.txt d.params 0 else []
theorem a6g (h:DeG d):∃ t:Tr,d.body=t.flat 0/\t.wf d.params.length 1/\U1 d=t.txt d.params 0:=by
 refine ⟨h.tree.choose,h.tree.choose_spec.1,h.tree.choose_spec.2,?_⟩;unfold U1;rw [dif_pos h.tree]
theorem b14 (h:DeG d):∀ s∈d.params,s.length<=80:=fun s hs=>by have:=B7 (h.par s hs).1;omega
theorem a7o (h:DeG d):(U1 d).length<=76800:=by
 obtain ⟨t,h1,h2,h3⟩:=a6g h;have:=t.txt_len (b14 h) 1 0 h2;have hb:=h.blen;rw [h1,Tr.flat_len] at hb;rw [h3];omega
def d4d (d:De):Src:=⟨[112],[],[⟨1,[102],d.params,d.body⟩]⟩
theorem d0U (h:DeG d):a2f (d4d d) where
 pkg:=by show A9 [112]=true/\P6 [112]=false;decide
 imp:=fun s hs=>by cases hs
 impl:=n_5 _
 impn:=List.nodup_nil
 impp:=fun h=>by cases h
 dec:=fun e he=>by
  simp only [d4d,P0,a8Z,or_false] at he;subst he;exact { kind:=.inl rfl,name:=fun _=>by (show A9 [102]=true/\P6 [102]=false);decide,path:=fun hk=>absurd (show (1:Int)=3 from hk) de_,pars:=fun hk=>absurd rfl hk,par:=h.par,parl:=h.parl,nod:=h.nod,tree:=h.tree,blen:=h.blen}
 decl:=by show 1<=64;decide
 decn:=by show (List.map _ [_]).Nodup;simp
theorem c3C (d:De) (h:DeG d) (σ:List b9):b8 CC 199 [(.list (d.body.map Ex.cv) (gnn d.body.length) none),(.list (d.params.map scv) (gnn d.params.length) none)] σ fun r Y=>r = .ret (.tup [sv (U1 d),(iv (0))])/\Y=σ:=by
 refine b8.anyw hCC pu_ pu_ (c7 (qO Tryz.func199 ?_)) σ;refine qY (A7 #[(0,1),(1,1),(2,1),(3,1)] rfl ⟨rfl,rfl,tt,tt,tt⟩ b0J a8K rfl ⟨_,rfl⟩ (fun w=>by kernel_rfl) rfl rfl) ?_;refine qY (B3 ([(⟨1,[102],d.params,d.body⟩:De)].map De.cv) rfl ⟨tt,tt⟩ a9A a4H a8K rfl rfl rfl rfl rfl rfl rfl rfl rfl) ?_;refine qY (A7 #[(0,1),(1,1),(2,1)] rfl ⟨rfl,tt,tt⟩ a5U a2L rfl ⟨_,rfl⟩ (fun w=>by kernel_rfl) rfl rfl) ?_;refine qY (c4 rfl Tryz.call198 ⟨tt,tt⟩ (b0G (d4d d) (d0U h) _) rfl) ?_;refine qC ?_ ?_<;>intro h1
 ·cases h1
 ·obtain ⟨t,eI,fP,ht3⟩:=a6g h;refine qD (c5 rfl Tryz.call245 j1 (c5J (gnn d.body.length) (gnn d.params.length) (by have:=h.blen;omega) t eI ⟨1,fP⟩ (b14 h) _) rfl ?_);rintro dd _;dsimp only;rw [<- ht3];refine c6 ?_;exact ⟨_,p8 (rs:=[.tmp 4,.tmp 5]) (cs:=[_,_]) rfl T1 (n_4 rfl),_,_,rfl,rfl,(.old (C0 (cs:=[sv (U1 d),iv 0]) ⟨.val _,.val _,tt⟩).old)⟩
def P5 (l:List Str):Str:=(l.map fun s=>[105,109,112,111,114,116,32]++s++[59,10]).flatten
theorem b2T {l:List Str} {s:Str} (h:l[m]? = some s):P5 (l.take (m+1))=P5 (l.take m)++([105,109,112,111,114,116,32]++s++[59,10]):=by
 unfold P5;rw [a3P,h];simp
def a4L (d:De):Str:=if d.k=1 then [102,117,110,99,32]++d.name++[40]++J2 [44,32] d.params++[41,32,61,32] else if d.k=2 then [116,101,115,116,32]++d.name++[32,61,32] else [103,101,110,32,34]++d.name++[34,32,61,32]
noncomputable def a0q (x:Src) (d:De):Str:=([112,97,99,107,97,103,101,32]++x.pkg++[59,10])++P5 x.imports++a4L d++(U1 d++[59,10])
theorem a6S {l:List Str} (h:∀ s∈l,s.length<=80):∀ m,(P5 (l.take m)).length<=100*m
 | 0=>by simp [P5]
 | m+1=>by
  have ih:=a6S h m;cases hg:l[m]? with
  | none =>
   have:l.length<=m:=sp_ hg;rw [W1 (show l.length<=m+1 by omega)];rw [W1 this] at ih;omega
  | some y =>
   have:=h y (n_2 hg);rw [b2T hg];simp only [n_7,C4,I3];omega
theorem b3k {l:List Str} (h:∀ s∈l,s.length<=k):a8M l<=k*l.length:=by
 induction l with
 | nil=>simp [a8M]
 | cons x l ih =>
  have h1:=h x si_;have h2:=ih fun s hs=>h s (by simp [hs]);simp only [a8M,b3E,List.sum_cons,C4,Nat.mul_add] at h2 ⊢;omega
theorem De.name_len (h:DeG d):d.name.length<=80:=by
 by_cases h3:d.k=3
 ·exact L2 (h.path h3)
 ·have:=B7 (h.name h3).1;omega
def kpn (a:Nat) (ph:Bool):Nat:=match ph with | false=>a | true=>a+1
theorem c1i {q s':Nat} (hL:q < L) (hs:am[s']? = some s) (hr:∀ c∈rest,u0 c) (he:l=l'):a9n L am (E8 T q s a l rest) (E8 T q s' a l' rest):=by
 subst he;refine .box ⟨?_,.list (fun r hr c hc=>(a1m l r hr c hc).old) (fun j hj=>?_),?_⟩
 ·cases a
  ·exact .old (.val _)
  ·exact .old (.ptr hL)
 ·cases hb:l.length with
  | zero=>rw [hb] at hj;cases hj
  | succ m=>rw [hb] at hj;injection hj with hj;subst hj;exact ⟨s,rfl,hs⟩
 ·have:∀ l:List CV,(∀ c∈l,u0 c)->b3o L l:=fun l=>by
   induction l with
   | nil=>intro _;trivial
   | cons x l ih=>intro h;exact ⟨(h x si_).old,ih fun c hc=>h c (by simp [hc])⟩
  exact a6D (this rest hr)
theorem c2x {s:Str} (h:A9 s=true):1<=s.length:=by
 cases s with
 | nil=>simp [A9] at h
 | cons a l=>simp
theorem c16 (x:Src) (h:a2f x) (i:Nat) (d:De) (hx:x.decls[i]? = some d) (hd:DeG d) (hi:i < x.decls.length) (σ:List b9):b8 CC 156 [.agg x.cells,iv i] σ fun r Y=>r = .ret (.tup [sv (a0q x d),(iv (0))])/\Y=σ:=by
 refine b8.anyw hCC pu_ pu_ (c7 (qO Tryz.func156 ?_)) σ;refine qD (F5 rfl tt j2 j4 ?_);refine qY (c4 rfl Tryz.call198 ⟨tt,tt⟩ (b0G x h _) rfl) ?_;refine qC ?_ ?_<;>intro h1
 ·cases h1
 ·refine qG C3 ?_;refine qG b91 ?_;refine qG b9L ?_;refine qG c1V ?_;refine a79 ?_;refine qC ?_ ?_<;>intro h2
  ·exact absurd h2 Q7
  ·have fi:=De.name_len hd;have hbl:=a7o hd;have dN:=B7 h.pkg.1;have himl:=h.impl;have fU:∀ s∈x.imports,s.length<=80:=fun s hs=>by have:=B7 (h.imp s hs).1;omega
   have bU:=a2Z [44,32] d.params;have dW:=b3k (b14 hd);have hprl:=hd.parl;have e2:([44,32]:Str).length=2:=rfl;rw [e2] at bU;refine qY (o9 rfl tt tt rfl rfl a9A a4H om_ (i8 hx) rfl) ?_;refine z_7 ?_;refine qY (c4 rfl Tryz.call199 j1 (c3C d hd _) rfl) ?_;refine qC ?_ ?_<;>intro h3
   ·cases h3
   ·refine qD (b5b rfl Tryz.zeroValue244 rfl j4 ?_);refine qY b5y ?_;refine qY c2F ?_;refine qD (c5 rfl a2p j1 ((U2 (z6 a4k false [] (fun c hc=>by cases hc) ([112,97,99,107,97,103,101,32]++x.pkg++[59,10]) a69 (q:=2) (k:=3) ⟨rfl,rfl,n_4 rfl⟩))) rfl ?_);intro _ _;refine qN [.box x.cells,.box d.cells,E8 tSB 2 4 true (([112,97,99,107,97,103,101,32]++x.pkg++[59,10])) [],.dead,A1 tU8 (([112,97,99,107,97,103,101,32]++x.pkg++[59,10])).length] rfl (qY I7 ?_);refine B9 hCC 5 rfl (α:=Nat × Bool) (fun x'=>[(7,.ptr 1 0),(8,(sv (U1 d))),(10,.ptr 2 0),(49,(.list (x.imports.map scv) (gnn x.imports.length) none)),(50,iv x.imports.length),(51,iv x'.1)]) (fun x'=>[.box x.cells,.box d.cells,E8 tSB 2 (kpn 4 x'.2) true (([112,97,99,107,97,103,101,32]++x.pkg++[59,10])++P5 (x.imports.take x'.1)) [],.dead,op1 x'.2 (([112,97,99,107,97,103,101,32]++x.pkg++[59,10])++P5 (x.imports.take x'.1)).length,op2 x'.2 (([112,97,99,107,97,103,101,32]++x.pkg++[59,10])++P5 (x.imports.take x'.1)).length]) (fun x'=>x'.1<=x.imports.length) (fun x'=>x.imports.length - x'.1) ⟨(0,false),[0,1,2,3,4,9],(n_5 _),⟨rfl,rfl⟩,ut_,⟨.inr ⟨_,rfl,.same rfl (Src.old x _)⟩,.inr ⟨_,rfl,.same rfl (De.old d _)⟩,.inr ⟨_,rfl,c1i de_ rfl (fun c hc=>by cases hc) (a1d _).symm⟩,.inl rfl,.inr ⟨_,rfl,S2 (a1d _).symm⟩,.inl rfl,tt⟩⟩ ?_;intro ⟨m,ph⟩ hm;dsimp only at hm ⊢;have bh:=a6S fU m;refine qk ?_;refine cC ?_ ?_<;>intro h4
    ·have ae:m < x.imports.length:=sm_ h4;obtain ⟨y,hy⟩:∃ y,x.imports[m]? = some y:=⟨x.imports[m]'ae,si_⟩;have dT:=fU y (n_2 hy);have es:=b2T hy;have ej:([112,97,99,107,97,103,101,32]++x.pkg++[59,10])++P5 (x.imports.take m)++([105,109,112,111,114,116,32]++y++[59,10])=([112,97,99,107,97,103,101,32]++x.pkg++[59,10])++P5 (x.imports.take (m+1)):=by rw [es];simp only [F7]
     refine qk (qY b5e ?_);refine qY b5y ?_;refine qY c2F ?_;refine qD (c5 rfl a2p j1 (z6 a4k _ (([112,97,99,107,97,103,101,32]++x.pkg++[59,10])++P5 (x.imports.take m)) (fun c hc=>by cases hc) ([105,109,112,111,114,116,32]++y++[59,10]) a69 (q:=2) (k:=kpn 4 ph) ⟨rfl,by cases ph<;>rfl,by cases ph<;>exact n_4 rfl⟩) rfl ?_);intro _ _;refine qN [.box x.cells,.box d.cells,E8 tSB 2 6 true (([112,97,99,107,97,103,101,32]++x.pkg++[59,10])++P5 (x.imports.take m)++([105,109,112,111,114,116,32]++y++[59,10])) [],.dead,.dead,.dead,A1 tU8 (([112,97,99,107,97,103,101,32]++x.pkg++[59,10])++P5 (x.imports.take m)++([105,109,112,111,114,116,32]++y++[59,10])).length] O1 ?_;refine qY o7 ?_;exact ⟨(m+1,true),[0,1,2,3,4,6],(show x.imports.length - (m+1) < x.imports.length - m/\m+1<=x.imports.length from ⟨om_,om_⟩),⟨rfl,rfl⟩,ut_,⟨.inr ⟨_,rfl,.same rfl (Src.old x _)⟩,.inr ⟨_,rfl,.same rfl (De.old d _)⟩,.inr ⟨_,rfl,c1i de_ rfl (fun c hc=>by cases hc) ej⟩,.inl rfl,.inl rfl,.inr ⟨_,rfl,S2 ej⟩,tt⟩⟩
    ·have bX:m=x.imports.length:=sm_ h4;rw [bX] at bh;have etk:x.imports.take m=x.imports:=by rw [bX];exact W1 (n_6 _)
     rw [etk];rw [<- bX,etk] at bh;refine j6 ?_;refine qC ?_ ?_<;>intro h5
     ·have u5:d.k=1:=sp_ h5;refine cW 9 ?_;refine hY a9y ?_;refine hY T2 ?_;refine hY b5y ?_;refine hY c2F ?_;refine hY b28 ?_;refine hY a6R ?_;refine hY (c4 rfl Tryz.call201 o4 (a9L d.params _ [44,32] rfl om_ (fun s hs=>⟨c2x (hd.par s hs).1,by have:=b14 hd s hs;omega⟩) _) rfl) ?_;refine hY (G8 rfl tt tt rfl rfl a69) ?_;refine hY c2F ?_;refine Y5 ?_;refine qD (c5 rfl a2p j1 (z6 a4k _ (([112,97,99,107,97,103,101,32]++x.pkg++[59,10])++P5 x.imports) (fun c hc=>by cases hc) ([102,117,110,99,32]++d.name++[40]++J2 [44,32] d.params++[41,32,61,32]) a69 (q:=2) (k:=kpn 4 ph) ⟨rfl,by cases ph<;>rfl,by cases ph<;>exact n_4 rfl⟩) rfl ?_);intro _ _;refine qN [.box x.cells,.box d.cells,E8 tSB 2 6 true (([112,97,99,107,97,103,101,32]++x.pkg++[59,10])++P5 x.imports++([102,117,110,99,32]++d.name++[40]++J2 [44,32] d.params++[41,32,61,32])) [],.dead,.dead,.dead,A1 tU8 (([112,97,99,107,97,103,101,32]++x.pkg++[59,10])++P5 x.imports++([102,117,110,99,32]++d.name++[40]++J2 [44,32] d.params++[41,32,61,32])).length] O1 ?_;refine qY c6F ?_;refine qD (c5 rfl a2p j1 (z6 a4k _ (([112,97,99,107,97,103,101,32]++x.pkg++[59,10])++P5 x.imports++([102,117,110,99,32]++d.name++[40]++J2 [44,32] d.params++[41,32,61,32])) (fun c hc=>by cases hc) (U1 d++[59,10]) a69 (q:=2) (k:=6) ⟨rfl,rfl,n_4 rfl⟩) rfl ?_);intro _ _;refine qN [.box x.cells,.box d.cells,E8 tSB 2 7 true (([112,97,99,107,97,103,101,32]++x.pkg++[59,10])++P5 x.imports++([102,117,110,99,32]++d.name++[40]++J2 [44,32] d.params++[41,32,61,32])++(U1 d++[59,10])) [],.dead,.dead,.dead,.dead,A1 tU8 (([112,97,99,107,97,103,101,32]++x.pkg++[59,10])++P5 x.imports++([102,117,110,99,32]++d.name++[40]++J2 [44,32] d.params++[41,32,61,32])++(U1 d++[59,10])).length] rfl (qD (c5 rfl c4R ⟨tt,tt⟩ (a2H (rest:=[]) (T:=tSB) (fun c hc=>by cases hc) true (([112,97,99,107,97,103,101,32]++x.pkg++[59,10])++P5 x.imports++([102,117,110,99,32]++d.name++[40]++J2 [44,32] d.params++[41,32,61,32])++(U1 d++[59,10])) (q:=2) (k:=7) ⟨rfl,rfl,n_4 rfl⟩) rfl ?_));intro _ _;refine c6 ?_;exact ⟨_,p8 (rs:=[.tmp 4,.tmp 5]) (cs:=[_,_]) rfl T1 (n_4 rfl),_,_,rfl,rfl,(by rw [a0q];rw [a4L,n_1 u5];exact .old (C0 (cs:=[sv _,iv 0]) ⟨.val _,.val _,tt⟩).old)⟩
     ·have u5:¬ d.k=1:=sp_ h5;refine qC ?_ ?_<;>intro h6
      ·have u6:d.k=2:=sp_ h6;refine qY b5y ?_;refine qY c2F ?_;refine qD (c5 rfl a2p j1 (z6 a4k _ (([112,97,99,107,97,103,101,32]++x.pkg++[59,10])++P5 x.imports) (fun c hc=>by cases hc) ([116,101,115,116,32]++d.name++[32,61,32]) a69 (q:=2) (k:=kpn 4 ph) ⟨rfl,by cases ph<;>rfl,by cases ph<;>exact n_4 rfl⟩) rfl ?_);intro _ _;refine qN [.box x.cells,.box d.cells,E8 tSB 2 6 true (([112,97,99,107,97,103,101,32]++x.pkg++[59,10])++P5 x.imports++([116,101,115,116,32]++d.name++[32,61,32])) [],.dead,.dead,.dead,A1 tU8 (([112,97,99,107,97,103,101,32]++x.pkg++[59,10])++P5 x.imports++([116,101,115,116,32]++d.name++[32,61,32])).length] O1 ?_;refine qY c6F ?_;refine qD (c5 rfl a2p j1 (z6 a4k _ (([112,97,99,107,97,103,101,32]++x.pkg++[59,10])++P5 x.imports++([116,101,115,116,32]++d.name++[32,61,32])) (fun c hc=>by cases hc) (U1 d++[59,10]) a69 (q:=2) (k:=6) ⟨rfl,rfl,n_4 rfl⟩) rfl ?_);intro _ _;refine qN [.box x.cells,.box d.cells,E8 tSB 2 7 true (([112,97,99,107,97,103,101,32]++x.pkg++[59,10])++P5 x.imports++([116,101,115,116,32]++d.name++[32,61,32])++(U1 d++[59,10])) [],.dead,.dead,.dead,.dead,A1 tU8 (([112,97,99,107,97,103,101,32]++x.pkg++[59,10])++P5 x.imports++([116,101,115,116,32]++d.name++[32,61,32])++(U1 d++[59,10])).length] rfl (qD (c5 rfl c4R ⟨tt,tt⟩ (a2H (rest:=[]) (T:=tSB) (fun c hc=>by cases hc) true (([112,97,99,107,97,103,101,32]++x.pkg++[59,10])++P5 x.imports++([116,101,115,116,32]++d.name++[32,61,32])++(U1 d++[59,10])) (q:=2) (k:=7) ⟨rfl,rfl,n_4 rfl⟩) rfl ?_));intro _ _;refine c6 ?_;exact ⟨_,p8 (rs:=[.tmp 4,.tmp 5]) (cs:=[_,_]) rfl T1 (n_4 rfl),_,_,rfl,rfl,(by rw [a0q];rw [a4L,n_0 u5,n_1 u6];exact .old (C0 (cs:=[sv _,iv 0]) ⟨.val _,.val _,tt⟩).old)⟩
      ·have u6:¬ d.k=2:=sp_ h6;refine qY b5y ?_;refine qY c2F ?_;refine qD (c5 rfl a2p j1 (z6 a4k _ (([112,97,99,107,97,103,101,32]++x.pkg++[59,10])++P5 x.imports) (fun c hc=>by cases hc) ([103,101,110,32,34]++d.name++[34,32,61,32]) a69 (q:=2) (k:=kpn 4 ph) ⟨rfl,by cases ph<;>rfl,by cases ph<;>exact n_4 rfl⟩) rfl ?_);intro _ _;refine qN [.box x.cells,.box d.cells,E8 tSB 2 6 true (([112,97,99,107,97,103,101,32]++x.pkg++[59,10])++P5 x.imports++([103,101,110,32,34]++d.name++[34,32,61,32])) [],.dead,.dead,.dead,A1 tU8 (([112,97,99,107,97,103,101,32]++x.pkg++[59,10])++P5 x.imports++([103,101,110,32,34]++d.name++[34,32,61,32])).length] O1 ?_;refine qY c6F ?_;refine qD (c5 rfl a2p j1 (z6 a4k _ (([112,97,99,107,97,103,101,32]++x.pkg++[59,10])++P5 x.imports++([103,101,110,32,34]++d.name++[34,32,61,32])) (fun c hc=>by cases hc) (U1 d++[59,10]) a69 (q:=2) (k:=6) ⟨rfl,rfl,n_4 rfl⟩) rfl ?_);intro _ _;refine qN [.box x.cells,.box d.cells,E8 tSB 2 7 true (([112,97,99,107,97,103,101,32]++x.pkg++[59,10])++P5 x.imports++([103,101,110,32,34]++d.name++[34,32,61,32])++(U1 d++[59,10])) [],.dead,.dead,.dead,.dead,A1 tU8 (([112,97,99,107,97,103,101,32]++x.pkg++[59,10])++P5 x.imports++([103,101,110,32,34]++d.name++[34,32,61,32])++(U1 d++[59,10])).length] rfl (qD (c5 rfl c4R ⟨tt,tt⟩ (a2H (rest:=[]) (T:=tSB) (fun c hc=>by cases hc) true (([112,97,99,107,97,103,101,32]++x.pkg++[59,10])++P5 x.imports++([103,101,110,32,34]++d.name++[34,32,61,32])++(U1 d++[59,10])) (q:=2) (k:=7) ⟨rfl,rfl,n_4 rfl⟩) rfl ?_));intro _ _;refine c6 ?_;exact ⟨_,p8 (rs:=[.tmp 4,.tmp 5]) (cs:=[_,_]) rfl T1 (n_4 rfl),_,_,rfl,rfl,(by rw [a0q];rw [a4L,n_0 u5,n_0 u6];exact .old (C0 (cs:=[sv _,iv 0]) ⟨.val _,.val _,tt⟩).old)⟩
def W2 (n:Nat):Str:=if h:n < 128 then [UInt8.ofNat n] else UInt8.ofNat (n%128+128)::W2 (n / 128)
termination_by n
decreasing_by omega
theorem a1l (n:Nat):W2 n=if n < 128 then [UInt8.ofNat n] else UInt8.ofNat (n%128+128)::W2 (n / 128):=by
 rw [W2]
 split<;>rfl
theorem a2v (h:n < 128^(k+1)):(W2 n).length<=k+1:=by
 induction k generalizing n with
 | zero=>rw [a1l,n_1 (sp_ h)];exact n_6 _
 | succ k ih =>
  rw [a1l]
  split
  ·simp
  ·have:=ih (n:=n / 128) (by rw [Nat.pow_succ] at h;exact Nat.div_lt_of_lt_mul (by rw [Nat.mul_comm];exact h));simp;omega
def I6 (l s:Str):Str:=l++W2 s.length++s
theorem d4v:∀ x:Fin 256,(x.val ||| 128)=x.val%128+128:=by decide
theorem d6L:(n%256) ||| 128=n%128+128:=by
 have h:∀ x:Fin 256,(x.val ||| 128)=x.val%128+128:=d4v;have:=h ⟨n%256,a5j _ de_⟩;simp only at this;omega
theorem c7J (h:n < 256):((UInt8.ofNat n).toNat:Int)=(n:Int):=by
 rw [UInt8.toNat_ofNat',b8z (sp_ h)]
theorem d3E (n:Nat):IntKind.u8.wrap (n:Int)=((n%256:Nat):Int):=by
 simp [IntKind.wrap,IntKind.signed,IntKind.bits]
theorem b0b {C:Ctx} {E:Env} {y:Operand} {b:UInt8} {tok:Option Nat} (ey:E.val C y = .list [bcv b] nn tok):∀ M w v,Rel C M σ w->RV M w (E.val C y) v->b8x C w M ([b].map bcv) 1 v:=fun M w v hr h=>(a2M ey (by intro r hr;simp at hr;subst hr;rfl) M w v hr h).any
theorem d0K {p:Nat} (hs:am[p]? = some k):E9 L am (a0D l k) (a0D l p):=by
 refine .list (fun r hr c hc=>(a1m l r hr c hc).old) (fun j hj=>?_);cases hb:l.length with
 | zero=>rw [hb] at hj;cases hj
 | succ m=>rw [hb] at hj;injection hj with hj;subst hj;exact ⟨k,rfl,hs⟩
theorem d0J (m:Nat):CV.list [[CV.val (.int .u8 ((m%256 ||| 128:Nat):Int))]] true none = .list [bcv (UInt8.ofNat (m%128+128))] true none:=by
 rw [d6L,bcv,c7J om_]
theorem c4W (h:m < 128):CV.list [[CV.val (.int .u8 (m:Int))]] true none = .list [bcv (UInt8.ofNat m)] true none:=by
 rw [bcv,c7J om_]
def b0z (k:Nat) (g:b9):List b9:=List.replicate k .dead++[g]
theorem b05 (k:Nat) (g:b9):(b0z k g).length=k+1:=by simp [b0z]
theorem a6F (k:Nat) (g:b9):(b0z k g)[k]? = some g:=by
 rw [b0z,a0y si_];simp
theorem b1a (k:Nat) (g g':b9):(b0z k g).set k .dead++[g']=b0z (k+1) g':=by
 unfold b0z
 congr 1
 rw [List.replicate_succ']
 induction k with
 | zero=>rfl
 | succ k ih=>rw [List.replicate_succ,b5q,List.set_cons_succ,ih];rfl
theorem b4O {g:b9}:F8 1 ((b0z k g).set k .dead++[A1 tU8 l.length]) (.ret (a0D l (b0z k g).length)) (.ret (a0D l 1)) [.dead,A1 tU8 l.length]:=by
 rw [b1a,b05];refine ⟨[0,k+1],rfl,by simp [a0f],.ret (d0K rfl),.inl rfl,.inr ⟨_,a6F _ _,S2 rfl⟩,tt⟩
theorem b6n (l:Str) (nn:Bool) (n:Nat) (hl:l.length<=100000000000000) (hn:n < 18446744073709551616):b8 CC 204 [(.list (l.map bcv) nn none),.val (.int .u64 (n:Int))] [.dead] fun r τ=>F8 1 τ r (.ret (a0D (l++W2 n) 1)) [.dead,A1 tU8 (l++W2 n).length]:=by
 refine qO Tryz.func204 ?_;refine qD (a27 (l:=[]) (new:=l) (p:=0) rfl rfl tt rfl (fun M w v hr h=>(a2M rfl (by intro r hr;obtain ⟨b,_,rfl⟩:=I9.1 hr;rfl) M w v hr h).any) t_7 t_9 b02 a3J rfl (.inl t_7) rfl rfl a8q ?_);refine I4 (α:=Str × Nat × Nat) (fun x=>[(1,(.val (.int .u64 (x.2.1:Int)))),(5,(a0D x.1 x.2.2))]) (fun x=>b0z x.2.2 (A1 tU8 x.1.length)) (fun x=>l++W2 n=x.1++W2 x.2.1/\x.2.1<=n) (fun x=>x.2.1) (l,n,1) ⟨rfl,n_6 _⟩ tu_ rfl ?_;intro ⟨b,m,k⟩ _ ⟨hb,hmn⟩;dsimp only at hb hmn ⊢;have aj:b.length<=l.length+10:=by
  have h1:=n_9 List.length hb;have h2:=a2v (n:=n) (k:=9) om_;simp only [n_7] at h1;omega
 refine qk (qC ?_ ?_)<;> intro h1
 ·have eV:¬ m < 128:=by have:=a9m h1;omega
  rw [a1l m,n_0 eV] at hb;refine qY (a5N rfl tt rfl c6c b1n (d3E m)) ?_;refine qY (d5H (a:=(m%256)) (b:=128) rfl tt rfl rfl rfl (a5j _ de_) de_) ?_;refine qY (B3 [[.val (.int .u8 ((m%256 ||| 128:Nat):Int))]] rfl ⟨tt,tt⟩ t_7 t_9 a3J rfl rfl rfl rfl rfl rfl rfl rfl rfl) ?_;refine qD (a27 (l:=b) (new:=[UInt8.ofNat (m%128+128)]) (p:=k) rfl tt tt rfl (b0b (d0J m)) t_7 t_9 b02 a3J rfl (.inl t_7) rfl (a6F _ _) a8q ?_);refine qY (d4X (m:=7) rfl tt rfl rfl rfl de_ (show (m:Int) / 2^7=((m / 128:Nat):Int) by omega)) ?_;exact ⟨(b++[UInt8.ofNat (m%128+128)],m / 128,k+1),(show m / 128 < m by omega),(show l++W2 n=(b++[UInt8.ofNat (m%128+128)])++W2 (m / 128)/\m / 128<=n from ⟨by rw [hb];simp,om_⟩),⟨o0,⟨tt,(n_9 (a0D _) (b05 k _))⟩,tt⟩,(b1a _ _ _)⟩
 ·have eV:m < 128:=by have:=b7Y h1;omega
  rw [a1l m,n_1 eV] at hb;refine j6 ?_;refine qY d6F ?_;refine d6U ?_;refine c6 ?_;exact ⟨_,rE1,(by rw [hb];exact b4O)⟩
theorem b42 (h:n < 18446744073709551616):IntKind.u64.wrap (n:Int)=(n:Int):=by
 simp [IntKind.wrap,IntKind.signed,IntKind.bits];omega
theorem b8Z (l:Str) (nn:Bool) (n:Nat) (hl:l.length<=100000000000000) (hn:n < 18446744073709551616) (σ:List b9):b8 CC 204 [(.list (l.map bcv) nn none),.val (.int .u64 (n:Int))] σ fun r τ=>∃ _:Unit,r = .ret (a0D (l++W2 n) (σ.length+1))/\τ=σ++[.dead,A1 tU8 (l++W2 n).length]/\True :=
 a3i (α:=Unit) hCC (fun a ha=>by simp at ha;rcases ha with rfl | rfl;exact a1D _ _;exact .val _) (res:=fun _=>.ret (a0D (l++W2 n) 1)) (res':=fun _ m=>.ret (a0D (l++W2 n) (m+1))) (S:=fun _=>[.dead,A1 tU8 (l++W2 n).length]) (S':=fun _ _=>[.dead,A1 tU8 (l++W2 n).length]) (P:=fun _=>True)
  (U2 (L6 hCC ((b6n l nn n hl hn).mono fun r τ h=>⟨_,_,h,(),rfl,rfl,tt⟩))) (fun _ _=>rfl) (fun _ m i x h=>by
   rcases i with _ | _ | i
   ·injection h with h;subst h;exact ⟨_,rfl,.dead⟩
   ·injection h with h;subst h;exact ⟨_,rfl,a2x _ _⟩
   ·cases h) (fun _ m=>.ret (b0U rfl)) σ
theorem c3q {τ:List b9} (h:l=l'):Cls n τ (a0D l k) (.list (l'.map bcv) (gnn l'.length) none):=by
 subst h;refine .list rfl (fun i r r' h h'=>by rw [h] at h';injection h' with h';rw [h']) (fun i j r r' c c' h h' g g'=>?_);rw [h] at h';injection h' with h';subst h'
 rw [g] at g';injection g' with g';subst g'
 exact .old (a1m l r (n_2 h) c (n_2 g)).old
theorem a1e (l:Str) (nn:Bool) (s:Str) (hl:l.length<=100000000000) (hs:s.length<=100000000000) (σ:List b9):b8 CC 159 [(.list (l.map bcv) nn none),(sv s)] σ fun r Y=>r = .ret (.list ((I6 l s).map bcv) (gnn (I6 l s).length) none)/\Y=σ:=by
 refine b8.anyw hCC pu_ pu_ (c7 (qO Tryz.func159 ?_)) σ;refine qY O8 ?_;refine qY c4C ?_;refine qD (c5 rfl Tryz.call204 j1 (b8Z l nn s.length om_ om_ _) rfl ?_);have hpu:=a2v (n:=s.length) (k:=9) om_;intro _ _;refine qD (a27 (l:=(l++W2 s.length)) (new:=s) (p:=1) rfl tt tt rfl (b4c rfl) t_7 t_9 b02 a3J rfl (.inr t_5) rfl rfl (by simp only [n_7];omega) ?_);exact d2f
theorem a88 (ao:WAt σ w q1 q2 t fl nn va br ms me) (k:Int) (p o:Str):b8 CC 90 [.ptr w 0,iv k,(sv p),(sv o)] σ fun r τ=>r = .ret (.agg (O7 va me k p o).cells)/\τ=σ :=
 b2B (fun a h=>by simp at h;rcases h with rfl | rfl | rfl<;>exact .val _) (En.pure _) (c49 fl nn va br ms me k p o) ao
theorem c9L (ao:WAt σ w q1 q2 t fl nn va br ms me) (s:Str) (bO:fl.length<=1000000):b8 CC 110 [.ptr w 0,(sv s)] σ fun r τ=>r = .ret (.tup [sv ((C2 fl s).getD []),.val (.bool (C2 fl s).isSome)])/\τ=σ :=
 b2B (fun a h=>by simp at h;subst h;exact .val _) (C0 (cs:=[sv _,.val _]) ⟨.val _,.val _,tt⟩) (c7Q fl nn va br ms me s bO) ao
def B1 (ms:SM) (fl:List Fi) (pkg:Str):List Fi:=fl.filter fun f=>(glk ms f.p).isSome && decide (((glk ms f.p).getD Src.z).pkg=pkg)
theorem b5U {y:Fi} (h:fl[i]? = some y) (pkg:Str):B1 ms (fl.drop i) pkg=(if ((glk ms y.p).isSome && decide (((glk ms y.p).getD Src.z).pkg=pkg))=true then [y] else [])++B1 ms (fl.drop (i+1)) pkg:=by
 obtain ⟨ae,rfl⟩:=n_3.1 h;rw [R4 ae];unfold B1;rw [a8C]
 split<;>rfl
theorem c2Z (fl:List Fi) (nn va:Bool) (br:List Str) (ms:SM) (me:EM) (pkg:Str) (bO:fl.length<=1000000):b8 CC 158 [.ptr 0 0,(sv pkg)] (wst fl nn va br ms me) fun r τ=>F8 4 τ r (.ret (.list ((B1 ms fl pkg).map Fi.cv) (gnn (B1 ms fl pkg).length) none)) (wst fl nn va br ms me):=by
 refine cO Tryz.func158 ?_;refine z_0 ?_;refine a7x ?_;refine z_0 ?_;refine cY a3W ?_;refine a8F ?_;refine a8S ?_;refine cY (j5 rfl tt rfl b9a rfl b3R de_) ?_;refine d3b ?_;refine cY a0S ?_;refine a5G ?_;refine B9 hCC 4 rfl (α:=Nat × List Fi) (fun x=>[(0,.ptr 0 0),(1,(sv pkg)),(5,(.list (x.2.map Fi.cv) (gnn x.2.length) (G9 x.2.length 4))),(14,(.list (fl.map Fi.cv) nn none)),(15,iv fl.length),(16,iv x.1)]) (fun x=>[wbx fl nn va br 1 2 3,smO ms,emO me,r7 br.length,r7 x.2.length]) (fun x=>x.1<=fl.length/\x.2.length<=x.1/\B1 ms fl pkg=x.2++B1 ms (fl.drop x.1) pkg) (fun x=>fl.length - x.1) ⟨(0,[]),[0,1,2,3,9],⟨n_5 _,n_6 _,rfl⟩,⟨rfl,rfl⟩,ut_,uq_⟩ ?_;intro ⟨i,ba⟩ ⟨hi,hol,hr⟩;dsimp only at hi hol hr ⊢;refine a5H ?_;refine cC ?_ ?_<;>intro h1
 ·have ae:(i:Int) < fl.length:=sp_ h1;obtain ⟨y,hb⟩:=gx_ fl i;rw [b5U hb] at hr;refine b0E ?_;refine cY c5g ?_;refine cY (W7 rfl tt rfl c38 a3O (nb rfl)) ?_;refine d2z ?_;refine a8F ?_;refine cF [] [0,1,2,3,4,5,6,7,8,9] (tl:=[(10,[0,1,2,3,4,5,6,7,8,9]),(11,[9]),(12,[])]) ?_;refine b1q ?_;refine chf rfl (c9 rfl b7G) ?_;refine chf rfl (c9 rfl b6q) ?_;refine b1P ?_;refine chf rfl (c9 rfl d7m) ?_;refine chf rfl X0 ?_;refine chf rfl b1V ?_;refine chf rfl b1V ?_;refine D6 ?_;refine B8 rfl rfl rfl (p7 rfl a2L rfl j4 ?_);refine ⟨⟨F3,a1F,(by exact c9 rfl b7G),(by exact c9 rfl b6q),a5I,a4K,(by exact c9 rfl d7m),F3,a8c,a8c,tt⟩,?_⟩;refine B8 rfl rfl rfl (j3 rfl tt tt rfl j2 a2C j4 rfl rfl (nb rfl) ?_);refine ⟨⟨a8c,tt⟩,?_⟩;refine b85 ?_;refine a6T ?_;refine cG c55 ?_;refine cG a2b ?_;refine cG C3 ?_;refine cG a8B ?_;refine b62 ?_;refine cC ?_ ?_<;>intro h2
  ·rw [n_1 (sp_ h2)] at hr;refine a3y ?_;refine cY (L8 rfl tt rfl c38 a3O rfl (nb rfl)) ?_;refine cY c9t ?_;refine cD (F4 rfl tt tt rfl si_ q_2 a7L a3O c3e a5Z rfl (.inr rfl) q_7 c2o G7 ((ba++[y]).map Fi.cv) (ba++[y]).length si_ si_ ?_);refine z_3 ?_;refine a7n ?_;exact ⟨(i+1,ba++[y]),[0,1,2,3,7],⟨do_,do_,by dsimp only;simp;omega,by dsimp only;rw [hr,F7]⟩,⟨rfl,rfl⟩,ut_,uq_⟩
  ·rw [n_0 (sp_ h2),a72] at hr;refine C5 ?_;refine a7n ?_;exact ⟨(i+1,ba),[0,1,2,3,4],⟨do_,do_,do_,hr⟩,⟨rfl,rfl⟩,ut_,uq_⟩
 ·have aE:fl.length<=i:=sm_ h1;rw [T5 aE] at hr;replace hr:B1 ms fl pkg=ba:=by rw [hr];exact a1d _
  refine j6 ?_;refine z_4 ?_;refine a2l ?_;exact ⟨_,rE1,(by rw [hr];exact a2r rfl (a0e (f:=Fi.cv) (fun a=>⟨.val _,.val _,tt⟩) _))⟩
theorem b53 (ao:WAt σ w q1 q2 t fl nn va br ms me) (pkg:Str) (bO:fl.length<=1000000):b8 CC 158 [.ptr w 0,(sv pkg)] σ fun r τ=>r = .ret (.list ((B1 ms fl pkg).map Fi.cv) (gnn (B1 ms fl pkg).length) none)/\τ=σ :=
 b2B (fun a h=>by simp at h;subst h;exact .val _) (H0 _ _) (c2Z fl nn va br ms me pkg bO) ao
noncomputable def b4E (ms:SM) (x:En):Str:=((glk ms x.pl).bind fun s=>(s.decls[x.ix.toNat]?).map fun d=>a0q s d).getD []
noncomputable def a0a (ms:SM) (x:En):Str:=if x.ct=0 then [45] else if x.ct=1 then [61]++b4E ms x else [63]
def b1o (ms:SM) (x:En):Prop:=x.ct=1->∃ (s:Src) (d:De) (i:Nat),glk ms x.pl=some s/\a2f s/\x.ix=(i:Int)/\s.decls[i]? = some d
theorem a7G {x:Src} (h:a2f x) (hd:DeG d):(a0q x d).length<=100000:=by
 have fi:=De.name_len hd;have hbl:=a7o hd;have dN:=B7 h.pkg.1;have himl:=h.impl;have fU:∀ s∈x.imports,s.length<=80:=fun s hs=>by have:=B7 (h.imp s hs).1;omega
 have bh:=a6S fU x.imports.length;rw [W1 (n_6 _)] at bh;have bU:=a2Z [44,32] d.params;have dW:=b3k (b14 hd);have hprl:=hd.parl;have e2:([44,32]:Str).length=2:=rfl;rw [e2] at bU;have hh:(a4L d).length<=1200:=by
  unfold a4L
  split
  ·simp only [n_7,C4,I3];omega
  ·split
   ·simp only [n_7,C4,I3];omega
   ·simp only [n_7,C4,I3];omega
 unfold a0q;simp only [n_7,C4,I3];omega
theorem b4l (fl:List Fi) (nn va:Bool) (br:List Str) (ms:SM) (me:EM) (x:En) (hx:b1o ms x):b8 CC 106 [.ptr 0 0,.agg x.cells] (wst fl nn va br ms me) fun r τ=>F8 4 τ r (.ret (sv (a0a ms x))) (wst fl nn va br ms me):=by
 refine cO Tryz.func106 ?_;refine b1x ?_;refine cY a3W ?_;refine a6B ?_;refine cY a8s ?_;refine cY a1w ?_;refine c3D ?_;refine a2B ?_;refine cC ?_ ?_<;>intro h1
 ·have u1:x.ct=0:=sp_ h1;refine z_0 ?_;refine a7x ?_;refine c6 ?_;exact ⟨_,rE1,(by rw [a0a,n_1 u1];exact a2r rfl (.old (.val _)))⟩
 ·have u1:¬ x.ct=0:=sp_ h1;refine a2B ?_;refine cC ?_ ?_<;>intro h2
  ·have u2:x.ct=1:=sp_ h2;obtain ⟨src,d,i,hg,hsg,hix,hdi⟩:=hx u2;have hdg:=hsg.dec d (n_2 hdi);have aj:=a7G hsg hdg;have ed:b4E ms x=a0q src d:=by rw [b4E,hg,n_8,hix,a1Z,hdi];rfl
   refine D4 ?_;refine cW 15 ?_;refine a3Z ?_;refine hY b7G ?_;refine hY b6q ?_;refine hY b2g ?_;refine hY T2 ?_;refine hY (R5 (vc:=vcS) (l:=ms) (a:=x.pl) b7C rfl tt tt rfl rfl c0S a2L rfl rfl (show ((glk ms x.pl).map vcS).getD _=vcS src by rw [hg];rfl)) ?_;refine hY a8s ?_;refine hY a1w ?_;refine hY (c4 rfl Tryz.call156 j1 ((by have h:=c16 src hsg i d hdi hdg (n_3.1 hdi).1 ((wst fl nn va br ms me)++[.box x.cells]);rw [<- hix] at h;exact h)) rfl) ?_;refine hY A3 ?_;refine hY a4g ?_;refine hY a4g ?_;refine hY a0Q ?_;refine b16 ?_;refine a8f ?_;refine cY (G8 rfl rfl tt rfl rfl (by show 1+(a0q src d).length<=_;omega)) ?_;refine a2l ?_;exact ⟨_,rE1,(by rw [a0a,n_0 u1,n_1 u2,ed];exact a2r rfl (.old (.val _)))⟩
  ·have u2:¬ x.ct=1:=sp_ h2;refine a9F ?_;refine a7x ?_;refine c6 ?_;exact ⟨_,rE1,(by rw [a0a,n_0 u1,n_0 u2];exact a2r rfl (.old (.val _)))⟩
theorem b6Z (ao:WAt σ w q1 q2 t fl nn va br ms me) (x:En) (hx:b1o ms x):b8 CC 106 [.ptr w 0,.agg x.cells] σ fun r τ=>r = .ret (sv (a0a ms x))/\τ=σ :=
 b2B (fun a h=>by simp at h;subst h;exact En.pure _) (.val _) (b4l fl nn va br ms me x hx) ao
theorem b48 (x:Src) (σ:List b9):b8 CC 125 [.agg x.cells] σ fun r τ=>∃ _:Unit,r = .ret (.clo 164 [.ptr σ.length 0])/\τ=σ++[.box x.cells]/\True:=by
 refine qO Tryz.func125 ?_;refine qD (F5 rfl tt j2 j4 ?_);refine qY (a6q rfl ⟨tt,tt⟩) ?_;refine c6 ?_;exact ⟨_,a1W rfl tt rfl,(),rfl,rfl,tt⟩
theorem c9o (x:Src) {kb:Nat} (J:Nat->List b9->Prop) (Jx:List b9->Prop) (hb:∀ i τ,J i τ->τ[kb]? = some (.box x.cells)) (hy:∀ i s τ,(x.pkg::x.imports)[i]? = some s->J i τ->a71 CC k [sv s] τ fun r fN=>(r = .ret (.val (.bool true))/\J (i+1) fN)\/(r = .ret (.val (.bool false))/\Jx fN)) (hl:x.imports.length<=1000000) {τ0:List b9} (h0:J 0 τ0):b8 CC 164 [.yld k,.ptr kb 0] τ0 fun r τ=>(∃ c,r = .ret c)/\(J (x.imports.length+1) τ\/Jx τ):=by
 refine cO Tryz.func164 ?_;refine D4 (D4 ?_);refine b7d (k:=k) (cargs:=[sv x.pkg]) (pre:=[_,_,_]) (post:=[_]) rfl rfl rfl rfl (nb rfl) rfl ?_;refine cY A3 ?_;refine cY b4R ?_;refine cY (m0 rfl tt rfl t_6 (hb 0 _ h0) rfl) ?_;refine z8 ?_;refine ⟨tt,rfl,⟨tt,tt⟩,rfl,(hy 0 x.pkg _ rfl h0).mono fun r τ h=>?_⟩
 rcases h with ⟨rfl,h⟩ | ⟨rfl,h⟩
 ·refine a82 ?_;refine a5g tt rfl (fun h1=>by cases h1) (fun h1=>?_);refine a9F ?_;refine cY c4X ?_;refine cY (m0 rfl tt rfl b3F (hb 1 _ h) rfl) ?_;refine cY I7 ?_;refine a5G ?_;refine I4 (α:=Nat × List b9) (fun a=>[(0,.yld k),(11,.list (x.imports.map scv) (gnn x.imports.length) none),(12,iv x.imports.length),(13,iv a.1)]) Prod.snd (fun a=>a.1<=x.imports.length/\J (a.1+1) a.2) (fun a=>x.imports.length - a.1) (0,τ) ⟨n_5 _,h⟩ tu_ rfl ?_;intro ⟨i,τ1⟩ E0 ⟨hi,hj⟩;dsimp only at hi hj ⊢;refine a5H ?_;refine cC ?_ ?_<;>intro h1
  ·have ae:i < x.imports.length:=sm_ h1;obtain ⟨y,hb1⟩:∃ y,x.imports[i]? = some y:=⟨x.imports[i]'ae,si_⟩;refine b0E ?_;refine cY (o9 rfl tt tt rfl rfl t_2 t_0 om_ (i8 hb1) rfl) ?_;refine cY a6I ?_;refine b2a ?_;refine b7d (k:=k) (cargs:=[sv y]) (pre:=[_,_]) (post:=[_]) rfl rfl rfl rfl (nb rfl) rfl ?_;refine cY A3 ?_;refine d6Q ?_;refine ⟨tt,rfl,⟨tt,tt⟩,rfl,(hy (i+1) y _ (sp_ hb1) hj).mono fun r τ2 h=>?_⟩
   rcases h with ⟨rfl,h⟩ | ⟨rfl,h⟩
   ·refine a82 ?_;refine a5g tt rfl (fun h1=>by cases h1) (fun h1=>?_);refine C5 ?_;refine a7n ?_;exact ⟨(i+1,τ2),do_,⟨do_,h⟩,tu_,rfl⟩
   ·refine a82 ?_;refine a5g tt rfl (fun h1=>?_) (fun h1=>by cases h1);refine c6 ?_;exact ⟨_,rE0,⟨_,rfl⟩,.inr h⟩
  ·have hie:i=x.imports.length:=sm_ h1;subst hie;refine j6 ?_;exact ⟨_,rE0,⟨_,rfl⟩,.inl hj⟩
 ·refine a82 ?_;refine a5g tt rfl (fun h1=>?_) (fun h1=>by cases h1);refine c6 ?_;exact ⟨_,rE0,⟨_,rfl⟩,.inr h⟩
def cN (P:Str->Bool):List Str->Nat
 | []=>0
 | p::l=>if P p=true then 1 else cN P l+1
theorem c6Y {P:Str->Bool}:∀ {l:List Str},(∀ p∈l,P p=false)->cN P l=l.length
 | [],_=>rfl
 | p::l,h=>by
  rw [cN,n_0 (by rw [h p b7n];decide),c6Y fun q hq=>h q (a4r _ hq)];rfl
theorem d2t {P:Str->Bool}:∀ {l:List Str} {i:Nat} {y:Str},l[i]? = some y->P y=true->(∀ p∈l.take i,P p=false)->cN P l=i+1
 | [],i,y,h,_,_=>by cases h
 | p::l,0,y,h,hy,_=>by injection h with h;subst h;rw [cN,n_1 hy]
 | p::l,i+1,y,h,hy,hn=>by
  rw [cN,n_0 (by rw [hn p si_];decide),d2t (l:=l) (i:=i) (sp_ h) hy fun q hq=>hn q (by rw [a6E];exact a4r _ hq)]
def fE (va:Bool) (me:EM) (name p:Str):En:=O7 va me 1 p name
def a29 (va:Bool) (me:EM) (name p:Str):Bool:=decide (0 < (fE va me name p).ct)
def a8d (va:Bool) (me:EM) (name:Str) (L:List Str):Nat->En
 | 0=>En.z
 | i+1=>match L[i]? with
  | some p=>fE va me name p
  | none=>En.z
def J8 (va:Bool) (me:EM) (name:Str) (L:List Str):Nat:=cN (a29 va me name) L
def U7 (va:Bool) (me:EM) (name:Str) (L:List Str):En:=a8d va me name L (J8 va me name L)
def J6 (name:Str) (L:List Str) (i:Nat):List Ky:=(L.take i).map fun p=>⟨1,p,name⟩
def a1V (x:En):En:=if x.ct=0 then En.z else if 1 < x.ct then En.z else x
def a39 (x:En):Int:=if x.ct=0 then 11 else if 1 < x.ct then 12 else 0
def b01 (va:Bool) (me:EM) (name:Str) (L:List Str):CV:=.tup [.agg (a1V (U7 va me name L)).cells,.list ((J6 name L (J8 va me name L)).map Ky.cv) (gnn (J8 va me name L)) none,iv (a39 (U7 va me name L))]
abbrev cSt (fl:List Fi) (nn va:Bool) (br:List Str) (ms:SM) (me:EM) (x:Src) (name:Str) (ks:List Ky) (i:Nat) (e:En) (D ob:b9):List b9:=[wbx fl nn va br 1 2 3,smO ms,emO me,r7 br.length,.box [.ptr 0 0],.box x.cells,.box [sv name],.box En.z.cells,.box [.list (ks.map Ky.cv) (gnn i) (G9 i (13+i))],.box e.cells,.box x.cells,D,ob]++(List.replicate i .dead++[r7 i])
theorem d4r {E:Env} {o:Oper} {t e:TypeId} {x y:Operand} {V new:List (List CV)} {q:Nat} {ti:TypeInfo} {z:Value} {K:Q9->List b9->Prop} {pre:List b9} (hq:pre.length=q) (ho:o.op = .call { callee:=.builtin .append,args:=#[x,y],argTypes:=#[t,t]}) (hx:E.valid x) (hy:E.valid y) (ex:E.val CC x = .list V (gnn i) (G9 i (q+i))) (hm:i=V.length)
 (aR:∀ M w v,Rel CC M (pre++(List.replicate i .dead++[r7 i])) w->RV M w (E.val CC y) v->Go.Cl.Src CC M w new s v) (hu:∀ w,(underlying t).run CC.P w = .ok (.slice e) w) (hs:∀ w,(sizeOf e).run CC.P w = .ok s w) (df:∀ w,(typeInfo e).run CC.P w = .ok ti w) (hz:∀ w,(zeroValue e).run CC.P w = .ok z w) (cc:z.cells.size=s)
 (bb:∀ r∈V,r.length=s) (hn:new.length=1) (hb:(V.length+1)*ti.bytes<=140737488355328) (bn:V.length+1<=9223372036854775807) (av:List (List CV)) (he:V++new=av)
 (hk:K (.ret (.list av (gnn (i+1)) (G9 (i+1) (q+(i+1))))) (pre++(List.replicate (i+1) .dead++[r7 (i+1)]))):H4 CC (pre++(List.replicate i .dead++[r7 i])) E o K:=by
 have hl:(pre++(List.replicate i b9.dead++[r7 i])).length=q+(i+1):=by simp [hq]
 have bq:(pre++(List.replicate i b9.dead++[r7 i])).set (q+i) .dead++[r7 (i+1)]=pre++(List.replicate (i+1) .dead++[r7 (i+1)]):=by
  rw [b5u _ _ om_,b5u _ _ Q7,List.length_replicate,hq,show q+i - q - i=0 by omega,F7,F7,List.replicate_succ',F7];rfl
 refine F4 (m:=i) (p:=q+i) ho hx hy ex hm aR hu hs df hz cc (.inr ?_) bb (by rw [hn];exact hb) (by rw [hn];exact bn) av (i+1) he om_ ?_
 ·rw [a0y om_,a0y Q7];simp [hq]
 ·rw [hl,bq];exact hk
theorem c4Z {P:Str->Bool} {L:List Str} {y:Str} (h:L[i]? = some y) (hy:P y=false) (hn:∀ p∈L.take i,P p=false):∀ p∈L.take (i+1),P p=false:=fun p hp=>by
 rw [a3P,h] at hp
 rcases Y1.1 hp with hp | hp
 ·exact hn p hp
 ·simp at hp;subst hp;exact hy
theorem b6J {name:Str} {L:List Str} {y:Str} (h:L[i]? = some y):J6 name L (i+1)=J6 name L i++[⟨1,y,name⟩]:=c6h h _
theorem a7J {V:List (List CV)} {tok:Option Nat} (h:∀ r∈V,T0 r):Cls n σ (.list V nn tok) (.list V nn none) :=
 .list rfl (fun i r r' h1 h2=>by rw [h1] at h2;injection h2 with h2;rw [h2]) fun i j r r' c c' h1 h2 h3 h4=>by
  rw [h1] at h2;injection h2 with h2;subst h2
  rw [h3] at h4;injection h4 with h4;subst h4
  exact .old ((h r (n_2 h1)).all c (n_2 h3)).old
theorem a6Y {a a' b b' c c':CV} (h1:Cls n σ a a') (h2:Cls n σ b b') (h3:Cls n σ c c'):Cls n σ (.tup [a,b,c]) (.tup [a',b',c']):=.tup rfl fun i x y g1 g2=>by
 rcases i with _ | _ | _ | i
 ·injection g1 with g1;injection g2 with g2;subst g1 g2;exact h1
 ·injection g1 with g1;injection g2 with g2;subst g1 g2;exact h2
 ·injection g1 with g1;injection g2 with g2;subst g1 g2;exact h3
 ·cases g1
theorem b8R {τ:List b9} (rest:List b9):a8Q 4 τ (wbx fl nn va br 1 2 3::smO ms::emO me::r7 br.length::rest) (wst fl nn va br ms me):=⟨.same (a85 de_ de_ de_),.same (X3 _ _),.same (X5 _ _),.same G5,by cases rest<;>trivial⟩
theorem b8t (fl:List Fi) (nn va:Bool) (br:List Str) (ms:SM) (me:EM) (x:Src) (name:Str) (hl:x.imports.length<=1000000):b8 CC 75 [.ptr 0 0,.agg x.cells,sv name] (wst fl nn va br ms me) fun r τ=>∃ _:Unit,a0T 4 τ r (.ret (b01 va me name (x.pkg::x.imports)))/\a8Q 4 τ τ (wst fl nn va br ms me)/\4<=4/\True:=by
 refine b8o (kD:=11) Tryz.func75 rfl rfl ?_;refine b0e ?_;refine C8 ?_;refine qD (F5 rfl tt j2 (.inl rfl) ?_);refine qD (F5 rfl tt j2 j4 ?_);refine qD (F5 rfl tt j2 (.inl rfl) ?_);refine qD (p7 rfl a5i rfl j4 ?_);refine ⟨rfl,c5Q (b0e ?_)⟩;refine C8 ?_;refine qD (p7 rfl Tryz.zeroValue36 rfl (.inl rfl) ?_);refine ⟨rfl,b0e ?_⟩;refine C8 ?_;refine qD (p7 rfl a5i rfl j4 ?_);refine ⟨rfl,b0e ?_⟩;refine b7t ?_;refine ⟨rfl,?_⟩;refine d0A fun E0 hE0=>?_;refine d0P (fun E' Y=>∃ ob:b9,E'.is [(6,.ptr 7 0),(9,.ptr 8 0),(10,.ptr 9 0)]/\Y=cSt fl nn va br ms me x name (J6 name (x.pkg::x.imports) (J8 va me name (x.pkg::x.imports))) (J8 va me name (x.pkg::x.imports)) (U7 va me name (x.pkg::x.imports)) (.blk (.deferred (some []))) ob) ?_ ?_
 ·subst hE0;refine b0e ?_;refine C8 ?_;refine qo (qD (c5 rfl Tryz.call125 ⟨tt,tt⟩ (b48 x _) rfl ?_));intro _ _;refine ⟨rfl,c84 ?_⟩;refine c8C trivial rfl Tryz.call164 (cs:=[(3,.ptr 4 0),(5,.ptr 6 0),(9,.ptr 8 0),(10,.ptr 9 0)]) tu_ fun o h1 h2 h3 h4 h5=>U2 ?_;have ho:({ o with state:=.ready,pending:=none}:Loop)=o:=by cases o;simp at h1 h2;rw [h1,h2]
  refine (c9o x (k:=12) (kb:=10) (fun i τ=>i<=x.imports.length+1/\(∀ p∈(x.pkg::x.imports).take i,a29 va me name p=false)/\τ=cSt fl nn va br ms me x name (J6 name (x.pkg::x.imports) i) i (a8d va me name (x.pkg::x.imports) i) (.blk (.deferred (some []))) (.lp o 42 [(3,.ptr 4 0),(5,.ptr 6 0),(9,.ptr 8 0),(10,.ptr 9 0)]))
   (fun τ=>∃ i y,(x.pkg::x.imports)[i]? = some y/\a29 va me name y=true/\(∀ p∈(x.pkg::x.imports).take i,a29 va me name p=false)/\τ=cSt fl nn va br ms me x name (J6 name (x.pkg::x.imports) (i+1)) (i+1) (a8d va me name (x.pkg::x.imports) (i+1)) (.blk (.deferred (some []))) (.lp { o with state:=.done,pending:=some (.exit 0)} 42 [(3,.ptr 4 0),(5,.ptr 6 0),(9,.ptr 8 0),(10,.ptr 9 0)])) (fun i τ ⟨_,_,h⟩=>by rw [h];rfl) ?_ hl ⟨n_5 _,fun p hp=>by simp at hp,rfl⟩).mono ?_
  ·rintro i y _ hy ⟨hi,cz,rfl⟩;have hli:(J6 name (x.pkg::x.imports) i).length=i:=by
    have:=(n_3.1 hy).1;unfold J6;rw [a0W,a5t];omega
   have ae:=(n_3.1 hy).1;simp only [C4] at ae;have aJ:a8d va me name (x.pkg::x.imports) (i+1)=fE va me name y:=by rw [a8d,hy]
   refine c26 (t:=14) (o:=o) rfl h1 h3 rfl ?_;refine d1H h4 ?_;refine a4Z rfl ?_;refine qo ?_;refine ⟨rfl,rfl,?_⟩;refine d1H h5 ?_;refine c6z (b8g ?_);refine a4Z rfl ?_;refine qo (qY (A7 #[(0,1),(1,1),(2,1)] rfl ⟨rfl,tt,tt,tt⟩ c5s b4f rfl ⟨_,rfl⟩ (fun w=>by kernel_rfl) rfl rfl) ?_);refine qY (B3 [Ky.cv (⟨1,y,name⟩:Ky)] rfl ⟨tt,tt⟩ b1J a7m b4f rfl rfl rfl rfl rfl rfl rfl rfl rfl) ?_;refine qN (cSt fl nn va br ms me x name (J6 name (x.pkg::x.imports) i) i (a8d va me name (x.pkg::x.imports) i) (.blk (.deferred (some []))) (.lp { o with state:=.busy} 42 [(3,.ptr 4 0),(5,.ptr 6 0),(9,.ptr 8 0),(10,.ptr 9 0)])) rfl (qD (d4r (q:=13) (i:=i) rfl rfl tt tt rfl (by rw [a0W,hli]) (a2M rfl (by first|exact a1J (by intro a;rfl) _|(intro r hr;simp at hr;subst hr;rfl))) b1J a7m Tryz.typeInfo39 b4f rfl (by first|exact a1J (by intro a;rfl) _|(intro r hr;simp at hr;subst hr;rfl)) rfl (by have hb:Tryz.t39.bytes=40:=rfl;rw [hb,a0W,hli];omega) (by rw [a0W,hli];omega) ((J6 name (x.pkg::x.imports) (i+1)).map Ky.cv) (by rw [b6J hy,b5r];rfl) ?_));refine qD (j3 rfl tt tt rfl j2 Tryz.sizeOf36 (.inl rfl) rfl rfl (nb rfl) ?_);refine b8g ?_;refine a4Z rfl ?_;refine qo (qY (c4 rfl c0A ⟨tt,rfl,tt,tt,tt⟩ (a88 (w:=0) (q1:=1) (q2:=2) (t:=3) ⟨rfl,rfl,rfl,rfl,a7R ⟨de_,de_,de_,de_,de_,de_⟩⟩ 1 y name) rfl) ?_);refine qD (j3 rfl tt tt rfl j2 b1c j4 rfl rfl (nb rfl) ?_);refine b8g ?_;refine a4Z rfl ?_;refine qo ?_;refine c9j tt rfl (fun hh=>?_) (fun hh=>?_)
   ·have hf:a29 va me name y=true:=by unfold a29 fE;simpa using hh
    refine c96 ?_;refine ⟨rfl,.inr ⟨rfl,i,y,hy,hf,cz,?_⟩⟩;rw [aJ];rfl
   ·have hf:a29 va me name y=false:=by unfold a29 fE;simpa using hh
    refine d0v ?_;refine ⟨rfl,.inl ⟨rfl,om_,c4Z hy hf cz,?_⟩⟩;rw [aJ,ho];rfl
  ·rintro r τ ⟨hr,⟨-,cz,rfl⟩ | ⟨i,y,hy,hf,cz,rfl⟩⟩
   ·rw [W1 si_] at cz;have hN:J8 va me name (x.pkg::x.imports)=x.imports.length+1:=c6Y cz;refine ⟨hr,o,rfl,by rw [h1];decide,?_⟩;rw [h2];refine ⟨rfl,.lp { o with state:=.exhausted,pending:=none} 42 [(3,.ptr 4 0),(5,.ptr 6 0),(9,.ptr 8 0),(10,.ptr 9 0)],tu_,?_⟩;unfold U7;rw [hN];rfl
   ·have hN:J8 va me name (x.pkg::x.imports)=i+1:=d2t hy hf cz;refine ⟨hr,{ o with state:=.done,pending:=some (.exit 0)},rfl,(by intro h;cases h),?_⟩;refine ⟨rfl,.lp { o with state:=.exhausted,pending:=some (.exit 0)} 42 [(3,.ptr 4 0),(5,.ptr 6 0),(9,.ptr 8 0),(10,.ptr 9 0)],tu_,?_⟩;unfold U7;rw [hN];rfl
 ·rintro E σ ⟨ob,hE,rfl⟩ ds;refine c6f hE ?_;refine a4X ?_;refine c3O ?_;refine a4X ?_;refine a3t ?_;refine qo ?_;refine b49 tt rfl (fun hh=>?_) (fun hh=>?_)
  ·have hx:(U7 va me name (x.pkg::x.imports)).ct=0:=sp_ hh;refine d3P ?_;refine chf rfl d7f ?_;refine chf rfl c6r ?_;refine D6 ?_;refine d3Y ?_;refine c8q ?_;refine a5b ?_;refine a86 ?_;exact ⟨rfl,_,p8 (rs:=[.cell 6 59,.tmp 7,.tmp 8]) (cs:=[_,_,_]) rfl c6i (n_4 rfl),(),.ret (a6Y (X9 (n_9 (fun e:En=>CV.agg e.cells) (show En.z=a1V _ from (n_1 hx).symm)) (En.pure _)) (a7J fun r hr=>by obtain ⟨k,_,rfl⟩:=I9.1 hr;exact a4f k) (F1 (show (11:Int)=a39 _ from (n_1 hx).symm))),b8R _,n_6 _,tt⟩
  ·have hx:¬ (U7 va me name (x.pkg::x.imports)).ct=0:=sp_ hh;refine a4X ?_;refine a3t ?_;refine qo ?_;refine b49 tt rfl (fun hh=>?_) (fun hh=>?_)
   ·have hy:1 < (U7 va me name (x.pkg::x.imports)).ct:=sp_ hh;refine d3P ?_;refine chf rfl d7f ?_;refine chf rfl c6r ?_;refine D6 ?_;refine d3Y ?_;refine c8q ?_;refine a5b ?_;refine a86 ?_;exact ⟨rfl,_,p8 (rs:=[.cell 6 59,.tmp 7,.tmp 8]) (cs:=[_,_,_]) rfl c6i (n_4 rfl),(),.ret (a6Y (X9 (n_9 (fun e:En=>CV.agg e.cells) (show En.z=a1V _ by rw [a1V,n_0 hx,n_1 hy])) (En.pure _)) (a7J fun r hr=>by obtain ⟨k,_,rfl⟩:=I9.1 hr;exact a4f k) (F1 (show (12:Int)=a39 _ by rw [a39,n_0 hx,n_1 hy]))),b8R _,n_6 _,tt⟩
   ·have hy:¬ 1 < (U7 va me name (x.pkg::x.imports)).ct:=sp_ hh;refine c4q ?_;refine d3P ?_;refine chf rfl (c9 rfl b7Z) ?_;refine chf rfl c6r ?_;refine D6 ?_;refine d3Y ?_;refine c8q ?_;refine a5b ?_;refine a86 ?_;exact ⟨rfl,_,p8 (rs:=[.cell 6 59,.tmp 7,.tmp 8]) (cs:=[_,_,_]) rfl c6i (n_4 rfl),(),.ret (a6Y (X9 (n_9 (fun e:En=>CV.agg e.cells) (show U7 va me name (x.pkg::x.imports)=a1V _ by rw [a1V,n_0 hx,n_0 hy])) (En.pure _)) (a7J fun r hr=>by obtain ⟨k,_,rfl⟩:=I9.1 hr;exact a4f k) (F1 (show (0:Int)=a39 _ by rw [a39,n_0 hx,n_0 hy]))),b8R _,n_6 _,tt⟩
theorem c3A (ao:WAt σ w q1 q2 t fl nn va br ms me) (x:Src) (name:Str) (hl:x.imports.length<=1000000):b8 CC 75 [.ptr w 0,.agg x.cells,sv name] σ fun r τ=>r = .ret (b01 va me name (x.pkg::x.imports))/\τ=σ :=
 (a5J [w,q1,q2,t] hCC rfl ao.nd (c7d ao) (.cons (.ptr rfl) (L3 fun a h=>by simp at h;rcases h with rfl | rfl;exact o8 x.pure;exact .val _)) (c:=fun _:Unit=>b01 va me name (x.pkg::x.imports)) (P:=fun _=>True) (fun _ _=>C0 (cs:=[_,_,_]) ⟨En.pure _,.list fun r hr c hc=>by
  obtain ⟨k,_,rfl⟩:=I9.1 hr;exact (a4f k).all c hc,.val _,tt⟩) (W9 (S:=fun _=>wst fl nn va br ms me) (res:=fun _:Unit=>.ret (b01 va me name (x.pkg::x.imports))) (P:=fun _=>True) hCC (b8t fl nn va br ms me x name hl))).mono fun _ _ ⟨_,h1,h2,_⟩=>⟨h1,h2⟩
noncomputable def b1d (fl:List Fi) (x:Src) (name:Str):CV:=if B2 fl=0/\A9 name=true then b01 true (x9 fl).2.2 name (x.pkg::x.imports) else .tup [.agg En.z.cells,.list [] false none,iv 1]
theorem b2V:u0 (.list [] false none):=.list fun r hr=>by cases hr
theorem a98 (va:Bool) (me:EM) (name:Str) (L:List Str):u0 (b01 va me name L):=C0 (cs:=[_,_,_]) ⟨En.pure _,.list fun r hr c hc=>by
 obtain ⟨k,_,rfl⟩:=I9.1 hr;exact (a4f k).all c hc,.val _,tt⟩
theorem c6D (fl:List Fi) (nn:Bool) (bO:∀ f∈fl,f.p.length<=1000000000) (x:Src) (hl:x.imports.length<=1000000) (name:Str):b8 CC 30 [.agg (B5 fl nn),.agg x.cells,(sv name)] [] fun r τ=>∃ _:Unit,a0T 0 τ r (.ret (b1d fl x name))/\True:=by
 refine cO Tryz.func30 ?_;refine b1x ?_;refine cD (F5 rfl tt j2 j4 ?_);refine cD (p7 rfl a5i rfl j4 ?_);refine cY a3W ?_;refine a7x ?_;refine z_0 ?_;refine cY a06 ?_;refine dc rfl Tryz.call56 ⟨tt,tt⟩ (c70 fl nn bO _) ?_;intro _ _;refine K0 [.box (B5 fl nn),.box x.cells,.box En.z.cells,wbx fl nn (B2 fl == 0) (x9 fl).1 4 5 6,smO (x9 fl).2.1,emO (x9 fl).2.2,r7 (x9 fl).1.length] rfl ?_;refine b2a ?_;refine a8S ?_;refine c8K ?_;refine cY c0G ?_;refine b1t ?_;refine cG (fun hg=>c4 rfl b9j ⟨hg,tt⟩ (a0J name _) rfl) ?_;refine cG a4O ?_;refine cY Q1 ?_;refine z8 ?_;refine cC ?_ ?_<;>intro h1
 ·have hn:¬ (B2 fl=0/\A9 name=true):=by
   rintro ⟨h2,h3⟩;simp [h2,h3] at h1
  refine z_0 ?_;refine cY d6j ?_;refine cD (j3 rfl tt tt rfl j2 b1c j4 rfl rfl (nb rfl) ?_);refine cY a3W ?_;refine a7x ?_;refine c6 ?_;exact ⟨_,p8 (rs:=[.cell 6 59,.tmp 7,.tmp 8]) (cs:=[_,_,_]) rfl c6i (n_4 rfl),(by rw [b1d,n_0 hn];exact ⟨(),.ret (a6Y (X9 (show _=CV.agg En.z.cells from rfl) (En.pure _)) (.old (b2V).old) (.old (.val _))),tt⟩)⟩
 ·have hn:B2 fl=0/\A9 name=true:=sp_ h1;have hv:(B2 fl == 0)=true:=by rw [hn.1];rfl
  rw [hv];refine C5 ?_;refine z_4 ?_;refine cY a8t ?_;refine cY A3 ?_;refine ye rfl Tryz.call75 C6 (c3A (σ:=[.box (B5 fl nn),.box x.cells,.box En.z.cells,wbx fl nn true (x9 fl).1 4 5 6,smO (x9 fl).2.1,emO (x9 fl).2.2,r7 (x9 fl).1.length]) (w:=3) (q1:=4) (q2:=5) (t:=6) (fl:=fl) (nn:=nn) (va:=true) (br:=(x9 fl).1) (ms:=(x9 fl).2.1) (me:=(x9 fl).2.2) ⟨rfl,rfl,rfl,rfl,a7R ⟨de_,de_,de_,de_,de_,de_⟩⟩ x name hl) rfl ?_;refine d2i ?_;refine cY a4g ?_;refine c6k ?_;refine a2l ?_;exact ⟨_,p8 (rs:=[.cell 6 59,.tmp 7,.tmp 8]) (cs:=[_,_,_]) rfl c6i (n_4 rfl),(by rw [b1d,n_1 hn];exact ⟨(),.ret (.old (a98 _ _ _ _).old),tt⟩)⟩
theorem d0S (fl:List Fi) (nn:Bool) (bO:∀ f∈fl,f.p.length<=1000000000) (x:Src) (hl:x.imports.length<=1000000) (name:Str) (σ:List b9):b8 CC 30 [.agg (B5 fl nn),.agg x.cells,(sv name)] σ fun r τ=>r = .ret (b1d fl x name)/\τ=σ :=
 (G4 (res:=fun _:Unit=>.ret (b1d fl x name)) (P:=fun _=>True) hCC (fun a h=>by simp at h;rcases h with rfl | rfl | rfl;exact o8 (cs:=B5 _ _) ⟨H0 _ _,tt⟩;exact o8 x.pure;exact .val _) (c6D fl nn bO x hl name) (fun _ _=>by
  unfold b1d
  split
  ·exact a98 _ _ _ _
  ·exact C0 (cs:=[_,_,_]) ⟨En.pure _,b2V,.val _,tt⟩) σ).mono fun r τ ⟨_,h1,h2,_⟩=>⟨h1,h2⟩
def a9E (l:Str) (fs:List Fi):Str:=fs.foldl (fun l f=>I6 (I6 l f.p) f.b) l
theorem c3y {fs:List Fi} {y:Fi} (h:fs[i]? = some y) (l:Str):a9E l (fs.drop i)=a9E (I6 (I6 l y.p) y.b) (fs.drop (i+1)):=by
 obtain ⟨ae,rfl⟩:=n_3.1 h;rw [R4 ae];rfl
theorem a2R {s:Str} (hs:s.length<=100000000000):(I6 l s).length<=l.length+s.length+10:=by
 have:=a2v (n:=s.length) (k:=9) om_;unfold I6;simp only [n_7];omega
theorem c8h {fs:List Fi} (h:∀ f∈fs,f.p.length<=100/\f.b.length<=100000) (l:Str):(a9E l fs).length<=l.length+fs.length*101000:=by
 induction fs generalizing l with
 | nil=>simp [a9E]
 | cons y fs ih =>
  have h1:=h y si_;have h2:=ih (fun f hf=>h f (by simp [hf])) (I6 (I6 l y.p) y.b);have h3:=a2R (l:=I6 l y.p) (s:=y.b) om_;have h4:=a2R (l:=l) (s:=y.p) om_;rw [C4,R3];simp only [a9E,List.foldl_cons] at h2 ⊢;omega
def a0H (ms:SM) (fl:List Fi) (pkg:Str):Str:=[61]++a9E [] (B1 ms fl pkg)
theorem a3e {pkg:Str} {f:Fi} (h:f∈B1 ms fl pkg):f∈fl:=(b3r.1 h).1
theorem a7N (ms:SM) (fl:List Fi) (pkg:Str):(B1 ms fl pkg).length<=fl.length:=List.length_filter_le _ _
theorem b8l {pkg:Str} (bO:fl.length<=1000) (gK:∀ f∈fl,f.p.length<=100/\f.b.length<=100000):(a0H ms fl pkg).length<=102000000:=by
 have h1:=c8h (fun f hf=>gK f (a3e hf)) (fs:=B1 ms fl pkg) [];have h2:=a7N ms fl pkg;have h3:(B1 ms fl pkg).length*101000<=1000*101000:=R6 _ om_;unfold a0H;simp only [n_7,C4,I3] at h1 ⊢;omega
theorem c9p (fl:List Fi) (nn va:Bool) (br:List Str) (ms:SM) (me:EM):WAt (wst fl nn va br ms me) 0 1 2 3 fl nn va br ms me:=⟨rfl,rfl,rfl,rfl,a7R ⟨de_,de_,de_,de_,de_,de_⟩⟩
theorem c3s (fl:List Fi) (nn va:Bool) (br:List Str) (ms:SM) (me:EM) (pkg:Str) (bO:fl.length<=1000) (gK:∀ f∈fl,f.p.length<=100/\f.b.length<=100000):b8 CC 115 [.ptr 0 0,(sv pkg)] (wst fl nn va br ms me) fun r τ=>F8 4 τ r (.ret (sv (a0H ms fl pkg))) (wst fl nn va br ms me):=by
 have hffl:=a7N ms fl pkg;refine qO Tryz.func115 ?_;refine qY (c4 rfl Tryz.call158 j1 (b53 (c9p fl nn va br ms me) pkg om_) rfl) ?_;refine qY a0S ?_;refine j7 hCC (α:=Nat × Str) (fun x=>[(5,(.list (x.2.map bcv) (gnn x.2.length) none)),(10,(.list ((B1 ms fl pkg).map Fi.cv) (gnn (B1 ms fl pkg).length) none)),(11,(iv ((B1 ms fl pkg).length:Int))),(12,iv x.1)]) (fun _=>(wst fl nn va br ms me)) (fun x=>x.1<=(B1 ms fl pkg).length/\x.2.length<=x.1*101000/\a9E [] (B1 ms fl pkg)=a9E x.2 ((B1 ms fl pkg).drop x.1)) (fun x=>(B1 ms fl pkg).length - x.1) (0,[]) ⟨n_5 _,n_5 _,rfl⟩ tu_ (ah:=[]) rfl w8 uz_ ?_;intro ⟨i,l⟩ ⟨hi,hl,hr⟩;dsimp only at hi hl hr ⊢;refine qk (qC ?_ ?_)<;> intro h1
 ·have ae:(i:Int) < (B1 ms fl pkg).length:=sp_ h1;obtain ⟨y,hb⟩:∃ y,(B1 ms fl pkg)[i]? = some y:=⟨(B1 ms fl pkg)[i]'om_,si_⟩;rw [c3y hb] at hr;obtain ⟨eU,hyb⟩:=gK y (a3e (n_2 hb));have gC:=a2R (l:=l) (s:=y.p) om_;have di:=a2R (l:=I6 l y.p) (s:=y.b) om_;have cS:i*101000<=1000*101000:=R6 _ om_;refine b8G ?_;refine cW 8 ?_;refine hY A3 ?_;refine hY a9R ?_;refine hY T2 ?_;refine hY (c4 rfl b9X j1 (a1e l _ y.p om_ om_ _) rfl) ?_;refine hY a9R ?_;refine hY T2 ?_;refine hY (c4 rfl b9X j1 (a1e (I6 l y.p) _ y.b om_ om_ _) rfl) ?_;refine b0k ?_;refine qY o7 ?_;exact ⟨(i+1,I6 (I6 l y.p) y.b),_,⟨do_,do_,do_,hr⟩,tu_,rfl⟩
 ·have aE:(B1 ms fl pkg).length<=i:=sm_ h1;rw [T5 aE] at hr;replace hr:a9E [] (B1 ms fl pkg)=l:=hr;have cS:i*101000<=1000*101000:=R6 _ om_;refine j6 ?_;refine qY b6y ?_;refine qY (G8 rfl rfl tt rfl rfl (by show 1+l.length<=_;omega)) ?_;refine c6 ?_;exact ⟨_,rE1,(by rw [a0H,hr];exact a2r rfl (.old (.val _)))⟩
theorem b7L (ao:WAt σ w q1 q2 t fl nn va br ms me) (pkg:Str) (bO:fl.length<=1000) (gK:∀ f∈fl,f.p.length<=100/\f.b.length<=100000):b8 CC 115 [.ptr w 0,(sv pkg)] σ fun r τ=>r = .ret (sv (a0H ms fl pkg))/\τ=σ :=
 b2B (fun a h=>by simp at h;subst h;exact .val _) (.val _) (c3s fl nn va br ms me pkg bO gK) ao
end Go.Proofs.YtlppbmfecjabeaaGreatDoor
namespace Go.Proofs
open Go.Shelf
def Tryz.lays190_ren:Go.Shelf.Ren:=⟨fun | 190=>161 | 125=>166 | 258=>206 | 128=>216 | 129=>217 | 302=>252 | 303=>253 | 304=>254 | 305=>255 | 306=>256 | 307=>257 | 308=>258 | 309=>259 | 310=>260 | 333=>291 | 329=>265 | 330=>266 | 334=>292 | 335=>293 | 336=>294 | 344=>311 | n=>n,fun | 31=>26 | 9=>9 | 3=>3 | 46=>141 | 0=>0 | 51=>262 | 53=>86 | 4=>4 | 183=>256 | 182=>255 | 131=>139 | 5=>5 | 218=>292 | 222=>296 | 228=>320 | 229=>321 | n=>n,fun | n=>n⟩
theorem Tryz.lays190:Go.Proofs.Lays.n190 Tryz.prog Tryz.lays190_ren:={
 mixed:=by kernel_rfl
 f125:=Tryz.func166.trans (n_9 some B4)
 f128:=Tryz.func216.trans (n_9 some B4)
 f129:=Tryz.func217.trans (n_9 some B4)
 f190:=Tryz.func161.trans (n_9 some B4)
 f258:=Tryz.func206.trans (n_9 some B4)
 f302:=Tryz.func252.trans (n_9 some B4)
 f303:=Tryz.func253.trans (n_9 some B4)
 f304:=Tryz.func254.trans (n_9 some B4)
 f305:=Tryz.func255.trans (n_9 some B4)
 f306:=Tryz.func256.trans (n_9 some B4)
 f307:=Tryz.func257.trans (n_9 some B4)
 f308:=Tryz.func258.trans (n_9 some B4)
 f309:=Tryz.func259.trans (n_9 some B4)
 f310:=Tryz.func260.trans (n_9 some B4)
 f329:=Tryz.func265.trans (n_9 some B4)
 f330:=Tryz.func266.trans (n_9 some B4)
 f333:=Tryz.func291.trans (n_9 some B4)
 f334:=Tryz.func292.trans (n_9 some B4)
 f335:=Tryz.func293.trans (n_9 some B4)
 f336:=Tryz.func294.trans (n_9 some B4)
 f344:=Tryz.func311.trans (n_9 some B4)
 t0:=Tryz.underlying0
 a0:=Tryz.isAgg0
 z0:=Tryz.sizeOf0
 v0:=Tryz.zeroValue0
 t3:=c6b
 a3:=a10
 z3:=t_1
 v3:=t_8
 t4:=Tryz.underlying4
 a4:=c8D
 z4:=c7h
 v4:=Tryz.zeroValue4
 t5:=Tryz.underlying5
 a5:=Tryz.isAgg5
 z5:=t_9
 v5:=a3J
 t9:=Tryz.underlying9
 a9:=t_6
 z9:=t_0
 v9:=t_3
 t31:=Tryz.underlying26
 a31:=b3F
 z31:=a2W
 v31:=Tryz.zeroValue26
 t46:=Tryz.underlying141
 a46:=Tryz.isAgg141
 z46:=Tryz.sizeOf141
 v46:=Tryz.zeroValue141
 t51:=Tryz.underlying262
 a51:=Tryz.isAgg262
 z51:=Tryz.sizeOf262
 v51:=Tryz.zeroValue262
 t53:=Tryz.underlying86
 a53:=Tryz.isAgg86
 z53:=Tryz.sizeOf86
 v53:=Tryz.zeroValue86
 t131:=Tryz.underlying139
 a131:=Tryz.isAgg139
 z131:=Tryz.sizeOf139
 v131:=Tryz.zeroValue139
 t182:=Tryz.underlying255
 a182:=Tryz.isAgg255
 z182:=Tryz.sizeOf255
 v182:=Tryz.zeroValue255
 t183:=Tryz.underlying256
 a183:=Tryz.isAgg256
 z183:=Tryz.sizeOf256
 v183:=Tryz.zeroValue256
 t218:=Tryz.underlying292
 a218:=Tryz.isAgg292
 z218:=Tryz.sizeOf292
 v218:=Tryz.zeroValue292
 t222:=Tryz.underlying296
 a222:=Tryz.isAgg296
 z222:=Tryz.sizeOf296
 v222:=Tryz.zeroValue296
 t228:=Tryz.underlying320
 a228:=Tryz.isAgg320
 z228:=Tryz.sizeOf320
 v228:=Tryz.zeroValue320
 t229:=Tryz.underlying321
 a229:=Tryz.isAgg321
 z229:=Tryz.sizeOf321
 v229:=Tryz.zeroValue321}
end Go.Proofs
namespace Go.Proofs.YtlppbmfecjabeaaGreatDoor
open Go Go.Cl
variable {fl l:List Fi} {ms:SM} {σ G H W:List b9} {nn:Bool} {me:EM} {w q1 q2 t i k B n L b:Nat} {br N:List Str} {v:b9} {pkg s:Str} {f:Fi} {ev:List Va}
theorem c7Y {ss:List Str} (aC:ss≠[]) (aj:ss.length<=1000000) (hk:σ[k]? = some (.vec 1 (ss.map scv))):b8 CC 161 [.vec k 0 ss.length] σ fun r τ=>∃ _:Unit,r = .ret (.tup [])/\τ=σ.set k (.vec 1 ((a0F ss).map scv))/\True :=
 (c7p (f:=161) (fun blk off cap ss w h1 h2 h3=>b4C Tryz.lays190 blk off cap ss w h1 h2 h3) aC om_ hk).mono fun r τ h=>⟨(),h.1,h.2,tt⟩
def a0X (ms:SM) (f:Fi):List Str:=((glk ms f.p).getD Src.z).imports
inductive Reach (ms:SM) (fl:List Fi) (pkg:Str):Str->Prop where
 | base:Reach ms fl pkg pkg
 | step {n:Str} {f:Fi} {s:Str}:Reach ms fl pkg n->f∈B1 ms fl n->s∈a0X ms f->Reach ms fl pkg s
def allI (ms:SM) (fl:List Fi):List Str:=fl.flatMap (a0X ms)
theorem c7X {n:Str} (h:Reach ms fl pkg n):n∈pkg::allI ms fl:=by
 cases h with
 | base=>simp
 | step _ hf hs=>exact a4r _ (List.mem_flatMap.2 ⟨_,a3e hf,hs⟩)
structure NmI (ms:SM) (fl:List Fi) (pkg:Str) (N:List Str):Prop where
 nd:N.Nodup
 rch:∀ n∈N,Reach ms fl pkg n
 pk:pkg∈N
theorem NmI.len (h:NmI ms fl pkg N):N.length<=1+(allI ms fl).length:=by
 have:=List.Nodup.length_le_of_subset h.nd (fun n hn=>c7X (h.rch n hn));simpa [b3N] using this
theorem NmI.snoc {n:Str} (h:NmI ms fl pkg N) (hn:n∈N) (hf:f∈B1 ms fl n) (hs:s∈a0X ms f) (hsN:s∉N):NmI ms fl pkg (N++[s]) where
 nd:=a3r h.nd hsN
 rch:=fun m hm=>by
  rcases Y1.1 hm with hm | hm
  ·exact h.rch m hm
  ·simp at hm;subst hm;exact .step (h.rch n hn) hf hs
 pk:=b4u _ h.pk
theorem b34 (h:NmI ms fl pkg N) (hc:∀ n∈N,∀ f∈B1 ms fl n,∀ s∈a0X ms f,s∈N) (n:Str):n∈N↔Reach ms fl pkg n :=
 ⟨h.rch n,fun hr=>by
  induction hr with
  | base=>exact h.pk
  | step _ hf hs ih=>exact hc _ ih _ hf _ hs⟩
theorem a8z {A B:List Str} (hA:A.Nodup) (hB:B.Nodup) (h:∀ n,n∈A↔n∈B):a0F A=a0F B:=by
 have hp:A.Perm B:=(List.perm_ext_iff_of_nodup hA hB).2 h;have tr:∀ (a b c:Str),decide (a<=b)=true->decide (b<=c)=true->decide (a<=c)=true:=fun a b c h1 h2=>by
  simp only [a1X] at h1 h2 ⊢;exact List.le_trans h1 h2
 have to:∀ (a b:Str),(decide (a<=b) || decide (b<=a))=true:=fun a b=>by
  simp only [a7u,a1X];exact List.le_total a b
 refine List.Perm.eq_of_pairwise (le:=fun a b=>decide (a<=b)=true) (fun a b _ _ h1 h2=>?_) (c7E tr to A) (c7E tr to B) ((b6E A _).trans (hp.trans (b6E B _).symm));simp only [a1X] at h1 h2;exact c0j h1 h2
open Classical in
noncomputable def a9l (ms:SM) (fl:List Fi) (pkg:Str):List Str:=if h:∃ N:List Str,N.Nodup/\∀ n,n∈N↔Reach ms fl pkg n then a0F h.choose else []
theorem b10 (hN:N.Nodup) (h:∀ n,n∈N↔Reach ms fl pkg n):a9l ms fl pkg=a0F N:=by
 have dx:∃ N:List Str,N.Nodup/\∀ n,n∈N↔Reach ms fl pkg n:=⟨N,hN,h⟩;unfold a9l;rw [dif_pos dx];exact a8z dx.choose_spec.1 hN fun n=>(dx.choose_spec.2 n).trans (h n).symm
def b6w (ms:SM) (fl:List Fi) (l:Str) (N:List Str):Str:=N.foldl (fun l s=>I6 (I6 l s) (a0H ms fl s)) l
theorem c3Y {y:Str} (h:N[i]? = some y) (l:Str):b6w ms fl l (N.drop i)=b6w ms fl (I6 (I6 l y) (a0H ms fl y)) (N.drop (i+1)):=by
 obtain ⟨ae,rfl⟩:=n_3.1 h;rw [R4 ae];rfl
noncomputable def b7M (ms:SM) (fl:List Fi) (pkg:Str):Str:=[61]++b6w ms fl [] (a9l ms fl pkg)
def tst (W G:List b9) (v:b9) (H:List b9):List b9:=W++G++v::H
theorem a3j (hW:W.length=4):(tst W G v H)[4+G.length]? = some v:=by
 rw [tst,a0y (by simp [hW])];simp [hW]
theorem c1X {v':b9} (hW:W.length=4):(tst W G v H).set (4+G.length) v'=tst W G v' H:=by
 rw [tst,b5u _ _ (by simp [hW])];simp [hW,tst]
theorem c9M {v':b9} (hW:W.length=4):(tst W G v H).set (4+G.length) .dead++[v']=tst W (G++.dead::H) v' []:=by
 rw [c1X hW];simp [tst]
theorem c9H (hW:W.length=4):(tst W G v H).length=4+(G++b9.dead::H).length:=by
 simp [tst,hW]
theorem c1h (a b:b9):(tst W G v H++[a]).set (tst W G v H).length b=tst W G v (H++[b]):=by
 rw [b5u _ _ (n_6 _)];simp [tst]
theorem b1E (s:Str) (hk:σ[k]? = some (.vec 1 (N.map scv))) (hl:N.length<=1000000):b8 CC 160 [.vec k 0 N.length,sv s] σ fun r Y=>r = .ret (.val (.bool (decide (s∈N))))/\Y=σ:=by
 have h:=a6u N true s om_;refine a5z (len:=N.length) (V:=N.map scv) hCC (fun a ha=>by simp at ha;subst ha;exact .val _) (fun r hr c hc=>?_) si_ hk ?_
 ·obtain ⟨x,_,rfl⟩:=I9.1 hr;simp [scv] at hc;subst hc;exact .val _
 ·rw [show ((N.map scv).drop 0).take N.length=N.map scv from by rw [a9s,W1 si_]];exact h
theorem c1k (fl:List Fi) (nn va:Bool) (br:List Str) (ms:SM) (me:EM):WAt (tst (wst fl nn va br ms me) G v H) 0 1 2 3 fl nn va br ms me:=⟨rfl,rfl,rfl,rfl,a7R ⟨de_,de_,de_,de_,de_,de_⟩⟩
theorem c8R (h:f∈fl):(a0X ms f).length<=(allI ms fl).length:=by
 unfold allI
 induction fl with
 | nil=>cases h
 | cons x l ih =>
  rw [b5A,n_7]
  rcases P0.1 h with rfl | h
  ·omega
  ·have:=ih h;omega
theorem c7m (fl:List Fi) (nn va:Bool) (br:List Str) (ms:SM) (me:EM) (pkg:Str) (bO:fl.length<=64) (gK:∀ f∈fl,f.p.length<=100/\f.b.length<=100000) (dL:(allI ms fl).length<=512) (cX:∀ {n:Str},Reach ms fl pkg n->n.length<=100000):b8 CC 117 [.ptr 0 0,(sv pkg)] (wst fl nn va br ms me) fun r τ=>F8 4 τ r (.ret (sv (b7M ms fl pkg))) (wst fl nn va br ms me):=by
 refine qO Tryz.func117 ?_;refine qD (c1e rfl tt rfl rfl t_2 t_0 t_3 rfl ?_);refine I4 (α:=Nat × List Str × List b9 × List b9) (fun x=>[(0,.ptr 0 0),(5,.vec (4+x.2.2.1.length) 0 x.2.1.length),(6,iv x.1)]) (fun x=>tst (wst fl nn va br ms me) x.2.2.1 (.vec 1 (x.2.1.map scv)) x.2.2.2) (fun x=>NmI ms fl pkg x.2.1/\x.1<=x.2.1.length/\∀ n∈x.2.1.take x.1,∀ f∈B1 ms fl n,∀ s∈a0X ms f,s∈x.2.1) (fun x=>1+(allI ms fl).length - x.1) (0,[pkg],[],[]) ⟨⟨si_,fun n hn=>by simp at hn;subst hn;exact .base,si_⟩,n_5 _,fun n hn=>by simp at hn⟩ tu_ rfl ?_;intro ⟨i,N,G,H⟩ _ ⟨hN,hi,hc⟩;dsimp only at hN hi hc ⊢;have hNl:=hN.len;have gi:=dL;refine qk (qY c09 ?_);refine qC ?_ ?_<;>intro h1
 ·have ae:i < N.length:=sm_ h1;obtain ⟨n,gn⟩:∃ n,N[i]? = some n:=⟨N[i]'ae,si_⟩;have hffl:=a7N ms fl n;refine qY (V1 rfl tt tt rfl rfl t_2 t_0 (a3j rfl) om_ om_) ?_;refine qY (N4 rfl tt rfl t_6 (a3j rfl) (i8 (by rw [K9];exact gn)) rfl) ?_;refine qY (c4 rfl Tryz.call158 j1 (b53 (c1k fl nn va br ms me) n om_) rfl) ?_;refine qY a0S ?_;refine I4 (α:=Nat × List Str × List b9 × List b9) (fun x=>[(0,.ptr 0 0),(5,.vec (4+x.2.2.1.length) 0 x.2.1.length),(6,iv i),(27,(.list ((B1 ms fl n).map Fi.cv) (gnn (B1 ms fl n).length) none)),(28,(iv ((B1 ms fl n).length:Int))),(29,iv x.1)]) (fun x=>tst (wst fl nn va br ms me) x.2.2.1 (.vec 1 (x.2.1.map scv)) x.2.2.2) (fun x=>NmI ms fl pkg x.2.1/\(∃ t,x.2.1=N++t)/\x.1<=(B1 ms fl n).length/\∀ f∈(B1 ms fl n).take x.1,∀ s∈a0X ms f,s∈x.2.1) (fun x=>(B1 ms fl n).length - x.1) (0,N,G,H) ⟨hN,⟨[],si_⟩,n_5 _,fun f hf=>by simp at hf⟩ tu_ rfl ?_;intro ⟨q,N1,G1,H1⟩ _ ⟨hN1,bW,hq,cH⟩;dsimp only at hN1 bW hq cH ⊢;have hNl1:=hN1.len;refine qk (qC ?_ ?_)<;> intro h2
  ·have hlq:q < (B1 ms fl n).length:=sm_ h2;obtain ⟨y,hy⟩:∃ y,(B1 ms fl n)[q]? = some y:=⟨(B1 ms fl n)[q]'hlq,si_⟩;have eM:=n_2 hy;refine qY (o9 rfl tt tt rfl rfl a7L a3O om_ (i8 hy) rfl) ?_;refine qD (p7 rfl a5Z rfl j4 ?_);refine qD (j3 rfl tt tt rfl j2 a3O j4 b00 rfl (nb rfl) ?_);refine b2b ?_;refine hY b7G ?_;refine hY b6q ?_;refine hY a9R ?_;refine hY (m0 rfl tt rfl t_6 (by rw [b1i si_]) rfl) ?_;refine hY (R5 (vc:=vcS) (l:=ms) (a:=y.p) b7C rfl tt tt rfl rfl c0S a2L rfl rfl (a5f Src.z rfl _)) ?_;refine hY (a2V rfl tt rfl a5U rfl b3F rfl) ?_;refine hY I7 ?_;refine hY d2J ?_;refine Y5 ?_;refine I4 (α:=Nat × List Str × List b9 × List b9) (fun x=>[(0,.ptr 0 0),(5,.vec (4+x.2.2.1.length) 0 x.2.1.length),(6,iv i),(27,(.list ((B1 ms fl n).map Fi.cv) (gnn (B1 ms fl n).length) none)),(28,(iv ((B1 ms fl n).length:Int))),(29,iv q),(40,(.list ((a0X ms y).map scv) (gnn (a0X ms y).length) none)),(41,(iv ((a0X ms y).length:Int))),(42,iv x.1)]) (fun x=>tst (wst fl nn va br ms me) x.2.2.1 (.vec 1 (x.2.1.map scv)) x.2.2.2) (fun x=>NmI ms fl pkg x.2.1/\(∃ t,x.2.1=N1++t)/\x.1<=(a0X ms y).length/\∀ s∈(a0X ms y).take x.1,s∈x.2.1) (fun x=>(a0X ms y).length - x.1) (0,N1,G1,H1++[.box y.cells]) ⟨hN1,⟨[],si_⟩,n_5 _,fun f hf=>by simp at hf⟩ tu_ (c1h _ _) ?_;intro ⟨r,N2,G2,H2⟩ _ ⟨gp,dl,hr,db⟩;dsimp only at gp dl hr db ⊢;have hNl2:=gp.len;have bh:(a0X ms y).length<=(allI ms fl).length:=c8R (a3e eM);refine qk (qC ?_ ?_)<;> intro h3
   ·have ga:r < (a0X ms y).length:=sm_ h3;obtain ⟨s,hs⟩:∃ s,(a0X ms y)[r]? = some s:=⟨(a0X ms y)[r]'ga,si_⟩;have iu:=n_2 hs;have gD:(a0X ms y).take (r+1)=(a0X ms y).take r++[s]:=by rw [a3P,hs];rfl
    refine qY (o9 rfl tt tt rfl rfl t_2 t_0 om_ (i8 hs) rfl) ?_;refine qY (c4 rfl c32 j1 (b1E s (a3j rfl) om_) rfl) ?_;refine qC ?_ ?_<;>intro h4
    ·have gE:s∉N2:=sp_ h4;obtain ⟨t1,eI⟩:=bW;obtain ⟨t2,fP⟩:=dl;have hnN2:n∈N2:=by rw [fP,eI];simp [n_2 gn]
     have eR:=gp.snoc hnN2 eM iu gE;have hsnl:=eR.len;rw [n_7,b2o] at hsnl;refine qY d6V ?_;refine qD (a4p ((N2++[s]).map scv) (N2++[s]).length rfl tt tt rfl q_2 t_2 t_0 a4b t_3 rfl (a3j rfl) G7 si_ a4s G7 si_ si_ ?_);refine qY o7 ?_;exact ⟨(r+1,N2++[s],G2++.dead::H2,[]),do_,⟨eR,⟨t2++[s],by rw [fP,F7]⟩,do_,fun z hz=>by
      dsimp only at hz ⊢;rw [gD] at hz
      rcases Y1.1 hz with hz | hz
      ·exact b4u _ (db z hz)
      ·simp at hz;subst hz;simp⟩,⟨o0,⟨tt,(n_9 (fun k=>CV.vec k 0 (N2++[s]).length) (c9H rfl))⟩,o0,o0,o0,o0,o0,o0,o0,tt⟩,(c9M rfl)⟩
    ·have gE:s∈N2:=sp_ h4;refine qY o7 ?_;exact ⟨(r+1,N2,G2,H2),do_,⟨gp,dl,do_,fun z hz=>by
      dsimp only at hz ⊢;rw [gD] at hz
      rcases Y1.1 hz with hz | hz
      ·exact db z hz
      ·simp at hz;subst hz;exact gE⟩,tu_,rfl⟩
   ·have hre:r=(a0X ms y).length:=sm_ h3;obtain ⟨t1,eI⟩:=bW;obtain ⟨t2,fP⟩:=dl;have gD:(B1 ms fl n).take (q+1)=(B1 ms fl n).take q++[y]:=by rw [a3P,hy];rfl
    refine b50 ?_;exact ⟨(q+1,N2,G2,H2),do_,⟨gp,⟨t1++t2,by rw [fP,eI,F7]⟩,do_,fun z hz s hs=>by
     dsimp only at hz ⊢;rw [gD] at hz
     rcases Y1.1 hz with hz | hz
     ·rw [fP];exact b4u _ (cH z hz s hs)
     ·simp at hz;subst hz;exact db s (by rw [hre,W1 (n_6 _)];exact hs)⟩,tu_,rfl⟩
  ·have hqe:q=(B1 ms fl n).length:=sm_ h2;obtain ⟨t1,eI⟩:=bW;have gD:N1.take (i+1)=N.take i++[n]:=by
    rw [eI,b9W om_,a3P,gn];rfl
   refine b50 ?_;exact ⟨(i+1,N1,G1,H1),do_,⟨hN1,by dsimp only;rw [eI,n_7];omega,fun z hz f hf s hs=>by
    dsimp only at hz ⊢;rw [gD] at hz
    rcases Y1.1 hz with hz | hz
    ·rw [eI];exact b4u _ (hc z hz f hf s hs)
    ·simp at hz;subst hz;exact cH f (by rw [hqe,W1 (n_6 _)];exact hf) s hs⟩,tu_,rfl⟩
 ·have hie:i=N.length:=sm_ h1;have cr:=b34 hN (fun n hn=>hc n (by rw [hie,W1 (n_6 _)];exact hn));have hT:=b10 hN.nd cr;have aT:(a0F N).length=N.length:=List.length_mergeSort _;have aC:N≠[]:=fun h=>by have:=hN.pk;rw [h] at this;cases this
  refine j6 ?_;refine qD (c5 rfl Tryz.call161 ⟨tt,tt⟩ (c7Y aC om_ (a3j rfl)) rfl ?_);intro _ _;refine qN (tst (wst fl nn va br ms me) G (.vec 1 ((a0F N).map scv)) H) (c1X rfl) ?_;refine qY c09 ?_;refine I4 (α:=Nat × Str) (fun x=>[(0,.ptr 0 0),(11,(.list (x.2.map bcv) (gnn x.2.length) none)),(58,.vec (4+G.length) 0 N.length),(59,iv N.length),(60,iv x.1)]) (fun _=>tst (wst fl nn va br ms me) G (.vec 1 ((a0F N).map scv)) H) (fun x=>x.1<=N.length/\x.2.length<=x.1*103000000/\b6w ms fl [] (a0F N)=b6w ms fl x.2 ((a0F N).drop x.1)) (fun x=>N.length - x.1) (0,[]) ⟨n_5 _,n_5 _,rfl⟩ tu_ rfl ?_;intro ⟨j,l⟩ _ ⟨hj,hl,hr⟩;dsimp only at hj hl hr ⊢;refine qk (qC ?_ ?_)<;> intro h5
  ·have hlj:j < N.length:=sm_ h5;obtain ⟨s,hs⟩:∃ s,(a0F N)[j]? = some s:=⟨(a0F N)[j]'om_,si_⟩;rw [c3Y hs] at hr;have dW:=cX (hN.rch s ((b6E N _).mem_iff.1 (n_2 hs)));have hfc:=b8l (ms:=ms) (pkg:=s) om_ gK;have gC:=a2R (l:=l) (s:=s) om_;have di:=a2R (l:=I6 l s) (s:=a0H ms fl s) om_;have hj2:j*103000000<=600*103000000:=R6 _ om_;refine qY (V1 rfl tt tt rfl rfl t_2 t_0 (a3j rfl) om_ om_) ?_;refine qY (N4 rfl tt rfl t_6 (a3j rfl) (i8 (by rw [K9];exact hs)) rfl) ?_;refine qY (c4 rfl b9X j1 (a1e l _ s om_ om_ _) rfl) ?_;refine qY (c4 rfl Tryz.call115 j1 (b7L (c1k fl nn va br ms me) s om_ gK) rfl) ?_;refine qY (c4 rfl b9X j1 (a1e (I6 l s) _ (a0H ms fl s) om_ om_ _) rfl) ?_;refine qY o7 ?_;exact ⟨(j+1,I6 (I6 l s) (a0H ms fl s)),do_,⟨do_,do_,hr⟩,tu_,rfl⟩
  ·have hje:j=N.length:=sm_ h5;rw [hje,<- aT,b5m] at hr;replace hr:b6w ms fl [] (a0F N)=l:=hr;have hj2:j*103000000<=600*103000000:=R6 _ om_;refine j6 ?_;refine qY b6y ?_;refine qY (G8 rfl rfl tt rfl rfl (by show 1+l.length<=_;omega)) ?_;refine c6 ?_;exact ⟨_,rE1,(by rw [b7M,hT,hr];exact a2r rfl (.old (.val _)))⟩
theorem d1f {va:Bool} (ao:WAt σ w q1 q2 t fl nn va br ms me) (pkg:Str) (bO:fl.length<=64) (gK:∀ f∈fl,f.p.length<=100/\f.b.length<=100000) (dL:(allI ms fl).length<=512) (cX:∀ {n:Str},Reach ms fl pkg n->n.length<=100000):b8 CC 117 [.ptr w 0,(sv pkg)] σ fun r τ=>r = .ret (sv (b7M ms fl pkg))/\τ=σ :=
 b2B (fun a h=>by simp at h;subst h;exact .val _) (.val _) (c7m fl nn va br ms me pkg bO gK dL cX) ao
theorem a3d {va:Bool} (ao:WAt σ w q1 q2 t fl nn va br ms me) (l:List b9):WAt (σ++l) w q1 q2 t fl nn va br ms me:=⟨a07 ao.hw l,a07 ao.hs l,a07 ao.he l,a07 ao.ht l,ao.nd⟩
structure WOk (fl:List Fi) (ms:SM) (me:EM):Prop where
 len:fl.length<=64
 fb:∀ f∈fl,f.p.length<=100/\f.b.length<=100000
 src:∀ p s,glk ms p=some s->a2f s
 ent:∀ k e,glk me k=some e->b1o ms e
theorem WOk.find (h:WOk fl ms me) (k:Int) (p o:Str):b1o ms (O7 true me k p o):=by
 unfold O7;rw [n_1 rfl]
 split
 ·rename_i x hx;exact h.ent _ _ hx
 ·intro h1;cases h1
theorem WOk.imp (h:WOk fl ms me) (f:Fi):(a0X ms f).length<=8/\∀ s∈a0X ms f,s.length<=24:=by
 unfold a0X;cases hg:glk ms f.p with
 | none=>exact ⟨n_5 _,fun s hs=>by cases hs⟩
 | some x =>
  have:=h.src _ _ hg;exact ⟨this.impl,fun s hs=>B7 (this.imp s hs).1⟩
theorem WOk.allI {fl:List Fi} {ms:SM} {me:EM} (h:WOk fl ms me):(allI ms fl).length<=512:=by
 have:∀ l:List Fi,(Go.Proofs.YtlppbmfecjabeaaGreatDoor.allI ms l).length<=8*l.length:=fun l=>by
  induction l with
  | nil=>exact n_5 _
  | cons x l ih =>
   have:=(h.imp x).1;unfold Go.Proofs.YtlppbmfecjabeaaGreatDoor.allI at ih ⊢;rw [b5A,n_7,C4];omega
 have h1:=this fl;have h2:=h.len;omega
theorem WOk.reach {fl:List Fi} {ms:SM} {me:EM} (h:WOk fl ms me) {pkg:Str} (hp:pkg.length<=100) {n:Str} (hr:Reach ms fl pkg n):n.length<=100000:=by
 cases hr with
 | base=>omega
 | @step _ f _ _ _ hs=>have:=(h.imp f).2 _ hs;omega
noncomputable def V6 (fl:List Fi) (ms:SM) (me:EM) (ev:List Va) (k:Ky):Str :=
 if k.k=1 then a0a ms (O7 true me 1 k.a k.b) else if k.k=2 then a0a ms (O7 true me 2 k.a k.b) else if k.k=3 then a0a ms (O7 true me 3 [] k.a)
 else if k.k=4 then (if (C2 fl k.a).isSome then [61]++(C2 fl k.a).getD [] else [45]) else if k.k=5 then (if (a0U ev k.a).isSome then [61]++Lib.itoa ((a0U ev k.a).getD 0) else [45])
 else if k.k=6 then a0H ms fl k.a else b7M ms fl k.a
theorem b1S {b:Str} (h:C2 fl s=some b):∃ f∈fl,f.b=b:=by
 unfold C2 at h;rw [N0] at h;obtain ⟨f,hf,rfl⟩:=h;exact ⟨f,b7F hf,rfl⟩
theorem c5z {v:Int} (gy:∀ v∈ev,-9223372036854775808<=v.v/\v.v<=9223372036854775807) (h:a0U ev s=some v) : -9223372036854775808<=v/\v<=9223372036854775807:=by
 unfold a0U at h;rw [N0] at h;obtain ⟨x,hx,rfl⟩:=h;exact gy x (b7F hx)
theorem d6J (ao:WAt σ w q1 q2 t fl nn true br ms me) (bd:WOk fl ms me) (k:Ky):b8 CC 105 [.ptr w 0,.agg k.cells] σ fun r τ=>r = .ret (sv (a0a ms (O7 true me 1 k.a k.b)))/\τ=σ:=by
 refine c7 (cO Tryz.func105 ?_);refine b1p ?_;refine a6T ?_;refine cY a6H ?_;refine cY (m0 rfl tt rfl t_6 b00 rfl) ?_;refine cY a6H ?_;refine qY (m0 rfl tt rfl t_6 b00 rfl) ?_;refine qY (c4 rfl c0A ⟨tt,rfl,tt,tt,tt⟩ (a88 (a3d ao _) 1 k.a k.b) rfl) ?_;refine qY c5B ?_;exact c5m
theorem d6y (ao:WAt σ w q1 q2 t fl nn true br ms me) (bd:WOk fl ms me) (k:Ky):b8 CC 107 [.ptr w 0,.agg k.cells] σ fun r τ=>r = .ret (sv (a0a ms (O7 true me 2 k.a k.b)))/\τ=σ:=by
 refine c7 (cO Tryz.func107 ?_);refine b1p ?_;refine a6T ?_;refine cY a6H ?_;refine cY (m0 rfl tt rfl t_6 b00 rfl) ?_;refine cY a6H ?_;refine qY (m0 rfl tt rfl t_6 b00 rfl) ?_;refine qY (c4 rfl c0A ⟨tt,rfl,tt,tt,tt⟩ (a88 (a3d ao _) 2 k.a k.b) rfl) ?_;refine qY c5B ?_;exact c5m
theorem d5Y (ao:WAt σ w q1 q2 t fl nn true br ms me) (bd:WOk fl ms me) (k:Ky):b8 CC 108 [.ptr w 0,.agg k.cells] σ fun r τ=>r = .ret (sv (a0a ms (O7 true me 3 [] k.a)))/\τ=σ:=by
 refine c7 (cO Tryz.func108 ?_);refine b1p ?_;refine a6T ?_;refine cY a6H ?_;refine qY (m0 rfl tt rfl t_6 b00 rfl) ?_;refine qY (c4 rfl c0A ⟨tt,rfl,rfl,tt,tt⟩ (a88 (a3d ao _) 3 [] k.a) rfl) ?_;refine qY c5B ?_;exact c5m
theorem d5r (ao:WAt σ w q1 q2 t fl nn true br ms me) (bd:WOk fl ms me) (k:Ky):b8 CC 109 [.ptr w 0,.agg k.cells] σ fun r τ=>r = .ret (sv (if (C2 fl k.a).isSome then [61]++(C2 fl k.a).getD [] else [45]))/\τ=σ:=by
 refine c7 (cO Tryz.func109 ?_);refine b1p ?_;refine z_4 ?_;refine cY a6H ?_;refine qY (m0 rfl tt rfl t_6 b00 rfl) ?_;refine qY (c4 rfl Tryz.call110 j1 (c9L (a3d ao _) k.a (by have:=bd.len;omega)) rfl) ?_;refine qk ?_;refine cC ?_ ?_<;>intro h1
 ·have u1:(C2 fl k.a).isSome=false:=sp_ h1;refine qk ?_;refine c6 ?_;exact ⟨_,rE1,_,_,rfl,rfl,C9 (by rw [u1];rfl)⟩
 ·have u1:(C2 fl k.a).isSome=true:=sp_ h1;obtain ⟨b,hb⟩:=b5F.1 u1;obtain ⟨f,hf,gK⟩:=b1S hb;have aj:=(bd.fb f hf).2;rw [hb];refine qk (qY (G8 rfl rfl tt rfl rfl (by show 1+b.length<=_;rw [<- gK];omega)) ?_);refine c6 ?_;exact ⟨_,rE1,_,_,rfl,rfl,C9 (show str ([61]++(some b).getD [])=_ from rfl)⟩
theorem d6d (ao:WAt σ w q1 q2 t fl nn true br ms me) (bd:WOk fl ms me) (k:Ky):b8 CC 114 [.ptr w 0,.agg k.cells] σ fun r τ=>r = .ret (sv (a0H ms fl k.a))/\τ=σ:=by
 refine c7 (cO Tryz.func114 ?_);refine b1p ?_;refine z_4 ?_;refine cY a6H ?_;refine qY (m0 rfl tt rfl t_6 b00 rfl) ?_;refine qY (c4 rfl Tryz.call115 j1 (b7L (a3d ao _) k.a (by have:=bd.len;omega) bd.fb) rfl) ?_;exact c5m
theorem d5L (ao:WAt σ w q1 q2 t fl nn true br ms me) (bd:WOk fl ms me) (k:Ky)(hka:k.a.length<=100):b8 CC 116 [.ptr w 0,.agg k.cells] σ fun r τ=>r = .ret (sv (b7M ms fl k.a))/\τ=σ:=by
 refine c7 (cO Tryz.func116 ?_);refine b1p ?_;refine z_4 ?_;refine cY a6H ?_;refine qY (m0 rfl tt rfl t_6 b00 rfl) ?_;refine qY (c4 rfl Tryz.call117 j1 (d1f (a3d ao _) k.a bd.len bd.fb bd.allI (bd.reach hka)) rfl) ?_;exact c5m
theorem d5q {q:Nat} (hq:σ[q]? = some (.box (T6 ev nn))) (gy:∀ v∈ev,-9223372036854775808<=v.v/\v.v<=9223372036854775807) (fy:ev.length<=1000000000) (k:Ky):b8 CC 111 [.ptr w 0,.agg k.cells,.ptr q 0] σ fun r τ=>r = .ret (sv (if (a0U ev k.a).isSome then [61]++Lib.itoa ((a0U ev k.a).getD 0) else [45]))/\τ=σ:=by
 refine c7 (cO Tryz.func111 ?_);refine b1p ?_;refine z_0 ?_;refine cY (L8 rfl tt rfl c1o b9S (a07 hq _) (nb rfl)) ?_;refine cY a6H ?_;refine qY (m0 rfl tt rfl t_6 b00 rfl) ?_;refine qY (c4 rfl Tryz.call112 j1 (b1H ev nn k.a fy _) rfl) ?_;refine qk ?_;refine cC ?_ ?_<;>intro h1
 ·have u1:(a0U ev k.a).isSome=false:=sp_ h1;refine qk ?_;refine c6 ?_;exact ⟨_,rE1,_,_,rfl,rfl,C9 (by rw [u1];rfl)⟩
 ·have u1:(a0U ev k.a).isSome=true:=sp_ h1;obtain ⟨v,hv⟩:=b5F.1 u1;have fA:=c5z gy hv;rw [hv];have bh:=a3V fA.1 fA.2;refine qk (qY (c4 rfl c69 ⟨tt,tt⟩ (b8k v fA.1 fA.2 _) rfl) ?_);refine qY (G8 rfl rfl tt rfl rfl (by show 1+(Lib.itoa v).length<=_;omega)) ?_;refine c6 ?_;exact ⟨_,rE1,_,_,rfl,rfl,C9 (show str ([61]++Lib.itoa v)=_ from rfl)⟩
theorem b3s:∀ {pv:Option Fi} {l:List Fi},rvE pv l=0->(∀ g,pv=some g->∀ f∈l,g.p < f.p)/\l.Pairwise fun a b=>a.p < b.p
 | _,[],_=>⟨fun _ _ f hf=>(by cases hf),List.Pairwise.nil⟩
 | pv,x::l,h=>by
  rw [rvE] at h;split at h
  ·rename_i hs;obtain ⟨h1,h2⟩:=b3s h;have hx:∀ g,pv=some g->g.p < x.p:=fun g hg=>by
    subst hg;unfold I1 at hs;split at hs
    ·cases hs
    ·split at hs
     ·cases hs
     ·rename_i h3;split at hs
      ·cases hs
      ·rename_i h4;simp only [Option.any_some,a1X] at h3 h4;rw [bytesLess_eq,a1X] at h4
       rcases List.le_total g.p x.p with h5 | h5
       ·rcases Decidable.em (g.p < x.p) with h6 | h6
        ·exact h6
        ·exact absurd (c0j h5 (List.not_lt.1 h6)).symm h3
       ·rcases Decidable.em (g.p < x.p) with h6 | h6
        ·exact h6
        ·exact absurd (c0j h5 (List.not_lt.1 h4)) h3
   refine ⟨fun g hg f hf=>?_,.cons (fun f hf=>h1 x rfl f hf) h2⟩
   rcases P0.1 hf with rfl | hf
   ·exact hx g hg
   ·exact List.lt_trans (hx g hg) (h1 x rfl f hf)
  ·rename_i hs;exact absurd h hs
structure WI (seen:List Str) (ms:SM) (me:EM):Prop where
 src:∀ p x,glk ms p=some x->a2f x/\p∈seen
 ent:∀ k e,glk me k=some e->1<=e.ct/\b1o ms e
theorem b4J {ms:SM} {path:Str} {x:Src} (hg:glk ms path=some x) (hx:a2f x):∀ (n k:Nat) (me:EM),x.decls.length - k=n->(∀ k e,glk me k=some e->1<=e.ct/\b1o ms e)->∀ q e,glk (addDs me path x.pkg (x.decls.drop k) k) q=some e->1<=e.ct/\b1o ms e
 | 0,k,me,hn,h,q,e,he=>by
  rw [T5 om_,addDs] at he;exact h q e he
 | n+1,k,me,hn,h,q,e,he=>by
  obtain ⟨d,hd⟩:=gx_ x.decls k;rw [a5S hd] at he;refine b4J hg hx n (k+1) _ om_ (fun q e he=>?_) q e he;rw [a2k,O0] at he;split at he
  ·injection he with he
   subst he
   split
   ·rename_i f hf;obtain ⟨h1,_⟩:=h _ _ hf;exact ⟨by simp only;omega,fun hc=>by simp only at hc;omega⟩
   ·exact ⟨b0N _,fun _=>⟨x,d,k,hg,hx,rfl,hd⟩⟩
  ·exact h q e he
theorem b1o.put {e:En} {path:Str} {x:Src} (h:b1o ms e) (hp:glk ms path=none):b1o (S8 ms path x) e:=fun hc=>by
 obtain ⟨s,d,i,h1,h2⟩:=h hc;refine ⟨s,d,i,?_,h2⟩;rw [O0,n_0]
 ·exact h1
 ·intro he;rw [he,hp] at h1;cases h1
theorem c7b {seen:List Str} {s:WS} (h:WI seen s.2.1 s.2.2) (hf:f.p∉seen):WI (f.p::seen) (a0p s f).2.1 (a0p s f).2.2:=by
 have hw:WI (f.p::seen) s.2.1 s.2.2:=⟨fun p x hp=>⟨(h.src p x hp).1,a4r _ (h.src p x hp).2⟩,h.ent⟩;unfold a0p
 split
 ·split
  ·exact hw
  ·rename_i x hx;have hn:glk s.2.1 f.p=none:=by
    cases hg:glk s.2.1 f.p with
    | none=>rfl
    | some y=>exact absurd (h.src _ _ hg).2 hf
   have bd:=a7s hx;refine ⟨fun p y hp=>?_,?_⟩
   ·simp only [O0] at hp;split at hp
    ·rename_i e;injection hp with hp
     subst hp;exact ⟨bd,by rw [e];simp⟩
    ·exact ⟨(h.src p y hp).1,a4r _ (h.src p y hp).2⟩
   ·have hg:glk (S8 s.2.1 f.p x) f.p=some x:=by rw [O0,n_1 rfl]
    have:=b4J hg bd _ 0 s.2.2 rfl (fun k e he=>⟨(h.ent k e he).1,(h.ent k e he).2.put hn⟩);simpa using this
 ·exact hw
theorem c1R:∀ {l:List Fi} {seen:List Str} {s:WS},WI seen s.2.1 s.2.2->(∀ f∈l,f.p∉seen)->(l.Pairwise fun a b=>a.p < b.p)->∃ seen',WI seen' (a7X l s).2.1 (a7X l s).2.2
 | [],seen,s,h,_,_=>⟨seen,h⟩
 | f::l,seen,s,h,hn,hp=>by
  have h1:=c7b h (hn f si_);refine c1R (l:=l) h1 (fun g hg hm=>?_) (a8N.1 hp).2
  rcases P0.1 hm with hm | hm
  ·have:=(a8N.1 hp).1 g hg;rw [hm] at this;exact absurd this (List.lt_irrefl _)
  ·exact hn g (by simp [hg]) hm
theorem c1a (h:B2 fl=0):WOk fl (x9 fl).2.1 (x9 fl).2.2:=by
 obtain ⟨h1,h2⟩:=a6a h;have h0:rvE none fl=0:=by
  unfold B2 at h;split at h
  ·cases h
  ·exact h
 obtain ⟨seen,h3⟩:=c1R (l:=fl) (seen:=[]) (s:=([],[],[])) ⟨fun p x hp=>(by cases hp),fun k e he=>(by cases he)⟩ (fun f _ hm=>(by cases hm)) (b3s h0).2;rw [x9,n_1 h];exact ⟨h1,fun f hf=>by have:=L2 (h2 f hf).1;have:=(h2 f hf).2;omega,fun p s hp=>(h3.src p s hp).1,fun k e he=>(h3.ent k e he).2⟩
abbrev fv (f:FuncId):CV:=.val (.func (.func f) #[] #[])
def Y9 (b:Nat):List (Int × CV):=[(1,fv 105),(2,fv 107),(3,fv 108),(4,fv 109),(5,.clo 111 [.ptr b 0]),(6,fv 114),(7,fv 116)]
abbrev cmO (b:Nat):b9:=.map (gm kv (fun c:CV=>c) (Y9 b))
def cfv (b:Nat) (k:Int):CV:=(glk (Y9 b) k).getD (I2 .nilFunc)
theorem d0E (h:b < L):J0 L (cmO b):=fun x hx=>by
 obtain ⟨y,hy,rfl⟩:=I9.1 hx;refine ⟨.val _,?_⟩;simp only [Y9,P0,a8Z,or_false] at hy
 rcases hy with rfl | rfl | rfl | rfl | rfl | rfl | rfl
 ·exact .val _
 ·exact .val _
 ·exact .val _
 ·exact .val _
 ·refine .clo fun i c hi=>?_
  rcases i with _ | i
  ·injection hi with hi;subst hi;exact .ptr h
  ·cases hi
 ·exact .val _
 ·exact .val _
theorem d0M {R:Nat->Nat->Prop} {b':Nat} (h:R b b'):H8 R (cmO b) (cmO b'):=.map ⟨rfl,fun i x x' h1 h2=>by
 rcases i with _ | _ | _ | _ | _ | _ | _ | i
 ·injection h1 with h1;injection h2 with h2;subst h1 h2;exact ⟨.pure (.val _),.pure (.val _)⟩
 ·injection h1 with h1;injection h2 with h2;subst h1 h2;exact ⟨.pure (.val _),.pure (.val _)⟩
 ·injection h1 with h1;injection h2 with h2;subst h1 h2;exact ⟨.pure (.val _),.pure (.val _)⟩
 ·injection h1 with h1;injection h2 with h2;subst h1 h2;exact ⟨.pure (.val _),.pure (.val _)⟩
 ·injection h1 with h1;injection h2 with h2;subst h1 h2
  refine ⟨.pure (.val _),.clo rfl fun i c c' g g'=>?_⟩
  rcases i with _ | i
  ·injection g with g;injection g' with g';subst g g';exact .ptr h
  ·cases g
 ·injection h1 with h1;injection h2 with h2;subst h1 h2;exact ⟨.pure (.val _),.pure (.val _)⟩
 ·injection h1 with h1;injection h2 with h2;subst h1 h2;exact ⟨.pure (.val _),.pure (.val _)⟩
 ·cases h1⟩
theorem b4s (ev:List Va) (en:Bool):b8 CC 58 [.agg (T6 ev en)] [] fun r τ=>∃ _:Unit,r = .ret (.map 1)/\τ=[.box (T6 ev en),cmO 0]/\True:=by
 refine qO Tryz.func58 ?_;refine qD (F5 rfl tt j2 j4 ?_);refine qD (S4 rfl ?_);refine qD (l8 (vc:=fun c:CV=>c) (l:=(Y9 0).take 0) (a:=1) (b:=((Y9 0).getD 0 (0,fv 0)).2) a0m (.inr rfl) tt rfl tt rfl rfl rfl b52 rfl ?_);refine qD (l8 (vc:=fun c:CV=>c) (l:=(Y9 0).take 1) (a:=2) (b:=((Y9 0).getD 1 (0,fv 0)).2) a0m (.inr rfl) tt rfl tt rfl rfl rfl b52 rfl ?_);refine qD (l8 (vc:=fun c:CV=>c) (l:=(Y9 0).take 2) (a:=3) (b:=((Y9 0).getD 2 (0,fv 0)).2) a0m (.inr rfl) tt rfl tt rfl rfl rfl b52 rfl ?_);refine qD (l8 (vc:=fun c:CV=>c) (l:=(Y9 0).take 3) (a:=4) (b:=((Y9 0).getD 3 (0,fv 0)).2) a0m (.inr rfl) tt rfl tt rfl rfl rfl b52 rfl ?_);refine qY (a6q rfl ⟨tt,tt⟩) ?_;refine qD (l8 (vc:=fun c:CV=>c) (l:=(Y9 0).take 4) (a:=5) (b:=((Y9 0).getD 4 (0,fv 0)).2) a0m (.inr rfl) tt rfl tt rfl rfl rfl b52 rfl ?_);refine qD (l8 (vc:=fun c:CV=>c) (l:=(Y9 0).take 5) (a:=6) (b:=((Y9 0).getD 5 (0,fv 0)).2) a0m (.inr rfl) tt rfl tt rfl rfl rfl b52 rfl ?_);refine qD (l8 (vc:=fun c:CV=>c) (l:=(Y9 0).take 6) (a:=7) (b:=((Y9 0).getD 6 (0,fv 0)).2) a0m (.inr rfl) tt rfl tt rfl rfl rfl b52 rfl ?_);refine c6 ?_;exact ⟨_,rE1,(by exact ⟨(),rfl,rfl,tt⟩)⟩
theorem b7U (ev:List Va) (en:Bool) (σ:List b9):b8 CC 58 [.agg (T6 ev en)] σ fun r τ=>∃ _:Unit,r = .ret (.map (σ.length+1))/\τ=σ++[.box (T6 ev en),cmO σ.length]/\True :=
 a3i (α:=Unit) hCC (fun a ha=>by simp at ha;subst ha;exact o8 ⟨a0R _ _,tt⟩) (res:=fun _=>.ret (.map 1)) (res':=fun _ m=>.ret (.map (m+1))) (S:=fun _=>[.box (T6 ev en),cmO 0]) (S':=fun _ m=>[.box (T6 ev en),cmO m]) (P:=fun _=>True) (b4s ev en) (fun _ _=>rfl) (fun _ m i x h=>by
  rcases i with _ | _ | i
  ·injection h with h;subst h;exact ⟨_,rfl,.box (L3 (fun c hc=>by simp at hc;subst hc;exact a0R _ _))⟩
  ·injection h with h;subst h;exact ⟨_,rfl,d0M si_⟩
  ·cases h) (fun _ m=>.ret (.map rfl)) σ
theorem c6v {k:Ky} (h:a0x k=true):(k.k=1\/k.k=2\/k.k=3\/k.k=4\/k.k=5\/k.k=6\/k.k=7)/\k.a.length<=100:=by
 unfold a0x at h;split at h
 ·rename_i h1;simp only [a7u,beq_iff_eq] at h1;simp only [S7] at h;have:=B7 h.1;exact ⟨om_,om_⟩
 ·split at h
  ·rename_i h1;simp only [a7u,beq_iff_eq] at h1;simp only [S7] at h;have:=L2 h.1;exact ⟨om_,om_⟩
  ·split at h
   ·rename_i h1;simp only [a7u,beq_iff_eq] at h1;simp only [S7] at h;have:=B7 h.1;exact ⟨om_,om_⟩
   ·cases h
theorem d3Z (ao:WAt σ w q1 q2 t fl nn true br ms me) (bd:WOk fl ms me) {en:Bool} (hb:σ[b]? = some (.box (T6 ev en))) (gy:∀ v∈ev,-9223372036854775808<=v.v/\v.v<=9223372036854775807) (fy:ev.length<=1000000000) {k:Ky} (hk:a0x k=true) :
 c1t CC (cfv b k.k) [.ptr w 0,.agg k.cells] σ (sv (V6 fl ms me ev k)):=by
 obtain ⟨hkk,hka⟩:=c6v hk
 rcases hkk with h | h | h | h | h | h | h
 ·refine .inl ⟨105,by rw [h];rfl,Tryz.call105,?_⟩;rw [V6,n_1 h];exact d6J ao bd k
 ·refine .inl ⟨107,by rw [h];rfl,Tryz.call107,?_⟩;rw [V6,n_0 om_,n_1 h];exact d6y ao bd k
 ·refine .inl ⟨108,by rw [h];rfl,Tryz.call108,?_⟩;rw [V6,n_0 om_,n_0 om_,n_1 h];exact d5Y ao bd k
 ·refine .inl ⟨109,by rw [h];rfl,Tryz.call109,?_⟩;rw [V6,n_0 om_,n_0 om_,n_0 om_,n_1 h];exact d5r ao bd k
 ·refine .inr ⟨111,[.ptr b 0],by rw [h];rfl,Tryz.call111,?_⟩;rw [V6,n_0 om_,n_0 om_,n_0 om_,n_0 om_,n_1 h];exact d5q hb gy fy k
 ·refine .inl ⟨114,by rw [h];rfl,Tryz.call114,?_⟩;rw [V6,n_0 om_,n_0 om_,n_0 om_,n_0 om_,n_0 om_,n_1 h];exact d6d ao bd k
 ·refine .inl ⟨116,by rw [h];rfl,Tryz.call116,?_⟩;rw [V6,n_0 om_,n_0 om_,n_0 om_,n_0 om_,n_0 om_,n_0 om_];exact d5L ao bd k hka
noncomputable def X1 (fl:List Fi) (ev:List Va) (l:List Ky):Option (List Str) :=
 if B2 fl=0/\a2s ev=true/\l.all a0x=true then some (l.map (V6 fl (x9 fl).2.1 (x9 fl).2.2 ev)) else none
def c1C (o:Option (List Str)):CV:=.tup [.list ((o.getD []).map scv) (gnn (o.getD []).length) none,iv (if o.isSome then 0 else 1)]
theorem d4m (b:Nat) (k:Int):((glk (Y9 b) k).map fun c:CV=>c).getD (I2 .nilFunc)=cfv b k:=by unfold cfv;cases glk (Y9 b) k<;>rfl
theorem c3N {p:Ky->Bool} {l:List Ky} {y:Ky} (h:l[i]? = some y) (ha:(l.take i).all p=true) (hy:p y=true):(l.take (i+1)).all p=true:=by
 rw [a3P,h,List.all_append,ha];simp [hy]
theorem c83 {p:Ky->Bool} {l:List Ky} {y:Ky} (h:l[i]? = some y) (hy:p y=false):l.all p≠true:=fun hh=>by
 rw [a5p] at hh;rw [hh y (n_2 h)] at hy;cases hy
theorem b4z (fl:List Fi) (nn:Bool) (bO:∀ f∈fl,f.p.length<=1000000000) (ev:List Va) (en:Bool) (fA:∀ v∈ev,-9223372036854775808<=v.v/\v.v<=9223372036854775807) (l:List Ky) (nk:Bool) (hl:l.length<=1000000000) (hk:∀ k∈l,k.a.length<=1000000000/\k.b.length<=1000000000):b8 CC 16 [.agg (B5 fl nn),.agg (T6 ev en),.list (l.map Ky.cv) nk none] [] fun r τ=>∃ _:Unit,a0T 0 τ r (.ret (c1C (X1 fl ev l)))/\True:=by
 refine qO Tryz.func16 ?_;refine b3W ?_;refine qD (c5 rfl Tryz.call56 ⟨tt,tt⟩ (c70 fl nn bO _) rfl ?_);intro _ _;refine qG (fun hg=>L8 rfl tt rfl c1o b9S rfl (nb rfl)) ?_;refine qG (fun hg=>c4 rfl Tryz.call57 ⟨hg,tt⟩ (a3T ev en _) rfl) ?_;refine b7B ?_;refine cC ?_ ?_<;>intro h1
 ·have hv:¬ (B2 fl=0/\a2s ev=true/\l.all a0x=true):=by
   rintro ⟨u1,u2,_⟩;simp [u1,u2] at h1
  refine qk ?_;refine c6 ?_;exact ⟨_,p8 (rs:=[.tmp 6,.tmp 7]) (cs:=[_,_]) rfl T1 (n_4 rfl),(by rw [X1,n_0 hv];exact ⟨(),.ret (.tups ⟨.old (C1 _ ([]:List Str) _),.old (.val _),tt⟩),tt⟩)⟩
 ·have hv:B2 fl=0/\a2s ev=true:=sp_ h1;have bd:=c1a hv.1;have hva:(B2 fl == 0)=true:=by simp [hv.1]
  rw [hva];refine qk (qD (c5 rfl Tryz.call58 ⟨tt,tt⟩ (b7U ev en _) rfl ?_));intro _ _;refine qY b61 ?_;refine B9 hCC 8 rfl (α:=Nat) (fun i=>[(8,.ptr 2 0),(9,.map 7),(10,(.list (((l.take i).map (V6 fl (x9 fl).2.1 (x9 fl).2.2 ev)).map scv) (gnn ((l.take i).map (V6 fl (x9 fl).2.1 (x9 fl).2.2 ev)).length) (G9 ((l.take i).map (V6 fl (x9 fl).2.1 (x9 fl).2.2 ev)).length 8))),(27,(.list (l.map Ky.cv) nk none)),(28,iv l.length),(29,iv i)]) (fun i=>[.box (B5 fl nn),.box (T6 ev en),wbx fl nn true (x9 fl).1 3 4 5,smO (x9 fl).2.1,emO (x9 fl).2.2,r7 (x9 fl).1.length,.box (T6 ev en),cmO 6,r7 ((l.take i).map (V6 fl (x9 fl).2.1 (x9 fl).2.2 ev)).length]) (fun i=>i<=l.length/\(l.take i).all a0x=true) (fun i=>l.length - i) ⟨0,[0,1,2,3,4,5,6,7,13],⟨n_5 _,rfl⟩,⟨rfl,rfl⟩,ut_,uq_⟩ ?_;intro i ⟨hi,bE⟩;refine qk (qC ?_ ?_)<;> intro h2
  ·have ae:i < l.length:=sm_ h2;obtain ⟨y,hy⟩:∃ y,l[i]? = some y:=⟨l[i]'ae,si_⟩;have dT:=hk y (n_2 hy);refine qY (o9 rfl tt tt rfl rfl b1J a7m om_ (i8 hy) rfl) ?_;refine qD (p7 rfl b4f rfl j4 ?_);refine qD (j3 rfl tt tt rfl j2 a7m j4 rfl rfl (nb rfl) ?_);refine qY (c4 rfl Tryz.call59 ⟨tt,tt⟩ (b9n y dT.1 dT.2 _) rfl) ?_;refine qC ?_ ?_<;>intro h3
   ·have ci:¬ (B2 fl=0/\a2s ev=true/\l.all a0x=true):=fun u=>c83 hy (sp_ h3) u.2.2;refine c6 ?_;exact ⟨_,p8 (rs:=[.tmp 6,.tmp 7]) (cs:=[_,_]) rfl T1 (n_4 rfl),(by rw [X1,n_0 ci];exact ⟨(),.ret (.tups ⟨.old (C1 _ ([]:List Str) _),.old (.val _),tt⟩),tt⟩)⟩
   ·have hyk:a0x y=true:=sp_ h3;have htk1:l.take (i+1)=l.take i++[y]:=by rw [a3P,hy];rfl
    refine qY (R5 (vc:=fun c:CV=>c) (l:=Y9 6) (a:=y.k) a0m rfl tt tt rfl rfl b52 Tryz.zeroValue115 rfl rfl (d4m 6 y.k)) ?_;refine qY (c2X rfl tt rfl j1 (by exact d3Z (w:=2) (q1:=3) (q2:=4) (t:=5) (b:=6) ⟨rfl,rfl,rfl,rfl,a7R ⟨de_,de_,de_,de_,de_,de_⟩⟩ bd rfl fA (b8D (b2O hv.2) (nb rfl)) hyk) rfl) ?_;refine qY (B3 [scv ((V6 fl (x9 fl).2.1 (x9 fl).2.2 ev) y)] rfl ⟨tt,tt⟩ t_2 t_0 t_3 rfl rfl rfl rfl rfl rfl rfl rfl rfl) ?_;refine qD (F4 rfl tt tt rfl si_ q_2 t_2 t_0 a4b t_3 rfl (.inr rfl) q_7 a4s G7 (((l.take (i+1)).map (V6 fl (x9 fl).2.1 (x9 fl).2.2 ev)).map scv) ((l.take (i+1)).map (V6 fl (x9 fl).2.1 (x9 fl).2.2 ev)).length (by rw [htk1,b5r,b5r];rfl) (by rw [htk1];simp) ?_);refine qY o7 ?_;exact ⟨(i+1),[0,1,2,3,4,5,6,7,10],⟨om_,om_,c3N hy bE hyk⟩,⟨rfl,rfl⟩,ut_,uq_⟩
  ·have aE:l.length<=i:=sm_ h2;have hta:l.take i=l:=W1 aE;refine V9 ?_;exact ⟨_,p8 (rs:=[.tmp 6,.tmp 7]) (cs:=[_,_]) rfl T1 (n_4 rfl),(by rw [X1,n_1 ⟨hv.1,hv.2,by rw [<- hta];exact bE⟩,hta];exact ⟨(),.ret (.tups ⟨.tok (fun r hr c hc=>(D8 (f:=scv) (fun _=>T0.all ⟨.val _,tt⟩) _) r hr c hc),.old (.val _),tt⟩),tt⟩)⟩
theorem b9i (o:Option (List Str)):u0 (c1C o):=C0 (cs:=[_,_]) ⟨E7 _ _,.val _,tt⟩
theorem a8u (fl:List Fi) (nn:Bool) (bO:∀ f∈fl,f.p.length<=1000000000) (ev:List Va) (en:Bool) (fA:∀ v∈ev,-9223372036854775808<=v.v/\v.v<=9223372036854775807) (l:List Ky) (nk:Bool) (hl:l.length<=1000000000) (hk:∀ k∈l,k.a.length<=1000000000/\k.b.length<=1000000000) (σ:List b9):b8 CC 16 [.agg (B5 fl nn),.agg (T6 ev en),.list (l.map Ky.cv) nk none] σ fun r τ=>r = .ret (c1C (X1 fl ev l))/\τ=σ :=
 (G4 (res:=fun _:Unit=>.ret (c1C (X1 fl ev l))) (P:=fun _=>True) hCC (fun a h=>by simp at h;rcases h with rfl | rfl | rfl;exact o8 (cs:=B5 _ _) ⟨H0 _ _,tt⟩;exact o8 (cs:=T6 _ _) ⟨a0R _ _,tt⟩;exact a5a _ _) (b4z fl nn bO ev en fA l nk hl hk) (fun _ _=>b9i _) σ).mono fun r τ ⟨_,h1,h2,_⟩=>⟨h1,h2⟩
theorem b4t:∀ a:Str,Op.bytesLess a a=false
 | []=>rfl
 | x::a=>by simp [Op.bytesLess,b4t a]
theorem b09:∀ {a b c:Str},Op.bytesLess a b=true->Op.bytesLess b c=true->Op.bytesLess a c=true
 | [],[],_,h,_=>by cases h
 | [],_::_,[],_,h=>by cases h
 | [],_::_,_::_,_,_=>rfl
 | _::_,[],_,h,_=>by cases h
 | _::_,_::_,[],_,h=>by cases h
 | x::a,y::b,z::c,h1,h2=>by
  simp only [Op.bytesLess,a7u,a1X,S7,beq_iff_eq] at h1 h2 ⊢
  rcases h1 with h1 | ⟨h1,dD⟩<;>rcases h2 with h2 | ⟨h2,dw⟩
  ·exact .inl (UInt8.lt_trans h1 h2)
  ·exact .inl (h2 ▸ h1)
  ·exact .inl (h1 ▸ h2)
  ·exact .inr ⟨h1.trans h2,b09 dD dw⟩
theorem c5O:∀ {a b:Str},Op.bytesLess a b=false->a≠b->Op.bytesLess b a=true
 | [],[],_,h=>absurd rfl h
 | [],_::_,h,_=>by cases h
 | _::_,[],_,_=>rfl
 | x::a,y::b,h1,h2=>by
  simp only [Op.bytesLess,b6R,b4o,Bool.and_eq_false_iff,beq_eq_false_iff_ne,a7u,a1X,S7,beq_iff_eq] at h1 ⊢;by_cases gI:x=y
  ·subst gI;refine .inr ⟨rfl,c5O (h1.2.resolve_left fun h=>h rfl) fun h=>h2 (by rw [h])⟩
  ·have:=h1.1;exact .inl (by
    rcases Nat.lt_or_gt_of_ne (fun h=>gI (b1N.1 h):x.toNat≠y.toNat) with h | h
    ·exact absurd (UInt8.lt_iff_toNat_lt.2 h) this
    ·exact UInt8.lt_iff_toNat_lt.2 h)
def c2n (l:List Fi):Prop:=l.Pairwise fun f g=>Op.bytesLess f.p g.p=true
def I0:List Str:=([[97,46,115,114,99],[98,46,115,114,99],[100,47,99,46,115,114,99],[120,46,115,114,99]]:List Str)
theorem a6f  (σ:List b9):b8 CC 66 [] σ fun r Y=>r = .ret (.list (I0.map scv) true none)/\Y=σ:=by
 refine b8.anyw hCC pu_ pu_ (c7 (qO Tryz.func66 ?_)) σ;refine qY (B3 (I0.map scv) rfl ⟨rfl,rfl,rfl,rfl,tt⟩ t_2 t_0 t_3 rfl rfl rfl rfl rfl rfl rfl rfl rfl) ?_;refine c6 ?_;exact ⟨_,rE1,_,_,rfl,rfl,X9 rfl pu_⟩
theorem a9S (l:List Str) (nn:Bool) (s:Str) (hl:l.length<=1000000000) (σ:List b9):b8 CC 120 [(.list (l.map scv) nn none),(sv s)] σ fun r Y=>r = .ret (.val (.bool (decide (s∈l))))/\Y=σ:=by
 refine b8.anyw hCC pu_ pu_ (c7 (qO Tryz.func120 ?_)) σ;refine j7 hCC (fun i:Nat=>[(0,(.list (l.map scv) nn none)),(1,(sv s)),(5,iv i)]) (fun _=>[]) (fun i=>i<=l.length/\decide (s∈l)=decide (s∈l.drop i)) (fun i=>l.length - i) 0 ⟨n_5 _,rfl⟩ tu_ (ah:=[]) rfl w8 uz_ ?_;intro i ⟨hi,hr⟩;refine b2S ?_;refine qC ?_ ?_<;>intro h1
 ·have ae:i < l.length:=sm_ h1;obtain ⟨y,hb⟩:∃ y,l[i]? = some y:=⟨l[i]'ae,si_⟩;have hdr:l.drop i=y::l.drop (i+1):=by
   obtain ⟨ae,rfl⟩:=n_3.1 hb;exact R4 ae
  rw [hdr] at hr;refine b1Z ?_;refine qC ?_ ?_<;>intro h2
  ·have hys:y=s:=sp_ h2;refine c6 ?_;exact ⟨_,rE1,_,_,rfl,rfl,j8 (by rw [hr,hys];simp)⟩
  ·have hys:¬ y=s:=sp_ h2;refine qY o7 ?_;exact ⟨(i+1),_,⟨om_,om_,by
    rw [hr];have:(s=y)=False:=by simpa using fun h=>hys h.symm
    simp [this]⟩,tu_,rfl⟩
 ·have aE:l.length<=i:=sm_ h1;rw [T5 aE] at hr;refine V9 ?_;exact ⟨_,rE1,_,_,rfl,rfl,j8 c1g⟩
def a4t (n:Nat):Str:=if h:n < 10 then [UInt8.ofNat (48+n)] else a4t (n / 10)++[UInt8.ofNat (48+n%10)]
termination_by n
decreasing_by omega
theorem a6w (h:n < 10):a4t n=[UInt8.ofNat (48+n)]:=by rw [a4t,dif_pos h]
theorem c9k (h:¬ n < 10):a4t n=a4t (n / 10)++a4t (n%10):=by rw [a4t,dif_neg h,a6w (a5j _ om_)]
theorem a1t:∀ (m n:Nat),n < 10^(m+1)->(a4t n).length<=m+1
 | 0,n,h=>by rw [a6w (sp_ h)];simp
 | m+1,n,h=>by
  by_cases hn:n < 10
  ·rw [a6w hn];simp
  ·rw [a4t,dif_neg hn,n_7];have:=a1t m (n / 10) (by rw [Nat.div_lt_iff_lt_mul om_];rw [Nat.pow_succ] at h;exact h);simp only [C4,I3];omega
theorem d7z:∀ n:Nat,n < 10->(([48,49,50,51,52,53,54,55,56,57]:Str).take (n+1)).drop n=[UInt8.ofNat (48+n)]:=by decide
theorem a6Z (h:b8 CC 72 [iv n] [] fun r Y=>r = .ret (sv (a4t n))/\Y=[]) (σ:List b9):b8 CC 72 [iv n] σ fun r Y=>r = .ret (sv (a4t n))/\Y=σ :=
 b8.anyw hCC pu_ pu_ h σ
theorem b7w (n:Nat) (hn:n<=4611686018427387904) (σ:List b9):b8 CC 72 [iv n] σ fun r Y=>r = .ret (sv (a4t n))/\Y=σ:=by
 refine b8.anyw hCC pu_ pu_ ?_ σ
 induction n using Nat.strongRecOn
 rename_i n ih;refine c7 (qO Tryz.func72 ?_);refine qC ?_ ?_<;>intro h1
 ·have hn9:n < 10:=sm_ h1;refine qY o7 ?_;refine qY q_3 ?_;refine c6 ?_;exact ⟨_,rE1,_,_,rfl,rfl,C9 (by rw [a6w hn9];exact n_9 str (d7z n hn9))⟩
 ·have hn9:¬ n < 10:=sm_ h1;have hd:Int.tdiv (n:Int) 10=((n / 10:Nat):Int):=by rfl
  have hm:Int.tmod (n:Int) 10=((n%10:Nat):Int):=by rfl
  have g1:=a1t 18 (n / 10) om_;have g2:=a1t 18 (n%10) om_;have e1:IntKind.i64.wrap ((n:Int).tdiv 10)=((n / 10:Nat):Int):=by rw [hd];exact a83 om_ om_
  have e2:(n:Int).tmod 10=((n%10:Nat):Int):=by exact hm
  refine qY (a0d rfl tt rfl rfl rfl (rfl)) ?_;refine qY (c4 rfl c61 ⟨tt,tt⟩ (by have h:=a6Z (ih (n / 10) om_ om_) [];rw [<- e1] at h;exact h) rfl) ?_;refine qY (a0d rfl tt rfl rfl rfl (rfl)) ?_;refine qY (c4 rfl c61 ⟨tt,tt⟩ (by have h:=a6Z (ih (n%10) om_ om_) [];rw [<- e2] at h;exact h) rfl) ?_;refine qY a1y ?_;refine c6 ?_;exact ⟨_,rE1,_,_,rfl,rfl,C9 (n_9 str (c9k hn9).symm)⟩
def leF (f x:Fi):Bool:=Op.bytesLess f.p x.p || decide (f.p=x.p)
def a7I (f:Fi):Bool->List Fi->List Fi
 | d,[]=>if d then [] else [f]
 | d,x::l=>(if !d && leF f x then [f] else [])++((if x.p=f.p then [] else [x])++a7I f (d || leF f x) l)
def a5l (l:List Fi) (f:Fi):List Fi:=a7I f false l
def a4h (l:List Fi) (s:Str):List Fi:=l.filter fun x=>!decide (x.p=s)
theorem c3o {y:Fi} (h:l[i]? = some y) (d:Bool):a7I f d (l.drop i)=(if !d && leF f y then [f] else [])++((if y.p=f.p then [] else [y])++a7I f (d || leF f y) (l.drop (i+1))):=by
 obtain ⟨ae,rfl⟩:=n_3.1 h;rw [R4 ae];rfl
theorem c2m {y:Fi} (h:l[i]? = some y):a4h (l.drop i) s=(if y.p=s then [] else [y])++a4h (l.drop (i+1)) s:=by
 obtain ⟨ae,rfl⟩:=n_3.1 h;rw [R4 ae,a4h,a8C];by_cases h:(l[i]).p=s
 ·simp [h,a4h]
 ·simp [h,a4h]
theorem b3K {am:List Nat} {tok:Option Nat}:E9 L am (.agg [.list (l.map Fi.cv) nn tok]) (.agg (B5 l nn)) :=
 .agg rfl fun i c c' h h'=>by
  rcases i with _ | i
  ·injection h with h;injection h' with h';subst h h';exact a0e (f:=Fi.cv) Fi.pure _
  ·cases h
theorem b9A (fl:List Fi) (nn:Bool) (f:Fi) (bO:fl.length<=1000000):b8 CC 67 [.agg (B5 fl nn),.agg f.cells] [] fun r τ=>F8 0 τ r (.ret (.agg (B5 (a5l fl f) (gnn (a5l fl f).length)))) []:=by
 refine qO Tryz.func67 ?_;refine b3W ?_;refine c4j ?_;refine qY a0S ?_;refine B9 hCC 4 rfl (α:=List Fi × Bool × Nat) (fun x=>[(3,.ptr 1 0),(4,.ptr 2 0),(5,.ptr 3 0),(6,(.val (.bool x.2.1))),(10,(.list (fl.map Fi.cv) nn none)),(11,iv fl.length),(12,iv x.2.2)]) (fun x=>[.box (B5 fl nn),.box f.cells,.box (B5 [] false),.box [(.list (x.1.map Fi.cv) (gnn x.1.length) (G9 x.1.length 4))],r7 x.1.length]) (fun x=>x.2.2<=fl.length/\x.1.length<=x.2.2+1/\(x.2.1=false->x.1.length<=x.2.2)/\a5l fl f=x.1++a7I f x.2.1 (fl.drop x.2.2)) (fun x=>fl.length - x.2.2) ⟨([],false,0),[0,1,2,3,9],⟨n_5 _,n_5 _,fun _=>n_5 _,rfl⟩,⟨rfl,rfl⟩,ut_,⟨.inr ⟨_,rfl,.same rfl a05⟩,.inr ⟨_,rfl,.same rfl b0x⟩,.inr ⟨_,rfl,.same rfl a8x⟩,.inr ⟨_,rfl,.box ⟨.same rfl (a09 _ ([]:List Fi) _),tt⟩⟩,.inl rfl,tt⟩⟩ ?_;intro ⟨ba,d,i⟩ ⟨hi,hol,hod,hr⟩;dsimp only at hi hol hod hr ⊢;refine qk (qC ?_ ?_)<;> intro h1
 ·have ae:i < fl.length:=sm_ h1;obtain ⟨y,hb⟩:∃ y,fl[i]? = some y:=⟨fl[i]'ae,si_⟩;rw [c3o hb] at hr;refine b8G ?_;refine qG c6n ?_;refine qG a2b ?_;refine qG c6n ?_;refine qG a2b ?_;refine qG (fun hg=>a1A rfl hg hg rfl rfl (b56 _ _)) ?_;refine qY M8 ?_;refine qC ?_ ?_<;>intro h2
  ·have dw:d=false/\leF f y=true:=by
    have h2:(!d && leF f y)=true:=h2;simpa using h2
   obtain ⟨hd,aJ⟩:=dw;subst hd;rw [aJ] at hr;have hol2:=hod rfl;refine qY d5M ?_;refine qD (F4 rfl tt tt rfl si_ q_2 a7L a3O c3e a5Z rfl (.inr rfl) q_7 c2o G7 ((ba++[f]).map Fi.cv) (ba++[f]).length si_ si_ ?_);refine qD (j3 rfl tt tt rfl j2 c86 (.inl rfl) rfl rfl (nb rfl) ?_);refine qY b7a ?_;refine qC ?_ ?_<;>intro h3
   ·have eU:¬ y.p=f.p:=sp_ h3;rw [n_0 eU] at hr;refine qY c9t ?_;refine qD (F4 rfl tt tt rfl si_ q_2 a7L a3O c3e a5Z rfl (.inr rfl) q_7 c2o G7 ((ba++[f]++[y]).map Fi.cv) (ba++[f]++[y]).length si_ si_ ?_);refine c4V ?_;exact ⟨(ba++[f]++[y],true,i+1),[0,1,2,3,7],⟨do_,do_,by simp only [n_7,C4,I3];omega,(fun h=>by cases h),by rw [hr];simp⟩,⟨rfl,rfl⟩,ut_,⟨.inr ⟨_,rfl,.same rfl a05⟩,.inr ⟨_,rfl,.same rfl b0x⟩,.inr ⟨_,rfl,.same rfl a8x⟩,.inr ⟨_,rfl,.box ⟨E9.grow (f:=Fi.cv) (fun a=>⟨.val _,.val _,tt⟩) rfl,tt⟩⟩,.inr ⟨_,rfl,.same rfl G5⟩,tt⟩⟩
   ·have eU:y.p=f.p:=sp_ h3;rw [n_1 eU] at hr;refine qY o7 ?_;exact ⟨(ba++[f],true,i+1),[0,1,2,3,6],⟨do_,do_,by simp only [n_7,C4,I3];omega,(fun h=>by cases h),by rw [hr];simp⟩,⟨rfl,rfl⟩,ut_,⟨.inr ⟨_,rfl,.same rfl a05⟩,.inr ⟨_,rfl,.same rfl b0x⟩,.inr ⟨_,rfl,.same rfl a8x⟩,.inr ⟨_,rfl,.box ⟨E9.grow (f:=Fi.cv) (fun a=>⟨.val _,.val _,tt⟩) rfl,tt⟩⟩,.inr ⟨_,rfl,.same rfl G5⟩,tt⟩⟩
  ·have hd:(!d && leF f y)=false:=by
    have h2:(!d && leF f y)=false:=h2;simpa using h2
   have hd2:(d || leF f y)=d:=by cases d<;>simp_all
   rw [hd,hd2] at hr;refine qY b7a ?_;refine qC ?_ ?_<;>intro h4
   ·have eU:¬ y.p=f.p:=sp_ h4;rw [n_0 eU] at hr;refine qY c9t ?_;refine qD (F4 rfl tt tt rfl si_ q_2 a7L a3O c3e a5Z rfl (.inr rfl) q_7 c2o G7 ((ba++[y]).map Fi.cv) (ba++[y]).length si_ si_ ?_);refine c4V ?_;exact ⟨(ba++[y],d,i+1),[0,1,2,3,6],⟨do_,do_,by simp only [n_7,C4,I3];omega,(fun h=>by have:=hod h;simp only [n_7,C4,I3];omega),by rw [hr];simp⟩,⟨rfl,rfl⟩,ut_,⟨.inr ⟨_,rfl,.same rfl a05⟩,.inr ⟨_,rfl,.same rfl b0x⟩,.inr ⟨_,rfl,.same rfl a8x⟩,.inr ⟨_,rfl,.box ⟨E9.grow (f:=Fi.cv) (fun a=>⟨.val _,.val _,tt⟩) rfl,tt⟩⟩,.inr ⟨_,rfl,.same rfl G5⟩,tt⟩⟩
   ·have eU:y.p=f.p:=sp_ h4;rw [n_1 eU] at hr;refine qY o7 ?_;exact ⟨(ba,d,i+1),[0,1,2,3,4],⟨do_,do_,do_,(fun h=>by have:=hod h;dsimp only;omega),by rw [hr];simp⟩,⟨rfl,rfl⟩,ut_,⟨.inr ⟨_,rfl,.same rfl a05⟩,.inr ⟨_,rfl,.same rfl b0x⟩,.inr ⟨_,rfl,.same rfl a8x⟩,.inr ⟨_,rfl,.box ⟨E9.grow (f:=Fi.cv) (fun a=>⟨.val _,.val _,tt⟩) rfl,tt⟩⟩,.inr ⟨_,rfl,.same rfl G5⟩,tt⟩⟩
 ·have aE:fl.length<=i:=sm_ h1;rw [T5 aE] at hr;refine j6 ?_;refine qC ?_ ?_<;>intro h5
  ·have hd:d=false:=sp_ h5;subst hd;replace hr:a5l fl f=ba++[f]:=hr;refine qY d5M ?_;refine qD (F4 rfl tt tt rfl si_ q_2 a7L a3O c3e a5Z rfl (.inr rfl) q_7 c2o G7 ((ba++[f]).map Fi.cv) (ba++[f]).length si_ si_ ?_);refine qD (j3 rfl tt tt rfl j2 c86 (.inl rfl) rfl rfl (nb rfl) ?_);refine c37 ?_;exact ⟨_,D5 rfl a35,(by rw [hr];exact c9J b3K)⟩
  ·have hd:d=true:=sp_ h5;subst hd;replace hr:a5l fl f=ba:=by rw [hr];exact a1d _
   refine c37 ?_;exact ⟨_,D5 rfl a35,(by rw [hr];exact c9J b3K)⟩
theorem a0z (fl:List Fi) (nn:Bool) (f:Fi) (bO:fl.length<=1000000) (σ:List b9):b8 CC 67 [.agg (B5 fl nn),.agg f.cells] σ fun r τ=>r = .ret (.agg (B5 (a5l fl f) (gnn (a5l fl f).length)))/\τ=σ :=
 c4p hCC (fun a h=>by simp at h;rcases h with rfl | rfl;exact o8 (cs:=B5 _ _) ⟨H0 _ _,tt⟩;exact o8 (Fi.pure _)) (o8 (cs:=B5 _ _) ⟨H0 _ _,tt⟩) (b9A fl nn f bO) σ
theorem b9s (fl:List Fi) (nn:Bool) (s:Str) (bO:fl.length<=1000000):b8 CC 71 [.agg (B5 fl nn),(sv s)] [] fun r τ=>F8 0 τ r (.ret (.agg (B5 (a4h fl s) (gnn (a4h fl s).length)))) []:=by
 refine qO Tryz.func71 ?_;refine qD (F5 rfl tt j2 j4 ?_);refine c4j ?_;refine qY a0S ?_;refine B9 hCC 3 rfl (α:=List Fi × Nat) (fun x=>[(1,(sv s)),(4,.ptr 1 0),(5,.ptr 2 0),(9,(.list (fl.map Fi.cv) nn none)),(10,iv fl.length),(11,iv x.2)]) (fun x=>[.box (B5 fl nn),.box (B5 [] false),.box [(.list (x.1.map Fi.cv) (gnn x.1.length) (G9 x.1.length 3))],r7 x.1.length]) (fun x=>x.2<=fl.length/\x.1.length<=x.2/\a4h fl s=x.1++a4h (fl.drop x.2) s) (fun x=>fl.length - x.2) ⟨([],0),[0,1,2,9],⟨n_5 _,n_5 _,rfl⟩,⟨rfl,rfl⟩,ut_,⟨.inr ⟨_,rfl,.same rfl a05⟩,.inr ⟨_,rfl,.same rfl a8x⟩,.inr ⟨_,rfl,.box ⟨.same rfl (a09 _ ([]:List Fi) _),tt⟩⟩,.inl rfl,tt⟩⟩ ?_;intro ⟨ba,i⟩ ⟨hi,hol,hr⟩;dsimp only at hi hol hr ⊢;refine qk (qC ?_ ?_)<;> intro h1
 ·have ae:i < fl.length:=sm_ h1;obtain ⟨y,hb⟩:∃ y,fl[i]? = some y:=⟨fl[i]'ae,si_⟩;rw [c2m hb] at hr;refine b8G ?_;refine qY b7a ?_;refine qC ?_ ?_<;>intro h2
  ·have eU:¬ y.p=s:=sp_ h2;rw [n_0 eU] at hr;refine qY c9t ?_;refine qD (F4 rfl tt tt rfl si_ q_2 a7L a3O c3e a5Z rfl (.inr rfl) q_7 c2o G7 ((ba++[y]).map Fi.cv) (ba++[y]).length si_ si_ ?_);refine c4V ?_;exact ⟨(ba++[y],i+1),[0,1,2,5],⟨do_,do_,by simp only [n_7,C4,I3];omega,by rw [hr];simp⟩,⟨rfl,rfl⟩,ut_,⟨.inr ⟨_,rfl,.same rfl a05⟩,.inr ⟨_,rfl,.same rfl a8x⟩,.inr ⟨_,rfl,.box ⟨E9.grow (f:=Fi.cv) (fun a=>⟨.val _,.val _,tt⟩) rfl,tt⟩⟩,.inr ⟨_,rfl,.same rfl G5⟩,tt⟩⟩
  ·have eU:y.p=s:=sp_ h2;rw [n_1 eU] at hr;refine qY o7 ?_;exact ⟨(ba,i+1),[0,1,2,3],⟨do_,do_,do_,by rw [hr];simp⟩,⟨rfl,rfl⟩,ut_,⟨.inr ⟨_,rfl,.same rfl a05⟩,.inr ⟨_,rfl,.same rfl a8x⟩,.inr ⟨_,rfl,.box ⟨E9.grow (f:=Fi.cv) (fun a=>⟨.val _,.val _,tt⟩) rfl,tt⟩⟩,.inr ⟨_,rfl,.same rfl G5⟩,tt⟩⟩
 ·have aE:fl.length<=i:=sm_ h1;rw [T5 aE] at hr;replace hr:a4h fl s=ba:=by rw [hr];exact a1d _
  refine j6 ?_;refine c37 ?_;exact ⟨_,D5 rfl a35,(by rw [hr];exact c9J b3K)⟩
theorem b3g (fl:List Fi) (nn:Bool) (s:Str) (bO:fl.length<=1000000) (σ:List b9):b8 CC 71 [.agg (B5 fl nn),(sv s)] σ fun r τ=>r = .ret (.agg (B5 (a4h fl s) (gnn (a4h fl s).length)))/\τ=σ :=
 c4p hCC (fun a h=>by simp at h;rcases h with rfl | rfl;exact o8 (cs:=B5 _ _) ⟨H0 _ _,tt⟩;exact .val _) (o8 (cs:=B5 _ _) ⟨H0 _ _,tt⟩) (b9s fl nn s bO) σ
theorem a2X {l:List Int} {n:Int} (hn:1<=n):0<=Q2 l k n/\Q2 l k n < n:=b31 hn
theorem b0T (n:Nat) (l:List Int) (nn:Bool) (k:Nat):J0 n (A6 l nn k):=B6 ⟨U9 _ _ _,.val _,tt⟩
theorem b86 (l:List Int) (nn:Bool) (k:Nat) (aV:k<=900000000) (hl:l.length<=maxLen) (n:Nat) (hn:n<=1000) (al:Str) (ha:1<=al.length) (gi:al.length<=1000):b8 CC 121 [.ptr 0 0,iv n,(sv al)] [A6 l nn k] fun r τ=>∃ a:Str × Nat,F8 1 τ r (.ret (sv a.1)) [A6 l nn a.2]/\(a.1.length=n/\k<=a.2/\a.2<=k+n):=by
 refine qO Tryz.func121 ?_;refine B9 hCC 1 rfl (α:=Str × Nat) (fun x=>[(0,.ptr 0 0),(1,iv n),(2,(sv al)),(7,(.list (x.1.map bcv) (gnn x.1.length) (G9 x.1.length 1))),(8,iv x.1.length)]) (fun x=>[A6 l nn x.2,r7 x.1.length]) (fun x=>x.1.length<=n/\x.2=k+x.1.length) (fun x=>n - x.1.length) ⟨([],k),[0,9],⟨n_5 _,rfl⟩,⟨rfl,rfl⟩,⟨b7j,b7j,b7j,b7j,b7j,tt⟩,uq_⟩ ?_;intro ⟨ba,p⟩ ⟨hol,hp⟩;dsimp only at hol hp ⊢;refine qk (qC ?_ ?_)<;> intro h1
 ·have ae:ba.length < n:=sm_ h1;have hb:=a2X (l:=l) (k:=p) (n:=(al.length:Int)) om_;obtain ⟨c,hc⟩:∃ c,al[(Q2 l p (al.length:Int)).toNat]? = some c:=⟨al[(Q2 l p (al.length:Int)).toNat]'om_,si_⟩;refine qY O8 ?_;refine qD (c5 rfl a7K j1 (L1 l nn p _ 0 rfl om_ hl (al.length:Int) om_) rfl ?_);intro _ _;refine qY (L5 rfl tt tt rfl rfl t_5 om_ hc) ?_;refine qY d5X ?_;refine qD (F4 rfl tt tt rfl si_ q_2 t_7 t_9 b02 a3J rfl (.inr rfl) q_7 (by have hb:Tryz.t5.bytes=1:=rfl;rw [hb];first|omega|(simp;done)|(simp;omega)) G7 ((ba++[c]).map bcv) (ba++[c]).length si_ si_ ?_);refine qY o7 ?_;exact ⟨(ba++[c],p+1),[0,2],⟨by simp only [n_7,C4,I3];omega,by simp only [n_7,C4,I3];omega,by simp only [n_7,C4,I3];omega⟩,⟨rfl,rfl⟩,⟨⟨tt,ur_⟩,⟨tt,ur_⟩,⟨tt,ur_⟩,⟨tt,ur_⟩,⟨tt,(by first|exact ur_|exact .same (n_9 (fun x=>iv x) (by simp:(ba.length:Int)+1=((ba++[c]).length:Int))) uo_)⟩,tt⟩,uq_⟩
 ·have aE:ba.length=n:=sm_ h1;refine j6 ?_;refine qY b6y ?_;refine c6 ?_;exact ⟨_,rE1,⟨(ba,p),a2w rfl Y6 (.old (.val _)),aE,do_,do_⟩⟩
theorem c31 (l:List Int) (nn:Bool) (k:Nat) (aV:k<=900000000) (hl:l.length<=maxLen) (n:Nat) (hn:n<=1000) (al:Str) (ha:1<=al.length) (gi:al.length<=1000) (σ:List b9) (q:Nat) (hq:σ[q]? = some (A6 l nn k)):b8 CC 121 [.ptr q 0,iv n,(sv al)] σ fun r τ=>∃ a:Str × Nat,r = .ret (sv a.1)/\τ=σ.set q (A6 l nn a.2)/\(a.1.length=n/\k<=a.2/\a.2<=k+n) :=
 a96 (c:=fun a:Str × Nat=>sv a.1) (S:=fun a=>A6 l nn a.2) hCC (fun a h=>by simp at h;rcases h with rfl | rfl<;>exact .val _) (fun _=>.val _) (fun _=>K2 _ _ _) (K2 _ _ _) rfl (b86 l nn k aV hl n hn al ha gi) σ q hq
theorem c8f (l:List Int) (nn:Bool) (k:Nat) (aV:k<=800000000) (hl:l.length<=maxLen):b8 CC 70 [.ptr 0 0] [A6 l nn k] fun r τ=>∃ a:Str × Nat,F8 1 τ r (.ret (sv a.1)) [A6 l nn a.2]/\(a.1.length<=3/\k<=a.2/\a.2<=k+4):=by
 refine qO Tryz.func70 ?_;refine qD (c5 rfl a7K o4 (L1 l nn k _ 0 rfl om_ hl 4 om_) rfl ?_);intro _ _;have hb:=a2X (l:=l) (k:=k) (n:=4) om_;obtain ⟨m,hm⟩:∃ m:Nat,Q2 l k 4=(m:Int):=⟨(Q2 l k 4).toNat,om_⟩;rw [hm] at hb ⊢;refine qD (c5 rfl Tryz.call121 a3F (c31 l nn (k+1) om_ hl m om_ [97,98,0,255,48] de_ de_ _ 0 rfl) rfl ?_);intro ⟨s,p⟩ ⟨hs,gC,di⟩;dsimp only at hs gC di ⊢;refine c6 ?_;exact ⟨_,rE1,⟨(s,p),a2w rfl Y6 (.old (.val _)),do_,do_,do_⟩⟩
theorem c01 (l:List Int) (nn:Bool) (k:Nat) (aV:k<=800000000) (hl:l.length<=maxLen) (σ:List b9) (q:Nat) (hq:σ[q]? = some (A6 l nn k)):b8 CC 70 [.ptr q 0] σ fun r τ=>∃ a:Str × Nat,r = .ret (sv a.1)/\τ=σ.set q (A6 l nn a.2)/\(a.1.length<=3/\k<=a.2/\a.2<=k+4) :=
 a96 (c:=fun a:Str × Nat=>sv a.1) (S:=fun a=>A6 l nn a.2) hCC (fun a h=>by simp at h) (fun _=>.val _) (fun _=>K2 _ _ _) (K2 _ _ _) rfl (c8f l nn k aV hl) σ q hq
def a66 (l:List Int) (nn:Bool) (ps:List Str) (d L K B:Nat):Prop:=∀ (k:Nat),k<=B->∀ (σ:List b9) (q:Nat),σ[q]? = some (A6 l nn k)->b8 CC 122 [.ptr q 0,iv d,.list (ps.map scv) (gnn ps.length) none] σ fun r τ=>∃ a:Str × Nat,r = .ret (sv a.1)/\τ=σ.set q (A6 l nn a.2)/\(a.1.length<=L/\k<=a.2/\a.2<=k+K)
abbrev eob (l:List Int) (nn:Bool) (ps:List Str) (d p:Nat):List b9:=[A6 l nn (p),.box [.ptr 0 0],.box [iv d],.box [(.list (ps.map scv) (gnn ps.length) none)]]
theorem a9X {l:List Int} {ps:List Str} {d K:Nat} (hd:d<=10) (ih:a66 l nn ps d L K B) (p:Nat) (hp:p<=B):b8 CC 163 [.ptr 1 0,.ptr 2 0,.ptr 3 0] (eob l nn ps (d+1) p) fun r τ=>∃ a:Str × Nat,r = .ret (sv a.1)/\τ=eob l nn ps (d+1) a.2/\(a.1.length<=L/\p<=a.2/\a.2<=p+K):=by
 refine qO Tryz.func163 ?_;refine qY Y8 ?_;refine qD (c5 rfl c8N C6 (by have h:=ih p hp (eob l nn ps (d+1) p) 0 rfl;rw [show (d:Int)=((d+1:Nat):Int) - 1 by omega] at h;exact h) rfl ?_);intro ⟨s,p1⟩ ⟨h1,h2,h3⟩;dsimp only at h1 h2 h3 ⊢;refine c6 ?_;exact ⟨_,rE1,⟨(s,p1),rfl,rfl,h1,h2,h3⟩⟩
theorem c7x (l:List Int) (nn:Bool) (k:Nat) (hl:l.length<=maxLen) (d:Nat) (hd:d<=10) (ps:List Str) (co:∀ s∈ps,s.length<=10) (aT:ps.length<=2) (L K B:Nat) (hL:L<=1000000) (hK:K<=1000) (aV:k+3*K+10<=B) (hB:B<=900000000) (dQ:1<=d->∀ p,p<=B->b8 CC 163 [.ptr 1 0,.ptr 2 0,.ptr 3 0] (eob l nn ps d p) fun r τ=>∃ a:Str × Nat,r = .ret (sv a.1)/\τ=eob l nn ps d a.2/\(a.1.length<=L/\p<=a.2/\a.2<=p+K)):b8 CC 122 [.ptr 0 0,iv d,.list (ps.map scv) (gnn ps.length) none] [A6 l nn k] fun r τ=>∃ a:Str × Nat,F8 1 τ r (.ret (sv a.1)) [A6 l nn a.2]/\(a.1.length<=3*L+30/\k<=a.2/\a.2<=k+(3*K+5)):=by
 refine cO Tryz.func122 ?_;refine qs 1 (qD (F5 rfl tt j2 (.inl rfl) ?_));refine qD (F5 rfl tt j2 (.inl rfl) ?_);refine qD (F5 rfl tt j2 (.inl rfl) ?_);refine D4 ?_;refine M9 (α:=Bool × Nat) (fun x=>[(3,.ptr 1 0),(4,.ptr 2 0),(5,.ptr 3 0),(15,(.val (.bool x.1)))]) (fun x=>[A6 l nn (x.2),.box [.ptr 0 0],.box [iv d],.box [(.list (ps.map scv) (gnn ps.length) none)]]) (fun x=>k<=x.2/\x.2<=k+1/\(x.1=false->1<=d)) ?_ ?_
 ·
  refine qk (qG (fun hg=>m0 rfl tt rfl c6m rfl rfl) ?_);refine b6j (.val (.bool false)) rfl rfl tt rfl rfl (fun hg=>c5 rfl b4b ⟨hg,rfl,rfl,tt⟩ (O3 l nn k _ 0 rfl om_ hl 1 4 om_) rfl ?_) (fun hg=>?_)
  ·
   intro _ _;refine b4S ?_;exact ⟨(_,k+1),(by exact ⟨do_,do_,fun _=>sm_ hg⟩),⟨⟨tt,rfl⟩,⟨tt,rfl⟩,⟨tt,rfl⟩,⟨tt,rfl⟩,tt⟩,rfl⟩
  ·
   refine b4S ?_;exact ⟨(_,k),(by exact ⟨do_,do_,fun hb=>by exfalso;revert hb hg;cases decide ((d:Int)<=0)<;>simp⟩),⟨⟨tt,rfl⟩,⟨tt,rfl⟩,⟨tt,rfl⟩,⟨tt,rfl⟩,tt⟩,rfl⟩
 ·intro ⟨b,p⟩ E0 ⟨gC,di,eu⟩;dsimp only at gC di eu ⊢;refine cC ?_ ?_<;>intro h1
  ·refine M9 (α:=Nat) (fun _=>[(3,.ptr 1 0)]) (fun x=>[A6 l nn (x),.box [.ptr 0 0],.box [iv d],.box [(.list (ps.map scv) (gnn ps.length) none)]]) (fun x=>k<=x/\x<=k+3) ?_ ?_
   ·
    refine qs 1 (qD (c5 rfl a7K o4 (L1 l nn p _ 0 rfl om_ hl 9 om_) rfl ?_));intro _ _;refine M9 (α:=Bool) (fun b=>[(3,.ptr 1 0),(4,.ptr 2 0),(5,.ptr 3 0),(17,(iv (Q2 l p 9))),(18,(.val (.bool b)))]) (fun _=>[A6 l nn (p+1),.box [.ptr 0 0],.box [iv d],.box [(.list (ps.map scv) (gnn ps.length) none)]]) (fun _=>True) ?_ ?_
    ·
     refine qk (qC ?_ ?_)<;> intro h2
     ·exact ⟨_,tt,⟨⟨tt,rfl⟩,⟨tt,rfl⟩,⟨tt,rfl⟩,⟨tt,rfl⟩,⟨tt,rfl⟩,tt⟩,rfl⟩
     ·exact ⟨_,tt,⟨⟨tt,rfl⟩,⟨tt,rfl⟩,⟨tt,rfl⟩,⟨tt,rfl⟩,⟨tt,rfl⟩,tt⟩,rfl⟩
    ·intro b2 E2 _;refine qC ?_ ?_<;>intro h3
     ·refine qY I7 ?_;refine qC ?_ ?_<;>intro h4
      ·obtain ⟨x,ps',rfl⟩:∃ x ps',ps=x::ps':=by
        rcases ps with _ | ⟨x,ps'⟩
        ·simp at h4
        ·exact ⟨x,ps',rfl⟩
       refine qD (c5 rfl a3M j1 (I5 l nn (p+1) _ 0 rfl om_ hl (x::ps') si_ om_) rfl ?_);intro v hv;have cZ:=co v hv;refine c6 ?_;exact ⟨_,rE1,⟨(_,p+2),a2w rfl Y6 (.old (.val _)),(by show List.length _<=_;simp only;omega),do_,do_⟩⟩
      ·exact ⟨(p+1),⟨om_,om_⟩,tu_,rfl⟩
     ·refine qC ?_ ?_<;>intro h5
      ·refine cW 2 ?_;refine hY c0J ?_;refine hY c0y ?_;refine d1Q ?_;intro v hv;have cZ:v.length<=8:=P7 (.inr (.inr (.inr (.inl hv))));refine a2h ?_;exact d5f
      ·refine qC ?_ ?_<;>intro h6
       ·refine cW 2 ?_;refine hY c0J ?_;refine hY c0y ?_;refine d1Q ?_;intro v hv;have cZ:v.length<=8:=P7 (.inr (.inr (.inr (.inl hv))));refine a2h ?_;exact d5f
       ·refine qC ?_ ?_<;>intro h7
        ·refine cW 2 ?_;refine hY c0J ?_;refine hY (c4 rfl Tryz.call84 trivial (a9N _) rfl) ?_;refine Y5 ?_;refine qD (c5 rfl a3M j1 (I5 l nn (p+1) _ 0 rfl om_ hl a0O de_ de_) rfl ?_);intro v hv;have cZ:v.length<=8:=P7 (.inr (.inr (.inr (.inr hv))));refine a2h ?_;exact d5f
        ·refine qC ?_ ?_<;>intro h8
         ·refine qD (c5 rfl b4b a4x (O3 l nn (p+1) _ 0 rfl om_ hl 1 5 om_) rfl ?_);intro _ _;refine qC ?_ ?_<;>intro h9
          ·refine qY (B3 ([0,1,63].map icv) rfl ⟨rfl,rfl,rfl,tt⟩ t_4 t_1 t_8 rfl rfl rfl rfl rfl rfl rfl rfl rfl) ?_;refine qD (c5 rfl c8k j1 (a7Q l nn (p+2) _ 0 rfl om_ hl [0,1,63] si_ si_) rfl ?_);intro v hv;obtain ⟨m,hm,cp⟩:∃ m:Nat,v=(m:Int)/\m < 10^17:=by
            simp only [P0,a8Z,or_false] at hv;exact ⟨v.toNat,om_,om_⟩
           subst hm;have fi:=a1t 16 m cp;refine qY b95 ?_;refine a2h ?_;refine c6 ?_;exact ⟨_,rE1,⟨(_,p+3),a2w rfl Y6 (.old (.val _)),b6V,do_,do_⟩⟩
          ·exact ⟨(p+2),⟨om_,om_⟩,tu_,rfl⟩
         ·exact ⟨(p+1),⟨om_,om_⟩,tu_,rfl⟩
   ·intro p3 E3 ⟨hp3,hp4⟩;refine qk (qY (B3 ([0,1,2,3,10,255,9007199254740992,1073741824].map icv) rfl ⟨rfl,rfl,rfl,rfl,rfl,rfl,rfl,rfl,tt⟩ t_4 t_1 t_8 rfl rfl rfl rfl rfl rfl rfl rfl rfl) ?_);refine qD (c5 rfl c8k j1 (a7Q l nn (p3) _ 0 rfl om_ hl [0,1,2,3,10,255,9007199254740992,1073741824] si_ si_) rfl ?_);intro v hv;obtain ⟨m,hm,cp⟩:∃ m:Nat,v=(m:Int)/\m < 10^17:=by
     simp only [P0,a8Z,or_false] at hv;exact ⟨v.toNat,om_,om_⟩
    subst hm;have fi:=a1t 16 m cp;refine qY b95 ?_;refine c6 ?_;exact ⟨_,rE1,⟨(_,p3+1),a2w rfl Y6 (.old (.val _)),(by show List.length _<=_;simp only;omega),do_,do_⟩⟩
  ·have hd1:1<=d:=eu (sp_ h1);refine qk ?_;refine qs 1 (qY (a6q rfl C6) ?_);refine D4 ?_;refine qs 1 (qD (c5 rfl a7K o4 (L1 l nn p _ 0 rfl om_ hl 10 om_) rfl ?_));intro _ _;refine M9 (α:=Bool) (fun b=>[(3,.ptr 1 0),(7,(.clo 163 [.ptr 1 0,.ptr 2 0,.ptr 3 0])),(64,(iv (Q2 l p 10))),(65,(.val (.bool b)))]) (fun _=>[A6 l nn (p+1),.box [.ptr 0 0],.box [iv d],.box [(.list (ps.map scv) (gnn ps.length) none)]]) (fun _=>True) ?_ ?_
   ·
    refine qk (qC ?_ ?_)<;> intro aU
    ·exact ⟨_,tt,⟨⟨tt,rfl⟩,⟨tt,rfl⟩,⟨tt,rfl⟩,⟨tt,rfl⟩,tt⟩,rfl⟩
    ·refine qC ?_ ?_<;>intro ck
     ·exact ⟨_,tt,⟨⟨tt,rfl⟩,⟨tt,rfl⟩,⟨tt,rfl⟩,⟨tt,rfl⟩,tt⟩,rfl⟩
     ·exact ⟨_,tt,⟨⟨tt,rfl⟩,⟨tt,rfl⟩,⟨tt,rfl⟩,⟨tt,rfl⟩,tt⟩,rfl⟩
   ·intro b4 E4 _;refine qC ?_ ?_<;>intro cQ
    ·refine cF [3] [0,1,4] (tl:=[(2,[2]),(3,[2]),(5,[]),(6,[]),(7,[])]) ?_;refine chf rfl c4v ?_;refine chf rfl (c9 rfl d3c) ?_;refine b2m ?_;refine B8 rfl rfl rfl (c5 rfl a3M j1 (I5 l nn (p+1) _ 0 rfl om_ hl S3 de_ de_) rfl ?_);intro v hv;have cZ:v.length<=8:=P7 (.inr (.inl hv));refine ⟨⟨F3,tt⟩,?_⟩;refine d2r ?_;intro ⟨s1,p1⟩ ⟨bq,ca,aI⟩;dsimp only at bq ca aI ⊢;refine c4U ?_;refine b85 ?_;refine qY (B3 ([0,0,0,1].map icv) rfl ⟨rfl,rfl,rfl,rfl,tt⟩ t_4 t_1 t_8 rfl rfl rfl rfl rfl rfl rfl rfl rfl) ?_;refine qD (c5 rfl c8k j1 (a7Q l nn (p1) _ 0 rfl om_ hl [0,0,0,1] si_ si_) rfl ?_);intro n hn;have hn01:n=0\/n=1:=by
      simp only [P0,a8Z,or_false] at hn;omega
     refine I4 (α:=Str × Nat × Int) (fun x=>[(7,(.clo 163 [.ptr 1 0,.ptr 2 0,.ptr 3 0])),(8,(sv x.1)),(9,iv x.2.2)]) (fun x=>[A6 l nn (x.2.1),.box [.ptr 0 0],.box [iv d],.box [(.list (ps.map scv) (gnn ps.length) none)]]) (fun x=>(x.2.2=0\/x.2.2=1)/\(x.2.2=1->x.1.length<=L+9/\x.2.1<=k+4+K)/\x.1.length<=2*L+11/\k<=x.2.1/\x.2.1<=k+4+2*K) (fun x=>x.2.2.toNat) (_,p1+1,n) ⟨hn01,fun _=>⟨by show List.length _<=_;simp only [n_7,C4,I3];omega,do_⟩,by show List.length _<=_;simp only [n_7,C4,I3];omega,do_,do_⟩ ⟨⟨tt,rfl⟩,⟨tt,rfl⟩,⟨tt,rfl⟩,tt⟩ rfl ?_;intro ⟨s,p5,n5⟩ E5 ⟨hn5,hn6,hs5,hq5,hq6⟩;dsimp only at hn5 hn6 hs5 hq5 hq6 ⊢;refine qk (qC ?_ ?_)<;> intro dk
     ·have h13':n5=1:=sm_ dk;obtain ⟨hs6,hq7⟩:=hn6 h13';refine qD (T8 rfl tt rfl b65 trivial (by exact dQ om_ (p5) om_) rfl ?_);intro ⟨s2,p2⟩ ⟨dK,dh,bm⟩;dsimp only at dK dh bm ⊢;refine qY a4i ?_;refine qY a1y ?_;refine qY Y8 ?_;exact ⟨(_,p2,n5 - 1),do_,(by exact ⟨do_,fun h=>by dsimp only at h;omega,by show List.length _<=_;simp only [n_7,C4,I3];omega,do_,do_⟩),⟨⟨tt,rfl⟩,⟨tt,rfl⟩,⟨tt,rfl⟩,tt⟩,rfl⟩
     ·refine j6 ?_;refine qY V7 ?_;refine c6 ?_;exact ⟨_,rE1,⟨(_,p5),a2w rfl Y6 (.old (.val _)),b6V,do_,do_⟩⟩
    ·refine qC ?_ ?_<;>intro gA
     ·refine qD (T8 rfl tt rfl b65 trivial (by exact dQ om_ (p+1) om_) rfl ?_);intro ⟨s1,p1⟩ ⟨bq,ca,aI⟩;dsimp only at bq ca aI ⊢;refine a2h ?_;refine qD (T8 rfl tt rfl b65 trivial (by exact dQ om_ (p1) om_) rfl ?_);intro ⟨s2,p2⟩ ⟨dK,dh,bm⟩;dsimp only at dK dh bm ⊢;refine b0D ?_;refine qD (T8 rfl tt rfl b65 trivial (by exact dQ om_ (p2) om_) rfl ?_);intro ⟨s3,p3⟩ ⟨fz,hq3,fx⟩;dsimp only at fz hq3 fx ⊢;refine b0D ?_;refine c6 ?_;exact ⟨_,rE1,⟨(_,p3),a2w rfl Y6 (.old (.val _)),b6V,do_,do_⟩⟩
     ·refine qC ?_ ?_<;>intro h15
      ·refine cF [3,4] [0,1,5] (tl:=[(2,[2]),(3,[2]),(4,[2]),(6,[]),(7,[]),(8,[]),(9,[])]) ?_;refine chf rfl c4v ?_;refine chf rfl (c9 rfl c0y) ?_;refine b2m ?_;refine B8 rfl rfl rfl (c5 rfl a3M j1 (I5 l nn (p+1) _ 0 rfl om_ hl a1j de_ de_) rfl ?_);intro v hv;have cZ:v.length<=8:=P7 (.inr (.inr (.inr (.inl hv))));refine ⟨⟨F3,tt⟩,?_⟩;refine b0Q rfl rfl (fun _=>c9 rfl a4i) ?_;refine d2r ?_;intro ⟨s1,p1⟩ ⟨bq,ca,aI⟩;dsimp only at bq ca aI ⊢;refine c4U ?_;refine D7 rfl rfl c0e ⟨tt,?_⟩;refine b85 ?_;exact c3F
      ·refine qC ?_ ?_<;>intro h16
       ·refine qD (T8 rfl tt rfl b65 trivial (by exact dQ om_ (p+1) om_) rfl ?_);intro ⟨s1,p1⟩ ⟨bq,ca,aI⟩;dsimp only at bq ca aI ⊢;refine a2h ?_;exact c3F
       ·refine qk ?_;refine cF [2,3,7,8] [0,4,5,9] (tl:=[(1,[1,2,3]),(2,[1,2,3]),(3,[1,2,3]),(6,[3]),(7,[3]),(8,[3]),(10,[]),(11,[]),(12,[]),(13,[])]) ?_;refine chf rfl X0 ?_;refine chf rfl c4v ?_;refine chf rfl (c9 rfl q_9) ?_;refine b2m ?_;refine B8 rfl rfl rfl (T8 rfl tt rfl b65 trivial (by exact dQ om_ (p+1) om_) rfl ?_);intro ⟨s1,p1⟩ ⟨bq,ca,aI⟩;dsimp only at bq ca aI ⊢;refine ⟨⟨(by exact c9 rfl c0J),(by exact c9 rfl q_9),F3,tt⟩,?_⟩;refine b0Q rfl rfl (fun _=>c9 rfl a4i) ?_;refine b0Q rfl rfl (fun _=>c9 rfl V7) ?_;refine B8 rfl rfl rfl (c5 rfl a3M j1 (I5 l nn p1 _ 0 rfl om_ hl ([[43],[45],[42],[47],[37],[60],[61,61]]:List Str) si_ si_) rfl ?_);intro v hv;have cZ:v.length<=2:=by revert v;decide
        refine ⟨⟨F3,tt⟩,?_⟩;refine b0Q rfl rfl (fun _=>c9 rfl a1y) ?_;refine b0Q rfl rfl (fun _=>c9 rfl V7) ?_;refine B8 rfl rfl rfl (T8 rfl tt rfl b65 trivial (by exact dQ om_ (p1+1) om_) rfl ?_);intro ⟨s2,p2⟩ ⟨dK,dh,bm⟩;dsimp only at dK dh bm ⊢;refine c4U ?_;refine D7 rfl rfl c0e ⟨tt,?_⟩;refine b3f ?_;exact ⟨_,rE1,⟨(_,p2),a2w rfl Y6 (.old (.val _)),b6V,do_,do_⟩⟩
theorem a6A {l:List Int} (hl:l.length<=maxLen) (d:Nat) (hd:d<=10) (ps:List Str) (co:∀ s∈ps,s.length<=10) (aT:ps.length<=2) (L K B:Nat) (hL:L<=1000000) (hK:K<=1000) (aV:k+3*K+10<=B) (hB:B<=900000000) (dQ:1<=d->∀ p,p<=B->b8 CC 163 [.ptr 1 0,.ptr 2 0,.ptr 3 0] (eob l nn ps d p) fun r τ=>∃ a:Str × Nat,r = .ret (sv a.1)/\τ=eob l nn ps d a.2/\(a.1.length<=L/\p<=a.2/\a.2<=p+K)) {q:Nat} (hq:σ[q]? = some (A6 l nn k)) :
 b8 CC 122 [.ptr q 0,iv d,.list (ps.map scv) (gnn ps.length) none] σ fun r τ=>∃ a:Str × Nat,r = .ret (sv a.1)/\τ=σ.set q (A6 l nn a.2)/\(a.1.length<=3*L+30/\k<=a.2/\a.2<=k+(3*K+5)) :=
 a96 (c:=fun a:Str × Nat=>sv a.1) (S:=fun a=>A6 l nn a.2) hCC (fun a h=>by simp at h;rcases h with rfl | rfl;exact .val _;exact E7 _ _) (fun _=>.val _) (fun _=>K2 _ _ _) (K2 _ _ _) rfl (c7x l nn k hl d hd ps co aT L K B hL hK aV hB dQ) σ q hq
theorem a6U (l:List Int) (nn:Bool) (hl:l.length<=maxLen) (ps:List Str) (co:∀ s∈ps,s.length<=10) (aT:ps.length<=2):a66 l nn ps 0 30 5 800000000/\a66 l nn ps 1 120 20 799999000/\a66 l nn ps 2 390 65 799998000/\a66 l nn ps 3 1200 200 799997000:=by
 have e0:a66 l nn ps 0 30 5 800000000:=fun k hk σ q hq=>a6A hl 0 om_ ps co aT 0 0 900000000 om_ om_ om_ om_ (fun h=>by omega) hq;have e1:a66 l nn ps 1 120 20 799999000:=fun k hk σ q hq=>a6A hl 1 om_ ps co aT 30 5 800000000 om_ om_ om_ om_ (fun _ p hp=>a9X om_ e0 p hp) hq;have e2:a66 l nn ps 2 390 65 799998000:=fun k hk σ q hq=>a6A hl 2 om_ ps co aT 120 20 799999000 om_ om_ om_ om_ (fun _ p hp=>a9X om_ e1 p hp) hq;have e3:a66 l nn ps 3 1200 200 799997000:=fun k hk σ q hq=>a6A hl 3 om_ ps co aT 390 65 799998000 om_ om_ om_ om_ (fun _ p hp=>a9X om_ e2 p hp) hq;exact ⟨e0,e1,e2,e3⟩
theorem c7M (l:List Int) (nn:Bool) (k:Nat) (aV:k<=700000000) (hl:l.length<=maxLen):b8 CC 73 [.ptr 0 0] [A6 l nn k] fun r τ=>∃ a:Str × Nat,F8 1 τ r (.ret (sv a.1)) [A6 l nn a.2]/\(a.1.length<=1240/\k<=a.2/\a.2<=k+210):=by
 refine cO Tryz.func73 ?_;refine qs 1 ?_;refine M9 (α:=Nat) (fun _=>[(0,.ptr 0 0)]) (fun x=>[A6 l nn (x)]) (fun x=>x=k+1) ?_ ?_
 ·
  refine qs 1 (qD (c5 rfl a7K o4 (L1 l nn k _ 0 rfl om_ hl 8 om_) rfl ?_));intro _ _;refine M9 (α:=Bool) (fun b=>[(0,.ptr 0 0),(2,(sv ([]))),(6,(iv (Q2 l k 8))),(7,(.val (.bool b)))]) (fun _=>[A6 l nn (k+1)]) (fun _=>True) ?_ ?_
  ·
   refine qk (qC ?_ ?_)<;> intro h1
   ·exact ⟨_,tt,⟨⟨tt,rfl⟩,⟨tt,rfl⟩,⟨tt,rfl⟩,⟨tt,rfl⟩,tt⟩,rfl⟩
   ·refine qC ?_ ?_<;>intro h2
    ·exact ⟨_,tt,⟨⟨tt,rfl⟩,⟨tt,rfl⟩,⟨tt,rfl⟩,⟨tt,rfl⟩,tt⟩,rfl⟩
    ·exact ⟨_,tt,⟨⟨tt,rfl⟩,⟨tt,rfl⟩,⟨tt,rfl⟩,⟨tt,rfl⟩,tt⟩,rfl⟩
  ·intro b E0 _;refine qC ?_ ?_<;>intro h3
   ·refine qY (c4 rfl Tryz.call82 trivial (b8X _) rfl) ?_;refine qD (c5 rfl a3M j1 (I5 l nn (k+1) _ 0 rfl om_ hl a45 de_ de_) rfl ?_);intro v hv;have cZ:v.length<=8:=P7 (.inr (.inr (.inl hv)));refine a2h ?_;refine qD (c5 rfl c8N a4x (by exact (a6U l nn hl ([]:List Str) de_ de_).2.2.2 (k+2) om_ _ 0 rfl) rfl ?_);intro ⟨s1,p1⟩ ⟨bq,ca,aI⟩;dsimp only at bq ca aI ⊢;refine b0D ?_;exact c3F
   ·refine qC ?_ ?_<;>intro h4
    ·refine qY c0y ?_;refine qD (c5 rfl a3M j1 (I5 l nn (k+1) _ 0 rfl om_ hl a1j de_ de_) rfl ?_);intro v hv;have cZ:v.length<=8:=P7 (.inr (.inr (.inr (.inl hv))));refine a2h ?_;refine qD (c5 rfl c8N a4x (by exact (a6U l nn hl ([]:List Str) de_ de_).2.2.1 (k+2) om_ _ 0 rfl) rfl ?_);intro ⟨s1,p1⟩ ⟨bq,ca,aI⟩;dsimp only at bq ca aI ⊢;refine b0D ?_;exact c3F
    ·exact ⟨_,rfl,⟨⟨tt,rfl⟩,tt⟩,rfl⟩
 ·intro p E0 hp;subst hp;refine qk (qD (d0Q rfl rfl rfl rfl t_2 t_0 t_3 rfl ?_));refine qD (c5 rfl b4b a4x (O3 l nn (k+1) _ 0 rfl om_ hl 1 5 om_) rfl ?_);intro _ _;refine qC ?_ ?_<;>intro h5
  ·refine qY (B3 [scv [98]] rfl ⟨rfl,tt⟩ t_2 t_0 t_3 rfl rfl rfl rfl rfl rfl rfl rfl rfl) ?_;refine qD (F4 rfl tt tt rfl (show 1=List.length _ from rfl) q_2 t_2 t_0 a4b t_3 rfl (.inr rfl) q_7 a4s G7 (([[97],[98]]:List Str).map scv) 2 rfl rfl ?_);refine d1U ?_;intro v hv;have cZ:v.length<=8:=P7 (.inr (.inl hv));refine a2h ?_;refine qY I7 ?_;refine qC ?_ ?_<;>intro h6
   ·refine qY V7 ?_;refine qY V7 ?_;refine qD (c5 rfl c8N ⟨tt,rfl,tt,tt⟩ (by exact (a6U l nn hl ([[97],[98]]:List Str) de_ de_).2.2.2 (k+3) om_ _ 0 rfl) rfl ?_);intro ⟨s1,p1⟩ ⟨bq,ca,aI⟩;dsimp only at bq ca aI ⊢;refine b0D ?_;exact c3F
   ·exfalso;simp at h6
  ·refine d1U ?_;intro v hv;have cZ:v.length<=8:=P7 (.inr (.inl hv));refine a2h ?_;refine qY I7 ?_;refine qC ?_ ?_<;>intro h7
   ·exfalso;simp at h7
   ·refine qY V7 ?_;refine qD (c5 rfl c8N ⟨tt,rfl,tt,tt⟩ (by exact (a6U l nn hl ([[97]]:List Str) de_ de_).2.2.2 (k+3) om_ _ 0 rfl) rfl ?_);intro ⟨s1,p1⟩ ⟨bq,ca,aI⟩;dsimp only at bq ca aI ⊢;refine b0D ?_;exact c3F
theorem c1S (l:List Int) (nn:Bool) (k:Nat) (aV:k<=700000000) (hl:l.length<=maxLen) (σ:List b9) (q:Nat) (hq:σ[q]? = some (A6 l nn k)):b8 CC 73 [.ptr q 0] σ fun r τ=>∃ a:Str × Nat,r = .ret (sv a.1)/\τ=σ.set q (A6 l nn a.2)/\(a.1.length<=1240/\k<=a.2/\a.2<=k+210) :=
 a96 (c:=fun a:Str × Nat=>sv a.1) (S:=fun a=>A6 l nn a.2) hCC (fun a h=>by simp at h) (fun _=>.val _) (fun _=>K2 _ _ _) (K2 _ _ _) rfl (c7M l nn k aV hl) σ q hq
theorem b8c (l:List Int) (nn:Bool) (k:Nat) (aV:k<=600000000) (hl:l.length<=maxLen) (pkg:Str) (dN:pkg.length<=8):b8 CC 68 [.ptr 0 0,(sv pkg)] [A6 l nn k] fun r τ=>∃ a:Str × Nat,F8 1 τ r (.ret (sv a.1)) [A6 l nn a.2]/\(a.1.length<=6300/\k<=a.2/\a.2<=k+1070):=by
 refine cO Tryz.func68 ?_;refine qs 2 ?_;refine a2h ?_;refine M9 (α:=Str × Nat) (fun x=>[(0,.ptr 0 0),(1,(sv pkg)),(5,(sv x.1))]) (fun x=>[A6 l nn (x.2)]) (fun x=>x.1.length<=40/\x.2=k+1) ?_ ?_
 ·
  refine qk (qD (c5 rfl b4b a4x (O3 l nn k _ 0 rfl om_ hl 1 8 om_) rfl ?_));intro _ _;refine qC ?_ ?_<;>intro h1
  ·refine qY a4i ?_;exact ⟨(_,k+1),d6s,⟨⟨tt,rfl⟩,⟨tt,rfl⟩,⟨tt,rfl⟩,tt⟩,rfl⟩
  ·exact ⟨(_,k+1),d6s,⟨⟨tt,rfl⟩,⟨tt,rfl⟩,⟨tt,rfl⟩,tt⟩,rfl⟩
 ·intro ⟨s,p⟩ E0 ⟨hs,hp⟩;dsimp only at hs hp ⊢;subst hp;refine qk (qD (c5 rfl a7K o4 (L1 l nn (k+1) _ 0 rfl om_ hl 3 om_) rfl ?_));intro _ _;have hb1:=a2X (l:=l) (k:=k+1) (n:=3) om_;refine B9 hCC 1 rfl (α:=Str × List Str × Nat × Int) (fun x=>[(0,.ptr 0 0),(1,(sv pkg)),(5,(sv x.1)),(6,(.list (x.2.1.map scv) (gnn x.2.1.length) (G9 x.2.1.length 1))),(7,iv x.2.2.2)]) (fun x=>[A6 l nn x.2.2.1,r7 x.2.1.length]) (fun x=>0<=x.2.2.2/\x.2.2.2<=2/\x.1.length+20*x.2.2.2<=80/\x.2.1.length+x.2.2.2<=2/\k+2<=x.2.2.1/\x.2.2.1+x.2.2.2<=k+4) (fun x=>x.2.2.2.toNat) ⟨(s,[],k+2,Q2 l (k+1) 3),[0,9],⟨do_,do_,do_,by dsimp only;simp;omega,do_,do_⟩,⟨rfl,rfl⟩,ut_,uq_⟩ ?_;intro ⟨s,seen,p,n⟩ ⟨aZ,cb,dK,eR,gC,di⟩;dsimp only at aZ cb dK eR gC di ⊢;refine qk (qC ?_ ?_)<;> intro h2
  ·have gB:1<=n:=sm_ h2;refine qY (c4 rfl Tryz.call69 trivial (a5w _) rfl) ?_;refine qD (c5 rfl a3M j1 (I5 l nn (p) _ 0 rfl om_ hl V5 de_ de_) rfl ?_);intro v hv;have cZ:v.length<=8:=P7 (.inl hv);refine qY b7a ?_;refine a2j ?_;refine qG (fun hg=>c4 rfl c8Z ⟨hg,hg,tt⟩ (a9S seen _ v om_ _) rfl) ?_;refine b6B ?_;refine qC ?_ ?_<;>intro h3
   ·refine qY (B3 [scv v] rfl ⟨tt,tt⟩ t_2 t_0 t_3 rfl rfl rfl rfl rfl rfl rfl rfl rfl) ?_;refine qD (F4 rfl tt tt rfl si_ q_2 t_2 t_0 a4b t_3 rfl (.inr rfl) q_7 a4s G7 ((seen++[v]).map scv) (seen++[v]).length si_ si_ ?_);refine a2h ?_;refine qY a1y ?_;refine qY Y8 ?_;exact ⟨(s++((([105,109,112,111,114,116,32]:Str)++v)++[59,10]),seen++[v],p+1,n - 1),[0,2],(by exact ⟨do_,do_,do_,by dsimp only;simp only [n_7,C4,I3];omega,by dsimp only;simp only [n_7,C4,I3];omega,do_,do_⟩),⟨rfl,rfl⟩,ut_,uq_⟩
   ·refine qY Y8 ?_;exact ⟨(s,seen,p+1,n - 1),[0,1],⟨do_,do_,do_,do_,do_,do_,do_⟩,⟨rfl,rfl⟩,ut_,uq_⟩
  ·have gB:n=0:=sm_ h2;subst gB;refine j6 ?_;refine qD (c5 rfl a7K o4 (L1 l nn p _ 0 rfl om_ hl 5 om_) rfl ?_);intro _ _;have cq:=a2X (l:=l) (k:=p) (n:=5) om_;refine qY (c0h rfl rfl tt rfl rfl om_ om_) ?_;refine B9 hCC 2 rfl (α:=Str × List Str × Nat × Int) (fun x=>[(0,.ptr 0 0),(5,(sv x.1)),(9,(.list (x.2.1.map scv) (gnn x.2.1.length) (G9 x.2.1.length 2))),(10,iv x.2.2.2)]) (fun x=>[A6 l nn x.2.2.1,r7 seen.length,r7 x.2.1.length]) (fun x=>0<=x.2.2.2/\x.2.2.2<=5/\x.1.length+1240*x.2.2.2<=6280/\x.2.1.length+x.2.2.2<=5/\k+3<=x.2.2.1/\x.2.2.1+211*x.2.2.2<=k+1060) (fun x=>x.2.2.2.toNat) ⟨(s,[],p+1,1+Q2 l p 5),[0,1,9],⟨do_,do_,do_,by dsimp only;simp;omega,do_,do_⟩,⟨rfl,rfl⟩,ut_,uq_⟩ ?_;intro ⟨s,cg,p2,n⟩ ⟨aZ,cb,fz,hhn,hp3,hp4⟩;dsimp only at aZ cb fz hhn hp3 hp4 ⊢;refine qs 1 (qC ?_ ?_)<;> intro h4
   ·have gB:1<=n:=sm_ h4;refine D4 ?_;refine qs 3 (qD (c5 rfl Tryz.call73 ⟨tt,tt⟩ (c1S l nn p2 om_ hl _ 0 rfl) rfl ?_));intro ⟨dt,p5⟩ ⟨hdt,hq5,hr5⟩;dsimp only at hdt hq5 hr5 ⊢;refine I4 (α:=Nat) (fun i=>[(0,.ptr 0 0),(5,(sv s)),(9,(.list (cg.map scv) (gnn cg.length) (G9 cg.length 2))),(10,iv n),(11,(sv dt)),(12,(sv dt)),(13,iv i)]) (fun _=>[A6 l nn p5,r7 seen.length,r7 cg.length]) (fun i=>i<=dt.length) (fun i=>dt.length - i) 0 (n_5 _) tu_ rfl ?_;intro i E3 hi;refine a5R ?_;refine qC ?_ ?_<;>intro h5
    ·have ae:i < dt.length:=sm_ h5;obtain ⟨c,hc⟩:∃ c,dt[i]? = some c:=⟨dt[i]'ae,si_⟩;refine qY (L5 rfl tt tt rfl rfl t_5 om_ (by rw [a1Z];exact hc)) ?_;refine a2j ?_;refine qG (fun hg=>L5 rfl hg hg rfl rfl t_5 b0Z (by rw [a1Z];exact hc)) ?_;refine a3g ?_;refine qC ?_ ?_<;>intro h6
     ·refine qY (J7 (h:=i) rfl tt rfl t_5 rfl a3v a3I a3I) ?_;refine j6 ?_;refine M9 (α:=Bool × Nat) (fun x=>[(0,.ptr 0 0),(5,(sv s)),(9,(.list (cg.map scv) (gnn cg.length) (G9 cg.length 2))),(10,iv n),(11,(sv dt)),(12,(sv (dt.take i))),(84,(.val (.bool x.1)))]) (fun x=>[A6 l nn x.2,r7 seen.length,r7 cg.length]) (fun x=>p5<=x.2/\x.2<=p5+1) ?_ ?_
      ·
       refine qk (qY (c4 rfl c8Z j1 (a9S cg _ _ om_ _) rfl) ?_);refine qG C3 ?_;refine b6j (.val (.bool false)) rfl rfl tt rfl rfl (fun hg=>c5 rfl b4b ⟨hg,rfl,rfl,tt⟩ (O3 l nn p5 _ 0 rfl om_ hl 1 40 om_) rfl ?_) (fun hg=>?_)
       ·
        intro _ _;exact d3d
       ·
        refine b4S ?_;exact ⟨(_,p5),⟨do_,do_⟩,⟨⟨tt,rfl⟩,⟨tt,rfl⟩,⟨tt,rfl⟩,⟨tt,rfl⟩,⟨tt,rfl⟩,⟨tt,rfl⟩,⟨tt,rfl⟩,tt⟩,rfl⟩
      ·intro ⟨b6,p6⟩ E6 ⟨hq6,hr6⟩;dsimp only at hq6 hr6 ⊢;refine qC ?_ ?_<;>intro h7
       ·refine qY (B3 [scv (dt.take i)] rfl ⟨tt,tt⟩ t_2 t_0 t_3 rfl rfl rfl rfl rfl rfl rfl rfl rfl) ?_;refine qD (F4 rfl tt tt rfl si_ q_2 t_2 t_0 a4b t_3 rfl (.inr rfl) q_7 a4s G7 ((cg++[(dt.take i)]).map scv) (cg++[(dt.take i)]).length si_ si_ ?_);refine qY a1y ?_;refine qk (qY Y8 ?_);exact ⟨(s++dt,cg++[(dt.take i)],p6,n - 1),[0,1,3],d5D,⟨rfl,rfl⟩,ut_,uq_⟩
       ·refine qk ?_;exact d3q
     ·refine qY o7 ?_;exact ⟨(i+1),om_,ae,tu_,rfl⟩
    ·refine j6 ?_;refine M9 (α:=Bool × Nat) (fun x=>[(0,.ptr 0 0),(5,(sv s)),(9,(.list (cg.map scv) (gnn cg.length) (G9 cg.length 2))),(10,iv n),(11,(sv dt)),(12,(sv dt)),(84,(.val (.bool x.1)))]) (fun x=>[A6 l nn x.2,r7 seen.length,r7 cg.length]) (fun x=>p5<=x.2/\x.2<=p5+1) ?_ ?_
     ·
      refine qk (qY (c4 rfl c8Z j1 (a9S cg _ _ om_ _) rfl) ?_);refine qG C3 ?_;refine b6j (.val (.bool false)) rfl rfl tt rfl rfl (fun hg=>c5 rfl b4b ⟨hg,rfl,rfl,tt⟩ (O3 l nn p5 _ 0 rfl om_ hl 1 40 om_) rfl ?_) (fun hg=>?_)
      ·
       intro _ _;exact d3d
      ·
       refine b4S ?_;exact ⟨(_,p5),⟨do_,do_⟩,⟨⟨tt,rfl⟩,⟨tt,rfl⟩,⟨tt,rfl⟩,⟨tt,rfl⟩,⟨tt,rfl⟩,⟨tt,rfl⟩,⟨tt,rfl⟩,tt⟩,rfl⟩
     ·intro ⟨b6,p6⟩ E6 ⟨hq6,hr6⟩;dsimp only at hq6 hr6 ⊢;refine qC ?_ ?_<;>intro h8
      ·refine qY (B3 [scv dt] rfl ⟨tt,tt⟩ t_2 t_0 t_3 rfl rfl rfl rfl rfl rfl rfl rfl rfl) ?_;refine qD (F4 rfl tt tt rfl si_ q_2 t_2 t_0 a4b t_3 rfl (.inr rfl) q_7 a4s G7 ((cg++[dt]).map scv) (cg++[dt]).length si_ si_ ?_);refine qY a1y ?_;refine qk (qY Y8 ?_);exact ⟨(s++dt,cg++[dt],p6,n - 1),[0,1,3],d5D,⟨rfl,rfl⟩,ut_,uq_⟩
      ·refine qk ?_;exact d3q
   ·have gB:n=0:=sm_ h4;subst gB;refine j6 ?_;refine qD (c5 rfl b4b a4x (O3 l nn p2 _ 0 rfl om_ hl 1 30 om_) rfl ?_);intro _ _;refine qC ?_ ?_<;>intro h9
    ·refine qY (B3 (([[102,117,110,99],[125],[34],[116,101,115,116,32,116,32,61,32,49,59],[120]]:List Str).map scv) rfl ⟨rfl,rfl,rfl,rfl,rfl,tt⟩ t_2 t_0 t_3 rfl rfl rfl rfl rfl rfl rfl rfl rfl) ?_;refine qD (c5 rfl a3M j1 (I5 l nn (p2+1) _ 0 rfl om_ hl ([[102,117,110,99],[125],[34],[116,101,115,116,32,116,32,61,32,49,59],[120]]:List Str) si_ si_) rfl ?_);intro v hv;have cZ:v.length<=11:=by revert v;decide
     refine qY a1y ?_;refine c6 ?_;exact ⟨_,rE1,⟨(_,p2+2),a2w rfl Y6 (.old (.val _)),(by show List.length _<=_;simp only [n_7];omega),do_,do_⟩⟩
    ·refine c6 ?_;exact ⟨_,rE1,⟨(_,p2+1),a2w rfl Y6 (.old (.val _)),(by show List.length _<=_;simp only;omega),do_,do_⟩⟩
theorem b2e (l:List Int) (nn:Bool) (k:Nat) (aV:k<=600000000) (hl:l.length<=maxLen) (pkg:Str) (dN:pkg.length<=8) (σ:List b9) (q:Nat) (hq:σ[q]? = some (A6 l nn k)):b8 CC 68 [.ptr q 0,(sv pkg)] σ fun r τ=>∃ a:Str × Nat,r = .ret (sv a.1)/\τ=σ.set q (A6 l nn a.2)/\(a.1.length<=6300/\k<=a.2/\a.2<=k+1070) :=
 a96 (c:=fun a:Str × Nat=>sv a.1) (S:=fun a=>A6 l nn a.2) hCC (fun a h=>by simp at h;subst h;exact .val _) (fun _=>.val _) (fun _=>K2 _ _ _) (K2 _ _ _) rfl (b8c l nn k aV hl pkg dN) σ q hq
def a1b:List Str:=([[97,46,100,97,116],[100,47,98,46,100,97,116],[99]]:List Str)
def a3l:List Str:=([[97,46,115,114,99],[98,46,115,114,99],[100,47,99,46,115,114,99],[120,46,115,114,99],[97,46,100,97,116],[100,47,98,46,100,97,116],[99],[122,48,46,115,114,99],[122,49,46,115,114,99],[122,50,46,115,114,99]]:List Str)
structure Q6 (B:Nat) (fl:List Fi):Prop where
 srt:c2n fl
 pth:∀ f∈fl,f.p∈a3l
 byt:∀ f∈fl,f.b.length<=B
theorem Q6.nil (B:Nat):Q6 B []:=⟨.nil,fun f h=>by simp at h,fun f h=>by simp at h⟩
theorem Q6.mono {C:Nat} (h:Q6 B fl) (hc:B<=C):Q6 C fl:=⟨h.srt,h.pth,fun f hf=>b8D (h.byt f hf) hc⟩
theorem Q6.len (h:Q6 B fl):fl.length<=10:=by
 have hn:(fl.map Fi.p).Nodup:=by
  rw [List.nodup_iff_pairwise_ne,List.pairwise_map];exact h.srt.imp fun {a b} cM he=>by rw [he,b4t] at cM;cases cM
 have hs:∀ x∈fl.map Fi.p,x∈a3l:=fun x hx=>by
  obtain ⟨f,hf,rfl⟩:=I9.1 hx;exact h.pth f hf
 have:=List.Nodup.length_le_of_subset hn (fun x hx=>hs x hx);rw [a0W] at this;exact this
theorem b2r {f:Fi}:∀ l:List Fi,a7I f true l=l.filter fun x=>!decide (x.p=f.p)
 | []=>rfl
 | x::l=>by
  rw [a7I,Bool.true_or,b2r l,a8C];by_cases h:x.p=f.p<;>simp [h]
theorem a6W {f:Fi} {x:Fi}:∀ {d:Bool} {l:List Fi},x∈a7I f d l->x=f\/x∈l
 | d,[],h=>by
  cases d<;>simp [a7I] at h
  exact .inl h
 | d,y::l,h=>by
  rw [a7I] at h
  rcases Y1.1 h with h | h
  ·split at h<;>simp at h
   exact .inl h
  ·rcases Y1.1 h with h | h
   ·split at h<;>simp at h
    exact .inr (by rw [h];simp)
   ·rcases a6W h with h | h
    ·exact .inl h
    ·exact .inr (a4r _ h)
theorem b4N {f:Fi}:∀ {l:List Fi},c2n l->c2n (a7I f false l)
 | [],_=>by simp [a7I,c2n]
 | y::l,h=>by
  obtain ⟨h1,h2⟩:=a8N.1 h;rw [a7I];by_cases aJ:leF f y=true
  ·simp only [aJ,Bool.not_false,Bool.and_self,if_true,Bool.or_true,b2r];have hl:c2n (l.filter fun x=>!decide (x.p=f.p)):=h2.filter _;have bO:∀ g∈l.filter fun x=>!decide (x.p=f.p),Op.bytesLess f.p g.p=true:=fun g hg=>by
    have hy:=h1 g ((b3r.1 hg).1);unfold leF at aJ;simp only [a7u,a1X] at aJ
    rcases aJ with aJ | aJ
    ·exact b09 aJ hy
    ·rw [aJ];exact hy
   by_cases eU:y.p=f.p
   ·rw [n_1 eU,a72];exact a8N.2 ⟨bO,hl⟩
   ·rw [n_0 eU];have hfy:Op.bytesLess f.p y.p=true:=by
     unfold leF at aJ;simp only [a7u,a1X] at aJ
     rcases aJ with aJ | aJ
     ·exact aJ
     ·exact absurd aJ.symm eU
    refine a8N.2 ⟨fun g hg=>?_,a8N.2 ⟨fun g hg=>h1 g ((b3r.1 hg).1),hl⟩⟩
    rcases P0.1 hg with rfl | hg
    ·exact hfy
    ·exact bO g hg
  ·have eH:leF f y=false:=sp_ aJ;have eU:¬ y.p=f.p:=fun h=>by rw [leF,h] at eH;simp at eH
   simp only [eH,Bool.and_false,Bool.or_false,n_0 eU];have:Op.bytesLess y.p f.p=true:=by
    unfold leF at eH;simp only [b6R,b4o] at eH;exact c5O eH.1 eH.2
   refine a8N.2 ⟨fun g hg=>?_,b4N h2⟩
   rcases a6W hg with rfl | hg
   ·exact this
   ·exact h1 g hg
theorem Q6.ins (h:Q6 B fl) (hp:f.p∈a3l) (hb:f.b.length<=B):Q6 B (a5l fl f) :=
 ⟨b4N h.srt,fun g hg=>by
  rcases a6W hg with rfl | hg
  ·exact hp
  ·exact h.pth g hg,fun g hg=>by
  rcases a6W hg with rfl | hg
  ·exact hb
  ·exact h.byt g hg⟩
theorem Q6.rem (h:Q6 B fl) (s:Str):Q6 B (a4h fl s) :=
 ⟨h.srt.filter _,fun g hg=>h.pth g ((b3r.1 hg).1),fun g hg=>h.byt g ((b3r.1 hg).1)⟩
theorem c1E:∀ s∈I0,s∈a3l:=by decide
theorem c0m:∀ s∈a1b,s∈a3l:=by decide
theorem V0 (fl:List Fi) (nn:Bool):u0 (.agg (B5 fl nn)):=o8 (cs:=B5 _ _) ⟨H0 _ _,tt⟩
theorem a2e {α:Type} {l:List α} (h:i < l.length):∃ y,l[i]? = some y/\y∈l:=⟨l[i],by simp [h],b2X h⟩
theorem b3B (l:List Int) (nn:Bool) (k:Nat) (aV:k<=500000000) (hl:l.length<=maxLen):b8 CC 27 [.ptr 0 0] [A6 l nn k] fun r τ=>∃ a:List Fi × Nat,F8 1 τ r (.ret (.agg (B5 a.1 (gnn a.1.length)))) [A6 l nn a.2]/\(Q6 6300 a.1/\k<=a.2/\a.2<=k+4400):=by
 refine qO Tryz.func27 ?_;refine c4j ?_;refine qY (c4 rfl Tryz.call66 trivial (a6f _) rfl) ?_;refine qY I7 ?_;refine I4 (α:=List Fi × Nat × Nat) (fun x=>[(0,.ptr 0 0),(2,.ptr 1 0),(3,.ptr 2 0),(8,(.list (I0.map scv) true none)),(9,iv I0.length),(10,iv x.2.2)]) (fun x=>[A6 l nn (x.2.1),.box (B5 [] false),.box (B5 x.1 (gnn x.1.length))]) (fun x=>x.2.2<=I0.length/\Q6 6300 x.1/\k+0<=x.2.1/\x.2.1<=k+0+x.2.2*1072) (fun x=>I0.length - x.2.2) ([],k,0) ⟨n_5 _,.nil _,do_,do_⟩ tu_ rfl ?_;intro ⟨fl,p,i⟩ E0 ⟨hi,hm,gC,di⟩;dsimp only at hi hm gC di ⊢;have hL:I0.length=4:=rfl;have hml:=hm.len;refine qs 2 (qC ?_ ?_)<;> intro h1
 ·have ae:i < I0.length:=sm_ h1;obtain ⟨y,hb,eM⟩:=a2e ae;refine M9 (α:=List Fi × Nat) (fun x=>[(0,.ptr 0 0),(2,.ptr 1 0),(3,.ptr 2 0),(8,(.list (I0.map scv) true none)),(9,iv I0.length),(10,iv i)]) (fun x=>[A6 l nn (x.2),.box (B5 [] false),.box (B5 x.1 (gnn x.1.length))]) (fun x=>Q6 6300 x.1/\p<=x.2/\x.2<=p+1072) ?_ ?_
  ·
   refine qk (qY a6y ?_);refine qD (c5 rfl b4b a4x (O3 l nn p _ 0 rfl om_ hl 3 4 om_) rfl ?_);intro _ _;refine qC ?_ ?_<;>intro h2
   ·refine d3M ?_;refine a7h ?_;refine chf rfl X0 ?_;refine chf rfl c36 ?_;refine D6 ?_;refine B8 rfl rfl rfl (c5 rfl a3M j1 (I5 l nn (p+1) _ 0 rfl om_ hl V5 de_ de_) rfl ?_);intro v hv;have cZ:v.length<=8:=P7 (.inl hv);refine ⟨⟨a1T,F3,F3,tt⟩,?_⟩;refine B8 rfl rfl rfl (c5 rfl Tryz.call68 j1 (b2e l nn (p+2) om_ hl v cZ _ 0 rfl) rfl ?_);intro ⟨s,p3⟩ ⟨hs,ca,dh⟩;dsimp only at hs ca dh ⊢;refine d0W ?_;refine d2P ?_;exact ⟨(a5l fl ⟨y,s⟩,p3),⟨hm.ins (c1E _ eM) hs,do_,do_⟩,tu_,rfl⟩
   ·exact ⟨(fl,p+1),⟨hm,do_,do_⟩,tu_,rfl⟩
  ·intro ⟨fl,p4⟩ E0 ⟨hm,ca,dh⟩;dsimp only at hm ca dh ⊢;refine a8U ?_;exact ⟨(fl,p4,i+1),do_,⟨do_,hm,do_,do_⟩,tu_,rfl⟩
 ·refine j6 ?_;refine qY d7o ?_;refine qY I7 ?_;refine I4 (α:=List Fi × Nat × Nat) (fun x=>[(0,.ptr 0 0),(2,.ptr 1 0),(3,.ptr 2 0),(26,(.list (a1b.map scv) true none)),(27,iv a1b.length),(28,iv x.2.2)]) (fun x=>[A6 l nn (x.2.1),.box (B5 [] false),.box (B5 x.1 (gnn x.1.length))]) (fun x=>x.2.2<=a1b.length/\Q6 6300 x.1/\k+0<=x.2.1/\x.2.1<=k+4288+x.2.2*5) (fun x=>a1b.length - x.2.2) (fl,p,0) ⟨n_5 _,hm,do_,do_⟩ tu_ rfl ?_;intro ⟨fl,p,i⟩ E0 ⟨hi,hm,gC,di⟩;dsimp only at hi hm gC di ⊢;have hL:a1b.length=3:=rfl;have hml:=hm.len;refine qk (qC ?_ ?_)<;> intro h3
  ·have ae:i < a1b.length:=sm_ h3;obtain ⟨y,hb,eM⟩:=a2e ae;refine qY a6y ?_;refine qD (c5 rfl b4b a4x (O3 l nn p _ 0 rfl om_ hl 1 3 om_) rfl ?_);intro _ _;refine qC ?_ ?_<;>intro h4
   ·refine cF [] [0,1,2] (tl:=[(3,[0,1]),(4,[0]),(5,[]),(6,[])]) ?_;refine chf rfl b2H ?_;refine a7h ?_;refine D6 ?_;refine B8 rfl rfl rfl (c5 rfl Tryz.call70 ⟨tt,tt⟩ (c01 l nn (p+1) om_ hl _ 0 rfl) rfl ?_);intro ⟨s,p3⟩ ⟨hs,ca,dh⟩;dsimp only at hs ca dh ⊢;refine d0W ?_;refine d2P ?_;refine qY o7 ?_;exact ⟨(a5l fl ⟨y,s⟩,p3,i+1),do_,⟨do_,hm.ins (c0m _ eM) do_,do_,do_⟩,tu_,rfl⟩
   ·refine qY o7 ?_;exact ⟨(fl,p+1,i+1),do_,⟨do_,hm,do_,do_⟩,tu_,rfl⟩
  ·refine j6 ?_;refine c37 ?_;exact ⟨_,D5 rfl a35,⟨(fl,p),a2w rfl Y6 (.old (V0 _ _).old),hm,do_,do_⟩⟩
theorem b5d (l:List Int) (nn:Bool) (k:Nat) (aV:k<=500000000) (hl:l.length<=maxLen) (σ:List b9) (q:Nat) (hq:σ[q]? = some (A6 l nn k)):b8 CC 27 [.ptr q 0] σ fun r τ=>∃ a:List Fi × Nat,r = .ret (.agg (B5 a.1 (gnn a.1.length)))/\τ=σ.set q (A6 l nn a.2)/\(Q6 6300 a.1/\k<=a.2/\a.2<=k+4400) :=
 a96 (c:=fun a:List Fi × Nat=>(.agg (B5 a.1 (gnn a.1.length)))) (S:=fun a=>A6 l nn a.2) hCC (fun a h=>by simp at h) (fun _=>V0 _ _) (fun _=>K2 _ _ _) (K2 _ _ _) rfl (b3B l nn k aV hl) σ q hq
noncomputable def T9 (fl:List Fi) (ev:List Va) (k:Ky):Option Str:=(X1 fl ev [k]).map fun l=>l.getD 0 []
def a5Q (o:Option Str):CV:=.tup [sv (o.getD []),iv (if o.isSome then 0 else 1)]
theorem b19 {k:List Ky} {l:List Str} (h:X1 fl ev k=some l):l=k.map (V6 fl (x9 fl).2.1 (x9 fl).2.2 ev):=by
 unfold X1 at h;split at h
 ·injection h with h;exact h.symm
 ·cases h
theorem b6z (fl:List Fi) (nn:Bool) (bO:∀ f∈fl,f.p.length<=1000000000) (ev:List Va) (en:Bool) (fA:∀ v∈ev,-9223372036854775808<=v.v/\v.v<=9223372036854775807) (k:Ky) (hk:k.a.length<=1000000000/\k.b.length<=1000000000):b8 CC 14 [.agg (B5 fl nn),.agg (T6 ev en),.agg k.cells] [] fun r τ=>∃ _:Unit,a0T 0 τ r (.ret (a5Q (T9 fl ev k)))/\True:=by
 refine qO Tryz.func14 ?_;refine b3W ?_;refine qD (F5 rfl tt j2 j4 ?_);refine qY (B3 ([k].map Ky.cv) rfl ⟨tt,tt⟩ b1J a7m b4f rfl rfl rfl rfl rfl rfl rfl rfl rfl) ?_;refine qY (c4 rfl Tryz.call16 C6 (by exact a8u fl nn bO ev en fA [k] true si_ (fun k1 h1=>by simp at h1;subst h1;exact hk) _) rfl) ?_;refine cC ?_ ?_<;>intro h1
 ·have hn:X1 fl ev [k]=none:=by
   cases h:X1 fl ev [k] with
   | none=>rfl
   | some l=>rw [h] at h1;simp at h1
  refine qk ?_;refine c6 ?_;exact ⟨_,p8 (rs:=[.tmp 6,.tmp 7]) (cs:=[_,_]) rfl T1 (n_4 rfl),(by rw [T9,hn];exact ⟨(),.ret (.old (.tup fun i c hi=>by rcases i with _ | _ | i<;>first|(injection hi with hi;subst hi;exact .val _) | cases hi)),tt⟩)⟩
 ·obtain ⟨s,hs⟩:∃ s,X1 fl ev [k]=some [s]:=by
   cases h:X1 fl ev [k] with
   | none=>rw [h] at h1;simp at h1
   | some l=>exact ⟨_,by rw [b19 h];rfl⟩
  rw [hs];refine qk (qY (o9 rfl tt rfl rfl rfl t_2 t_0 om_ (i8 (rfl:[s][0]? = some s)) rfl) ?_);refine c6 ?_;exact ⟨_,p8 (rs:=[.tmp 6,.tmp 7]) (cs:=[_,_]) rfl T1 (n_4 rfl),(by rw [T9,hs];exact ⟨(),.ret (.old (.tup fun i c hi=>by rcases i with _ | _ | i<;>first|(injection hi with hi;subst hi;exact .val _) | cases hi)),tt⟩)⟩
theorem b0P (fl:List Fi) (nn:Bool) (bO:∀ f∈fl,f.p.length<=1000000000) (ev:List Va) (en:Bool) (fA:∀ v∈ev,-9223372036854775808<=v.v/\v.v<=9223372036854775807) (k:Ky) (hk:k.a.length<=1000000000/\k.b.length<=1000000000) (σ:List b9):b8 CC 14 [.agg (B5 fl nn),.agg (T6 ev en),.agg k.cells] σ fun r τ=>r = .ret (a5Q (T9 fl ev k))/\τ=σ :=
 (G4 (res:=fun _:Unit=>.ret (a5Q (T9 fl ev k))) (P:=fun _=>True) hCC (fun a h=>by simp at h;rcases h with rfl | rfl | rfl;exact o8 (cs:=B5 _ _) ⟨H0 _ _,tt⟩;exact o8 (cs:=T6 _ _) ⟨a0R _ _,tt⟩;exact o8 (cs:=[_,_,_]) ⟨.val _,.val _,.val _,tt⟩) (b6z fl nn bO ev en fA k hk) (fun _ _=>C0 (cs:=[_,_]) ⟨.val _,.val _,tt⟩) σ).mono fun r τ ⟨_,h1,h2,_⟩=>⟨h1,h2⟩
def a8a:List Str->List Str->Int->Int
 | x::l,y::m,i=>if x=y then a8a l m (i+1) else i
 | _,_,_=>-1
noncomputable def a8h (fl:List Fi) (ev:List Va) (k:List Ky) (ts:List Str):Option Int:=match X1 fl ev k with
 | some l=>if k.length=ts.length then some (a8a l ts 0) else none
 | none=>none
def c53 (o:Option Int):CV:=.tup [iv (o.getD 0),iv (if o.isSome then 0 else 1)]
theorem b8q {l m:List Str} {x y:Str} (hx:l[i]? = some x) (hy:m[i]? = some y) (j:Int):a8a (l.drop i) (m.drop i) j=if x=y then a8a (l.drop (i+1)) (m.drop (i+1)) (j+1) else j:=by
 obtain ⟨h1,rfl⟩:=n_3.1 hx;obtain ⟨h2,rfl⟩:=n_3.1 hy;rw [R4 h1,R4 h2,a8a]
theorem c3x (fl:List Fi) (nn:Bool) (bO:∀ f∈fl,f.p.length<=1000000000) (ev:List Va) (en:Bool) (fA:∀ v∈ev,-9223372036854775808<=v.v/\v.v<=9223372036854775807) (k:List Ky) (nk:Bool) (hl:k.length<=1000000000) (hk:∀ x∈k,x.a.length<=1000000000/\x.b.length<=1000000000) (ts:List Str) (nt:Bool):b8 CC 21 [.agg (B5 fl nn),.agg (T6 ev en),.list (k.map Ky.cv) nk none,.list (ts.map scv) nt none] [] fun r τ=>∃ _:Unit,a0T 0 τ r (.ret (c53 (a8h fl ev k ts)))/\True:=by
 refine qO Tryz.func21 ?_;refine b3W ?_;refine qY (c4 rfl Tryz.call16 C6 (a8u fl nn bO ev en fA k nk hl hk _) rfl) ?_;refine qG C3 ?_;refine qG (fun hg=>a0s rfl hg rfl b1J b0p rfl) ?_;refine qG C3 ?_;refine qG (fun hg=>a0s rfl hg rfl t_2 b0p rfl) ?_;refine a79 ?_;refine qC ?_ ?_<;>intro h1
 ·have hn:a8h fl ev k ts=none:=by
   unfold a8h;cases h:X1 fl ev k with
   | none=>rfl
   | some l =>
    rw [h] at h1;have fZ:¬ k.length=ts.length:=sm_ h1;exact n_0 fZ
  refine c6 ?_;exact ⟨_,p8 (rs:=[.tmp 8,.tmp 9]) (cs:=[_,_]) rfl T1 (n_4 rfl),(by rw [hn];exact ⟨(),.ret (.old (.tup fun i c hi=>by rcases i with _ | _ | i<;>first|(injection hi with hi;subst hi;exact .val _) | cases hi)),tt⟩)⟩
 ·obtain ⟨l,hs⟩:∃ l,X1 fl ev k=some l:=by
   cases h:X1 fl ev k with
   | none=>rw [h] at h1;simp at h1
   | some l=>exact ⟨_,rfl⟩
  rw [hs] at h1 ⊢;have fZ:k.length=ts.length:=sm_ h1;have fj:l.length=k.length:=by rw [b19 hs];simp
  have hh:a8h fl ev k ts=some (a8a l ts 0):=by unfold a8h;rw [hs];exact n_1 fZ
  refine qY I7 ?_;refine j7 hCC (fun i:Nat=>[(3,(.list (ts.map scv) nt none)),(30,(.list (l.map scv) (gnn l.length) none)),(31,iv l.length),(32,iv i)]) (fun _=>[.box (B5 fl nn),.box (T6 ev en)]) (fun i=>i<=l.length/\a8a l ts 0=a8a (l.drop i) (ts.drop i) i) (fun i=>l.length - i) 0 ⟨n_5 _,rfl⟩ tu_ (ah:=[]) rfl w8 uz_ ?_;intro i ⟨hi,hr⟩;refine qk (qC ?_ ?_)<;> intro h2
  ·have ae:i < l.length:=sm_ h2;obtain ⟨x,hx,_⟩:=a2e ae;obtain ⟨y,hy,_⟩:=a2e (l:=ts) (i:=i) om_;rw [b8q hx hy] at hr;refine qY (o9 rfl tt tt rfl rfl t_2 t_0 om_ (i8 hx) rfl) ?_;refine qY b5e ?_;refine qY b7a ?_;refine qC ?_ ?_<;>intro h3
   ·have gI:¬ x=y:=sp_ h3;rw [n_0 gI] at hr;refine c6 ?_;exact ⟨_,p8 (rs:=[.tmp 8,.tmp 9]) (cs:=[_,_]) rfl T1 (n_4 rfl),d6a⟩
   ·have gI:x=y:=sp_ h3;rw [n_1 gI] at hr;exact a8I
  ·have aE:l.length<=i:=sm_ h2;rw [T5 aE] at hr;refine V9 ?_;exact ⟨_,p8 (rs:=[.tmp 8,.tmp 9]) (cs:=[_,_]) rfl T1 (n_4 rfl),d6a⟩
theorem c8B (fl:List Fi) (nn:Bool) (bO:∀ f∈fl,f.p.length<=1000000000) (ev:List Va) (en:Bool) (fA:∀ v∈ev,-9223372036854775808<=v.v/\v.v<=9223372036854775807) (k:List Ky) (nk:Bool) (hl:k.length<=1000000000) (hk:∀ x∈k,x.a.length<=1000000000/\x.b.length<=1000000000) (ts:List Str) (nt:Bool) (σ:List b9):b8 CC 21 [.agg (B5 fl nn),.agg (T6 ev en),.list (k.map Ky.cv) nk none,.list (ts.map scv) nt none] σ fun r τ=>r = .ret (c53 (a8h fl ev k ts))/\τ=σ :=
 (G4 (res:=fun _:Unit=>.ret (c53 (a8h fl ev k ts))) (P:=fun _=>True) hCC (fun a h=>by simp at h;rcases h with rfl | rfl | rfl | rfl;exact o8 (cs:=B5 _ _) ⟨H0 _ _,tt⟩;exact o8 (cs:=T6 _ _) ⟨a0R _ _,tt⟩;exact a5a _ _;exact E7 _ _) (c3x fl nn bO ev en fA k nk hl hk ts nt) (fun _ _=>C0 (cs:=[_,_]) ⟨.val _,.val _,tt⟩) σ).mono fun r τ ⟨_,h1,h2,_⟩=>⟨h1,h2⟩
def awF:List Fi:=[⟨[97,46,100,97,116],[45]⟩,⟨[97,46,115,114,99],[112,97,99,107,97,103,101,32,112,59,32,116,101,115,116,32,116,61,49,59]⟩]
theorem aw1:T9 awF [] ⟨4,[97,46,100,97,116],[]⟩=some [61,45]:=by kernel_rfl
def awS:Src:=⟨[112],[],[⟨2,[116],[],[⟨1,1,0,[],[]⟩]⟩]⟩
def awD:De:=⟨2,[116],[],[⟨1,1,0,[],[]⟩]⟩
theorem c5v {d:De} (h:DeG d) {k u o:Int} {nm:Str} (hb:d.body=[⟨k,u,o,nm,[]⟩]):U1 d=(Tr.n k u o nm []).txt d.params 0:=by
 obtain ⟨t,h1,h2,h3⟩:=a6g h;rw [h3];rw [hb] at h1;have hl:=Tr.flat_len t 0;rw [<- h1] at hl
 rcases t with ⟨k',u',o',nm',ch⟩
 have du:ch=[]:=by
  rcases ch with _ | ⟨c,ch⟩
  ·rfl
  ·have:=c.size_pos;simp only [Tr.size,x8,C4,I3] at hl;omega
 subst du;simp only [Tr.flat,J1,o3,a72,List.cons.injEq,Ex.mk.injEq,and_true] at h1;obtain ⟨rfl,rfl,rfl,rfl⟩:=h1;rfl
theorem aw2:T9 awF [] ⟨2,[112],[116]⟩=some [61,112,97,99,107,97,103,101,32,112,59,10,116,101,115,116,32,116,32,61,32,49,59,10]:=by
 have hv:B2 awF=0:=by kernel_rfl
 have bd:=c1a hv;have hg:glk (x9 awF).2.1 [97,46,115,114,99]=some awS:=by kernel_rfl
 have hx:O7 true (x9 awF).2.2 2 [112] [116]=⟨[112],[116],2,[97,46,115,114,99],0,1⟩:=by kernel_rfl
 have hd:DeG awD:=(bd.src _ _ hg).dec awD (by simp [awS,awD]);have hb:U1 awD=[49]:=(c5v hd rfl).trans B4;have ht:a0q awS awD=[112,97,99,107,97,103,101,32,112,59,10,116,101,115,116,32,116,32,61,32,49,59,10]:=by
  unfold a0q;rw [hb];kernel_rfl
 have hc:X1 awF [] [⟨2,[112],[116]⟩]=some [[61]++a0q awS awD]:=by
  unfold X1;rw [n_1 ⟨hv,by kernel_rfl,by kernel_rfl⟩];have:V6 awF (x9 awF).2.1 (x9 awF).2.2 [] ⟨2,[112],[116]⟩=[61]++a0q awS awD:=by
   unfold V6;rw [n_0 de_,n_1 rfl,hx];show a0a _ _=_;unfold a0a;rw [n_0 de_,n_1 rfl];unfold b4E;rw [hg];rfl
  rw [b3E,this];rfl
 unfold T9;rw [hc,ht];rfl
theorem aw3:a8h awF [] [⟨4,[99],[]⟩] [[45]]=some (-1):=by kernel_rfl
theorem d7M {V:List (List CV)} {r:List CV} {j:Nat} (h:V[i]? = some r) (e:j=i):V[j]? = some r:=e ▸ h
theorem c8w {α:Type} {f:α->List CV} {s:Nat} {l:List α} (hk:n<=k) (hs:σ[k]? = some (.vec s (l.map f))) (hp:∀ r∈l.map f,∀ c∈r,u0 c):Cls n σ (.vec k 0 l.length) (.list (l.map f) true none) :=
 .vec hk hs si_ si_ (fun i r r' h1 h2=>by
  have h3:(l.map f)[i]? = some r:=by simpa [W1] using h1
  rw [h3] at h2;injection h2 with h2;rw [h2]) (fun i j r r' c c' h1 h2 h3 h4=>by
  have h5:(l.map f)[i]? = some r:=by simpa [W1] using h1
  rw [h5] at h2;injection h2 with h2;subst h2
  rw [h3] at h4;injection h4 with h4;subst h4
  exact .old (hp r (n_2 h5) c (n_2 h3)).old)
end Go.Proofs.YtlppbmfecjabeaaGreatDoor
namespace Go.Proofs
open Go.Shelf
end Go.Proofs
namespace Go.Proofs.YtlppbmfecjabeaaGreatDoor
open Go Go.Cl
variable {fl:List Fi} {e:Int} {α:Type} {y:α} {ms:SM} {me:EM} {p:Str} {n:Nat} {R:Nat->Nat->Prop} {b:List Ex}
instance:Inhabited Ky:=⟨⟨0,[],[]⟩⟩
def a0h (f:Fi):Option Src:=if a3B f.p=true then O5 f.b else none
def deK (x:Src) (d:De):Nm:=D9 d.k x.pkg d.name
def b8v (q:Nm) (f:Fi):List (Src × De):=match a0h f with
 | none=>[]
 | some x=>(x.decls.filter fun d=>decide (deK x d=q)).map fun d=>(x,d)
def occ (q:Nm) (fl:List Fi):List (Src × De):=fl.flatMap (b8v q)
noncomputable def d7i:List (Src × De)->Str
 | []=>[45]
 | [(x,d)]=>[61]++a0q x d
 | _=>[63]
def a7b (ms:SM) (o:Option En):List (Src × De)->Prop
 | []=>o=none
 | (x,d)::t=>∃ e,o=some e/\e.ct=1+(t.length:Int)/\glk ms e.pl=some x/\0<=e.ix/\x.decls[e.ix.toNat]? = some d
theorem a7b.add {O:Nm->List (Src × De)} (h:∀ q,a7b ms (glk me q) (O q)) {path:Str} {x:Src} {d:De} {i:Nat} (hg:glk ms path=some x) (hd:x.decls[i]? = some d) (q:Nm):a7b ms (glk (a2k me ⟨x.pkg,d.name,d.k,path,(i:Int),1⟩) q) (O q++if deK x d=q then [(x,d)] else []):=by
 rw [a2k,O0];show a7b ms (if q=D9 d.k x.pkg d.name then _ else _) _;by_cases hq:deK x d=q
 ·rw [n_1 hq];subst hq;have h1:=h (deK x d);rw [n_1 (show deK x d=D9 d.k x.pkg d.name from rfl)];cases hO:O (deK x d) with
  | nil =>
   rw [hO] at h1;have h1:glk me (D9 d.k x.pkg d.name)=none:=h1;simp only [h1];exact ⟨_,rfl,rfl,hg,Int.natCast_nonneg _,sp_ hd⟩
  | cons y t =>
   obtain ⟨y,z⟩:=y;rw [hO] at h1;obtain ⟨e,h2,h3,h4,h5,h6⟩:=h1;have h2:glk me (D9 d.k x.pkg d.name)=some e:=h2;simp only [h2];refine ⟨_,rfl,?_,h4,h5,h6⟩;show e.ct+1=1+((t++[(x,d)]).length:Int);rw [h3,n_7];simp only [C4,I3];omega
 ·rw [n_0 hq,a1d];rw [n_0 (fun e=>hq e.symm)];exact h q
theorem a7b.addDs {ms:SM} {path:Str} {x:Src} (hg:glk ms path=some x):∀ (n k:Nat) (me:EM) (O:Nm->List (Src × De)),x.decls.length - k=n->(∀ q,a7b ms (glk me q) (O q))->∀ q,a7b ms (glk (addDs me path x.pkg (x.decls.drop k) k) q) (O q++(((x.decls.drop k).filter fun d=>decide (deK x d=q)).map fun d=>(x,d)))
 | 0,k,me,O,hn,h,q=>by
  rw [T5 om_,Go.Proofs.YtlppbmfecjabeaaGreatDoor.addDs];simpa using h q
 | n+1,k,me,O,hn,h,q=>by
  obtain ⟨d,hd⟩:=gx_ x.decls k;rw [a5S hd];have h1:=a7b.addDs hg n (k+1) _ _ om_ (fun q=>a7b.add h hg hd q) q;have hdr:x.decls.drop k=d::x.decls.drop (k+1):=by
   obtain ⟨ae,rfl⟩:=n_3.1 hd;exact R4 ae
  rw [hdr,a8C];by_cases hq:deK x d=q
  ·rw [n_1 (sp_ hq),b3E];rw [n_1 hq,F7] at h1;exact h1
  ·rw [n_0 (sp_ hq)];rw [n_0 hq,a1d] at h1;exact h1
theorem a7b.put {o:Option En} {l:List (Src × De)} {path:Str} {x:Src} (h:a7b ms o l) (hp:glk ms path=none):a7b (S8 ms path x) o l:=by
 rcases l with _ | ⟨⟨y,d⟩,t⟩
 ·exact h
 ·obtain ⟨e,h1,h2,h3,h4⟩:=h;refine ⟨e,h1,h2,?_,h4⟩;rw [O0,n_0]
  ·exact h3
  ·intro he;rw [he,hp] at h3;cases h3
structure WRd (dn:List Fi) (ms:SM) (me:EM):Prop where
 src:∀ f∈dn,glk ms f.p=a0h f
 non:∀ p,(∀ f∈dn,f.p≠p)->glk ms p=none
 ent:∀ q,a7b ms (glk me q) (occ q dn)
theorem WRd.step {dn:List Fi} {s:WS} {f:Fi} (h:WRd dn s.2.1 s.2.2) (hf:∀ g∈dn,g.p≠f.p):WRd (dn++[f]) (a0p s f).2.1 (a0p s f).2.2:=by
 have hnone:=h.non f.p hf;have hocc:∀ q,occ q (dn++[f])=occ q dn++b8v q f:=fun q=>by simp [occ]
 cases hs:a0h f with
 | none =>
  have hw:(a0p s f).2=s.2:=by
   unfold a0p;unfold a0h at hs
   split
   ·rename_i h1;rw [n_1 h1] at hs;rw [hs]
   ·rfl
  have e1:(a0p s f).2.1=s.2.1:=by rw [hw]
  have e2:(a0p s f).2.2=s.2.2:=by rw [hw]
  rw [e1,e2];refine ⟨fun g hg=>?_,fun p hp=>h.non p fun g hg=>hp g (by simp [hg]),fun q=>?_⟩
  ·rcases Y1.1 hg with hg | hg
   ·exact h.src g hg
   ·rw [b38.1 hg,hs];exact hnone
  ·rw [hocc,b8v,hs,a1d];exact h.ent q
 | some x =>
  have hw:(a0p s f).2=(S8 s.2.1 f.p x,addDs s.2.2 f.p x.pkg x.decls 0):=by
   unfold a0p;unfold a0h at hs;split at hs
   ·rename_i h1;rw [n_1 h1,hs]
   ·cases hs
  have e1:(a0p s f).2.1=S8 s.2.1 f.p x:=by rw [hw]
  have e2:(a0p s f).2.2=addDs s.2.2 f.p x.pkg x.decls 0:=by rw [hw]
  rw [e1,e2];refine ⟨fun g hg=>?_,fun p hp=>?_,fun q=>?_⟩
  ·rw [O0]
   rcases Y1.1 hg with hg | hg
   ·rw [n_0 (hf g hg)];exact h.src g hg
   ·rw [b38.1 hg,n_1 rfl,hs]
  ·rw [O0,n_0 (fun e=>hp f si_ e.symm)];exact h.non p fun g hg=>hp g (by simp [hg])
  ·rw [hocc,b8v,hs];have hg:glk (S8 s.2.1 f.p x) f.p=some x:=by rw [O0,n_1 rfl]
   have:=a7b.addDs hg _ 0 s.2.2 (fun q=>occ q dn) rfl (fun q=>(h.ent q).put hnone) q;simpa using this
theorem WRd.all:∀ {l dn:List Fi} {s:WS},WRd dn s.2.1 s.2.2->(l.Pairwise fun a b=>a.p≠b.p)->(∀ g∈dn,∀ f∈l,g.p≠f.p)->WRd (dn++l) (a7X l s).2.1 (a7X l s).2.2
 | [],dn,s,h,_,_=>by simpa [a7X] using h
 | f::l,dn,s,h,hp,hd=>by
  have h1:=h.step (f:=f) fun g hg=>hd g hg f si_;obtain ⟨gC,di⟩:=a8N.1 hp;have:=WRd.all (l:=l) h1 di (fun g hg e he=>by
   rcases Y1.1 hg with hg | hg
   ·exact hd g hg e (by simp [he])
   ·rw [b38.1 hg];exact gC e he)
  rw [F7] at this;exact this
theorem d5s (h:B2 fl=0):fl.Pairwise fun a b=>a.p≠b.p:=by
 have h0:rvE none fl=0:=by
  unfold B2 at h;split at h
  ·cases h
  ·exact h
 exact (b3s h0).2.imp fun {a b} cM he=>by rw [he] at cM;exact List.lt_irrefl _ cM
theorem a7c (h:B2 fl=0):WRd fl (x9 fl).2.1 (x9 fl).2.2:=by
 have:=WRd.all (l:=fl) (dn:=[]) (s:=([],[],[])) ⟨fun f hf=>by simp at hf,fun p _=>rfl,fun q=>rfl⟩ (d5s h) (fun g hg=>by simp at hg);rw [x9,n_1 h];simpa using this
theorem b2N {k:Int} {o:Str} (h:glk me (D9 k p o)=none):(O7 true me k p o).ct=0:=by
 unfold O7;rw [n_1 rfl,h]
theorem c2R (h:B2 fl=0) (k:Int) (p o:Str):a0a (x9 fl).2.1 (O7 true (x9 fl).2.2 k p o)=d7i (occ (D9 k p o) fl):=by
 have h1:=(a7c h).ent (D9 k p o);cases hO:occ (D9 k p o) fl with
 | nil =>
  rw [hO] at h1;unfold a0a;rw [n_1 (b2N h1)];rfl
 | cons y t =>
  obtain ⟨x,d⟩:=y;rw [hO] at h1;obtain ⟨e,h2,h3,h4,h5,h6⟩:=h1;have he:O7 true (x9 fl).2.2 k p o=e:=by
   unfold O7;rw [n_1 rfl,h2]
  rw [he];unfold a0a;rw [n_0 om_];cases t with
  | nil =>
   rw [n_1 (sp_ h3)];unfold b4E;rw [h4];simp only [n_8,h6,b2u,a8H];rfl
  | cons z t =>
   rw [n_0 (by rw [h3,C4];omega)];rfl
theorem a58 (h:B2 fl=0) (pkg:Str):B1 (x9 fl).2.1 fl pkg=fl.filter fun f=>decide ((a0h f).map Src.pkg=some pkg):=by
 unfold B1;refine List.filter_congr fun f hf=>?_;rw [(a7c h).src f hf];cases a0h f<;>simp
theorem c8S:∀ {l:List Fi} {pv:Option Fi},(∀ f∈l,G6 f.p=true/\f.b.length<=16384)->c2n l->(∀ g,pv=some g->∀ f∈l,Op.bytesLess g.p f.p=true)->rvE pv l=0
 | [],_,_,_,_=>rfl
 | f::l,pv,h,hs,hp=>by
  obtain ⟨h1,h2⟩:=a8N.1 hs;have hf:=h f si_;have e0:I1 pv f=0:=by
   unfold I1;rw [n_0 (by rw [hf.1];simp)];cases pv with
   | none =>
    rw [n_0 si_,n_0 si_,n_0 om_]
   | some g =>
    have hg:=hp g rfl f si_;have aC:¬ f.p=g.p:=fun e=>by rw [e,b4t] at hg;cases hg
    have gH:¬ Op.bytesLess f.p g.p=true:=fun e=>by
     have:=b09 hg e;rw [b4t] at this;cases this
    rw [n_0 (sp_ aC),n_0 (sp_ gH),n_0 om_]
  rw [rvE,n_1 e0];exact c8S (fun g hg=>h g (by simp [hg])) h2 fun g hg=>by injection hg with hg;subst hg;exact h1
theorem b7V:∀ s∈a3l,G6 s=true/\s.length<=1000:=by decide
theorem Q6.valid {B:Nat} (h:Q6 B fl) (hB:B<=16384):B2 fl=0:=by
 have hl:=h.len;unfold B2;rw [n_0 om_];exact c8S (fun f hf=>⟨(b7V _ (h.pth f hf)).1,b8D (h.byt f hf) hB⟩) h.srt fun g hg=>by cases hg
theorem Q6.plen {B:Nat} (h:Q6 B fl):∀ f∈fl,f.p.length<=1000000000:=fun f hf=>by
 have:=(b7V _ (h.pth f hf)).2;omega
theorem a9D {ev:List Va} (h:B2 fl=0) (he:a2s ev=true) {k:Ky} (hk:a0x k=true):T9 fl ev k=some (V6 fl (x9 fl).2.1 (x9 fl).2.2 ev k):=by
 unfold T9 X1;rw [n_1 ⟨h,he,by simp [hk]⟩];rfl
theorem b0K {α β:Type} [DecidableEq α] {a:α} {c:β} {x:α × β}:∀ {l:List (α × β)},x∈S8 l a c->x=(a,c)\/x∈l
 | [],h=>.inl (by simpa [S8] using h)
 | (b,d)::l,h=>by
  rw [S8] at h;split at h
  ·rename_i cM;subst cM
   rcases P0.1 h with h | h
   ·exact .inl h
   ·exact .inr (a4r _ h)
  ·rcases P0.1 h with h | h
   ·exact .inr (h ▸ b7n)
   ·exact (b0K h).imp id (a4r _)
theorem a9H {α β:Type} [DecidableEq α] {a:α} {c:β}:∀ {l:List (α × β)},(S8 l a c).length<=l.length+1
 | []=>n_6 _
 | (b,d)::l=>by
  rw [S8]
  split
  ·simp
  ·have:=a9H (a:=a) (c:=c) (l:=l);simp only [C4];omega
theorem c5E {β:Type} [DecidableEq α] {l:List (α × β)} {a:α} {c:β} (h:glk l a=some c):(a,c)∈l:=by
 obtain ⟨i,hi,_⟩:=a6s h;exact n_2 hi
structure EnV (q:Nm) (e:En):Prop where
 key:q=D9 e.k e.p e.o
 kind:e.k=1\/e.k=2\/e.k=3
 pkg:A9 e.p=true
 own:e.k≠3->A9 e.o=true
 pth:e.k=3->G6 e.o=true
theorem d4K {x:En} (hx:EnV (D9 x.k x.p x.o) x) (h:∀ y∈me,EnV y.1 y.2):∀ y∈a2k me x,EnV y.1 y.2:=fun y hy=>by
 unfold a2k at hy
 rcases b0K hy with rfl | hy
 ·dsimp only
  split
  ·rename_i f hf;have:=h _ (c5E hf);exact ⟨this.key,this.kind,this.pkg,this.own,this.pth⟩
  ·exact hx
 ·exact h y hy
theorem b9Q {path pkg:Str} (hp:A9 pkg=true):∀ (l:List De) (k:Nat) (me:EM),(∀ d∈l,DeG d)->(∀ y∈me,EnV y.1 y.2)->(∀ y∈addDs me path pkg l k,EnV y.1 y.2)/\(addDs me path pkg l k).length<=me.length+l.length
 | [],k,me,_,h=>⟨h,n_6 _⟩
 | d::l,k,me,hd,h=>by
  have hg:=hd d b7n;obtain ⟨h1,h2⟩:=b9Q hp l (k+1) (a2k me ⟨pkg,d.name,d.k,path,k,1⟩) (fun e he=>hd e (a4r _ he)) (d4K ⟨rfl,hg.kind,hp,fun h3=>(hg.name h3).1,hg.path⟩ h);refine ⟨h1,b8D h2 ?_⟩;have h3:(a2k me ⟨pkg,d.name,d.k,path,k,1⟩).length<=me.length+1:=a9H;rw [C4];omega
structure WV (n:Nat) (s:WS):Prop where
 src:∀ x∈s.2.1,a2f x.2
 ent:∀ x∈s.2.2,EnV x.1 x.2
 sl:s.2.1.length<=n
 el:s.2.2.length<=64*n
theorem WV.step {s:WS} (h:WV n s) (f:Fi):WV (n+1) (a0p s f):=by
 unfold a0p;have fy:=h.el;have dW:=h.sl
 split
 ·cases hp:O5 f.b with
  | none=>exact ⟨h.src,h.ent,Nat.le_succ_of_le dW,do_⟩
  | some x =>
   have hx:=a7s hp;obtain ⟨h1,h2⟩:=b9Q (path:=f.p) hx.pkg.1 x.decls 0 s.2.2 hx.dec h.ent;have hd:=hx.decl;have:=a9H (a:=f.p) (c:=x) (l:=s.2.1);refine ⟨fun y hy=>?_,h1,do_,do_⟩
   rcases b0K hy with rfl | hy
   ·exact hx
   ·exact h.src y hy
 ·exact ⟨h.src,h.ent,Nat.le_succ_of_le dW,om_⟩
theorem c52:∀ {l:List Fi} {n:Nat} {s:WS},WV n s->WV (n+l.length) (a7X l s)
 | [],n,s,h=>h
 | f::l,n,s,h=>by
  have:=c52 (l:=l) (h.step f);rw [show n+1+l.length=n+(f::l).length by simp;omega] at this;exact this
theorem d4j (fl:List Fi):WV fl.length (x9 fl):=by
 unfold x9
 split
 ·simpa using c52 (l:=fl) (n:=0) (s:=([],[],[])) ⟨fun x h=>by simp at h,fun x h=>by simp at h,n_6 _,n_6 _⟩
 ·exact ⟨fun x h=>by simp at h,fun x h=>by simp at h,n_5 _,n_5 _⟩
theorem a5c (h:B2 fl=0) (p o:Str):0<=(O7 true (x9 fl).2.2 1 p o).ct/\((O7 true (x9 fl).2.2 1 p o).ct≠0->(O7 true (x9 fl).2.2 1 p o).p=p/\(O7 true (x9 fl).2.2 1 p o).o=o):=by
 have h1:=(a7c h).ent (D9 1 p o);cases hO:occ (D9 1 p o) fl with
 | nil =>
  rw [hO] at h1;have h0:=b2N (k:=1) (p:=p) (o:=o) h1;rw [h0];exact ⟨b0N _,fun hh=>absurd rfl hh⟩
 | cons y t =>
  obtain ⟨x,d⟩:=y;rw [hO] at h1;obtain ⟨e,h2,h3,-⟩:=h1;have he:O7 true (x9 fl).2.2 1 p o=e:=by unfold O7;rw [n_1 rfl,h2]
  have hk:=((d4j fl).ent _ (c5E h2)).key;rw [he];refine ⟨om_,fun _=>?_⟩;unfold D9 at hk;injection hk with k1 k2 k3
  rw [<- k1] at k2;exact ⟨k2.symm,k3.symm⟩
theorem c2c {ms':SM} {x y:En} (h:a0a ms x=a0a ms' y):(x.ct=0↔y.ct=0)/\(x.ct=1↔y.ct=1):=by
 unfold a0a at h;by_cases a:x.ct=0<;>by_cases b:x.ct=1<;>by_cases c:y.ct=0<;>by_cases d:y.ct=1<;>first|omega|(exfalso;revert h;simp [a,b,c,d])
theorem b5k {P P':Str->Bool}:∀ {L:List Str},(∀ p∈L.take (cN P L),P p=P' p)->cN P' L=cN P L
 | [],_=>rfl
 | p::L,h=>by
  rw [cN,cN];have h0:=h p (by rw [cN];split<;>simp);by_cases hp:P p=true
  ·rw [n_1 hp,n_1 (h0 ▸ hp)]
  ·rw [n_0 hp,n_0 (h0 ▸ hp),b5k fun q hq=>h q ?_];rw [cN,n_0 hp,a6E];exact a4r _ hq
theorem c8p {P:Str->Bool}:∀ (L:List Str),cN P L<=L.length
 | []=>n_6 _
 | p::L=>by
  have:=c8p (P:=P) L;rw [cN,C4]
  split<;>omega
theorem d3J {P:Str->Bool} {L:List Str}:0 < cN P (p::L):=by
 rw [cN];split<;>omega
theorem d7R {o:Str} (hp:A9 p=true) (ho:A9 o=true):a0x ⟨1,p,o⟩=true:=by simp [a0x,hp,ho]
theorem d6K {gl:List Fi} (hf:B2 fl=0) (hg:B2 gl=0) {name:Str} (hn:A9 name=true) {q:Str} {L:List Str} (hL:∀ p∈q::L,A9 p=true) (same:∀ k∈J6 name (q::L) (J8 true (x9 fl).2.2 name (q::L)),T9 fl [] k=T9 gl [] k) :
 J8 true (x9 gl).2.2 name (q::L)=J8 true (x9 fl).2.2 name (q::L)/\a39 (U7 true (x9 gl).2.2 name (q::L))=a39 (U7 true (x9 fl).2.2 name (q::L))/\(a1V (U7 true (x9 gl).2.2 name (q::L))).p=(a1V (U7 true (x9 fl).2.2 name (q::L))).p/\(a1V (U7 true (x9 gl).2.2 name (q::L))).o=(a1V (U7 true (x9 fl).2.2 name (q::L))).o/\(a1V (U7 true (x9 gl).2.2 name (q::L))).ct=(a1V (U7 true (x9 fl).2.2 name (q::L))).ct:=by
 have cls:∀ p∈(q::L).take (J8 true (x9 fl).2.2 name (q::L)),((fE true (x9 fl).2.2 name p).ct=0↔(fE true (x9 gl).2.2 name p).ct=0)/\((fE true (x9 fl).2.2 name p).ct=1↔(fE true (x9 gl).2.2 name p).ct=1):=fun p hp=>by
  have hk:=d7R (hL p (a8E hp)) hn;have h1:=same ⟨1,p,name⟩ (I9.2 ⟨p,hp,rfl⟩);rw [a9D hf rfl hk,a9D hg rfl hk] at h1;injection h1 with h1
  exact c2c h1
 have hN:J8 true (x9 gl).2.2 name (q::L)=J8 true (x9 fl).2.2 name (q::L):=b5k fun p hp=>by
  have:=(cls p hp).1;have h1:=(a5c hf p name).1;have h2:=(a5c hg p name).1;unfold a29 fE at *;exact b5V.2 ⟨fun h=>by omega,fun h=>by omega⟩
 refine ⟨hN,?_⟩;unfold U7;rw [hN];have gx:0 < J8 true (x9 fl).2.2 name (q::L):=d3J;have aJ:J8 true (x9 fl).2.2 name (q::L)<=(q::L).length:=c8p _;generalize J8 true (x9 fl).2.2 name (q::L)=n at *;obtain ⟨i,rfl⟩:∃ i,n=i+1:=⟨n - 1,om_⟩;obtain ⟨p,hp⟩:∃ p,(q::L)[i]? = some p:=⟨_,a1u om_⟩;have bu:p∈(q::L).take (i+1):=by rw [a3P,hp];simp
 obtain ⟨c1,c2⟩:=cls p bu;obtain ⟨f1,f2⟩:=a5c hf p name;obtain ⟨g1,g2⟩:=a5c hg p name;rw [a8d,a8d,hp];dsimp only;unfold fE at *;generalize O7 true (x9 fl).2.2 1 p name=x at *;generalize O7 true (x9 gl).2.2 1 p name=y at *;unfold a1V a39;by_cases h0:x.ct=0
 ·rw [n_1 h0,n_1 h0,n_1 (c1.1 h0),n_1 (c1.1 h0)];exact ⟨rfl,rfl,rfl,rfl⟩
 ·have ft:¬ y.ct=0:=fun h=>h0 (c1.2 h);rw [n_0 h0,n_0 h0,n_0 ft,n_0 ft];by_cases h1:x.ct=1
  ·have dD:=c2.1 h1;rw [n_0 om_,n_0 om_,n_0 om_,n_0 om_];exact ⟨rfl,(g2 ft).1.trans (f2 h0).1.symm,(g2 ft).2.trans (f2 h0).2.symm,dD.trans h1.symm⟩
  ·have dD:¬ y.ct=1:=fun h=>h1 (c2.2 h);rw [n_1 om_,n_1 om_,n_1 om_,n_1 om_];exact ⟨rfl,rfl,rfl,rfl⟩
theorem a5T (l:List Fi) (nn:Bool) (σ:List b9):b8 CC 52 [.agg (B5 l nn)] σ fun r Y=>r = .ret (iv (B2 l))/\Y=σ:=by
 refine b8.anyw hCC pu_ pu_ (c7 (qO Tryz.func52 ?_)) σ;refine qD (F5 rfl tt j2 j4 ?_);refine qY a0S ?_;refine qC ?_ ?_<;>intro h1
 ·have aj:64 < l.length:=sm_ h1;exact d2U
 ·have aj:¬ 64 < l.length:=sm_ h1;refine qY a0S ?_;refine j7 hCC (α:=Nat) (fun i=>[(1,.ptr 0 0),(10,(.list (l.map Fi.cv) nn none)),(11,iv l.length),(12,iv i)]) (fun _=>[.box (B5 l nn)]) (fun i=>i<=l.length/\B2 l=rvE (prv l i) (l.drop i)) (fun i=>l.length - i) 0 ⟨n_5 _,by rw [B2,n_0 aj];rfl⟩ tu_ (ah:=[]) rfl w8 uz_ ?_;intro i ⟨hi,hr⟩;refine qk (qC ?_ ?_)<;> intro h2
  ·have ae:(i:Int) < l.length:=sp_ h2;obtain ⟨y,hb⟩:=gx_ l i;obtain ⟨p,hp⟩:=b3m (l:=l) (i:=i) om_;have fm:0 < i->l[i - 1]? = some p:=fun h=>(hp h).2;rw [b5C hb] at hr;refine b8G ?_;refine qY (c4 rfl c3I ⟨tt,tt⟩ (a1h y.p _) rfl) ?_;refine qC ?_ ?_<;>intro h3
   ·have u3:G6 y.p=false:=sp_ h3;have us:I1 (prv l i) y=6:=by rw [I1,n_1 u3]
    rw [us] at hr;exact b6N
   ·have u3:¬ G6 y.p=false:=sp_ h3;refine cW 14 ?_;refine b5D ?_;refine hY A3 ?_;refine c0M ?_;refine c04 ?_;refine c4M ?_;refine b92 ?_;refine S9 rfl rfl tt rfl a8B ?_;refine hY M8 ?_;refine Y5 ?_;refine qC ?_ ?_<;>intro h4
    ·have u4:((prv l i).any fun g=>decide (y.p=g.p))=true:=by rw [X8 fm];exact h4
     have us:I1 (prv l i) y=10:=by rw [I1,n_0 u3,n_1 u4]
     rw [us] at hr;exact b6N
    ·have u4:¬ ((prv l i).any fun g=>decide (y.p=g.p))=true:=by rw [X8 fm];simpa using h4
     refine cW 14 ?_;refine b5D ?_;refine hY A3 ?_;refine c0M ?_;refine c04 ?_;refine c4M ?_;refine b92 ?_;refine c4o ?_;refine Y5 ?_;refine qC ?_ ?_<;>intro h5
     ·have u5:((prv l i).any fun g=>Op.bytesLess y.p g.p)=true:=by rw [X8 fm];exact h5
      have us:I1 (prv l i) y=6:=by rw [I1,n_0 u3,n_0 u4,n_1 u5]
      rw [us] at hr;exact b6N
     ·have u5:¬ ((prv l i).any fun g=>Op.bytesLess y.p g.p)=true:=by rw [X8 fm];simpa using h5
      refine qY O8 ?_;refine qC ?_ ?_<;>intro h6
      ·have u6:16384 < y.b.length:=sm_ h6;have us:I1 (prv l i) y=2:=by rw [I1,n_0 u3,n_0 u4,n_0 u5,n_1 u6]
       rw [us] at hr;exact b6N
      ·have u6:¬ 16384 < y.b.length:=sm_ h6;have us:I1 (prv l i) y=0:=by rw [I1,n_0 u3,n_0 u4,n_0 u5,n_0 u6]
       rw [us,n_1 rfl] at hr;exact a8I
  ·exact d2j
theorem c13 (s:Str):((G6 s && decide ((s.length:Int) > 4)) && decide (((s.take s.length).drop (s.length - 4))=[46,115,114,99]))=a3B s:=by
 rw [a3B,b8w,a60];by_cases h:(s.length:Int) > 4
 ·have h4:([46,115,114,99]:Str).length=4:=rfl;have h5:decide ((4:Nat)<=s.length)=true:=a1R om_;rw [b9t,h4,h5,b6t]
 ·rw [a1o h];rfl
theorem b1l (s:Str) (hs:s.length<=1000000000) (σ:List b9):b8 CC 24 [(sv s)] σ fun r Y=>r = .ret (.val (.bool (a3B s)))/\Y=σ:=by
 refine b8.anyw hCC pu_ pu_ (c7 (qO Tryz.func24 ?_)) σ;refine qY (c4 rfl c3I ⟨tt,tt⟩ (a1h s _) rfl) ?_;refine a6p ?_;refine a3Q ?_;refine a2j ?_;refine qG c1u ?_;refine qG d0s ?_;refine qG (fun hg=>J7 (a:=(s.length - 4)) rfl hg rfl t_5 ⟨hg,_,_,rfl,by first|omega|(simp at hg;omega),by first|omega|(simp at hg;omega)⟩ rfl (sm_ hg) (sm_ hg)) ?_;refine c8P ?_;refine c6 ?_;exact ⟨_,rE1,_,_,rfl,rfl,j8 (c13 _)⟩
theorem a7k (l:List Fi) (nn:Bool) (p:Str) (hl:l.length<=1000000) (σ:List b9):b8 CC 87 [.agg (B5 l nn),(sv p)] σ fun r Y=>r = .ret (.tup [sv ((if B2 l=0 then C2 l p else none).getD []),.val (.bool (if B2 l=0 then C2 l p else none).isSome)])/\Y=σ:=by
 refine b8.anyw hCC pu_ pu_ (c7 (qO Tryz.func87 ?_)) σ;refine qD (F5 rfl tt j2 j4 ?_);refine qY (c4 rfl c5p ⟨tt,tt⟩ (a5T l nn _) rfl) ?_;refine qC ?_ ?_<;>intro h1
 ·have h0:¬ B2 l=0:=sp_ h1;refine c6 ?_;exact ⟨_,p8 (rs:=[.tmp 4,.tmp 5]) (cs:=[_,_]) rfl T1 (n_4 rfl),_,_,rfl,rfl,(by rw [n_0 h0];exact .tups ⟨.old (.val _),.old (.val _),tt⟩)⟩
 ·have h0:B2 l=0:=sp_ h1;refine qY a0S ?_;refine j7 hCC (α:=Nat) (fun i=>[(1,(sv p)),(12,(.list (l.map Fi.cv) nn none)),(13,iv l.length),(14,iv i)]) (fun _=>[.box (B5 l nn)]) (fun i=>i<=l.length/\C2 l p=C2 (l.drop i) p) (fun i=>l.length - i) 0 ⟨n_5 _,rfl⟩ tu_ (ah:=[]) rfl w8 uz_ ?_;intro i ⟨hi,hr⟩;refine qk (qC ?_ ?_)<;> intro h2
  ·have ae:(i:Int) < l.length:=sp_ h2;obtain ⟨y,hb⟩:=gx_ l i;rw [a91 hb] at hr;refine b1R ?_;refine qC ?_ ?_<;>intro h3
   ·have u2:y.p=p:=sp_ h3;rw [n_1 u2] at hr;refine c6 ?_;exact ⟨_,p8 (rs:=[.tmp 4,.tmp 5]) (cs:=[_,_]) rfl T1 (n_4 rfl),_,_,rfl,rfl,(by rw [n_1 h0,hr];exact .tups ⟨.old (.val _),.old (.val _),tt⟩)⟩
   ·have u2:¬ y.p=p:=sp_ h3;rw [n_0 u2] at hr;exact a8I
  ·have aE:l.length<=i:=sm_ h2;rw [T5 aE] at hr;refine V9 ?_;exact ⟨_,p8 (rs:=[.tmp 4,.tmp 5]) (cs:=[_,_]) rfl T1 (n_4 rfl),_,_,rfl,rfl,(by rw [n_1 h0,hr];exact .tups ⟨.old (.val _),.old (.val _),tt⟩)⟩
def tkE (e:Int) (m s:Nat):Option Nat:=if e=0 then G9 m s else none
def o5 (e:Int) (m:Nat):b9:=if e=0 then r7 m else .dead
abbrev rbx (T:List Tok) (n:Nat) (at_ e:Int) (ps:List Str) (b:List Ex) (s:Nat):b9:=.box [.list (T.map Tok.cv) true none,iv n,iv at_,iv e,.list (ps.map scv) (gnn ps.length) none,.list (b.map Ex.cv) (gnn b.length) (tkE e b.length s),.list [] false none]
abbrev rst (T:List Tok) (n:Nat) (at_ e:Int) (ps:List Str) (b:List Ex):List b9:=[rbx T n at_ e ps b 1,o5 e b.length]
abbrev a55 (T:List Tok) (n:Nat) (at_ e:Int) (ps:List Str) (b:List Ex):List b9:=[rbx T n at_ e ps b 2,.dead,o5 e b.length]
theorem c2s {s s':Nat} (h:R s s'):O9 R (.list (b.map Ex.cv) (gnn b.length) (tkE e b.length s)) (.list (b.map Ex.cv) (gnn b.length) (tkE e b.length s')):=by
 refine .list rfl (fun i r r' h1 h2=>by rw [h1] at h2;injection h2 with h2;rw [h2]) (fun i j r r' c c' h1 h2 h3 h4=>?_) ?_
 ·rw [h1] at h2;injection h2 with h2;subst h2;rw [h3] at h4;injection h4 with h4;subst h4
  exact .pure (D8 (f:=Ex.cv) (fun a=>(Ex.pure a).all) _ r (n_2 h1) c (n_2 h3))
 ·unfold tkE
  split
  ·cases hb:b.length with
   | zero=>exact .inl ⟨rfl,rfl⟩
   | succ m=>exact .inr ⟨s,s',rfl,rfl,h⟩
  ·exact .inl ⟨rfl,rfl⟩
theorem a68 {T:List Tok} {at_:Int} {ps:List Str} {s s':Nat} (h:R s s'):H8 R (rbx T n at_ e ps b s) (rbx T n at_ e ps b s') :=
 .box (.cons (.pure (a2T _ _)) (.cons (.pure (.val _)) (.cons (.pure (.val _)) (.cons (.pure (.val _)) (.cons (.pure (E7 _ _)) (.cons (c2s h) (.cons (.pure (a0i [] false)) .nil)))))))
theorem a38 (e:Int) (m:Nat):H8 R (o5 e m) (o5 e m):=by
 unfold o5
 split
 ·exact a1q m
 ·exact .dead
def RAt (σ:List b9) (q s:Nat) (T:List Tok) (n:Nat) (at_ e:Int) (ps:List Str) (b:List Ex):Prop:=σ[q]? = some (rbx T n at_ e ps b s)/\σ[s]? = some (o5 e b.length)/\q≠s
theorem a7T {f:FuncId} {args:List CV} {c:α->CV} {N:α->Nat} {A E:α->Int} {B:α->List Ex} {g:α->Bool} {P:α->Prop} {T:List Tok} {at_:Int} {ps:List Str} (ap:∀ a∈args,u0 a) (hc:∀ a,u0 (c a))
 (h:b8 CC f (.ptr 0 0::args) (rst T n at_ e ps b) fun r τ=>∃ a,F8 2 τ r (.ret (c a)) (if g a=true then a55 T (N a) (A a) (E a) ps (B a) else rst T (N a) (A a) (E a) ps (B a))/\P a) {σ:List b9} {q s:Nat} (ao:RAt σ q s T n at_ e ps b) :
 b8 CC f (.ptr q 0::args) σ fun r τ=>∃ a,r = .ret (c a)/\τ=(if g a=true then (σ.set q (rbx T (N a) (A a) (E a) ps (B a) σ.length)).set s .dead++[o5 (E a) (B a).length] else (σ.set q (rbx T (N a) (A a) (E a) ps (B a) s)).set s (o5 (E a) (B a).length))/\P a:=by
 obtain ⟨h1,h2,h3⟩:=ao;have hq:=(n_3.1 h1).1;have hs:=(n_3.1 h2).1;have h':b8 CC f (.ptr 0 0::args) (rst T n at_ e ps b) fun r τ=>∃ a,r = .ret (c a)/\τ=(if g a=true then a55 T (N a) (A a) (E a) ps (B a) else rst T (N a) (A a) (E a) ps (B a))/\P a :=
  L6 hCC (h.mono fun r τ ⟨a,k1,k2⟩=>⟨_,_,k1,a,rfl,rfl,k2⟩)
 refine J4 [q,s] hCC rfl (fun i j k g1 g2=>?_) (fun i k ob g1 g2=>?_) (.cons (.ptr rfl) (L3 ap)) h' fun r τ hk=>?_
 ·rcases i with _ | _ | i<;>rcases j with _ | _ | j<;>simp at g1 g2<;>first|rfl|(exfalso;exact h3 (g1.trans g2.symm))|(exfalso;exact h3 (g2.trans g1.symm))
 ·rcases i with _ | _ | i
  ·simp at g1 g2;subst g1 g2;exact ⟨_,h1,a68 rfl⟩
  ·simp at g1 g2;subst g1 g2;exact ⟨_,h2,a38 _ _⟩
  ·simp at g1
 ·obtain ⟨a,rfl,rfl,hp⟩:=hk;refine ⟨by split<;>simp,.ret (c a),(if g a=true then (σ.set q (rbx T (N a) (A a) (E a) ps (B a) σ.length)).set s .dead++[o5 (E a) (B a).length] else (σ.set q (rbx T (N a) (A a) (E a) ps (B a) s)).set s (o5 (E a) (B a).length)),.ret (.pure (hc a)),by split<;>simp,fun k hk bx=>?_,fun i k x ha hx=>?_,a,rfl,rfl,hp⟩
  ·have n1:q≠k:=fun e=>bx a2u;have n2:s≠k:=fun e=>bx a2u
   split
   ·rw [V3 (sp_ hk)];simp [n1,n2]
   ·simp [n1,n2]
  ·split at hx<;>rename_i hg
   ·rcases ha with ha | ⟨ha,rfl⟩
    ·rcases i with _ | _ | i
     ·simp at ha hx;subst ha hx;refine ⟨rbx T (N a) (A a) (E a) ps (B a) σ.length,?_,a68 (.inr ⟨si_,si_⟩)⟩;rw [n_1 hg,V3 (sp_ hq),a2i h3.symm];simp [hq]
     ·simp at ha hx;subst ha hx;refine ⟨.dead,?_,.dead⟩;rw [n_1 hg,V3 (sp_ hs)];simp [hs]
     ·simp at ha
    ·rcases i with _ | _ | _ | i
     ·simp at ha
     ·simp at ha
     ·simp at hx;subst hx;refine ⟨o5 (E a) (B a).length,?_,a38 _ _⟩;rw [n_1 hg,a0y si_];simp
     ·simp at hx
   ·rcases ha with ha | ⟨ha,rfl⟩
    ·rcases i with _ | _ | i
     ·simp at ha hx;subst ha hx;refine ⟨rbx T (N a) (A a) (E a) ps (B a) s,?_,a68 (.inl rfl)⟩;rw [n_0 hg,a2i h3.symm];simp [hq]
     ·simp at ha hx;subst ha hx;refine ⟨o5 (E a) (B a).length,?_,a38 _ _⟩;rw [n_0 hg];simp [hs]
     ·simp at ha
    ·rcases i with _ | _ | i
     ·simp at ha
     ·simp at ha
     ·simp at hx
def Ok {α:Type} (e:Int) (o:Option α) (e':Int) (y:α):Prop:=(e=0->(o=some y/\e'=0)\/(o=none/\e'≠0))/\(e≠0->e'≠0)
theorem Ok.bind {β:Type} {e1 e2:Int} {o:Option α} {f:α->Option β} {z:β} (h:Ok e o e1 y) (k:Ok e1 (f y) e2 z):Ok e (o.bind f) e2 z:=by
 refine ⟨fun h0=>?_,fun h0=>k.2 (h.2 h0)⟩
 rcases h.1 h0 with ⟨rfl,h1⟩ | ⟨rfl,h1⟩
 ·exact k.1 h1
 ·exact .inr ⟨rfl,k.2 h1⟩
theorem Ok.none {e':Int} (h:e'≠0):Ok e (Option.none:Option α) e' y:=⟨fun _=>.inr ⟨rfl,h⟩,fun _=>h⟩
theorem Ok.some:Ok e (Option.some y) e y:=⟨fun h=>.inl ⟨rfl,h⟩,fun h=>h⟩
theorem Ok.dead {e':Int} {o:Option α} (h:e≠0) (h':e'≠0):Ok e o e' y:=⟨fun h0=>absurd h0 h,fun _=>h'⟩
end Go.Proofs.YtlppbmfecjabeaaGreatDoor
