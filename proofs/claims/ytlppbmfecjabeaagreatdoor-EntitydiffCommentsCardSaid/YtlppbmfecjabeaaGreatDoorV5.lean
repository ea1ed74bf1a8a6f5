/- Part 5 of what the claim needs: values without addresses, and what the program's functions do with them. -/
import Derived.Test.YtlppbmfecjabeaaGreatDoorV4
set_option maxRecDepth 100000
set_option maxHeartbeats 4000000
namespace Go.Proofs.YtlppbmfecjabeaaGreatDoor
open Go Go.Cl
variable {n i B:Nat} {nn:Bool} {l:List Int} {fl:List Fi}
theorem bl_irr:∀ a:Str,Op.bytesLess a a=false
 | []=>rfl
 | x::a=>by simp [Op.bytesLess,bl_irr a]
theorem bl_trans:∀ {a b c:Str},Op.bytesLess a b=true->Op.bytesLess b c=true->Op.bytesLess a c=true
 | [],[],_,h,_=>by cases h
 | [],_::_,[],_,h=>by cases h
 | [],_::_,_::_,_,_=>rfl
 | _::_,[],_,h,_=>by cases h
 | _::_,_::_,[],_,h=>by cases h
 | x::a,y::b,z::c,h1,h2=>by
  simp only [Op.bytesLess,n_39,n_51,n_29,beq_iff_eq] at h1 h2 ⊢
  rcases h1 with h1 | ⟨h1,h1'⟩ <;> rcases h2 with h2 | ⟨h2,h2'⟩
  ·exact .inl (UInt8.lt_trans h1 h2)
  ·exact .inl (h2 ▸ h1)
  ·exact .inl (h1 ▸ h2)
  ·exact .inr ⟨h1.trans h2,bl_trans h1' h2'⟩
theorem bl_tot:∀ {a b:Str},Op.bytesLess a b=false->a≠b->Op.bytesLess b a=true
 | [],[],_,h=>absurd rfl h
 | [],_::_,h,_=>by cases h
 | _::_,[],_,_=>rfl
 | x::a,y::b,h1,h2=>by
  simp only [Op.bytesLess,Bool.or_eq_false_iff,decide_eq_false_iff_not,Bool.and_eq_false_iff,beq_eq_false_iff_ne,n_39,n_51,n_29,beq_iff_eq] at h1 ⊢;by_cases hxy:x=y
  ·subst hxy;refine .inr ⟨rfl,bl_tot (h1.2.resolve_left fun h=>h rfl) fun h=>h2 (by rw [h])⟩
  ·have:=h1.1;exact .inl (by
    rcases n_127 (fun h=>hxy (n_120.1 h):x.toNat≠y.toNat) with h | h
    ·exact absurd (n_122.2 h) this
    ·exact n_122.2 h)
def SrtF (l:List Fi):Prop:=l.Pairwise fun f g=>Op.bytesLess f.p g.p=true
def madeSources:List Str:=([[97,46,115,114,99],[98,46,115,114,99],[100,47,99,46,115,114,99],[120,46,115,114,99]]:List Str)
theorem mk_sources_s  (σ:List CObj):CCalls CC 66 [] σ fun r σ'=>r = .ret (.list (madeSources.map scv) true none)/\σ'=σ:=by
 refine CCalls.anyw hCC pu_ pu_ ?_ σ;refine ccalls_val (ccalls_of Tryz.func66 rfl rfl ?_);refine z_144 ?_; refine cY (y_lit (madeSources.map scv) rfl ⟨rfl,rfl,rfl,rfl,tt⟩ t_2 t_0 t_3 rfl rfl rfl rfl rfl rfl rfl rfl rfl) ?_; refine z_5 ?_;exact ⟨_,res1 rfl tt q_269,_,_,rfl,rfl,cls_eq rfl pu_⟩
theorem mk_Has_s (l:List Str) (nn:Bool) (s:Str) (hl:l.length<=1000000000) (σ:List CObj):CCalls CC 120 [(.list (l.map scv) nn none),(sv s)] σ fun r σ'=>r = .ret (.val (.bool (decide (s∈l))))/\σ'=σ:=by
 refine CCalls.anyw hCC pu_ pu_ ?_ σ;refine ccalls_val (ccalls_of Tryz.func120 rfl rfl ?_);refine z_4 ?_; refine cw_seq ?_; refine z_203 ?_; refine cw_loopd hCC (fun i:Nat=>[(0,(.list (l.map scv) nn none)),(1,(sv s)),(5,(.val (.int .i64 (i:Int))))]) (fun _=>[]) (fun i=>i<=l.length/\decide (s∈l)=decide (s∈l.drop i)) (fun i=>l.length - i) 0 ⟨n_3 _,rfl⟩ tu_ (extra0:=[]) rfl q_273 uz_ ?_; intro i ⟨hi,hr⟩; refine z_77 ?_; refine cY q_100 ?_; refine z_64 ?_; refine cC (fun h1=>?_) fun h1=>?_
 ·have hlt:i < l.length:=by simp at h1; omega
  obtain ⟨y,hb⟩:∃ y,l[i]? = some y:=⟨l[i]'hlt,si_⟩;have hdr:l.drop i=y::l.drop (i+1):=by
   obtain ⟨hlt,rfl⟩:=n_1.1 hb;exact n_25 hlt
  rw [hdr] at hr;refine z_20 ?_; refine z_6 ?_; refine z_172 ?_; refine cY q_246 ?_; refine z_264 ?_; refine cC (fun h2=>?_) fun h2=>?_
  ·have hys:y=s:=by simpa using h2
   refine z_19 ?_;exact ⟨_,res1 rfl tt q_269,_,_,rfl,rfl,cls_bool (by rw [hr,hys]; simp)⟩
  ·have hys:¬ y=s:=by simpa using h2
   refine z_164 ?_;exact ⟨(i+1),_,⟨om_,om_,by
    rw [hr];have:(s=y)=False:=by simpa using fun h=>hys h.symm
    simp [this]⟩,tu_,rfl⟩
 ·have hge:l.length<=i:=by simp at h1; omega
  rw [n_34 hge] at hr;refine z_178 ?_;exact ⟨_,res1 rfl tt q_269,_,_,rfl,rfl,cls_bool q_285⟩
def digS (n:Nat):Str:=if h:n < 10 then [UInt8.ofNat (48+n)] else digS (n / 10)++[UInt8.ofNat (48+n%10)]
termination_by n
decreasing_by omega
theorem digS_lt (h:n < 10):digS n=[UInt8.ofNat (48+n)]:=by rw [digS,dif_pos h]
theorem digS_ge (h:¬ n < 10):digS n=digS (n / 10)++digS (n%10):=by rw [digS,dif_neg h,digS_lt (n_53 _ om_)]
theorem digS_len:∀ (m n:Nat),n < 10^(m+1)->(digS n).length<=m+1
 | 0,n,h=>by rw [digS_lt q_282]; simp
 | m+1,n,h=>by
  by_cases hn:n < 10
  ·rw [digS_lt hn]; simp
  ·rw [digS,dif_neg hn,n_4];have:=digS_len m (n / 10) (by rw [Nat.div_lt_iff_lt_mul om_]; rw [Nat.pow_succ] at h; exact h);simp only [n_7,n_12];omega
theorem dig1:∀ n:Nat,n < 10->(([48,49,50,51,52,53,54,55,56,57]:Str).take (n+1)).drop n=[UInt8.ofNat (48+n)]:=by decide
theorem mk_Digits_ih (h:CCalls CC 72 [(.val (.int .i64 (n:Int)))] [] fun r σ'=>r = .ret (sv (digS n))/\σ'=[]) (σ:List CObj):CCalls CC 72 [(.val (.int .i64 (n:Int)))] σ fun r σ'=>r = .ret (sv (digS n))/\σ'=σ :=
 CCalls.anyw hCC pu_ pu_ h σ
theorem mk_Digits_s (n:Nat) (hn:n<=4611686018427387904) (σ:List CObj):CCalls CC 72 [(.val (.int .i64 (n:Int)))] σ fun r σ'=>r = .ret (sv (digS n))/\σ'=σ:=by
 refine CCalls.anyw hCC pu_ pu_ ?_ σ
 induction n using Nat.strongRecOn
 rename_i n ih;refine ccalls_val (ccalls_of Tryz.func72 rfl rfl ?_);refine z_54 ?_; refine z_12 ?_; refine cC (fun h1=>?_) fun h1=>?_
 ·have hn9:n < 10:=by simp at h1; omega
  refine z_6 ?_; refine cY q_251 ?_; refine cY (y_sslice (a:=n) (h:=(n+1)) rfl rfl rfl t_6 q_80 q_80 om_ (by show n+1<=10; omega)) ?_; refine z_5 ?_;exact ⟨_,res1 rfl tt q_269,_,_,rfl,rfl,cls_str (by rw [digS_lt hn9]; exact congrArg str (dig1 n hn9))⟩
 ·have hn9:¬ n < 10:=by simp at h1; omega
  have hd:Int.tdiv (n:Int) 10=((n / 10:Nat):Int):=by rfl
  have hm:Int.tmod (n:Int) 10=((n%10:Nat):Int):=by rfl
  have g1:=digS_len 18 (n / 10) om_;have g2:=digS_len 18 (n%10) om_;have e1:IntKind.i64.wrap ((n:Int).tdiv 10)=((n / 10:Nat):Int):=by rw [hd]; exact wr64 om_ om_
  have e2:(n:Int).tmod 10=((n%10:Nat):Int):=by exact hm
  refine z_71 ?_; refine cY (y_int rfl tt rfl rfl rfl (rfl)) ?_; refine cY (y_callf rfl t_108 ⟨tt,tt⟩ (by have h:=mk_Digits_ih (ih (n / 10) om_ om_) []; rw [<- e1] at h; exact h) rfl) ?_; refine cY q_246 ?_; refine cY (y_int rfl tt rfl rfl rfl (rfl)) ?_; refine cY (y_callf rfl t_108 ⟨tt,tt⟩ (by have h:=mk_Digits_ih (ih (n%10) om_ om_) []; rw [<- e2] at h; exact h) rfl) ?_; refine cY q_173 ?_; refine z_5 ?_;exact ⟨_,res1 rfl tt q_269,_,_,rfl,rfl,cls_str (congrArg str (digS_ge hn9).symm)⟩
def leF (f x:Fi):Bool:=Op.bytesLess f.p x.p || decide (f.p=x.p)
def insG (f:Fi):Bool->List Fi->List Fi
 | d,[]=>if d then [] else [f]
 | d,x::l=>(if !d && leF f x then [f] else [])++((if x.p=f.p then [] else [x])++insG f (d || leF f x) l)
def insF (l:List Fi) (f:Fi):List Fi:=insG f false l
theorem insG_step {f:Fi} {l:List Fi} {y:Fi} (h:l[i]? = some y) (d:Bool):insG f d (l.drop i)=(if !d && leF f y then [f] else [])++((if y.p=f.p then [] else [y])++insG f (d || leF f y) (l.drop (i+1))):=by
 obtain ⟨hlt,rfl⟩:=n_1.1 h;rw [n_25 hlt]; rfl
theorem ren_rev {L:Nat} {sel:List Nat} {l:List Fi} {tok:Option Nat}:RenV L sel (.agg [.list (l.map Fi.cv) nn tok]) (.agg (revC l nn)) :=
 .agg rfl fun i c c' h h'=>by
  rcases i with _ | i
  ·injection h with h; injection h' with h'; subst h h'; exact ren_lst (f:=Fi.cv) Fi.pure _
  ·cases h
theorem mk_insert0 (fl:List Fi) (nn:Bool) (f:Fi) (hfl:fl.length<=1000000):CCalls CC 67 [.agg (revC fl nn),.agg f.cells] [] fun r τ=>FinR 0 τ r (.ret (.agg (revC (insF fl f) (gnn (insF fl f).length)))) []:=by
 refine (ccalls_of Tryz.func67 rfl rfl ?_);refine z_63 ?_; refine z_141 ?_; refine co_nil ?_; refine z_4 ?_; refine z_42 ?_; refine z_139 ?_; refine cw_loopr hCC 4 rfl (α:=List Fi × Bool × Nat) (fun x=>[(3,.ptr 1 0),(4,.ptr 2 0),(5,.ptr 3 0),(6,(.val (.bool x.2.1))),(10,(.list (fl.map Fi.cv) nn none)),(11,(.val (.int .i64 (fl.length:Int)))),(12,(.val (.int .i64 (x.2.2:Int))))]) (fun x=>[.box (revC fl nn),.box f.cells,.box (revC [] false),.box [(.list (x.1.map Fi.cv) (gnn x.1.length) (gtok x.1.length 4))],gobj x.1.length]) (fun x=>x.2.2<=fl.length/\x.1.length<=x.2.2+1/\(x.2.1=false->x.1.length<=x.2.2)/\insF fl f=x.1++insG f x.2.1 (fl.drop x.2.2)) (fun x=>fl.length - x.2.2) ⟨([],false,0),[0,1,2,3,9],⟨n_3 _,n_3 _,fun _=>n_3 _,rfl⟩,⟨rfl,rfl⟩,q_8,⟨.inr ⟨_,rfl,.same rfl q_261⟩,.inr ⟨_,rfl,.same rfl q_257⟩,.inr ⟨_,rfl,.same rfl q_223⟩,.inr ⟨_,rfl,.box ⟨.same rfl (old_fis _ ([]:List Fi) _),tt⟩⟩,.inl rfl,tt⟩⟩ ?_; intro ⟨out,d,i⟩ ⟨hi,hol,hod,hr⟩;dsimp only at hi hol hod hr ⊢;refine z_28 ?_; refine cC (fun h1=>?_) fun h1=>?_
 ·have hlt:i < fl.length:=by simp at h1; omega
  obtain ⟨y,hb⟩:∃ y,fl[i]? = some y:=⟨fl[i]'hlt,si_⟩;rw [insG_step hb] at hr;refine z_174 ?_; refine z_158 ?_; refine cY q_280 ?_; refine cY q_246 ?_; refine cG q_124 ?_; refine cG q_207 ?_; refine cG q_124 ?_; refine cG q_207 ?_; refine cG (fun hg=>y_scmp rfl hg hg rfl rfl (cstr_leq _ _)) ?_; refine z_265 ?_; refine cC (fun h2=>?_) fun h2=>?_
  ·have h2':d=false/\leF f y=true:=by
    have h2:(!d && leF f y)=true:=h2;simpa using h2
   obtain ⟨hd,hle⟩:=h2';subst hd;rw [hle] at hr;have hol2:=hod rfl;refine z_0 ?_; refine z_142 ?_; refine cY q_60 ?_;refine cD (d_appu rfl tt tt rfl si_ q_19 t_19 t_16 t_87 t_17 rfl (.inr rfl) q_21 q_78 q_226 ((out++[f]).map Fi.cv) (out++[f]).length si_ si_ ?_);refine z_30 ?_;refine co_nil (cw_region ?_);refine z_3 ?_; refine z_0 ?_; refine z_44 ?_; refine z_44 ?_; refine cY q_234 ?_; refine co_nil ?_; refine cC (fun h3=>?_) fun h3=>?_
   ·have hyp:¬ y.p=f.p:=by simpa using h3
    rw [if_neg hyp] at hr;refine z_182 ?_; refine cY q_57 ?_;refine cD (d_appu rfl tt tt rfl si_ q_19 t_19 t_16 t_87 t_17 rfl (.inr rfl) q_21 q_78 q_226 ((out++[f]++[y]).map Fi.cv) (out++[f]++[y]).length si_ si_ ?_);refine z_30 ?_; refine z_89 ?_;exact ⟨(out++[f]++[y],true,i+1),[0,1,2,3,7],⟨do_,do_,by simp only [n_4,n_7,n_12]; omega,(fun h=>by cases h),by rw [hr]; simp⟩,⟨rfl,rfl⟩,q_8,⟨.inr ⟨_,rfl,.same rfl q_261⟩,.inr ⟨_,rfl,.same rfl q_257⟩,.inr ⟨_,rfl,.same rfl q_223⟩,.inr ⟨_,rfl,.box ⟨RenV.grow (f:=Fi.cv) (fun a=>⟨.val _,.val _,tt⟩) rfl,tt⟩⟩,.inr ⟨_,rfl,.same rfl q_292⟩,tt⟩⟩
   ·have hyp:y.p=f.p:=by simpa using h3
    rw [if_pos hyp] at hr;refine z_51 ?_;exact ⟨(out++[f],true,i+1),[0,1,2,3,6],⟨do_,do_,by simp only [n_4,n_7,n_12]; omega,(fun h=>by cases h),by rw [hr]; simp⟩,⟨rfl,rfl⟩,q_8,⟨.inr ⟨_,rfl,.same rfl q_261⟩,.inr ⟨_,rfl,.same rfl q_257⟩,.inr ⟨_,rfl,.same rfl q_223⟩,.inr ⟨_,rfl,.box ⟨RenV.grow (f:=Fi.cv) (fun a=>⟨.val _,.val _,tt⟩) rfl,tt⟩⟩,.inr ⟨_,rfl,.same rfl q_292⟩,tt⟩⟩
  ·have hd:(!d && leF f y)=false:=by
    have h2:(!d && leF f y)=false:=h2;simpa using h2
   have hd2:(d || leF f y)=d:=by cases d <;> simp_all
   rw [hd,hd2] at hr;refine z_46 ?_; refine z_44 ?_; refine z_44 ?_; refine cY q_234 ?_; refine co_nil ?_; refine cC (fun h4=>?_) fun h4=>?_
   ·have hyp:¬ y.p=f.p:=by simpa using h4
    rw [if_neg hyp] at hr;refine z_182 ?_; refine cY q_57 ?_;refine cD (d_appu rfl tt tt rfl si_ q_19 t_19 t_16 t_87 t_17 rfl (.inr rfl) q_21 q_78 q_226 ((out++[y]).map Fi.cv) (out++[y]).length si_ si_ ?_);refine z_30 ?_; refine z_89 ?_;exact ⟨(out++[y],d,i+1),[0,1,2,3,6],⟨do_,do_,by simp only [n_4,n_7,n_12]; omega,(fun h=>by have:=hod h; simp only [n_4,n_7,n_12]; omega),by rw [hr]; simp⟩,⟨rfl,rfl⟩,q_8,⟨.inr ⟨_,rfl,.same rfl q_261⟩,.inr ⟨_,rfl,.same rfl q_257⟩,.inr ⟨_,rfl,.same rfl q_223⟩,.inr ⟨_,rfl,.box ⟨RenV.grow (f:=Fi.cv) (fun a=>⟨.val _,.val _,tt⟩) rfl,tt⟩⟩,.inr ⟨_,rfl,.same rfl q_292⟩,tt⟩⟩
   ·have hyp:y.p=f.p:=by simpa using h4
    rw [if_pos hyp] at hr;refine z_51 ?_;exact ⟨(out,d,i+1),[0,1,2,3,4],⟨do_,do_,do_,(fun h=>by have:=hod h; dsimp only; omega),by rw [hr]; simp⟩,⟨rfl,rfl⟩,q_8,⟨.inr ⟨_,rfl,.same rfl q_261⟩,.inr ⟨_,rfl,.same rfl q_257⟩,.inr ⟨_,rfl,.same rfl q_223⟩,.inr ⟨_,rfl,.box ⟨RenV.grow (f:=Fi.cv) (fun a=>⟨.val _,.val _,tt⟩) rfl,tt⟩⟩,.inr ⟨_,rfl,.same rfl q_292⟩,tt⟩⟩
 ·have hge:fl.length<=i:=by simp at h1; omega
  rw [n_34 hge] at hr;refine z_241 ?_; refine z_32 ?_; refine cC (fun h5=>?_) fun h5=>?_
  ·have hd:d=false:=by simpa using h5
   subst hd;replace hr:insF fl f=out++[f]:=hr;refine z_182 ?_; refine cY q_60 ?_;refine cD (d_appu rfl tt tt rfl si_ q_19 t_19 t_16 t_87 t_17 rfl (.inr rfl) q_21 q_78 q_226 ((out++[f]).map Fi.cv) (out++[f]).length si_ si_ ?_);refine z_30 ?_; refine z_48 ?_; refine cY q_180 ?_; refine z_261 ?_;exact ⟨_,res_one rfl q_113,(by rw [hr]; exact fin0 ren_rev)⟩
  ·have hd:d=true:=by simpa using h5
   subst hd;replace hr:insF fl f=out:=by rw [hr]; exact n_32 _
   refine z_168 ?_; refine z_261 ?_;exact ⟨_,res_one rfl q_113,(by rw [hr]; exact fin0 ren_rev)⟩
theorem mk_insert (fl:List Fi) (nn:Bool) (f:Fi) (hfl:fl.length<=1000000) (σ:List CObj):CCalls CC 67 [.agg (revC fl nn),.agg f.cells] σ fun r τ=>r = .ret (.agg (revC (insF fl f) (gnn (insF fl f).length)))/\τ=σ :=
 call0' hCC (fun a h=>by simp at h; rcases h with rfl | rfl; exact pure_agg (cs:=revC _ _) ⟨pure_fis _ _,tt⟩; exact pure_agg (Fi.pure _)) (pure_agg (cs:=revC _ _) ⟨pure_fis _ _,tt⟩) (mk_insert0 fl nn f hfl) σ
theorem tapeN_lt {k:Nat} {n:Int} (hn:1<=n):0<=tapeN l k n/\tapeN l k n < n:=fold_lt hn
theorem old_tape (n:Nat) (l:List Int) (nn:Bool) (k:Nat):OldObj n (tapeC l nn k):=old_box ⟨old_ints _ _ _,.val _,tt⟩
theorem tape_Text0 (l:List Int) (nn:Bool) (k:Nat) (hat:k<=900000000) (hl:l.length<=maxLen) (n:Nat) (hn:n<=1000) (al:Str) (ha:1<=al.length) (hal:al.length<=1000):CCalls CC 121 [.ptr 0 0,(.val (.int .i64 (n:Int))),(sv al)] [tapeC l nn k] fun r τ=>∃ a:Str × Nat,FinR 1 τ r (.ret (sv a.1)) [tapeC l nn a.2]/\(a.1.length=n/\k<=a.2/\a.2<=k+n):=by
 refine (ccalls_of Tryz.func121 rfl rfl ?_);refine z_4 ?_; refine z_4 ?_; refine cw_seq ?_; refine z_203 ?_; refine cw_loopr hCC 1 rfl (α:=Str × Nat) (fun x=>[(0,.ptr 0 0),(1,(.val (.int .i64 (n:Int)))),(2,(sv al)),(7,(.list (x.1.map bcv) (gnn x.1.length) (gtok x.1.length 1))),(8,(.val (.int .i64 (x.1.length:Int))))]) (fun x=>[tapeC l nn x.2,gobj x.1.length]) (fun x=>x.1.length<=n/\x.2=k+x.1.length) (fun x=>n - x.1.length) ⟨([],k),[0,9],⟨n_3 _,rfl⟩,⟨rfl,rfl⟩,⟨q_50,q_50,q_50,q_50,q_50,tt⟩,⟨.inr ⟨_,rfl,.same rfl q_281⟩,.inl rfl,tt⟩⟩ ?_; intro ⟨out,p⟩ ⟨hol,hp⟩;dsimp only at hol hp ⊢;refine z_77 ?_; refine z_64 ?_; refine cC (fun h1=>?_) fun h1=>?_
 ·have hlt:out.length < n:=by simp at h1; omega
  have hb:=tapeN_lt (l:=l) (k:=p) (n:=(al.length:Int)) om_;obtain ⟨c,hc⟩:∃ c,al[(tapeN l p (al.length:Int)).toNat]? = some c:=⟨al[(tapeN l p (al.length:Int)).toNat]'om_,si_⟩;refine z_20 ?_; refine z_45 ?_; refine z_86 ?_; refine cY q_242 ?_;refine cD (d_callv rfl t_31 q_296 (tape_next l nn p _ 0 rfl om_ hl (al.length:Int) om_) rfl ?_);intro _ _; refine cY (y_sindex rfl tt tt rfl rfl t_6 om_ hc) ?_; refine cY q_64 ?_;refine cD (d_appu rfl tt tt rfl si_ q_19 t_8 t_15 t_48 t_22 rfl (.inr rfl) q_21 (by have hb:Tryz.t5.bytes=1:=rfl; rw [hb]; first|omega|(simp; done)|(simp; omega)) q_226 ((out++[c]).map bcv) (out++[c]).length si_ si_ ?_);refine z_1 ?_; refine z_116 ?_;exact ⟨(out++[c],p+1),[0,2],⟨by simp only [n_4,n_7,n_12]; omega,by simp only [n_4,n_7,n_12]; omega,by simp only [n_4,n_7,n_12]; omega⟩,⟨rfl,rfl⟩,⟨q_37,q_37,q_37,q_37,⟨tt,(by first|exact .ptr rfl|exact .map rfl|exact .vec rfl|exact .same (congrArg (fun x=>CV.val (.int .i64 x)) (by simp:(out.length:Int)+1=((out++[c]).length:Int))) uo_|exact RenV.grow (f:=bcv) (fun a=>⟨.val _,tt⟩) rfl)⟩,tt⟩,⟨.inr ⟨_,rfl,.same rfl q_281⟩,.inr ⟨_,rfl,.same rfl q_292⟩,tt⟩⟩
 ·have hge:out.length=n:=by simp at h1; omega
  refine z_65 ?_; refine cY q_107 ?_; refine z_5 ?_;exact ⟨_,res1 rfl tt q_269,⟨(out,p),fin1 rfl q_281 (.old (.val _)),hge,do_,do_⟩⟩
theorem tape_Text (l:List Int) (nn:Bool) (k:Nat) (hat:k<=900000000) (hl:l.length<=maxLen) (n:Nat) (hn:n<=1000) (al:Str) (ha:1<=al.length) (hal:al.length<=1000) (σ:List CObj) (q:Nat) (hq:σ[q]? = some (tapeC l nn k)):CCalls CC 121 [.ptr q 0,(.val (.int .i64 (n:Int))),(sv al)] σ fun r τ=>∃ a:Str × Nat,r = .ret (sv a.1)/\τ=σ.set q (tapeC l nn a.2)/\(a.1.length=n/\k<=a.2/\a.2<=k+n) :=
 call1 (c:=fun a:Str × Nat=>sv a.1) (S:=fun a=>tapeC l nn a.2) hCC (fun a h=>by simp at h; rcases h with rfl | rfl <;> exact .val _) (fun _=>.val _) (fun _=>pure_tape _ _ _) (pure_tape _ _ _) rfl (tape_Text0 l nn k hat hl n hn al ha hal) σ q hq
theorem mk_data0 (l:List Int) (nn:Bool) (k:Nat) (hat:k<=800000000) (hl:l.length<=maxLen):CCalls CC 70 [.ptr 0 0] [tapeC l nn k] fun r τ=>∃ a:Str × Nat,FinR 1 τ r (.ret (sv a.1)) [tapeC l nn a.2]/\(a.1.length<=3/\k<=a.2/\a.2<=k+4):=by
 refine (ccalls_of Tryz.func70 rfl rfl ?_);refine z_127 ?_;refine cD (d_callv rfl t_31 q_293 (tape_next l nn k _ 0 rfl om_ hl 4 om_) rfl ?_);intro _ _;have hb:=tapeN_lt (l:=l) (k:=k) (n:=4) om_;obtain ⟨m,hm⟩:∃ m:Nat,tapeN l k 4=(m:Int):=⟨(tapeN l k 4).toNat,om_⟩;rw [hm] at hb ⊢;refine cD (d_callv rfl Tryz.call121 ⟨tt,tt,rfl,tt⟩ (tape_Text l nn (k+1) om_ hl m om_ [97,98,0,255,48] de_ de_ _ 0 rfl) rfl ?_);intro ⟨s,p⟩ ⟨hs,hp1,hp2⟩;dsimp only at hs hp1 hp2 ⊢;refine z_5 ?_;exact ⟨_,res1 rfl tt q_269,⟨(s,p),fin1 rfl q_281 (.old (.val _)),do_,do_,do_⟩⟩
theorem mk_data (l:List Int) (nn:Bool) (k:Nat) (hat:k<=800000000) (hl:l.length<=maxLen) (σ:List CObj) (q:Nat) (hq:σ[q]? = some (tapeC l nn k)):CCalls CC 70 [.ptr q 0] σ fun r τ=>∃ a:Str × Nat,r = .ret (sv a.1)/\τ=σ.set q (tapeC l nn a.2)/\(a.1.length<=3/\k<=a.2/\a.2<=k+4) :=
 call1 (c:=fun a:Str × Nat=>sv a.1) (S:=fun a=>tapeC l nn a.2) hCC (fun a h=>by simp at h) (fun _=>.val _) (fun _=>pure_tape _ _ _) (pure_tape _ _ _) rfl (mk_data0 l nn k hat hl) σ q hq
def ExprC (l:List Int) (nn:Bool) (ps:List Str) (d L K B:Nat):Prop:=∀ (k:Nat),k<=B->∀ (σ:List CObj) (q:Nat),σ[q]? = some (tapeC l nn k)->CCalls CC 122 [.ptr q 0,(.val (.int .i64 (d:Int))),.list (ps.map scv) (gnn ps.length) none] σ fun r τ=>∃ a:Str × Nat,r = .ret (sv a.1)/\τ=σ.set q (tapeC l nn a.2)/\(a.1.length<=L/\k<=a.2/\a.2<=k+K)
abbrev eob (l:List Int) (nn:Bool) (ps:List Str) (d p:Nat):List CObj:=[tapeC l nn (p),.box [.ptr 0 0],.box [(.val (.int .i64 (d:Int)))],.box [(.list (ps.map scv) (gnn ps.length) none)]]
theorem expr_clo {ps:List Str} {d L K:Nat} (hd:d<=10) (ih:ExprC l nn ps d L K B) (p:Nat) (hp:p<=B):CCalls CC 163 [.ptr 1 0,.ptr 2 0,.ptr 3 0] (eob l nn ps (d+1) p) fun r τ=>∃ a:Str × Nat,r = .ret (sv a.1)/\τ=eob l nn ps (d+1) a.2/\(a.1.length<=L/\p<=a.2/\a.2<=p+K):=by
 refine (ccalls_of Tryz.func163 rfl rfl ?_);refine z_144 ?_; refine cY q_229 ?_; refine cY q_238 ?_; refine cY q_253 ?_; refine cY q_228 ?_;refine cD (d_callv rfl t_88 q_286 (by have h:=ih p hp (eob l nn ps (d+1) p) 0 rfl; rw [show (d:Int)=((d+1:Nat):Int) - 1 by omega] at h; exact h) rfl ?_);intro ⟨s,p1⟩ ⟨h1,h2,h3⟩;dsimp only at h1 h2 h3 ⊢;refine z_5 ?_;exact ⟨_,res1 rfl tt q_269,⟨(s,p1),rfl,rfl,h1,h2,h3⟩⟩
theorem mk_Expr0 (l:List Int) (nn:Bool) (k:Nat) (hl:l.length<=maxLen) (d:Nat) (hd:d<=10) (ps:List Str) (hps:∀ s∈ps,s.length<=10) (hpl:ps.length<=2) (L K B:Nat) (hL:L<=1000000) (hK:K<=1000) (hat:k+3*K+10<=B) (hB:B<=900000000) (hclo:1<=d->∀ p,p<=B->CCalls CC 163 [.ptr 1 0,.ptr 2 0,.ptr 3 0] (eob l nn ps d p) fun r τ=>∃ a:Str × Nat,r = .ret (sv a.1)/\τ=eob l nn ps d a.2/\(a.1.length<=L/\p<=a.2/\a.2<=p+K)):CCalls CC 122 [.ptr 0 0,(.val (.int .i64 (d:Int))),.list (ps.map scv) (gnn ps.length) none] [tapeC l nn k] fun r τ=>∃ a:Str × Nat,FinR 1 τ r (.ret (sv a.1)) [tapeC l nn a.2]/\(a.1.length<=3*L+30/\k<=a.2/\a.2<=k+(3*K+5)):=by
 refine (ccalls_of Tryz.func122 rfl rfl ?_);refine z_0 ?_;refine cD (d_box rfl tt q_269 (.inl rfl) ?_);refine cD (d_box rfl tt q_269 (.inl rfl) ?_);refine cD (d_box rfl tt q_269 (.inl rfl) ?_);refine z_3 ?_; refine cw_seq ?_; refine cw_cut (α:=Bool × Nat) (fun x=>[(3,.ptr 1 0),(4,.ptr 2 0),(5,.ptr 3 0),(15,(.val (.bool x.1)))]) (fun x=>[tapeC l nn (x.2),.box [.ptr 0 0],.box [(.val (.int .i64 (d:Int)))],.box [(.list (ps.map scv) (gnn ps.length) none)]]) (fun x=>k<=x.2/\x.2<=k+1/\(x.1=false->1<=d)) ?_ ?_
 ·
  refine cw_region ?_; refine cY q_238 ?_; refine z_159 ?_; refine cG (fun hg=>y_load1 rfl tt rfl t_154 rfl rfl) ?_;refine co_gd (.val (.bool false)) rfl rfl tt rfl rfl (fun hg=>d_callv rfl t_35 ⟨hg,rfl,rfl,tt⟩ (tape_chance l nn k _ 0 rfl om_ hl 1 4 om_) rfl ?_) (fun hg=>?_)
  ·
   intro _ _; refine z_61 ?_;exact ⟨(_,k+1),(by exact ⟨do_,do_,fun _=>by simp at hg; omega⟩),⟨⟨tt,rfl⟩,⟨tt,rfl⟩,⟨tt,rfl⟩,⟨tt,rfl⟩,tt⟩,rfl⟩
  ·
   refine z_61 ?_;exact ⟨(_,k),(by exact ⟨do_,do_,fun hb=>by exfalso; revert hb hg; cases decide ((d:Int)<=0) <;> simp⟩),⟨⟨tt,rfl⟩,⟨tt,rfl⟩,⟨tt,rfl⟩,⟨tt,rfl⟩,tt⟩,rfl⟩
 ·intro ⟨b,p⟩ E0 ⟨hp1,hp2,hbd⟩;dsimp only at hp1 hp2 hbd ⊢;refine cC (fun h1=>?_) fun h1=>?_
  ·refine cw_cut (α:=Nat) (fun _=>[(3,.ptr 1 0)]) (fun x=>[tapeC l nn (x),.box [.ptr 0 0],.box [(.val (.int .i64 (d:Int)))],.box [(.list (ps.map scv) (gnn ps.length) none)]]) (fun x=>k<=x/\x<=k+3) ?_ ?_
   ·
    refine z_0 ?_; refine cY q_229 ?_;refine cD (d_callv rfl t_31 q_293 (tape_next l nn p _ 0 rfl om_ hl 9 om_) rfl ?_);intro _ _; refine z_13 ?_; refine cw_cut (α:=Bool) (fun b=>[(3,.ptr 1 0),(4,.ptr 2 0),(5,.ptr 3 0),(17,(.val (.int .i64 (tapeN l p 9)))),(18,(.val (.bool b)))]) (fun _=>[tapeC l nn (p+1),.box [.ptr 0 0],.box [(.val (.int .i64 (d:Int)))],.box [(.list (ps.map scv) (gnn ps.length) none)]]) (fun _=>True) ?_ ?_
    ·
     refine z_27 ?_; refine cC (fun h2=>?_) fun h2=>?_
     ·refine cw_skip ?_;exact ⟨_,tt,⟨⟨tt,rfl⟩,⟨tt,rfl⟩,⟨tt,rfl⟩,⟨tt,rfl⟩,⟨tt,rfl⟩,tt⟩,rfl⟩
     ·refine z_126 ?_;exact ⟨_,tt,⟨⟨tt,rfl⟩,⟨tt,rfl⟩,⟨tt,rfl⟩,⟨tt,rfl⟩,⟨tt,rfl⟩,tt⟩,rfl⟩
    ·intro b2 E2 _; refine cC (fun h3=>?_) fun h3=>?_
     ·refine z_0 ?_; refine cY q_228 ?_; refine z_229 ?_; refine cC (fun h4=>?_) fun h4=>?_
      ·obtain ⟨x,ps',rfl⟩:∃ x ps',ps=x::ps':=by
        rcases ps with _ | ⟨x,ps'⟩
        ·simp at h4
        ·exact ⟨x,ps',rfl⟩
       refine z_0 ?_; refine cY q_229 ?_; refine cY q_228 ?_;refine cD (d_callv rfl t_26 q_296 (tape_one l nn (p+1) _ 0 rfl om_ hl (x::ps') si_ om_) rfl ?_);intro v hv;have hv8:=hps v hv;refine z_5 ?_;exact ⟨_,res1 rfl tt q_269,⟨(_,p+2),fin1 rfl q_281 (.old (.val _)),(by show List.length _<=_; simp only; omega),do_,do_⟩⟩
      ·refine cw_skip ?_;exact ⟨(p+1),⟨om_,om_⟩,tu_,rfl⟩
     ·refine z_27 ?_; refine cC (fun h5=>?_) fun h5=>?_
      ·refine cw_seq ?_; refine z_191 ?_; refine hY q_203 ?_; refine z_222 ?_; intro v hv;have hv8:v.length<=8:=len_made (.inr (.inr (.inr (.inl hv))));refine z_87 ?_; refine z_5 ?_;exact ⟨_,res1 rfl tt q_269,⟨(_,p+2),fin1 rfl q_281 (.old (.val _)),q_73,do_,do_⟩⟩
      ·refine z_27 ?_; refine cC (fun h6=>?_) fun h6=>?_
       ·refine cw_seq ?_; refine z_191 ?_; refine hY q_203 ?_; refine z_222 ?_; intro v hv;have hv8:v.length<=8:=len_made (.inr (.inr (.inr (.inl hv))));refine z_87 ?_; refine z_5 ?_;exact ⟨_,res1 rfl tt q_269,⟨(_,p+2),fin1 rfl q_281 (.old (.val _)),q_73,do_,do_⟩⟩
       ·refine z_27 ?_; refine cC (fun h7=>?_) fun h7=>?_
        ·refine cw_seq ?_; refine z_191 ?_; refine hY (y_callf rfl Tryz.call84 trivial (mk_Variables_s _) rfl) ?_; refine ch_nil ?_;refine cD (d_callv rfl t_26 q_296 (tape_one l nn (p+1) _ 0 rfl om_ hl madeVariables de_ de_) rfl ?_);intro v hv;have hv8:v.length<=8:=len_made (.inr (.inr (.inr (.inr hv))));refine z_87 ?_; refine z_5 ?_;exact ⟨_,res1 rfl tt q_269,⟨(_,p+2),fin1 rfl q_281 (.old (.val _)),q_73,do_,do_⟩⟩
        ·refine z_27 ?_; refine cC (fun h8=>?_) fun h8=>?_
         ·refine z_0 ?_; refine cY q_229 ?_;refine cD (d_callv rfl t_35 q_283 (tape_chance l nn (p+1) _ 0 rfl om_ hl 1 5 om_) rfl ?_);intro _ _; refine co_nil ?_; refine cC (fun h9=>?_) fun h9=>?_
          ·refine z_0 ?_; refine cY q_229 ?_; refine cY (y_lit ([0,1,63].map icv) rfl ⟨rfl,rfl,rfl,tt⟩ t_7 t_1 t_9 rfl rfl rfl rfl rfl rfl rfl rfl rfl) ?_;refine cD (d_callv rfl t_155 q_296 (tape_pick l nn (p+2) _ 0 rfl om_ hl [0,1,63] si_ si_) rfl ?_);intro v hv;obtain ⟨m,hm,hm2⟩:∃ m:Nat,v=(m:Int)/\m < 10^17:=by
            simp only [n_13,n_80,or_false] at hv;exact ⟨v.toNat,om_,om_⟩
           subst hm;have hdl:=digS_len 16 m hm2;refine cY (y_callf rfl t_108 ⟨tt,tt⟩ (mk_Digits_s m om_ _) rfl) ?_; refine z_87 ?_; refine z_5 ?_;exact ⟨_,res1 rfl tt q_269,⟨(_,p+3),fin1 rfl q_281 (.old (.val _)),q_73,do_,do_⟩⟩
          ·refine cw_skip ?_;exact ⟨(p+2),⟨om_,om_⟩,tu_,rfl⟩
         ·refine cw_skip ?_;exact ⟨(p+1),⟨om_,om_⟩,tu_,rfl⟩
   ·intro p3 E3 ⟨hp3,hp4⟩; refine z_0 ?_; refine cY q_229 ?_; refine cY (y_lit ([0,1,2,3,10,255,9007199254740992,1073741824].map icv) rfl ⟨rfl,rfl,rfl,rfl,rfl,rfl,rfl,rfl,tt⟩ t_7 t_1 t_9 rfl rfl rfl rfl rfl rfl rfl rfl rfl) ?_;refine cD (d_callv rfl t_155 q_296 (tape_pick l nn (p3) _ 0 rfl om_ hl [0,1,2,3,10,255,9007199254740992,1073741824] si_ si_) rfl ?_);intro v hv;obtain ⟨m,hm,hm2⟩:∃ m:Nat,v=(m:Int)/\m < 10^17:=by
     simp only [n_13,n_80,or_false] at hv;exact ⟨v.toNat,om_,om_⟩
    subst hm;have hdl:=digS_len 16 m hm2;refine cY (y_callf rfl t_108 ⟨tt,tt⟩ (mk_Digits_s m om_ _) rfl) ?_; refine z_5 ?_;exact ⟨_,res1 rfl tt q_269,⟨(_,p3+1),fin1 rfl q_281 (.old (.val _)),(by show List.length _<=_; simp only; omega),do_,do_⟩⟩
  ·have hd1:1<=d:=hbd q_276;refine z_46 ?_; refine cY (y_mkfunc rfl q_286) ?_; refine z_1 ?_; refine z_42 ?_; refine cY q_229 ?_;refine cD (d_callv rfl t_31 q_293 (tape_next l nn p _ 0 rfl om_ hl 10 om_) rfl ?_);intro _ _; refine z_13 ?_; refine cw_cut (α:=Bool) (fun b=>[(3,.ptr 1 0),(7,(.clo 163 [.ptr 1 0,.ptr 2 0,.ptr 3 0])),(64,(.val (.int .i64 (tapeN l p 10)))),(65,(.val (.bool b)))]) (fun _=>[tapeC l nn (p+1),.box [.ptr 0 0],.box [(.val (.int .i64 (d:Int)))],.box [(.list (ps.map scv) (gnn ps.length) none)]]) (fun _=>True) ?_ ?_
   ·
    refine z_27 ?_; refine cC (fun h10=>?_) fun h10=>?_
    ·exact z_175
    ·refine z_27 ?_; refine cC (fun h11=>?_) fun h11=>?_
     ·exact z_175
     ·refine z_126 ?_;exact ⟨_,tt,⟨⟨tt,rfl⟩,⟨tt,rfl⟩,⟨tt,rfl⟩,⟨tt,rfl⟩,tt⟩,rfl⟩
   ·intro b4 E4 _; refine cC (fun h12=>?_) fun h12=>?_
    ·refine cw_seq ?_; refine cw_floatA [] [3] [0,1,4,2,3,5,6,7] 3 [0,0,3,7,0,23,63,127] [[2],[2],[],[],[]] (hd1l:=[0,1,4]) (tll:=[(2,[2]),(3,[2]),(5,[]),(6,[]),(7,[])]) q_289 q_289 q_289 tt rfl rfl rfl ?_; refine chf rfl q_198 ?_; refine chf rfl (hop_y rfl q_193) ?_; refine z_169 ?_;refine cta_d rfl rfl rfl rfl (d_callv rfl t_26 q_296 (tape_one l nn (p+1) _ 0 rfl om_ hl madeFunctions de_ de_) rfl ?_);intro v hv;have hv8:v.length<=8:=len_made (.inr (.inl hv));refine ⟨⟨q_181,tt⟩,?_⟩;refine z_157 ?_; intro ⟨s1,p1⟩ ⟨hs1,hq1,hr1⟩;dsimp only at hs1 hq1 hr1 ⊢;refine z_239 ?_; refine z_167 ?_; refine z_42 ?_; refine cY q_229 ?_; refine cY (y_lit ([0,0,0,1].map icv) rfl ⟨rfl,rfl,rfl,rfl,tt⟩ t_7 t_1 t_9 rfl rfl rfl rfl rfl rfl rfl rfl rfl) ?_;refine cD (d_callv rfl t_155 q_296 (tape_pick l nn (p1) _ 0 rfl om_ hl [0,0,0,1] si_ si_) rfl ?_);intro n hn;have hn01:n=0\/n=1:=by
      simp only [n_13,n_80,or_false] at hn;omega
     refine z_1 ?_; refine cw_block ?_; refine cw_loop' (α:=Str × Nat × Int) (fun x=>[(7,(.clo 163 [.ptr 1 0,.ptr 2 0,.ptr 3 0])),(8,(sv x.1)),(9,(.val (.int .i64 x.2.2)))]) (fun x=>[tapeC l nn (x.2.1),.box [.ptr 0 0],.box [(.val (.int .i64 (d:Int)))],.box [(.list (ps.map scv) (gnn ps.length) none)]]) (fun x=>(x.2.2=0\/x.2.2=1)/\(x.2.2=1->x.1.length<=L+9/\x.2.1<=k+4+K)/\x.1.length<=2*L+11/\k<=x.2.1/\x.2.1<=k+4+2*K) (fun x=>x.2.2.toNat) (_,p1+1,n) ⟨hn01,fun _=>⟨by show List.length _<=_; simp only [n_4,n_7,n_12]; omega,do_⟩,by show List.length _<=_; simp only [n_4,n_7,n_12]; omega,do_,do_⟩ ⟨⟨tt,rfl⟩,⟨tt,rfl⟩,⟨tt,rfl⟩,tt⟩ rfl ?_; intro ⟨s,p5,n5⟩ E5 ⟨hn5,hn6,hs5,hq5,hq6⟩;dsimp only at hn5 hn6 hs5 hq5 hq6 ⊢;refine z_183 ?_; refine cC (fun h13=>?_) fun h13=>?_
     ·have h13':n5=1:=by simp at h13; omega
      obtain ⟨hs6,hq7⟩:=hn6 h13';refine z_20 ?_; refine z_45 ?_;refine cD (d_callclov rfl tt rfl t_57 trivial (by exact hclo om_ (p5) om_) rfl ?_);intro ⟨s2,p2⟩ ⟨hs2,hq2,hr2⟩;dsimp only at hs2 hq2 hr2 ⊢;refine cY q_163 ?_; refine cY q_173 ?_; refine z_227 ?_; refine z_131 ?_;exact ⟨(_,p2,n5 - 1),do_,(by exact ⟨do_,fun h=>by dsimp only at h; omega,by show List.length _<=_; simp only [n_4,n_7,n_12]; omega,do_,do_⟩),⟨⟨tt,rfl⟩,⟨tt,rfl⟩,⟨tt,rfl⟩,tt⟩,rfl⟩
     ·refine z_65 ?_; refine cY q_160 ?_; refine z_5 ?_;exact ⟨_,res1 rfl tt q_269,⟨(_,p5),fin1 rfl q_281 (.old (.val _)),q_73,do_,do_⟩⟩
    ·refine z_27 ?_; refine cC (fun h14=>?_) fun h14=>?_
     ·refine z_262 ?_; intro ⟨s1,p1⟩ ⟨hs1,hq1,hr1⟩;dsimp only at hs1 hq1 hr1 ⊢;refine z_87 ?_; refine cY q_246 ?_;refine cD (d_callclov rfl tt rfl t_57 trivial (by exact hclo om_ (p1) om_) rfl ?_);intro ⟨s2,p2⟩ ⟨hs2,hq2,hr2⟩;dsimp only at hs2 hq2 hr2 ⊢;refine z_198 ?_; refine cY q_246 ?_;refine cD (d_callclov rfl tt rfl t_57 trivial (by exact hclo om_ (p2) om_) rfl ?_);intro ⟨s3,p3⟩ ⟨hs3,hq3,hr3⟩;dsimp only at hs3 hq3 hr3 ⊢;refine z_198 ?_; refine z_5 ?_;exact ⟨_,res1 rfl tt q_269,⟨(_,p3),fin1 rfl q_281 (.old (.val _)),q_73,do_,do_⟩⟩
     ·refine z_27 ?_; refine cC (fun h15=>?_) fun h15=>?_
      ·refine cw_seq ?_; refine cw_floatA [] [3,4] [0,1,5,2,3,4,6,7,8,9] 3 [0,0,3,7,15,0,39,127,255,511] [[2],[2],[2],[],[],[],[]] (hd1l:=[0,1,5]) (tll:=[(2,[2]),(3,[2]),(4,[2]),(6,[]),(7,[]),(8,[]),(9,[])]) q_289 q_289 q_289 tt rfl rfl rfl ?_; refine chf rfl q_198 ?_; refine chf rfl (hop_y rfl q_203) ?_; refine z_169 ?_;refine cta_d rfl rfl rfl rfl (d_callv rfl t_26 q_296 (tape_one l nn (p+1) _ 0 rfl om_ hl madePaths de_ de_) rfl ?_);intro v hv;have hv8:v.length<=8:=len_made (.inr (.inr (.inr (.inl hv))));refine ⟨⟨q_181,tt⟩,?_⟩;refine cta_q rfl rfl (fun _=>hop_y rfl q_163) ?_; refine z_157 ?_; intro ⟨s1,p1⟩ ⟨hs1,hq1,hr1⟩;dsimp only at hs1 hq1 hr1 ⊢;refine z_239 ?_;refine cta_h rfl rfl rfl (hop_y rfl q_160) ⟨tt,?_⟩;refine z_167 ?_; refine cw_ret ?_;exact ⟨_,res1 rfl tt q_269,⟨(_,p1),fin1 rfl q_281 (.old (.val _)),q_73,do_,do_⟩⟩
      ·refine z_27 ?_; refine cC (fun h16=>?_) fun h16=>?_
       ·refine z_262 ?_; intro ⟨s1,p1⟩ ⟨hs1,hq1,hr1⟩;dsimp only at hs1 hq1 hr1 ⊢;refine z_87 ?_; refine z_5 ?_;exact ⟨_,res1 rfl tt q_269,⟨(_,p1),fin1 rfl q_281 (.old (.val _)),q_73,do_,do_⟩⟩
       ·refine z_9 ?_; refine cw_floatA [] [2,3,7,8] [0,4,5,9,1,2,3,6,7,8,10,11,12,13] 4 [0,1,3,7,0,0,51,127,255,0,627,2047,4095,8191] [[1,2,3],[1,2,3],[1,2,3],[3],[3],[3],[],[],[],[]] (hd1l:=[0,4,5,9]) (tll:=[(1,[1,2,3]),(2,[1,2,3]),(3,[1,2,3]),(6,[3]),(7,[3]),(8,[3]),(10,[]),(11,[]),(12,[]),(13,[])]) q_289 q_289 q_289 tt rfl rfl rfl ?_; refine chf rfl q_206 ?_; refine chf rfl q_198 ?_; refine chf rfl (hop_y rfl q_22) ?_; refine z_169 ?_;refine cta_d rfl rfl rfl rfl (d_callclov rfl tt rfl t_57 trivial (by exact hclo om_ (p+1) om_) rfl ?_);intro ⟨s1,p1⟩ ⟨hs1,hq1,hr1⟩;dsimp only at hs1 hq1 hr1 ⊢;refine ⟨⟨(by exact hop_y rfl q_229),(by exact hop_y rfl q_22),q_181,tt⟩,?_⟩;refine cta_q rfl rfl (fun _=>hop_y rfl q_163) ?_; refine cta_q rfl rfl (fun _=>hop_y rfl q_160) ?_;refine cta_d rfl rfl rfl rfl (d_callv rfl t_26 q_296 (tape_one l nn p1 _ 0 rfl om_ hl ([[43],[45],[42],[47],[37],[60],[61,61]]:List Str) si_ si_) rfl ?_);intro v hv;have hv8:v.length<=2:=by revert v; decide
        refine ⟨⟨q_181,tt⟩,?_⟩;refine cta_q rfl rfl (fun _=>hop_y rfl q_173) ?_; refine cta_q rfl rfl (fun _=>hop_y rfl q_160) ?_;refine cta_d rfl rfl rfl rfl (d_callclov rfl tt rfl t_57 trivial (by exact hclo om_ (p1+1) om_) rfl ?_);intro ⟨s2,p2⟩ ⟨hs2,hq2,hr2⟩;dsimp only at hs2 hq2 hr2 ⊢;refine z_239 ?_;refine cta_h rfl rfl rfl (hop_y rfl q_160) ⟨tt,?_⟩;refine z_167 ?_; refine cw_ret ?_;exact ⟨_,res1 rfl tt q_269,⟨(_,p2),fin1 rfl q_281 (.old (.val _)),q_73,do_,do_⟩⟩
theorem mk_Expr1 {k:Nat} (hl:l.length<=maxLen) (d:Nat) (hd:d<=10) (ps:List Str) (hps:∀ s∈ps,s.length<=10) (hpl:ps.length<=2) (L K B:Nat) (hL:L<=1000000) (hK:K<=1000) (hat:k+3*K+10<=B) (hB:B<=900000000) (hclo:1<=d->∀ p,p<=B->CCalls CC 163 [.ptr 1 0,.ptr 2 0,.ptr 3 0] (eob l nn ps d p) fun r τ=>∃ a:Str × Nat,r = .ret (sv a.1)/\τ=eob l nn ps d a.2/\(a.1.length<=L/\p<=a.2/\a.2<=p+K)) {σ:List CObj} {q:Nat} (hq:σ[q]? = some (tapeC l nn k)) :
 CCalls CC 122 [.ptr q 0,(.val (.int .i64 (d:Int))),.list (ps.map scv) (gnn ps.length) none] σ fun r τ=>∃ a:Str × Nat,r = .ret (sv a.1)/\τ=σ.set q (tapeC l nn a.2)/\(a.1.length<=3*L+30/\k<=a.2/\a.2<=k+(3*K+5)) :=
 call1 (c:=fun a:Str × Nat=>sv a.1) (S:=fun a=>tapeC l nn a.2) hCC (fun a h=>by simp at h; rcases h with rfl | rfl; exact .val _; exact pure_strs _ _) (fun _=>.val _) (fun _=>pure_tape _ _ _) (pure_tape _ _ _) rfl (mk_Expr0 l nn k hl d hd ps hps hpl L K B hL hK hat hB hclo) σ q hq
theorem expr_any (l:List Int) (nn:Bool) (hl:l.length<=maxLen) (ps:List Str) (hps:∀ s∈ps,s.length<=10) (hpl:ps.length<=2):ExprC l nn ps 0 30 5 800000000/\ExprC l nn ps 1 120 20 799999000/\ExprC l nn ps 2 390 65 799998000/\ExprC l nn ps 3 1200 200 799997000:=by
 have e0:ExprC l nn ps 0 30 5 800000000:=fun k hk σ q hq=>mk_Expr1 hl 0 om_ ps hps hpl 0 0 900000000 om_ om_ om_ om_ (fun h=>by omega) hq;have e1:ExprC l nn ps 1 120 20 799999000:=fun k hk σ q hq=>mk_Expr1 hl 1 om_ ps hps hpl 30 5 800000000 om_ om_ om_ om_ (fun _ p hp=>expr_clo om_ e0 p hp) hq;have e2:ExprC l nn ps 2 390 65 799998000:=fun k hk σ q hq=>mk_Expr1 hl 2 om_ ps hps hpl 120 20 799999000 om_ om_ om_ om_ (fun _ p hp=>expr_clo om_ e1 p hp) hq;have e3:ExprC l nn ps 3 1200 200 799997000:=fun k hk σ q hq=>mk_Expr1 hl 3 om_ ps hps hpl 390 65 799998000 om_ om_ om_ om_ (fun _ p hp=>expr_clo om_ e2 p hp) hq;exact ⟨e0,e1,e2,e3⟩
theorem mk_Decl0 (l:List Int) (nn:Bool) (k:Nat) (hat:k<=700000000) (hl:l.length<=maxLen):CCalls CC 73 [.ptr 0 0] [tapeC l nn k] fun r τ=>∃ a:Str × Nat,FinR 1 τ r (.ret (sv a.1)) [tapeC l nn a.2]/\(a.1.length<=1240/\k<=a.2/\a.2<=k+210):=by
 refine (ccalls_of Tryz.func73 rfl rfl ?_);refine z_4 ?_; refine cw_cut (α:=Nat) (fun _=>[(0,.ptr 0 0)]) (fun x=>[tapeC l nn (x)]) (fun x=>x=k+1) ?_ ?_
 ·
  refine z_2 ?_;refine cD (d_callv rfl t_31 q_293 (tape_next l nn k _ 0 rfl om_ hl 8 om_) rfl ?_);intro _ _; refine z_13 ?_; refine cw_cut (α:=Bool) (fun b=>[(0,.ptr 0 0),(2,(sv ([]))),(6,(.val (.int .i64 (tapeN l k 8)))),(7,(.val (.bool b)))]) (fun _=>[tapeC l nn (k+1)]) (fun _=>True) ?_ ?_
  ·
   refine z_27 ?_; refine cC (fun h1=>?_) fun h1=>?_
   ·exact z_175
   ·refine z_27 ?_; refine cC (fun h2=>?_) fun h2=>?_
    ·exact z_175
    ·refine z_126 ?_;exact ⟨_,tt,⟨⟨tt,rfl⟩,⟨tt,rfl⟩,⟨tt,rfl⟩,⟨tt,rfl⟩,tt⟩,rfl⟩
  ·intro b E0 _; refine cC (fun h3=>?_) fun h3=>?_
   ·refine z_2 ?_; refine cY (y_callf rfl Tryz.call82 trivial (mk_Tests_s _) rfl) ?_;refine cD (d_callv rfl t_26 q_296 (tape_one l nn (k+1) _ 0 rfl om_ hl madeTests de_ de_) rfl ?_);intro v hv;have hv8:v.length<=8:=len_made (.inr (.inr (.inl hv)));refine z_87 ?_; refine cY q_246 ?_;refine cD (d_callv rfl t_88 q_283 (by exact (expr_any l nn hl ([]:List Str) de_ de_).2.2.2 (k+2) om_ _ 0 rfl) rfl ?_);intro ⟨s1,p1⟩ ⟨hs1,hq1,hr1⟩;dsimp only at hs1 hq1 hr1 ⊢;refine z_198 ?_; refine z_5 ?_;exact ⟨_,res1 rfl tt q_269,⟨(_,p1),fin1 rfl q_281 (.old (.val _)),q_73,do_,do_⟩⟩
   ·refine z_27 ?_; refine cC (fun h4=>?_) fun h4=>?_
    ·refine z_2 ?_; refine cY q_203 ?_;refine cD (d_callv rfl t_26 q_296 (tape_one l nn (k+1) _ 0 rfl om_ hl madePaths de_ de_) rfl ?_);intro v hv;have hv8:v.length<=8:=len_made (.inr (.inr (.inr (.inl hv))));refine z_87 ?_; refine cY q_246 ?_;refine cD (d_callv rfl t_88 q_283 (by exact (expr_any l nn hl ([]:List Str) de_ de_).2.2.1 (k+2) om_ _ 0 rfl) rfl ?_);intro ⟨s1,p1⟩ ⟨hs1,hq1,hr1⟩;dsimp only at hs1 hq1 hr1 ⊢;refine z_198 ?_; refine z_5 ?_;exact ⟨_,res1 rfl tt q_269,⟨(_,p1),fin1 rfl q_281 (.old (.val _)),q_73,do_,do_⟩⟩
    ·refine cw_skip ?_;exact ⟨_,rfl,⟨⟨tt,rfl⟩,tt⟩,rfl⟩
 ·intro p E0 hp; subst hp; refine z_0 ?_;refine cD (d_lit1g rfl rfl rfl rfl t_2 t_0 t_3 rfl ?_);refine z_62 ?_;refine cD (d_callv rfl t_35 q_283 (tape_chance l nn (k+1) _ 0 rfl om_ hl 1 5 om_) rfl ?_);intro _ _; refine co_nil ?_; refine cC (fun h5=>?_) fun h5=>?_
  ·refine z_7 ?_; refine cY (y_lit [scv [98]] rfl ⟨rfl,tt⟩ t_2 t_0 t_3 rfl rfl rfl rfl rfl rfl rfl rfl rfl) ?_;refine cD (d_appu rfl tt tt rfl (show 1=List.length _ from rfl) q_19 t_2 t_0 t_24 t_3 rfl (.inr rfl) q_21 q_81 q_226 (([[97],[98]]:List Str).map scv) 2 rfl rfl ?_);refine z_38 ?_; refine z_215 ?_; intro v hv;have hv8:v.length<=8:=len_made (.inr (.inl hv));refine z_87 ?_; refine z_62 ?_; refine z_229 ?_; refine cC (fun h6=>?_) fun h6=>?_
   ·refine z_7 ?_; refine cY q_160 ?_; refine z_38 ?_; refine cY q_160 ?_; refine z_86 ?_;refine cD (d_callv rfl t_88 ⟨tt,rfl,tt,tt⟩ (by exact (expr_any l nn hl ([[97],[98]]:List Str) de_ de_).2.2.2 (k+3) om_ _ 0 rfl) rfl ?_);intro ⟨s1,p1⟩ ⟨hs1,hq1,hr1⟩;dsimp only at hs1 hq1 hr1 ⊢;refine z_198 ?_; refine z_5 ?_;exact ⟨_,res1 rfl tt q_269,⟨(_,p1),fin1 rfl q_281 (.old (.val _)),q_73,do_,do_⟩⟩
   ·exfalso; simp at h6
  ·refine z_71 ?_; refine z_215 ?_; intro v hv;have hv8:v.length<=8:=len_made (.inr (.inl hv));refine z_87 ?_; refine z_62 ?_; refine z_229 ?_; refine cC (fun h7=>?_) fun h7=>?_
   ·exfalso; simp at h7
   ·refine z_71 ?_; refine cY q_160 ?_; refine z_86 ?_;refine cD (d_callv rfl t_88 ⟨tt,rfl,tt,tt⟩ (by exact (expr_any l nn hl ([[97]]:List Str) de_ de_).2.2.2 (k+3) om_ _ 0 rfl) rfl ?_);intro ⟨s1,p1⟩ ⟨hs1,hq1,hr1⟩;dsimp only at hs1 hq1 hr1 ⊢;refine z_198 ?_; refine z_5 ?_;exact ⟨_,res1 rfl tt q_269,⟨(_,p1),fin1 rfl q_281 (.old (.val _)),q_73,do_,do_⟩⟩
theorem mk_Decl (l:List Int) (nn:Bool) (k:Nat) (hat:k<=700000000) (hl:l.length<=maxLen) (σ:List CObj) (q:Nat) (hq:σ[q]? = some (tapeC l nn k)):CCalls CC 73 [.ptr q 0] σ fun r τ=>∃ a:Str × Nat,r = .ret (sv a.1)/\τ=σ.set q (tapeC l nn a.2)/\(a.1.length<=1240/\k<=a.2/\a.2<=k+210) :=
 call1 (c:=fun a:Str × Nat=>sv a.1) (S:=fun a=>tapeC l nn a.2) hCC (fun a h=>by simp at h) (fun _=>.val _) (fun _=>pure_tape _ _ _) (pure_tape _ _ _) rfl (mk_Decl0 l nn k hat hl) σ q hq
theorem mk_Source0 (l:List Int) (nn:Bool) (k:Nat) (hat:k<=600000000) (hl:l.length<=maxLen) (pkg:Str) (hpk:pkg.length<=8):CCalls CC 68 [.ptr 0 0,(sv pkg)] [tapeC l nn k] fun r τ=>∃ a:Str × Nat,FinR 1 τ r (.ret (sv a.1)) [tapeC l nn a.2]/\(a.1.length<=6300/\k<=a.2/\a.2<=k+1070):=by
 refine (ccalls_of Tryz.func68 rfl rfl ?_);refine z_66 ?_; refine z_87 ?_; refine z_1 ?_; refine cw_cut (α:=Str × Nat) (fun x=>[(0,.ptr 0 0),(1,(sv pkg)),(5,(sv x.1))]) (fun x=>[tapeC l nn (x.2)]) (fun x=>x.1.length<=40/\x.2=k+1) ?_ ?_
 ·
  refine z_2 ?_;refine cD (d_callv rfl t_35 q_283 (tape_chance l nn k _ 0 rfl om_ hl 1 8 om_) rfl ?_);intro _ _; refine co_nil ?_; refine cC (fun h1=>?_) fun h1=>?_
  ·refine z_7 ?_; refine cY q_163 ?_; refine z_1 ?_;exact ⟨(_,k+1),q_62,⟨⟨tt,rfl⟩,⟨tt,rfl⟩,⟨tt,rfl⟩,tt⟩,rfl⟩
  ·refine cw_skip ?_;exact ⟨(_,k+1),q_62,⟨⟨tt,rfl⟩,⟨tt,rfl⟩,⟨tt,rfl⟩,tt⟩,rfl⟩
 ·intro ⟨s,p⟩ E0 ⟨hs,hp⟩;dsimp only at hs hp ⊢;subst hp; refine z_54 ?_;refine cD (d_callv rfl t_31 q_293 (tape_next l nn (k+1) _ 0 rfl om_ hl 3 om_) rfl ?_);intro _ _;have hb1:=tapeN_lt (l:=l) (k:=k+1) (n:=3) om_;refine z_1 ?_; refine cw_block ?_; refine cw_loopr hCC 1 rfl (α:=Str × List Str × Nat × Int) (fun x=>[(0,.ptr 0 0),(1,(sv pkg)),(5,(sv x.1)),(6,(.list (x.2.1.map scv) (gnn x.2.1.length) (gtok x.2.1.length 1))),(7,(.val (.int .i64 x.2.2.2)))]) (fun x=>[tapeC l nn x.2.2.1,gobj x.2.1.length]) (fun x=>0<=x.2.2.2/\x.2.2.2<=2/\x.1.length+20*x.2.2.2<=80/\x.2.1.length+x.2.2.2<=2/\k+2<=x.2.2.1/\x.2.2.1+x.2.2.2<=k+4) (fun x=>x.2.2.2.toNat) ⟨(s,[],k+2,tapeN l (k+1) 3),[0,9],⟨do_,do_,do_,by dsimp only; simp; omega,do_,do_⟩,⟨rfl,rfl⟩,⟨q_45,q_45,q_45,q_45,q_45,tt⟩,⟨.inr ⟨_,rfl,.same rfl q_281⟩,.inl rfl,tt⟩⟩ ?_; intro ⟨s,seen,p,n⟩ ⟨hn1,hn2,hs2,hsn,hp1,hp2⟩;dsimp only at hn1 hn2 hs2 hsn hp1 hp2 ⊢;refine z_183 ?_; refine cC (fun h2=>?_) fun h2=>?_
  ·have hn3:1<=n:=by simp at h2; omega
   refine z_113 ?_; refine cY (y_callf rfl Tryz.call69 trivial (mk_Packages_s _) rfl) ?_;refine cD (d_callv rfl t_26 q_296 (tape_one l nn (p) _ 0 rfl om_ hl madePackages de_ de_) rfl ?_);intro v hv;have hv8:v.length<=8:=len_made (.inl hv);refine z_1 ?_; refine z_6 ?_; refine cY q_234 ?_; refine z_94 ?_; refine cG (fun hg=>y_callf rfl t_156 ⟨hg,hg,tt⟩ (mk_Has_s seen _ v om_ _) rfl) ?_; refine cG (fun hg=>y_not rfl hg rfl) ?_; refine z_265 ?_; refine cC (fun h3=>?_) fun h3=>?_
   ·refine z_6 ?_; refine cY (y_lit [scv v] rfl ⟨tt,tt⟩ t_2 t_0 t_3 rfl rfl rfl rfl rfl rfl rfl rfl rfl) ?_;refine cD (d_appu rfl tt tt rfl si_ q_19 t_2 t_0 t_24 t_3 rfl (.inr rfl) q_21 q_81 q_226 ((seen++[v]).map scv) (seen++[v]).length si_ si_ ?_);refine z_257 ?_; refine z_87 ?_; refine cY q_173 ?_; refine z_227 ?_; refine z_131 ?_;exact ⟨(s++((([105,109,112,111,114,116,32]:Str)++v)++[59,10]),seen++[v],p+1,n - 1),[0,2],(by exact ⟨do_,do_,do_,by dsimp only; simp only [n_4,n_7,n_12]; omega,by dsimp only; simp only [n_4,n_7,n_12]; omega,do_,do_⟩),⟨rfl,rfl⟩,q_6,⟨.inr ⟨_,rfl,.same rfl q_281⟩,.inr ⟨_,rfl,.same rfl q_292⟩,tt⟩⟩
   ·refine z_259 ?_; refine z_131 ?_;exact ⟨(s,seen,p+1,n - 1),[0,1],⟨do_,do_,do_,do_,do_,do_,do_⟩,⟨rfl,rfl⟩,q_6,⟨.inr ⟨_,rfl,.same rfl q_281⟩,.inr ⟨_,rfl,.same rfl q_292⟩,tt⟩⟩
  ·have hn3:n=0:=by simp at h2; omega
   subst hn3; refine cw_exit ?_; refine z_54 ?_;refine cD (d_callv rfl t_31 q_293 (tape_next l nn p _ 0 rfl om_ hl 5 om_) rfl ?_);intro _ _;have hb2:=tapeN_lt (l:=l) (k:=p) (n:=5) om_;refine cY (y_add rfl rfl tt rfl rfl om_ om_) ?_; refine z_1 ?_; refine cw_block ?_; refine cw_loopr hCC 2 rfl (α:=Str × List Str × Nat × Int) (fun x=>[(0,.ptr 0 0),(5,(sv x.1)),(9,(.list (x.2.1.map scv) (gnn x.2.1.length) (gtok x.2.1.length 2))),(10,(.val (.int .i64 x.2.2.2)))]) (fun x=>[tapeC l nn x.2.2.1,gobj seen.length,gobj x.2.1.length]) (fun x=>0<=x.2.2.2/\x.2.2.2<=5/\x.1.length+1240*x.2.2.2<=6280/\x.2.1.length+x.2.2.2<=5/\k+3<=x.2.2.1/\x.2.2.1+211*x.2.2.2<=k+1060) (fun x=>x.2.2.2.toNat) ⟨(s,[],p+1,1+tapeN l p 5),[0,1,9],⟨do_,do_,do_,by dsimp only; simp; omega,do_,do_⟩,⟨rfl,rfl⟩,q_11,⟨.inr ⟨_,rfl,.same rfl q_281⟩,.inr ⟨_,rfl,.same rfl q_292⟩,.inl rfl,tt⟩⟩ ?_; intro ⟨s,hds,p2,n⟩ ⟨hn1,hn2,hs3,hhn,hp3,hp4⟩;dsimp only at hn1 hn2 hs3 hhn hp3 hp4 ⊢;refine z_183 ?_; refine cC (fun h4=>?_) fun h4=>?_
   ·have hn3:1<=n:=by simp at h4; omega
    refine z_113 ?_;refine cD (d_callv rfl Tryz.call73 ⟨tt,tt⟩ (mk_Decl l nn p2 om_ hl _ 0 rfl) rfl ?_);intro ⟨dt,p5⟩ ⟨hdt,hq5,hr5⟩;dsimp only at hdt hq5 hr5 ⊢;refine z_38 ?_; refine z_1 ?_; refine cw_seq ?_; refine z_203 ?_; refine cw_loop' (α:=Nat) (fun i=>[(0,.ptr 0 0),(5,(sv s)),(9,(.list (hds.map scv) (gnn hds.length) (gtok hds.length 2))),(10,(.val (.int .i64 n))),(11,(sv dt)),(12,(sv dt)),(13,(.val (.int .i64 (i:Int))))]) (fun _=>[tapeC l nn p5,gobj seen.length,gobj hds.length]) (fun i=>i<=dt.length) (fun i=>dt.length - i) 0 (n_3 _) tu_ rfl ?_; intro i E3 hi; refine z_77 ?_; refine cY q_242 ?_; refine z_64 ?_; refine cC (fun h5=>?_) fun h5=>?_
    ·have hlt:i < dt.length:=by simp at h5; omega
     obtain ⟨c,hc⟩:∃ c,dt[i]? = some c:=⟨dt[i]'hlt,si_⟩;refine z_20 ?_; refine z_6 ?_; refine cY (y_sindex rfl tt tt rfl rfl t_6 om_ (by rw [n_63]; exact hc)) ?_; refine cY q_255 ?_; refine z_94 ?_; refine cG (fun hg=>y_sindex rfl hg hg rfl rfl t_6 q_240 (by rw [n_63]; exact hc)) ?_; refine z_189 ?_; refine cC (fun h6=>?_) fun h6=>?_
     ·refine z_6 ?_; refine cY (y_sslice (h:=i) rfl tt rfl t_6 rfl q_80 q_268 q_268) ?_; refine z_1 ?_; refine cw_exit ?_; refine cw_cut (α:=Bool × Nat) (fun x=>[(0,.ptr 0 0),(5,(sv s)),(9,(.list (hds.map scv) (gnn hds.length) (gtok hds.length 2))),(10,(.val (.int .i64 n))),(11,(sv dt)),(12,(sv (dt.take i))),(84,(.val (.bool x.1)))]) (fun x=>[tapeC l nn x.2,gobj seen.length,gobj hds.length]) (fun x=>p5<=x.2/\x.2<=p5+1) ?_ ?_
      ·
       refine z_45 ?_; refine cY (y_callf rfl t_156 q_296 (mk_Has_s hds _ _ om_ _) rfl) ?_; refine cY q_280 ?_; refine z_22 ?_;refine co_gd (.val (.bool false)) rfl rfl tt rfl rfl (fun hg=>d_callv rfl t_35 ⟨hg,rfl,rfl,tt⟩ (tape_chance l nn p5 _ 0 rfl om_ hl 1 40 om_) rfl ?_) (fun hg=>?_)
       ·
        intro _ _;exact z_284
       ·
        refine z_61 ?_;exact ⟨(_,p5),⟨do_,do_⟩,⟨⟨tt,rfl⟩,⟨tt,rfl⟩,⟨tt,rfl⟩,⟨tt,rfl⟩,⟨tt,rfl⟩,⟨tt,rfl⟩,⟨tt,rfl⟩,tt⟩,rfl⟩
      ·intro ⟨b6,p6⟩ E6 ⟨hq6,hr6⟩;dsimp only at hq6 hr6 ⊢;refine cC (fun h7=>?_) fun h7=>?_
       ·refine z_6 ?_; refine cY (y_lit [scv (dt.take i)] rfl ⟨tt,tt⟩ t_2 t_0 t_3 rfl rfl rfl rfl rfl rfl rfl rfl rfl) ?_;refine cD (d_appu rfl tt tt rfl si_ q_19 t_2 t_0 t_24 t_3 rfl (.inr rfl) q_21 q_81 q_226 ((hds++[(dt.take i)]).map scv) (hds++[(dt.take i)]).length si_ si_ ?_);refine z_257 ?_; refine cY q_173 ?_; refine z_227 ?_; refine z_131 ?_;exact ⟨(s++dt,hds++[(dt.take i)],p6,n - 1),[0,1,3],q_24,⟨rfl,rfl⟩,q_10,⟨.inr ⟨_,rfl,.same rfl q_281⟩,.inr ⟨_,rfl,.same rfl q_292⟩,.inr ⟨_,rfl,.same rfl q_292⟩,tt⟩⟩
       ·refine z_259 ?_; refine cY q_253 ?_;exact z_93
     ·refine z_164 ?_;exact ⟨(i+1),om_,hlt,tu_,rfl⟩
    ·refine cw_exit ?_; refine cw_cut (α:=Bool × Nat) (fun x=>[(0,.ptr 0 0),(5,(sv s)),(9,(.list (hds.map scv) (gnn hds.length) (gtok hds.length 2))),(10,(.val (.int .i64 n))),(11,(sv dt)),(12,(sv dt)),(84,(.val (.bool x.1)))]) (fun x=>[tapeC l nn x.2,gobj seen.length,gobj hds.length]) (fun x=>p5<=x.2/\x.2<=p5+1) ?_ ?_
     ·
      refine z_45 ?_; refine cY (y_callf rfl t_156 q_296 (mk_Has_s hds _ _ om_ _) rfl) ?_; refine cY q_280 ?_; refine z_22 ?_;refine co_gd (.val (.bool false)) rfl rfl tt rfl rfl (fun hg=>d_callv rfl t_35 ⟨hg,rfl,rfl,tt⟩ (tape_chance l nn p5 _ 0 rfl om_ hl 1 40 om_) rfl ?_) (fun hg=>?_)
      ·
       intro _ _;exact z_284
      ·
       refine z_61 ?_;exact ⟨(_,p5),⟨do_,do_⟩,⟨⟨tt,rfl⟩,⟨tt,rfl⟩,⟨tt,rfl⟩,⟨tt,rfl⟩,⟨tt,rfl⟩,⟨tt,rfl⟩,⟨tt,rfl⟩,tt⟩,rfl⟩
     ·intro ⟨b6,p6⟩ E6 ⟨hq6,hr6⟩;dsimp only at hq6 hr6 ⊢;refine cC (fun h8=>?_) fun h8=>?_
      ·refine z_6 ?_; refine cY (y_lit [scv dt] rfl ⟨tt,tt⟩ t_2 t_0 t_3 rfl rfl rfl rfl rfl rfl rfl rfl rfl) ?_;refine cD (d_appu rfl tt tt rfl si_ q_19 t_2 t_0 t_24 t_3 rfl (.inr rfl) q_21 q_81 q_226 ((hds++[dt]).map scv) (hds++[dt]).length si_ si_ ?_);refine z_257 ?_; refine cY q_173 ?_; refine z_227 ?_; refine z_131 ?_;exact ⟨(s++dt,hds++[dt],p6,n - 1),[0,1,3],q_24,⟨rfl,rfl⟩,q_10,⟨.inr ⟨_,rfl,.same rfl q_281⟩,.inr ⟨_,rfl,.same rfl q_292⟩,.inr ⟨_,rfl,.same rfl q_292⟩,tt⟩⟩
      ·refine z_259 ?_; refine cY q_253 ?_;exact z_93
   ·have hn3:n=0:=by simp at h4; omega
    subst hn3; refine z_241 ?_;refine cD (d_callv rfl t_35 q_283 (tape_chance l nn p2 _ 0 rfl om_ hl 1 30 om_) rfl ?_);intro _ _; refine co_nil ?_; refine cC (fun h9=>?_) fun h9=>?_
    ·refine z_45 ?_; refine cY (y_lit (([[102,117,110,99],[125],[34],[116,101,115,116,32,116,32,61,32,49,59],[120]]:List Str).map scv) rfl ⟨rfl,rfl,rfl,rfl,rfl,tt⟩ t_2 t_0 t_3 rfl rfl rfl rfl rfl rfl rfl rfl rfl) ?_;refine cD (d_callv rfl t_26 q_296 (tape_one l nn (p2+1) _ 0 rfl om_ hl ([[102,117,110,99],[125],[34],[116,101,115,116,32,116,32,61,32,49,59],[120]]:List Str) si_ si_) rfl ?_);intro v hv;have hv8:v.length<=11:=by revert v; decide
     refine cY q_173 ?_; refine z_38 ?_; refine z_5 ?_;exact ⟨_,res1 rfl tt q_269,⟨(_,p2+2),fin1 rfl q_281 (.old (.val _)),(by show List.length _<=_; simp only [n_4]; omega),do_,do_⟩⟩
    ·refine z_71 ?_; refine z_5 ?_;exact ⟨_,res1 rfl tt q_269,⟨(_,p2+1),fin1 rfl q_281 (.old (.val _)),(by show List.length _<=_; simp only; omega),do_,do_⟩⟩
theorem mk_Source (l:List Int) (nn:Bool) (k:Nat) (hat:k<=600000000) (hl:l.length<=maxLen) (pkg:Str) (hpk:pkg.length<=8) (σ:List CObj) (q:Nat) (hq:σ[q]? = some (tapeC l nn k)):CCalls CC 68 [.ptr q 0,(sv pkg)] σ fun r τ=>∃ a:Str × Nat,r = .ret (sv a.1)/\τ=σ.set q (tapeC l nn a.2)/\(a.1.length<=6300/\k<=a.2/\a.2<=k+1070) :=
 call1 (c:=fun a:Str × Nat=>sv a.1) (S:=fun a=>tapeC l nn a.2) hCC (fun a h=>by simp at h; subst h; exact .val _) (fun _=>.val _) (fun _=>pure_tape _ _ _) (pure_tape _ _ _) rfl (mk_Source0 l nn k hat hl pkg hpk) σ q hq
def madeDat:List Str:=([[97,46,100,97,116],[100,47,98,46,100,97,116],[99]]:List Str)
def madeAll:List Str:=([[97,46,115,114,99],[98,46,115,114,99],[100,47,99,46,115,114,99],[120,46,115,114,99],[97,46,100,97,116],[100,47,98,46,100,97,116],[99],[122,48,46,115,114,99],[122,49,46,115,114,99],[122,50,46,115,114,99]]:List Str)
structure MadeR (B:Nat) (fl:List Fi):Prop where
 srt:SrtF fl
 pth:∀ f∈fl,f.p∈madeAll
 byt:∀ f∈fl,f.b.length<=B
theorem MadeR.nil (B:Nat):MadeR B []:=⟨.nil,fun f h=>by simp at h,fun f h=>by simp at h⟩
theorem MadeR.len (h:MadeR B fl):fl.length<=10:=by
 have hn:(fl.map Fi.p).Nodup:=by
  rw [List.nodup_iff_pairwise_ne,List.pairwise_map];exact h.srt.imp fun {a b} hab he=>by rw [he,bl_irr] at hab; cases hab
 have hs:∀ x∈fl.map Fi.p,x∈madeAll:=fun x hx=>by
  obtain ⟨f,hf,rfl⟩:=n_9.1 hx;exact h.pth f hf
 have:=List.Nodup.length_le_of_subset hn (fun x hx=>hs x hx);rw [n_17] at this;exact this
theorem insG_true {f:Fi}:∀ l:List Fi,insG f true l=l.filter fun x=>!decide (x.p=f.p)
 | []=>rfl
 | x::l=>by
  rw [insG,Bool.true_or,insG_true l,n_56];by_cases h:x.p=f.p <;> simp [h]
theorem insG_mem {f:Fi} {x:Fi}:∀ {d:Bool} {l:List Fi},x∈insG f d l->x=f\/x∈l
 | d,[],h=>by
  cases d <;> simp [insG] at h
  exact .inl h
 | d,y::l,h=>by
  rw [insG] at h
  rcases n_18.1 h with h | h
  ·split at h <;> simp at h
   exact .inl h
  ·rcases n_18.1 h with h | h
   ·split at h <;> simp at h
    exact .inr (by rw [h]; simp)
   ·rcases insG_mem h with h | h
    ·exact .inl h
    ·exact .inr (n_59 _ h)
theorem insG_srt {f:Fi}:∀ {l:List Fi},SrtF l->SrtF (insG f false l)
 | [],_=>by simp [insG,SrtF]
 | y::l,h=>by
  obtain ⟨h1,h2⟩:=n_41.1 h;rw [insG];by_cases hle:leF f y=true
  ·simp only [hle,Bool.not_false,Bool.and_self,if_true,Bool.or_true,insG_true];have hl:SrtF (l.filter fun x=>!decide (x.p=f.p)):=h2.filter _;have hfl:∀ g∈l.filter fun x=>!decide (x.p=f.p),Op.bytesLess f.p g.p=true:=fun g hg=>by
    have hy:=h1 g ((n_108.1 hg).1);unfold leF at hle;simp only [n_39,n_51] at hle
    rcases hle with hle | hle
    ·exact bl_trans hle hy
    ·rw [hle]; exact hy
   by_cases hyp:y.p=f.p
   ·rw [if_pos hyp,n_33];exact n_41.2 ⟨hfl,hl⟩
   ·rw [if_neg hyp];have hfy:Op.bytesLess f.p y.p=true:=by
     unfold leF at hle;simp only [n_39,n_51] at hle
     rcases hle with hle | hle
     ·exact hle
     ·exact absurd hle.symm hyp
    refine n_41.2 ⟨fun g hg=>?_,n_41.2 ⟨fun g hg=>h1 g ((n_108.1 hg).1),hl⟩⟩
    rcases n_13.1 hg with rfl | hg
    ·exact hfy
    ·exact hfl g hg
  ·have hle':leF f y=false:=by simpa using hle
   have hyp:¬ y.p=f.p:=fun h=>by rw [leF,h] at hle'; simp at hle'
   simp only [hle',Bool.and_false,Bool.or_false,if_neg hyp];have:Op.bytesLess y.p f.p=true:=by
    unfold leF at hle';simp only [Bool.or_eq_false_iff,decide_eq_false_iff_not] at hle';exact bl_tot hle'.1 hle'.2
   refine n_41.2 ⟨fun g hg=>?_,insG_srt h2⟩
   rcases insG_mem hg with rfl | hg
   ·exact this
   ·exact h1 g hg
theorem MadeR.ins (h:MadeR B fl) {f:Fi} (hp:f.p∈madeAll) (hb:f.b.length<=B):MadeR B (insF fl f) :=
 ⟨insG_srt h.srt,fun g hg=>by
  rcases insG_mem hg with rfl | hg
  ·exact hp
  ·exact h.pth g hg,fun g hg=>by
  rcases insG_mem hg with rfl | hg
  ·exact hb
  ·exact h.byt g hg⟩
theorem src_all:∀ s∈madeSources,s∈madeAll:=by decide
theorem dat_all:∀ s∈madeDat,s∈madeAll:=by decide
theorem pure_rev (fl:List Fi) (nn:Bool):Pure (.agg (revC fl nn)):=pure_agg (cs:=revC _ _) ⟨pure_fis _ _,tt⟩
theorem get_ex {α:Type} {l:List α} (h:i < l.length):∃ y,l[i]? = some y/\y∈l:=⟨l[i],by simp [h],n_115 h⟩
theorem mk_Revision0 (l:List Int) (nn:Bool) (k:Nat) (hat:k<=500000000) (hl:l.length<=maxLen):CCalls CC 27 [.ptr 0 0] [tapeC l nn k] fun r τ=>∃ a:List Fi × Nat,FinR 1 τ r (.ret (.agg (revC a.1 (gnn a.1.length)))) [tapeC l nn a.2]/\(MadeR 6300 a.1/\k<=a.2/\a.2<=k+4400):=by
 refine (ccalls_of Tryz.func27 rfl rfl ?_);refine z_0 ?_; refine z_141 ?_; refine z_67 ?_; refine cY (y_callf rfl Tryz.call66 trivial (mk_sources_s _) rfl) ?_; refine z_107 ?_; refine cw_loop' (α:=List Fi × Nat × Nat) (fun x=>[(0,.ptr 0 0),(2,.ptr 1 0),(3,.ptr 2 0),(8,(.list (madeSources.map scv) true none)),(9,(.val (.int .i64 (madeSources.length:Int)))),(10,(.val (.int .i64 (x.2.2:Int))))]) (fun x=>[tapeC l nn (x.2.1),.box (revC [] false),.box (revC x.1 (gnn x.1.length))]) (fun x=>x.2.2<=madeSources.length/\MadeR 6300 x.1/\k+0<=x.2.1/\x.2.1<=k+0+x.2.2*1072) (fun x=>madeSources.length - x.2.2) ([],k,0) ⟨n_3 _,.nil _,do_,do_⟩ tu_ rfl ?_; intro ⟨fl,p,i⟩ E0 ⟨hi,hm,hp1,hp2⟩;dsimp only at hi hm hp1 hp2 ⊢;have hL:madeSources.length=4:=rfl;have hml:=hm.len;refine z_28 ?_; refine cC (fun h1=>?_) fun h1=>?_
 ·have hlt:i < madeSources.length:=by simp at h1; omega
  obtain ⟨y,hb,hym⟩:=get_ex hlt;refine cw_skip ?_; refine cw_cut (α:=List Fi × Nat) (fun x=>[(0,.ptr 0 0),(2,.ptr 1 0),(3,.ptr 2 0),(8,(.list (madeSources.map scv) true none)),(9,(.val (.int .i64 (madeSources.length:Int)))),(10,(.val (.int .i64 (i:Int))))]) (fun x=>[tapeC l nn (x.2),.box (revC [] false),.box (revC x.1 (gnn x.1.length))]) (fun x=>MadeR 6300 x.1/\p<=x.2/\x.2<=p+1072) ?_ ?_
  ·
   refine cw_block ?_; refine z_0 ?_; refine z_172 ?_; refine z_38 ?_;refine cD (d_callv rfl t_35 q_283 (tape_chance l nn p _ 0 rfl om_ hl 3 4 om_) rfl ?_);intro _ _; refine co_nil ?_; refine cC (fun h2=>?_) fun h2=>?_
   ·refine cw_float [0,1,2,3,4,5,6,7,8,9] 5 [0,0,0,0,0,24,60,126,255,511] [[0,1,2],[0,1],[0],[],[]] (hd1l:=[0,1,2,3,4]) (tll:=[(5,[0,1,2]),(6,[0,1]),(7,[0]),(8,[]),(9,[])]) q_289 q_289 rfl rfl rfl ?_; refine chf rfl q_128 ?_; refine chf rfl q_206 ?_; refine chf rfl q_206 ?_; refine chf rfl q_206 ?_; refine chf rfl (hop_y rfl (y_callf rfl Tryz.call69 trivial (mk_Packages_s _) rfl)) ?_; refine chf_nil ?_;refine ctl_d rfl rfl (d_callv rfl t_26 q_296 (tape_one l nn (p+1) _ 0 rfl om_ hl madePackages de_ de_) rfl ?_);intro v hv;have hv8:v.length<=8:=len_made (.inl hv);refine ⟨⟨q_102,q_181,q_181,tt⟩,?_⟩;refine ctl_d rfl rfl (d_callv rfl Tryz.call68 q_296 (mk_Source l nn (p+2) om_ hl v hv8 _ 0 rfl) rfl ?_);intro ⟨s,p3⟩ ⟨hs,hq1,hq2⟩;dsimp only at hs hq1 hq2 ⊢;refine ⟨⟨q_102,q_181,tt⟩,?_⟩;refine ctl_h rfl q_42 ⟨⟨q_102,tt⟩,?_⟩;refine z_129 ?_; refine z_123 ?_;exact ⟨(insF fl ⟨y,s⟩,p3),⟨hm.ins (src_all _ hym) hs,do_,do_⟩,tu_,rfl⟩
   ·refine cw_skip ?_;exact ⟨(fl,p+1),⟨hm,do_,do_⟩,tu_,rfl⟩
  ·intro ⟨fl,p4⟩ E0 ⟨hm,hq1,hq2⟩;dsimp only at hm hq1 hq2 ⊢;refine z_21 ?_;exact ⟨(fl,p4,i+1),do_,⟨do_,hm,do_,do_⟩,tu_,rfl⟩
 ·refine cw_exit ?_; refine z_42 ?_; refine cY (y_lit (madeDat.map scv) rfl ⟨rfl,rfl,rfl,tt⟩ t_2 t_0 t_3 rfl rfl rfl rfl rfl rfl rfl rfl rfl) ?_; refine z_107 ?_; refine cw_loop' (α:=List Fi × Nat × Nat) (fun x=>[(0,.ptr 0 0),(2,.ptr 1 0),(3,.ptr 2 0),(26,(.list (madeDat.map scv) true none)),(27,(.val (.int .i64 (madeDat.length:Int)))),(28,(.val (.int .i64 (x.2.2:Int))))]) (fun x=>[tapeC l nn (x.2.1),.box (revC [] false),.box (revC x.1 (gnn x.1.length))]) (fun x=>x.2.2<=madeDat.length/\MadeR 6300 x.1/\k+0<=x.2.1/\x.2.1<=k+4288+x.2.2*5) (fun x=>madeDat.length - x.2.2) (fl,p,0) ⟨n_3 _,hm,do_,do_⟩ tu_ rfl ?_; intro ⟨fl,p,i⟩ E0 ⟨hi,hm,hp1,hp2⟩;dsimp only at hi hm hp1 hp2 ⊢;have hL:madeDat.length=3:=rfl;have hml:=hm.len;refine z_28 ?_; refine cC (fun h3=>?_) fun h3=>?_
  ·have hlt:i < madeDat.length:=by simp at h3; omega
   obtain ⟨y,hb,hym⟩:=get_ex hlt;refine z_41 ?_; refine z_172 ?_; refine z_38 ?_;refine cD (d_callv rfl t_35 q_283 (tape_chance l nn p _ 0 rfl om_ hl 1 3 om_) rfl ?_);intro _ _; refine co_nil ?_; refine cC (fun h4=>?_) fun h4=>?_
   ·refine cw_float [0,1,2,3,4,5,6] 3 [0,0,0,4,14,31,63] [[0,1],[0],[],[]] (hd1l:=[0,1,2]) (tll:=[(3,[0,1]),(4,[0]),(5,[]),(6,[])]) q_289 q_289 rfl rfl rfl ?_; refine chf rfl q_128 ?_; refine chf rfl q_206 ?_; refine z_169 ?_;refine ctl_d rfl rfl (d_callv rfl Tryz.call70 ⟨tt,tt⟩ (mk_data l nn (p+1) om_ hl _ 0 rfl) rfl ?_);intro ⟨s,p3⟩ ⟨hs,hq1,hq2⟩;dsimp only at hs hq1 hq2 ⊢;refine ⟨⟨q_102,q_181,tt⟩,?_⟩;refine ctl_h rfl q_42 ⟨⟨q_102,tt⟩,?_⟩;refine z_129 ?_; refine z_123 ?_; refine z_21 ?_;exact ⟨(insF fl ⟨y,s⟩,p3,i+1),do_,⟨do_,hm.ins (dat_all _ hym) do_,do_,do_⟩,tu_,rfl⟩
   ·refine z_51 ?_;exact ⟨(fl,p+1,i+1),do_,⟨do_,hm,do_,do_⟩,tu_,rfl⟩
  ·refine z_90 ?_; refine cY q_180 ?_; refine z_261 ?_;exact ⟨_,res_one rfl q_113,⟨(fl,p),fin1 rfl q_281 (.old (pure_rev _ _).old),hm,do_,do_⟩⟩
theorem mk_Revision (l:List Int) (nn:Bool) (k:Nat) (hat:k<=500000000) (hl:l.length<=maxLen) (σ:List CObj) (q:Nat) (hq:σ[q]? = some (tapeC l nn k)):CCalls CC 27 [.ptr q 0] σ fun r τ=>∃ a:List Fi × Nat,r = .ret (.agg (revC a.1 (gnn a.1.length)))/\τ=σ.set q (tapeC l nn a.2)/\(MadeR 6300 a.1/\k<=a.2/\a.2<=k+4400) :=
 call1 (c:=fun a:List Fi × Nat=>(.agg (revC a.1 (gnn a.1.length)))) (S:=fun a=>tapeC l nn a.2) hCC (fun a h=>by simp at h) (fun _=>pure_rev _ _) (fun _=>pure_tape _ _ _) (pure_tape _ _ _) rfl (mk_Revision0 l nn k hat hl) σ q hq
theorem cont_some {ev:List Va} {k:List Ky} {l:List Str} (h:contS fl ev k=some l):l=k.map (contF fl (newW fl).2.1 (newW fl).2.2 ev):=by
 unfold contS at h;split at h
 ·injection h with h; exact h.symm
 ·cases h
theorem body_num {d:De} (h:DeG d) {k u o:Int} {nm:Str} (hb:d.body=[⟨k,u,o,nm,[]⟩]):bodyT d=(Tr.n k u o nm []).txt d.params 0:=by
 obtain ⟨t,h1,h2,h3⟩:=bodyT_eq h;rw [h3];rw [hb] at h1;have hl:=Tr.flat_len t 0;rw [<- h1] at hl
 rcases t with ⟨k',u',o',nm',ch⟩
 have hch:ch=[]:=by
  rcases ch with _ | ⟨c,ch⟩
  ·rfl
  ·have:=c.size_pos;simp only [Tr.size,sizeL,n_7,n_12] at hl;omega
 subst hch;simp only [Tr.flat,flatL,rootsL,n_33,List.cons.injEq,Ex.mk.injEq,and_true] at h1;obtain ⟨rfl,rfl,rfl,rfl⟩:=h1;rfl
theorem vget {rows:List (List CV)} {r:List CV} {j:Nat} (h:rows[i]? = some r) (e:j=i):rows[j]? = some r:=e ▸ h
abbrev zK:Ky:=⟨0,[],[]⟩
def insI (k:Ky):List Ky->Nat
 | []=>0
 | y::l=>if ltK y k=true then insI k l+1 else 0
def insK (l:List Ky) (k:Ky):List Ky:=if l[insI k l]? = some k then l else l.take (insI k l)++k::l.drop (insI k l)
theorem insI_le (k:Ky):∀ l:List Ky,insI k l<=l.length
 | []=>n_5 _
 | y::l=>by
  have:=insI_le k l;unfold insI
  split <;> simp <;> omega
theorem old_vkeys (n:Nat) (l:List Ky):OldObj n (.vec 3 (l.map Ky.cv)):=fun r hr c hc=>((rows_pure (f:=Ky.cv) (fun _=>Pures.all ⟨.val _,.val _,.val _,tt⟩) _) r hr c hc).old
theorem pure_vkeys (l:List Ky):∀ r∈l.map Ky.cv,∀ c∈r,Pure c:=fun r hr c hc=>(rows_pure (f:=Ky.cv) (fun _=>Pures.all ⟨.val _,.val _,.val _,tt⟩) _) r hr c hc
def setK (l:List Ky):List Ky:=l.foldl insK []
theorem insK_len (l:List Ky) (k:Ky):(insK l k).length<=l.length+1:=by
 unfold insK
 split
 ·omega
 ·have:=insI_le k l; simp; omega
theorem gnn_ne {α:Type} {l:List α} (h:l≠[]):gnn l.length=true:=by cases l; exact absurd rfl h; rfl
theorem setK_len (l:List Ky):(setK l).length<=l.length:=by
 have h:∀ (l a:List Ky),(l.foldl insK a).length<=a.length+l.length:=by
  intro l
  induction l with
  | nil=>intro a; simp
  | cons y l ih =>
   intro a;have h1:=ih (insK a y);have h2:=insK_len a y;simp only [n_116,n_7];omega
 have:=h l [];unfold setK;simpa using this
end Go.Proofs.YtlppbmfecjabeaaGreatDoor
namespace Go.Proofs
open Go.Shelf
def Tryz.sortKey_ren:Go.Shelf.Ren:=⟨fun | 6=>127 | 15=>166 | 14=>165 | 28=>216 | 29=>217 | 20=>208 | 21=>209 | 22=>210 | 23=>211 | 24=>212 | 25=>213 | 26=>214 | 27=>215 | 46=>264 | 47=>265 | 48=>266 | 49=>267 | 50=>268 | 57=>299 | n=>n,fun | 22=>36 | 24=>39 | 25=>171 | 3=>3 | 39=>141 | 0=>0 | 53=>262 | 55=>86 | 4=>4 | 46=>256 | 45=>255 | 50=>139 | 5=>5 | 9=>9 | 66=>292 | 70=>296 | 76=>320 | 77=>321 | n=>n,fun | n=>n⟩
theorem Tryz.sortKey:Go.Proofs.SlLaysF0.n6 Tryz.prog Tryz.sortKey_ren:={
 mixed:=by kernel_rfl
 f6:=⟨Tryz.f127.name,de_,Tryz.func127.trans (congrArg some q_289)⟩
 f14:=⟨Tryz.f165.name,de_,Tryz.func165.trans (congrArg some q_289)⟩
 f15:=Tryz.func166.trans (congrArg some q_289)
 f20:=⟨Tryz.f208.name,de_,Tryz.func208.trans (congrArg some q_289)⟩
 f21:=⟨Tryz.f209.name,de_,Tryz.func209.trans (congrArg some q_289)⟩
 f22:=⟨Tryz.f210.name,de_,Tryz.func210.trans (congrArg some q_289)⟩
 f23:=⟨Tryz.f211.name,de_,Tryz.func211.trans (congrArg some q_289)⟩
 f24:=⟨Tryz.f212.name,de_,Tryz.func212.trans (congrArg some q_289)⟩
 f25:=⟨Tryz.f213.name,de_,Tryz.func213.trans (congrArg some q_289)⟩
 f26:=⟨Tryz.f214.name,de_,Tryz.func214.trans (congrArg some q_289)⟩
 f27:=⟨Tryz.f215.name,de_,Tryz.func215.trans (congrArg some q_289)⟩
 f28:=Tryz.func216.trans (congrArg some q_289)
 f29:=t_129.trans (congrArg some q_289)
 f46:=⟨Tryz.f264.name,de_,Tryz.func264.trans (congrArg some q_289)⟩
 f47:=Tryz.func265.trans (congrArg some q_289)
 f48:=Tryz.func266.trans (congrArg some q_289)
 f49:=⟨Tryz.f267.name,de_,Tryz.func267.trans (congrArg some q_289)⟩
 f50:=⟨Tryz.f268.name,de_,Tryz.func268.trans (congrArg some q_289)⟩
 f57:=⟨Tryz.f299.name,de_,Tryz.func299.trans (congrArg some q_289)⟩
 t0:=t_130
 a0:=t_131
 z0:=t_132
 v0:=t_133
 t3:=t_102
 a3:=t_14
 z3:=t_1
 v3:=t_9
 t4:=t_134
 a4:=t_103
 z4:=t_104
 v4:=t_135
 t5:=t_136
 a5:=t_66
 z5:=t_15
 v5:=t_22
 t9:=t_137
 a9:=t_10
 z9:=t_0
 v9:=t_3
 t22:=Tryz.underlying36
 a22:=Tryz.isAgg36
 z22:=t_157
 v22:=t_109
 t25:=Tryz.underlying171
 a25:=Tryz.isAgg171
 z25:=Tryz.sizeOf171
 v25:=Tryz.zeroValue171
 t39:=t_139
 a39:=t_140
 z39:=t_141
 v39:=t_142
 t45:=Tryz.underlying255
 a45:=Tryz.isAgg255
 z45:=Tryz.sizeOf255
 v45:=Tryz.zeroValue255
 t46:=Tryz.underlying256
 a46:=Tryz.isAgg256
 z46:=Tryz.sizeOf256
 v46:=Tryz.zeroValue256
 t50:=Tryz.underlying139
 a50:=Tryz.isAgg139
 z50:=Tryz.sizeOf139
 v50:=Tryz.zeroValue139
 t53:=t_143
 a53:=t_144
 z53:=t_145
 v53:=t_146
 t55:=t_147
 a55:=t_148
 z55:=t_149
 v55:=t_150
 t66:=Tryz.underlying292
 a66:=Tryz.isAgg292
 z66:=Tryz.sizeOf292
 v66:=Tryz.zeroValue292
 t70:=Tryz.underlying296
 a70:=Tryz.isAgg296
 z70:=Tryz.sizeOf296
 v70:=Tryz.zeroValue296
 t76:=Tryz.underlying320
 a76:=Tryz.isAgg320
 z76:=Tryz.sizeOf320
 v76:=Tryz.zeroValue320
 t77:=Tryz.underlying321
 a77:=Tryz.isAgg321
 z77:=Tryz.sizeOf321
 v77:=Tryz.zeroValue321}
end Go.Proofs
namespace Go.Proofs.YtlppbmfecjabeaaGreatDoor
open Go Go.Cl
variable {fl fs al bl G:List Fi} {i B:Nat} {ev ew:List Va} {f g:Fi} {k y:Ky} {l:List Ky} {s p a:Str} {α:Type} {ms:SM} {me:EM}
instance:Inhabited Ky:=⟨⟨0,[],[]⟩⟩
abbrev encK (x:Ky):List Value:=[.int .i64 x.k,.string (str x.a),.string (str x.b)]
theorem cb_less {b:Str}:Op.bytesLess a b=true↔Go.Lib.compareBytes a b = -1:=by rw [cb_lt]; simp
theorem cb_trans {b c:Str} (h:Go.Lib.compareBytes a b = -1) (k:Go.Lib.compareBytes b c = -1):Go.Lib.compareBytes a c = -1:=cb_less.1 (bl_trans (cb_less.2 h) (cb_less.2 k))
theorem cmpI_lt {a b:Int}:cmpI a b = -1↔a < b:=by unfold cmpI; split <;> (try split) <;> omega
theorem cmpK_lt {x:Ky}:cmpK x y = -1↔x.k < y.k\/(x.k=y.k/\(Go.Lib.compareBytes x.a y.a = -1\/(x.a=y.a/\Go.Lib.compareBytes x.b y.b = -1))):=by
 unfold cmpK;by_cases h1:cmpI x.k y.k=0
 ·have e1:=(cmpI_eq _ _).1 h1;rw [if_neg (by simp [h1])];by_cases h2:Go.Lib.compareBytes x.a y.a=0
  ·have e2:=(cb_eq _ _).1 h2;rw [if_neg (by simp [h2])];constructor
   ·intro h; exact .inr ⟨e1,.inr ⟨e2,h⟩⟩
   ·rintro (h | ⟨-,h | ⟨-,h⟩⟩)
    ·omega
    ·omega
    ·exact h
  ·rw [if_pos h2];constructor
   ·intro h; exact .inr ⟨e1,.inl h⟩
   ·rintro (h | ⟨-,h | ⟨h,-⟩⟩)
    ·omega
    ·exact h
    ·exact absurd ((cb_eq _ _).2 h) h2
 ·rw [if_pos h1,cmpI_lt];constructor
  ·intro h; exact .inl h
  ·rintro (h | ⟨h,-⟩)
   ·exact h
   ·exact absurd ((cmpI_eq _ _).2 h) h1
theorem cmpK_trans {x z:Ky} (h:cmpK x y = -1) (k:cmpK y z = -1):cmpK x z = -1:=by
 rw [cmpK_lt] at *
 rcases h with h | ⟨h1,h | ⟨h2,h⟩⟩ <;> rcases k with k | ⟨k1,k | ⟨k2,k⟩⟩
 ·exact .inl om_
 ·exact .inl om_
 ·exact .inl om_
 ·exact .inl om_
 ·exact .inr ⟨om_,.inl (cb_trans h k)⟩
 ·exact .inr ⟨om_,.inl (k2 ▸ h)⟩
 ·exact .inl om_
 ·exact .inr ⟨om_,.inl (h2 ▸ k)⟩
 ·exact .inr ⟨om_,.inr ⟨h2.trans k2,cb_trans h k⟩⟩
theorem ltOf_K (x y:Ky):Go.Proofs.ltOf cmpK x y=ltK x y:=by
 unfold Go.Proofs.ltOf ltK
 rcases cmpK_val x y with h | h | h <;> simp [h]
theorem ltK_trans {x z:Ky} (h:ltK x y=true) (k:ltK y z=true):ltK x z=true:=by
 simp only [ltK,n_51] at *;exact cmpK_trans h k
theorem ltK_tot {x:Ky} (h:ltK x y=false) (k:ltK y x=false):x=y:=by
 rw [ltK_swap] at k;simp only [ltK,decide_eq_false_iff_not] at h k
 rcases cmpK_val x y with e | e | e
 ·exact absurd e h
 ·exact (cmpK_eq x y).1 e
 ·exact absurd e k
theorem ltK_irr (x:Ky):ltK x x=false:=by simp [ltK,(cmpK_eq x x).2 rfl]
theorem swo_K:Go.Sort.SWO (Go.Proofs.ltOf cmpK) where
 irrefl x:=by rw [ltOf_K]; exact ltK_irr x
 trans x y z h k:=by rw [ltOf_K] at *; exact ltK_trans h k
 ntrans x y z h k:=by
  rw [ltOf_K] at *;cases h2:ltK x z
  ·rfl
  ·cases h3:ltK y x
   ·have:=ltK_tot h h3; subst this; exact h2.symm.trans k
   ·exact (ltK_trans h3 h2).symm.trans k
theorem glob_vals:∀ g cells,CC.glob g=some cells->∀ c∈cells,∃ v,c=CV.val v:=fun g cells h c hc=>by
 have:cells=tabP:=by
  simp only [CC] at h;split at h
  ·exact (Option.some.inj h).symm
  ·cases h
 subst this;obtain ⟨z,_,rfl⟩:=n_9.1 hc;exact ⟨_,rfl⟩
theorem sl_SortKeys {σ:List CObj} {k:Nat} (hne:l≠[]) (hlen:l.length<=1000000) (hk:σ[k]? = some (.vec 3 (l.map Ky.cv))):CCalls CC 127 [.vec k 0 l.length,.val (.func (.func 128) #[] #[])] σ fun r τ=>∃ _:Unit,r = .ret (.tup [])/\τ=σ.set k (.vec 3 ((srtF cmpK l).map Ky.cv))/\True :=
 (sortf_vec (C:=CC) (f:=127) (g:=128) (enc:=encK) (s:=3) (cf:=cmpK) om_ q_291 (fun x v hv=>by simp [encK] at hv; rcases hv with rfl | rfl | rfl <;> rfl)
  (fun blk off cap d w h1 h2 h3 h4=>Go.Proofs.AnyQ.slices_SortFunc_total Tryz.sortKey 3 t_41 t_4 encK q_291 (fun x v hv=>by simp [encK] at hv; rcases hv with rfl | rfl | rfl <;> rfl) cmpK swo_K 128 #[] blk off cap d w Tryz.call128 h1 h2 h3 h4 (fun x y e1 e2=>by rw [ltOf_K] at e1 e2; exact ltK_tot e1 e2))
  (fun x y=>fa_Compare x y) glob_vals hne om_ hk).mono fun r τ h=>⟨(),h.1,h.2,tt⟩
def ddK:List Ky->List Ky
 | []=>[]
 | [x]=>[x]
 | x::y::l=>if x=y then ddK (y::l) else x::ddK (y::l)
theorem dd_cc (x y:Ky) (l:List Ky):ddK (x::y::l)=if x=y then ddK (y::l) else x::ddK (y::l):=by rw [ddK]
theorem dd_snoc:∀ (l:List Ky) (x y:Ky),ddK (l++[x,y])=if x=y then ddK (l++[x]) else ddK (l++[x])++[y]
 | [],x,y=>by
  simp only [n_33,dd_cc];by_cases h:x=y <;> simp [h,ddK]
 | [a],x,y=>by
  simp only [n_48,n_33,dd_cc];by_cases h1:a=x <;> by_cases h2:x=y <;> simp [h1,h2,ddK]
 | a::b::l,x,y=>by
  have h:=dd_snoc (b::l) x y;simp only [n_48] at h;simp only [n_48,dd_cc,h];by_cases h1:a=b <;> by_cases h2:x=y <;> simp [h1,h2]
theorem dd_step {j:Nat} {x:Ky} (hx:l[j]? = some x) (hy:l[j+1]? = some y):ddK (l.take (j+2))=if x=y then ddK (l.take (j+1)) else ddK (l.take (j+1))++[y]:=by
 have h1:l.take (j+1)=l.take j++[x]:=by rw [n_50,hx]; rfl
 have h2:l.take (j+2)=l.take j++[x,y]:=by rw [show j+2=(j+1)+1 from rfl,n_50,hy,h1]; simp
 rw [h1,h2,dd_snoc]
theorem dd_one:ddK (l.take 1)=l.take 1:=by cases l <;> rfl
theorem dd_short (h:l.length < 2):ddK l=l:=by
 match l,h with
 | [],_=>rfl
 | [x],_=>rfl
theorem clone_nil_K_s  (σ:List CObj):CCalls CC 126 [(.list (([]:List Ky).map Ky.cv) false none)] σ fun r σ'=>r = .ret (.list (([]:List Ky).map Ky.cv) false none)/\σ'=σ:=by
 refine CCalls.anyw hCC pu_ pu_ ?_ σ;refine ccalls_val (ccalls_of Tryz.func126 rfl rfl ?_);refine z_54 ?_; refine cY (y_slnil rfl tt rfl t_5 rfl) ?_; refine co_nil ?_; refine cC (fun h1=>?_) fun h1=>?_
 ·refine z_19 ?_;exact ⟨_,res1 rfl tt q_269,_,_,rfl,rfl,(cls_eq (show CV.list [] false none=_ from rfl) pu_)⟩
 ·exfalso;cases h1
theorem clone_vec_K (l:List Ky) (hn:l≠[]) (hl:l.length<=1000000) (σ:List CObj):CCalls CC 126 [(.list (l.map Ky.cv) true none)] σ fun r σ'=>∃ _:Unit,r = .ret (.vec σ.length 0 l.length)/\σ'=σ++[.vec 3 (l.map Ky.cv)]/\True:=by
 refine (ccalls_of Tryz.func126 rfl rfl ?_);refine z_54 ?_; refine cY (y_slnil rfl tt rfl t_5 rfl) ?_; refine co_nil ?_; refine cC (fun h1=>?_) fun h1=>?_
 ·exfalso;cases h1
 ·refine z_46 ?_;refine cD (d_lit0 rfl t_5 t_4 (fun a0=>?_));refine cY q_246 ?_;refine cD (d_appcv l.length rfl tt tt rfl q_19 t_5 t_4 t_30 t_11 rfl (by simp; exact n_69.2 hn) q_79 q_226 si_ ?_);exact z_273
theorem cp_Compact0 (l:List Ky) (hl:l.length<=1000000):CCalls CC 129 [.vec 0 0 l.length] [.vec 3 (l.map Ky.cv)] fun r τ=>∃ rest:List Ky,r = .ret (.vec 0 0 (ddK l).length)/\τ=[.vec 3 ((ddK l++rest).map Ky.cv)]/\True:=by
 refine (ccalls_of Tryz.func129 rfl rfl ?_);refine z_54 ?_; refine cY (y_len_vec rfl tt rfl t_5 rfl rfl) ?_; refine z_12 ?_; refine cC (fun h1=>?_) fun h1=>?_
 ·have hlt:l.length < 2:=by simp at h1; omega
  have hdd:=dd_short hlt;refine z_204 ?_;exact ⟨_,res1 rfl tt q_269,⟨[],by rw [hdd],by rw [hdd]; simp,tt⟩⟩
 ·have hge:2<=l.length:=by simp at h1; omega
  refine z_9 ?_; refine z_203 ?_; refine cw_loop' (α:=Nat) (fun k=>[(0,(.vec 0 0 l.length)),(3,(.val (.int .i64 (k:Int))))]) (fun _=>[.vec 3 (l.map Ky.cv)]) (fun k=>1<=k/\k<=l.length/\ddK (l.take k)=l.take k) (fun k=>l.length - k) 1 ⟨n_5 _,om_,dd_one⟩ tu_ rfl ?_; intro k E0 ⟨hk1,hk2,hd⟩; refine z_77 ?_; refine cY (y_len_vec rfl tt rfl t_5 rfl rfl) ?_; refine z_64 ?_; refine cC (fun h2=>?_) fun h2=>?_
  ·have hlt:k < l.length:=by simp at h2; omega
   obtain ⟨y,hy⟩:∃ y,l[k]? = some y:=⟨l[k]'hlt,si_⟩;obtain ⟨x,hx⟩:∃ x,l[k - 1]? = some x:=⟨l[k - 1]'om_,si_⟩;have hstep:=dd_step hx (by rw [Nat.sub_add_cancel hk1]; exact hy);rw [show k - 1+2=k+1 by omega,show k - 1+1=k by omega,hd] at hstep;refine z_20 ?_; refine cw_seq ?_; refine cw_draw 10 [0,0,3,7,0,0,32,112,240,511] q_289 q_289 rfl ?_; refine z_163 ?_; refine hY q_111 ?_; refine hY (y_load_e rfl tt rfl t_41 t_4 rfl (vget (rows_get hy) om_) (nb rfl)) ?_; refine z_163 ?_; refine hY q_253 ?_; refine hY q_111 ?_; refine hY (y_load_e rfl tt rfl t_41 t_4 rfl (vget (rows_get hx) om_) (nb rfl)) ?_; refine hY (y_eqs rfl tt tt (xs:=[.int .i64 y.k,.string (str y.a),.string (str y.b)]) (ys:=[.int .i64 x.k,.string (str x.a),.string (str x.b)]) rfl rfl t_91 (eq_ky y x)) ?_; refine z_79 ?_; refine cC (fun h3=>?_) fun h3=>?_
   ·have hyx:x=y:=by
     have h3':y=x:=by simpa using h3
     exact h3'.symm
    rw [if_pos hyx] at hstep;refine z_6 ?_; refine cY (y_slice_v (l:=k) rfl tt rfl t_5 t_4 rfl q_267 rfl q_211 si_) ?_; refine z_1 ?_; refine cw_seq ?_; refine z_203 ?_; refine cw_loop' (α:=List Ky × Nat × Nat) (fun a=>[(0,(.vec 0 0 l.length)),(3,(.val (.int .i64 (a.2.1:Int)))),(4,(.vec 0 (0+k) (l.length - k))),(5,(.val (.int .i64 (a.2.2:Int))))]) (fun a=>[.vec 3 (a.1.map Ky.cv)]) (fun a=>a.1.length=l.length/\1<=a.2.2/\a.2.2<=l.length - k/\a.2.1<=k+a.2.2 - 1/\ddK (l.take (k+a.2.2))=a.1.take a.2.1/\∀ j,k+a.2.2 - 1<=j->a.1[j]? = l[j]?) (fun a=>l.length - a.2.2) (l,k,1) ⟨rfl,n_5 _,do_,do_,hstep,fun _ _=>rfl⟩ tu_ rfl ?_; intro ⟨m,p,q⟩ E1 ⟨hm,hq1,hq2,hp,hmd,hmj⟩;dsimp only at hm hq1 hq2 hp hmd hmj ⊢;refine z_77 ?_; refine cY (y_len_vec rfl tt rfl t_5 rfl rfl) ?_; refine z_64 ?_; refine cC (fun h4=>?_) fun h4=>?_
    ·have hlt2:q < l.length - k:=by simp at h4; omega
     obtain ⟨z,hz⟩:∃ z,l[k+q]? = some z:=⟨l[k+q]'om_,si_⟩;obtain ⟨u,hu⟩:∃ u,l[k+q - 1]? = some u:=⟨l[k+q - 1]'om_,si_⟩;have hzm:m[k+q]? = some z:=(hmj _ om_).trans hz;have hum:m[k+q - 1]? = some u:=(hmj _ om_).trans hu;have hst2:=dd_step hu (by rw [Nat.sub_add_cancel om_]; exact hz);rw [show k+q - 1+2=k+(q+1) by omega,show k+q - 1+1=k+q by omega,hmd] at hst2;refine z_20 ?_; refine cw_seq ?_; refine cw_draw 10 [0,0,3,7,0,0,32,112,240,511] q_289 q_289 rfl ?_; refine z_163 ?_; refine hY q_111 ?_; refine hY (y_load_e rfl tt rfl t_41 t_4 rfl (vget (rows_get hzm) om_) (nb rfl)) ?_; refine z_163 ?_; refine hY q_253 ?_; refine hY q_111 ?_; refine hY (y_load_e rfl tt rfl t_41 t_4 rfl (vget (rows_get hum) om_) (nb rfl)) ?_; refine hY (y_nes rfl tt tt (xs:=[.int .i64 z.k,.string (str z.a),.string (str z.b)]) (ys:=[.int .i64 u.k,.string (str u.a),.string (str u.b)]) rfl rfl t_91 (eq_ky z u)) ?_; refine z_79 ?_; refine cC (fun h5=>?_) fun h5=>?_
     ·have hzu:¬ u=z:=by
       have h5':¬ z=u:=by simpa using h5
       exact fun e=>h5' e.symm
      rw [if_neg hzu] at hst2;obtain ⟨o,ho⟩:∃ o,m[p]? = some o:=⟨m[p]'om_,si_⟩;refine z_49 ?_; refine cY q_246 ?_; refine cY q_111 ?_; refine cY (y_load_e rfl tt rfl t_41 t_4 rfl (vget (rows_get hzm) om_) (nb rfl)) ?_; refine cY q_111 ?_;refine cD (d_store_e' ((m.set p z).map Ky.cv) rfl tt tt rfl q_269 t_4 q_288 rfl (vget (rows_get ho) om_) rfl (nb rfl) (by rw [show 0+(p:Int).toNat=p by omega,List.map_set]; rfl) rfl ?_);refine co_nil ?_; refine z_116 ?_; refine z_116 ?_;exact ⟨(m.set p z,p+1,q+1),do_,⟨by simpa using hm,do_,do_,do_,by dsimp only; rw [hst2,n_50,List.take_set_of_le (n_5 _),n_76 om_]; rfl,fun j hj=>by dsimp only at hj; rw [n_42 om_]; exact hmj j om_⟩,tu_,rfl⟩
     ·have hzu:u=z:=by
       have h5':z=u:=by simpa using h5
       exact h5'.symm
      rw [if_pos hzu] at hst2;refine z_164 ?_;exact ⟨(m,p,q+1),do_,⟨hm,do_,do_,do_,hst2,fun j hj=>by dsimp only at hj; exact hmj j om_⟩,tu_,rfl⟩
    ·have hge2:q=l.length - k:=by simp at h4; omega
     subst hge2;rw [show k+(l.length - k)=l.length by omega,n_55] at hmd;have hpl:(m.take p).length=p:=by rw [n_46]; omega
     have hdl:(ddK l).length=p:=by rw [hmd,hpl]
     refine cw_exit ?_; refine z_6 ?_; refine cY (y_slice_v (l:=p) rfl tt rfl t_5 t_4 rfl q_267 rfl q_211 q_287) ?_;refine cD (d_clear' ((m.take p++List.replicate (l.length - p) zK).map Ky.cv) rfl tt rfl t_5 t_11 rfl (oneB_or rfl) rfl rfl q_287 (by rw [n_62,List.map_replicate]; unfold spliceR; rw [n_34 q_287,n_32,n_10,<- List.map_take]; rfl) rfl ?_);refine z_146 ?_; refine cY (y_slice_v (h:=p) rfl tt rfl t_5 t_4 rfl rfl q_267 q_211 q_287) ?_; refine z_5 ?_;exact ⟨_,res1 rfl tt q_269,⟨List.replicate (l.length - p) zK,by rw [hdl]; rfl,by rw [hmd]; rfl,tt⟩⟩
   ·have hyx:¬ x=y:=by
     have h3':¬ y=x:=by simpa using h3
     exact fun e=>h3' e.symm
    rw [if_neg hyx] at hstep;refine z_164 ?_;exact ⟨k+1,om_,⟨om_,om_,by rw [hstep,n_50,hy]; rfl⟩,tu_,rfl⟩
  ·have hge2:k=l.length:=by simp at h2; omega
   subst hge2;rw [n_55] at hd;refine z_170 ?_;exact ⟨_,res1 rfl tt q_269,⟨[],by rw [hd],by rw [hd]; simp,tt⟩⟩
theorem cp_nil_K_s  (σ:List CObj):CCalls CC 129 [(.list (([]:List Ky).map Ky.cv) false none)] σ fun r σ'=>r = .ret (.list (([]:List Ky).map Ky.cv) false none)/\σ'=σ:=by
 refine CCalls.anyw hCC pu_ pu_ ?_ σ;refine ccalls_val (ccalls_of Tryz.func129 rfl rfl ?_);refine z_54 ?_; refine cY q_105 ?_; refine z_12 ?_; refine cC (fun h1=>?_) fun h1=>?_
 ·refine z_2 ?_;exact z_151
 ·exfalso;simp at h1
theorem cp_Compact (l:List Ky) (hl:l.length<=1000000) {σ:List CObj} {q:Nat} (hq:σ[q]? = some (.vec 3 (l.map Ky.cv))):CCalls CC 129 [.vec q 0 l.length] σ fun r τ=>∃ rest:List Ky,r = .ret (.vec q 0 (ddK l).length)/\τ=σ.set q (.vec 3 ((ddK l++rest).map Ky.cv))/\True :=
 ccalls_vec (α:=List Ky) (g:=fun _=>false) (rows':=fun rest=>(ddK l++rest).map Ky.cv) (off:=fun _=>0) (len:=fun _=>(ddK l).length) (P:=fun _=>True) hCC (pure_vkeys l) (args:=[]) (fun a h=>by cases h) (fun _ _=>pure_vkeys _)
  ((cp_Compact0 l hl).mono fun r τ ⟨rest,h1,h2,_⟩=>⟨rest,by subst h1 h2; exact ⟨[0],rfl,rfl,.ret (.vec rfl),.inr ⟨_,rfl,.same rfl (old_vkeys _ _)⟩,tt⟩,tt⟩) hq
theorem sl_SortNone (nn:Bool) (σ:List CObj):CCalls CC 127 [.list [] nn none,.val (.func (.func 128) #[] #[])] σ fun r τ=>r = .ret (.tup [])/\τ=σ:=fun M w vs hr hn hx=>by
 have hs:vs.size=2:=hn;obtain ⟨v,v2,rfl⟩:∃ v v2,vs = #[v,v2]:=⟨vs[0]'om_,vs[1]'om_,Array.ext (by simp [hs]) fun i h1 h2=>by
  have:i=0\/i=1:=by omega
  rcases this with rfl | rfl <;> simp⟩
 have h0:RV M w (.list [] nn none) v:=hx 0 _ rfl;cases h0 with
 | list vals g1 g2 g3 g4 g5 g6 g7 g8 g9 g10 =>
  refine (Go.Proofs.AnyF.slices_SortFunc_none Tryz.sortKey _ _ v2 w).mono fun e w' ⟨he,hw⟩=>?_; subst he hw;exact ⟨_,_,M,Ext.refl M w',hr,.tup rfl (fun i c h=>by simp at h),rfl,rfl⟩
def setF (l:List Ky):List Ky:=ddK (srtF cmpK l)
theorem fa_Set_nil_s  (σ:List CObj):CCalls CC 76 [(.list (([]:List Ky).map Ky.cv) false none)] σ fun r σ'=>r = .ret (.list (([]:List Ky).map Ky.cv) false none)/\σ'=σ:=by
 refine CCalls.anyw hCC pu_ pu_ ?_ σ;refine ccalls_val (ccalls_of Tryz.func76 rfl rfl ?_);refine z_66 ?_; refine cY (y_callf rfl Tryz.call126 ⟨tt,tt⟩ (clone_nil_K_s _) rfl) ?_; refine z_38 ?_; refine cY (y_callf rfl Tryz.call127 q_296 (sl_SortNone false _) rfl) ?_; refine z_33 ?_; refine cY (y_callf rfl Tryz.call129 ⟨tt,tt⟩ (cp_nil_K_s _) rfl) ?_;exact z_151
theorem fa_Set0 (l:List Ky) (hne:l≠[]) (hl:l.length<=1000000):CCalls CC 76 [(.list (l.map Ky.cv) true none)] [] fun r σ'=>∃ extra c c',σ'=[]++extra/\r = .ret c/\Cls 0 σ' c c'/\c' = .list ((setF l).map Ky.cv) true none:=by
 have hsl:(srtF cmpK l).length=l.length:=n_119 _;refine (ccalls_of Tryz.func76 rfl rfl ?_);refine z_66 ?_;refine cD (d_callv rfl Tryz.call126 ⟨tt,tt⟩ (clone_vec_K l hne hl _) rfl ?_);intro _ _; refine z_38 ?_;refine cD (d_callv rfl Tryz.call127 q_296 (sl_SortKeys hne hl rfl) rfl ?_);intro _ _; refine z_33 ?_;refine cD (d_callv rfl Tryz.call129 ⟨tt,tt⟩ ((by rw [<- hsl]; exact cp_Compact (srtF cmpK l) om_ rfl)) rfl ?_);intro rest _; refine z_5 ?_;exact ⟨_,res1 rfl tt q_269,⟨_,_,_,rfl,rfl,(.vecs (n_3 _) rfl si_ (by simp; rfl) (pure_vkeys (setF l))),rfl⟩⟩
theorem fa_Set (l:List Ky) (hl:l.length<=1000000) (σ:List CObj):CCalls CC 76 [(.list (l.map Ky.cv) (gnn l.length) none)] σ fun r τ=>r = .ret (.list ((setF l).map Ky.cv) (gnn (setF l).length) none)/\τ=σ:=by
 by_cases h:l=[]
 ·subst h;rw [show setF []=[] by simp [setF,srtF,ddK]];exact fa_Set_nil_s σ
 ·rw [gnn_ne h];have hn:setF l≠[]:=by
   intro e;have hd:∀ m:List Ky,m≠[]->ddK m≠[]:=by
    intro m
    induction m with
    | nil=>intro h; exact absurd rfl h
    | cons a m ih =>
     intro _;cases m with
     | nil=>simp [ddK]
     | cons b m =>
      rw [dd_cc]
      split
      ·exact ih si_
      ·simp
   exact hd (srtF cmpK l) (fun e2=>h (List.length_eq_zero_iff.1 (by rw [<- n_119 (l:=l) (le:=fun x y=>!(Go.Proofs.ltOf cmpK) y x)]; exact congrArg List.length e2))) e
  rw [gnn_ne hn];exact CCalls.anyw (args:=[.list (l.map Ky.cv) true none]) hCC ⟨pure_keys _ _,tt⟩ (pure_keys _ _) ((ccalls_close (fa_Set0 l h hl)).mono fun r τ ⟨⟨c,h1,h2⟩,h3⟩=>⟨by rw [h1,h2],h3⟩) σ
def SrtK (l:List Ky):Prop:=l.Pairwise fun x y=>ltK x y=true
theorem srtK_ext {a b:List Ky} (ha:SrtK a) (hb:SrtK b) (h:∀ x,x∈a↔x∈b):a=b:=by
 have nd:∀ {l:List Ky},SrtK l->l.Nodup:=fun hl=>hl.imp fun {x y} hxy e=>by
  subst e;rw [ltK_irr] at hxy;cases hxy
 refine List.Perm.eq_of_pairwise (le:=fun x y=>ltK x y=true) (fun x y _ _ h1 h2=>?_) ha hb ((n_132 (nd ha) (nd hb)).2 h);have:=ltK_trans h1 h2;rw [ltK_irr] at this;cases this
theorem insK_cons (y k:Ky) (l:List Ky):insK (y::l) k=if ltK y k=true then y::insK l k else if y=k then y::l else k::y::l:=by
 unfold insK;rw [show insI k (y::l)=if ltK y k=true then insI k l+1 else 0 from rfl];by_cases h:ltK y k=true
 ·simp only [h,if_true,n_118,n_58,List.drop_succ_cons]
  split <;> simp
 ·simp only [h,if_false,n_74,n_91,Option.some.injEq,List.take_zero,n_70,n_33]
theorem insK_mem {k x:Ky}:∀ {l:List Ky},x∈insK l k↔x=k\/x∈l
 | []=>by simp [insK,insI]
 | y::l=>by
  have ih:=insK_mem (k:=k) (x:=x) (l:=l);rw [insK_cons]
  split
  ·rw [n_13,ih,n_13];constructor
   ·rintro (h | h | h)
    ·exact .inr (.inl h)
    ·exact .inl h
    ·exact .inr (.inr h)
   ·rintro (h | h | h)
    ·exact .inr (.inl h)
    ·exact .inl h
    ·exact .inr (.inr h)
  ·split
   ·rename_i h; subst h;rw [n_13];constructor
    ·exact .inr
    ·rintro (h | h)
     ·exact .inl h
     ·exact h
   ·rw [n_13]
theorem insK_srt {k:Ky}:∀ {l:List Ky},SrtK l->SrtK (insK l k)
 | [],_=>by simp [insK,insI,SrtK]
 | y::l,h=>by
  obtain ⟨h1,h2⟩:=n_41.1 h;rw [insK_cons]
  split
  ·rename_i hy;refine n_41.2 ⟨fun x hx=>?_,insK_srt h2⟩
   rcases insK_mem.1 hx with rfl | hx
   ·exact hy
   ·exact h1 x hx
  ·rename_i hy
   split
   ·exact h
   ·rename_i hne;have hk:ltK k y=true:=by
     cases e:ltK k y
     ·exact absurd (ltK_tot (by simpa using hy) e) hne
     ·rfl
    refine n_41.2 ⟨fun x hx=>?_,h⟩
    rcases n_13.1 hx with rfl | hx
    ·exact hk
    ·exact ltK_trans hk (h1 x hx)
theorem setK_spec (l:List Ky):SrtK (setK l)/\∀ x,x∈setK l↔x∈l:=by
 have h:∀ (l a:List Ky),SrtK a->SrtK (l.foldl insK a)/\∀ x,x∈l.foldl insK a↔x∈a\/x∈l:=by
  intro l
  induction l with
  | nil=>intro a ha; exact ⟨ha,fun x=>by simp⟩
  | cons y l ih =>
   intro a ha;obtain ⟨h1,h2⟩:=ih (insK a y) (insK_srt ha);refine ⟨h1,fun x=>?_⟩;rw [n_116,h2,insK_mem,n_13];constructor
   ·rintro ((h | h) | h)
    ·exact .inr (.inl h)
    ·exact .inl h
    ·exact .inr (.inr h)
   ·rintro (h | h | h)
    ·exact .inl (.inr h)
    ·exact .inl (.inl h)
    ·exact .inr h
 obtain ⟨h1,h2⟩:=h l [] List.Pairwise.nil;exact ⟨h1,fun x=>by rw [setK,h2]; simp⟩
theorem ddK_mem {x:Ky}:∀ {l:List Ky},x∈ddK l↔x∈l
 | []=>by simp [ddK]
 | [a]=>by simp [ddK]
 | a::b::l=>by
  have ih:=ddK_mem (x:=x) (l:=b::l);rw [dd_cc]
  split
  ·rename_i h; subst h;rw [ih]; simp
  ·rw [n_13,ih]; simp
theorem ddK_srt:∀ {l:List Ky},(l.Pairwise fun x y=>ltK y x=false)->SrtK (ddK l)
 | [],_=>.nil
 | [a],_=>List.pairwise_singleton _ _
 | a::b::l,h=>by
  obtain ⟨h1,h2⟩:=n_41.1 h;have ih:=ddK_srt h2;rw [dd_cc]
  split
  ·exact ih
  ·rename_i hne;refine n_41.2 ⟨fun y hy=>?_,ih⟩;have hy':=ddK_mem.1 hy;cases e:ltK a y
   ·have ea:=ltK_tot e (h1 y hy');subst ea
    rcases n_13.1 hy' with e2 | hl
    ·exact absurd e2 hne
    ·have h3:=(n_41.1 h2).1 a hl;have h4:=h1 b n_83;exact absurd (ltK_tot h3 h4) hne
   ·rfl
theorem setF_setK (l:List Ky):setF l=setK l:=by
 obtain ⟨h1,h2⟩:=setK_spec l;refine srtK_ext (ddK_srt ?_) h1 fun x=>?_
 ·have hp:=n_138 (le:=fun x y=>!(Go.Proofs.ltOf cmpK) y x) (fun a b c h k=>?_) (fun a b=>?_) l
  ·exact hp.imp fun {x y} h=>by simpa [ltOf_K] using h
  ·simp only [Bool.not_eq_true',ltOf_K] at *;exact (show ltK c a=false from by
    rw [<- ltOf_K] at *;exact swo_K.ntrans c b a k h)
  ·simp only [n_39,Bool.not_eq_true',ltOf_K];cases e:ltK b a
   ·exact .inl rfl
   ·right
    cases e2:ltK a b
    ·rfl
    ·have:=ltK_trans e e2;rw [ltK_irr] at this; cases this
 ·rw [h2,setF,ddK_mem];exact (n_124 _ _).mem_iff
def diffK:List Ky->List Str->List Str->List Ky
 | k::l,x::xs,y::ys=>if x=y then diffK l xs ys else k::diffK l xs ys
 | _,_,_=>[]
theorem diffK_step {xs ys:List Str} {x y:Str} (hk:l[i]? = some k) (hx:xs[i]? = some x) (hy:ys[i]? = some y):diffK (l.drop i) (xs.drop i) (ys.drop i)=(if decide (x≠y)=true then [k] else [])++diffK (l.drop (i+1)) (xs.drop (i+1)) (ys.drop (i+1)):=by
 obtain ⟨h1,rfl⟩:=n_1.1 hk;obtain ⟨h2,rfl⟩:=n_1.1 hx;obtain ⟨h3,rfl⟩:=n_1.1 hy;rw [n_25 h1,n_25 h2,n_25 h3,diffK];by_cases h:xs[i]=ys[i]
 ·rw [if_pos h]; simp [h]
 ·rw [if_neg h]; simp [h]
abbrev aSt (fl:List Fi) (nn:Bool) (ev:List Va) (en:Bool) (fs:List Fi) (ns:Bool) (ew:List Va) (ne:Bool) (L:List Ky) (x y:List Str) (out:List Ky) (p:Nat):List CObj:=[.box (revC fl nn),.box (envC ev en),.box (revC fs ns),.box (envC ew ne),.dead,.dead,.dead,.box [.list (L.map Ky.cv) (gnn L.length) none],.box [.list (x.map scv) (gnn x.length) none],.box [.list (y.map scv) (gnn y.length) none],.box [.list (out.map Ky.cv) (gnn out.length) (gtok out.length p)]]
theorem ed_clo (fl:List Fi) (nn:Bool) (ev:List Va) (en:Bool) (fs:List Fi) (ns:Bool) (ew:List Va) (ne:Bool) {L:List Ky} {x y:List Str} (out:List Ky) (i:Nat) (hk:L[i]? = some k) {u v:Str} (hx:x[i]? = some u) (hy:y[i]? = some v) (hol:out.length<=1000000):CCalls CC 81 ([(.val (.int .i64 (i:Int)))]++[.ptr 8 0,.ptr 9 0,.ptr 10 0,.ptr 7 0]) (aSt fl nn ev en fs ns ew ne L x y out 11++[gobj out.length]) fun r τ=>∃ g:Bool,r = .ret (.tup [])/\τ=(if g=true then aSt fl nn ev en fs ns ew ne L x y (out++[k]) 12++[.dead,gobj (out++[k]).length] else aSt fl nn ev en fs ns ew ne L x y out 11++[gobj out.length])/\g=decide (u≠v):=by
 refine (ccalls_of Tryz.func81 rfl rfl ?_);refine cw_seq ?_; refine cw_draw 9 [0,0,3,7,0,0,48,112,255] q_289 q_289 rfl ?_; refine hY q_228 ?_; refine hY q_246 ?_; refine hY (y_index rfl tt tt rfl rfl t_2 t_0 om_ (rows_get hx) rfl) ?_; refine hY q_247 ?_; refine hY q_228 ?_; refine hY q_246 ?_; refine hY q_96 ?_; refine hY q_247 ?_; refine hY q_234 ?_; refine z_79 ?_; refine cC (fun h1=>?_) fun h1=>?_
 ·have hne:decide (u≠v)=true:=by simpa using h1
  refine cw_draw 6 [0,0,0,6,14,30,63,127] q_289 q_289 rfl ?_; refine hY q_233 ?_; refine hY q_233 ?_; refine hY q_246 ?_; refine hY (y_index rfl tt tt rfl rfl t_5 t_4 om_ (rows_get hk) rfl) ?_; refine hY q_192 ?_; refine hY (y_lit [Ky.cv k] rfl ⟨tt,tt⟩ t_5 t_4 t_11 rfl rfl rfl rfl rfl rfl rfl rfl rfl) ?_; refine ch_nil ?_;refine cD (d_appu rfl tt tt rfl si_ q_19 t_5 t_4 t_30 t_11 rfl (.inr rfl) q_21 q_79 q_226 ((out++[k]).map Ky.cv) (out++[k]).length (by rw [n_62]; rfl) si_ ?_);refine cD (d_store rfl tt tt rfl q_269 t_157 (.inl rfl) rfl rfl (nb rfl) ?_);refine co_nil ?_;exact ⟨_,res_all (rs:=[]) (cs:=[]) rfl tt (n_2 rfl),⟨true,rfl,rfl,hne.symm⟩⟩
 ·have hne:decide (u≠v)=false:=by simpa using h1
  refine cw_skip ?_;exact ⟨_,res_all (rs:=[]) (cs:=[]) rfl tt (n_2 rfl),⟨false,rfl,rfl,hne.symm⟩⟩
theorem old_caps:Old 11 (.clo 81 [.ptr 8 0,.ptr 9 0,.ptr 10 0,.ptr 7 0]):=.clo fun i c hc=>by
 rcases i with _ | _ | _ | _ | i <;> first|(injection hc with hc; subst hc; exact .ptr (nb rfl)) | cases hc
noncomputable def allS (fl:List Fi) (ev:List Va) (fs:List Fi) (ew:List Va):Option (List Ky) :=
 if (contS fl ev []).isSome=true/\(contS fs ew []).isSome=true then (contS fl ev (setF (KU fl++KU fs++(ev.map varK++ew.map varK)))).bind fun x=>(contS fs ew (setF (KU fl++KU fs++(ev.map varK++ew.map varK)))).map fun y=>diffK (setF (KU fl++KU fs++(ev.map varK++ew.map varK))) x y else none
def allR (o:Option (List Ky)):CV:=.tup [.list ((o.getD []).map Ky.cv) (gnn (o.getD []).length) none,.val (.int .i64 (if o.isSome then 0 else 1))]
theorem cont_len {k:List Ky} {l:List Str} (h:contS fl ev k=some l):l.length=k.length:=by rw [cont_some h,n_17]
theorem setF_ext {a b:List Ky} (h:∀ x,x∈a↔x∈b):setF a=setF b:=by
 rw [setF_setK,setF_setK];exact srtK_ext (setK_spec a).1 (setK_spec b).1 fun x=>by rw [(setK_spec a).2,(setK_spec b).2,h]
theorem setF_len (l:List Ky):(setF l).length<=l.length:=by rw [setF_setK]; exact setK_len l
theorem ed_All0 (fl:List Fi) (nn:Bool) (ev:List Va) (en:Bool) (fs:List Fi) (ns:Bool) (ew:List Va) (ne:Bool) (q1:KUok fl) (q2:KUok fs) (hv1:∀ v∈ev,v.n.length<=1000000000) (hr1:∀ v∈ev,-9223372036854775808<=v.v/\v.v<=9223372036854775807) (he1:ev.length<=10000) (hv2:∀ v∈ew,v.n.length<=1000000000) (hr2:∀ v∈ew,-9223372036854775808<=v.v/\v.v<=9223372036854775807) (he2:ew.length<=10000):CCalls CC 34 [.agg (revC fl nn),.agg (envC ev en),.agg (revC fs ns),.agg (envC ew ne)] [] fun r τ=>∃ _:Unit,ClsR 0 τ r (.ret (allR (allS fl ev fs ew)))/\True:=by
 have hnil:([]:List Ky).length<=1000000000:=n_3 _;have hnk:∀ k∈([]:List Ky),k.a.length<=1000000000/\k.b.length<=1000000000:=fun k hk=>by simp at hk
 refine (ccalls_of Tryz.func34 rfl rfl ?_);refine z_63 ?_;refine cD (d_box rfl tt q_269 q_288 ?_);refine cD (d_box rfl tt q_269 q_288 ?_);refine z_83 ?_; refine z_42 ?_; refine cY q_180 ?_; refine cY q_182 ?_; refine cY (y_callf rfl t_110 ⟨tt,tt,rfl,tt⟩ (fa_Contents fl nn q1.pl ev en hv1 hr1 om_ [] false hnil hnk _) rfl) ?_; refine z_96 ?_; refine z_208 ?_; refine cC (fun h1=>?_) fun h1=>?_
 ·have hc1:¬ (contS fl ev []).isSome=true:=by intro u; simp [u] at h1
  refine z_2 ?_; refine cY q_225 ?_; refine z_5 ?_;exact ⟨_,res_all (rs:=[.tmp 8,.tmp 9]) (cs:=[_,_]) rfl q_138 (n_2 rfl),(by rw [allS,if_neg (fun u=>hc1 u.1),if_neg hc1]; exact ⟨(),.ret (.tups ⟨.old (old_keys _ ([]:List Ky) _),.old (.val _),tt⟩),tt⟩)⟩
 ·have hc1:(contS fl ev []).isSome=true:=by
   cases hq:(contS fl ev []).isSome with
   | true=>rfl
   | false=>simp [hq] at h1
  refine z_9 ?_; refine z_124 ?_; refine cY q_182 ?_; refine cY (y_callf rfl t_110 ⟨tt,tt,rfl,tt⟩ (fa_Contents fs ns q2.pl ew ne hv2 hr2 om_ [] false hnil hnk _) rfl) ?_; refine z_96 ?_; refine z_208 ?_; refine cC (fun h2=>?_) fun h2=>?_
  ·have hc2:¬ (contS fs ew []).isSome=true:=by intro u; simp [u] at h2
   refine z_2 ?_; refine cY q_225 ?_; refine z_5 ?_;exact ⟨_,res_all (rs:=[.tmp 8,.tmp 9]) (cs:=[_,_]) rfl q_138 (n_2 rfl),(by rw [allS,if_neg (fun u=>hc2 u.2),if_neg hc2]; exact ⟨(),.ret (.tups ⟨.old (old_keys _ ([]:List Ky) _),.old (.val _),tt⟩),tt⟩)⟩
  ·have hc2:(contS fs ew []).isSome=true:=by
    cases hq:(contS fs ew []).isSome with
    | true=>rfl
    | false=>simp [hq] at h2
   refine z_9 ?_; refine cw_floatA [8] [] [0,1,3,4,2,5,6,7,8,9] 4 [0,0,3,0,0,31,63,127,0,511] [[2,3],[],[],[],[],[]] (hd1l:=[0,1,3,4]) (tll:=[(2,[2,3]),(5,[]),(6,[]),(7,[]),(8,[]),(9,[])]) q_289 q_289 q_289 ⟨⟨_,_,_,rfl,.inl ⟨_,_,rfl,t_109,rfl,(.inl rfl),rfl⟩,rfl,rfl⟩,tt⟩ rfl rfl rfl ?_; refine chf rfl q_128 ?_; refine chf rfl q_128 ?_; refine chf rfl q_129 ?_; refine chf rfl q_129 ?_; refine chf_nil ?_;refine cta_d rfl rfl rfl rfl (d_callv rfl Tryz.call77 q_286 (ed_unionK fl nn q1 fs ns q2 _) rfl ?_);intro l1 ⟨hm1,hl1⟩;refine ⟨⟨q_108,q_108,tt⟩,?_⟩;refine cta_d rfl rfl rfl rfl (d_callv rfl Tryz.call79 q_286 (ed_unionV ev en om_ ew ne om_ _) rfl ?_);intro _ _;obtain ⟨l,hl⟩:∃ l,l=l1++(ev.map varK++ew.map varK):=⟨_,rfl⟩;have hll:l.length<=100000:=by rw [hl,n_4,n_4,n_17,n_17]; omega
   have hset:setF (KU fl++KU fs++(ev.map varK++ew.map varK))=setF l:=setF_ext fun k=>by simp only [hl,n_18,hm1]
   have hLl:(setF l).length<=100000:=n_89 (setF_len l) hll;have hLb:(setF l).length<=1000000000:=by omega
   have hLk:∀ k∈setF l,k.a.length<=1000000000/\k.b.length<=1000000000:=fun k hk=>by
    rw [setF_setK,(setK_spec l).2,hl,n_18,n_18,hm1,n_18] at hk
    rcases hk with (hk | hk) | hk | hk
    ·exact q1.ky k hk
    ·exact q2.ky k hk
    ·obtain ⟨v,hv,rfl⟩:=n_9.1 hk;exact ⟨hv1 v hv,n_3 _⟩
    ·obtain ⟨v,hv,rfl⟩:=n_9.1 hk;exact ⟨hv2 v hv,n_3 _⟩
   have hAS:allS fl ev fs ew=(contS fl ev (setF l)).bind fun x=>(contS fs ew (setF l)).map fun y=>diffK (setF l) x y:=by rw [allS,if_pos ⟨hc1,hc2⟩,hset]
   refine ⟨tt,?_⟩;refine cta_d rfl rfl rfl rfl (d_appu rfl tt tt rfl si_ q_19 t_5 t_4 t_30 t_11 rfl (.inr rfl) q_21 q_79 q_226 (l.map Ky.cv) l.length (by rw [hl]; simp) (by rw [hl]; simp) ?_);refine ⟨tt,?_⟩;refine cta_h rfl rfl rfl (hop_y rfl (y_callf rfl Tryz.call76 ⟨tt,tt⟩ (fa_Set l om_ _) rfl)) ⟨tt,?_⟩;refine cta_a rfl rfl rfl rfl t_109 rfl (.inl rfl) ?_;refine ⟨tt,?_⟩;refine cta_d rfl rfl rfl rfl (d_store rfl tt tt rfl q_269 t_157 (.inl rfl) rfl rfl (nb rfl) ?_);refine ⟨tt,?_⟩;refine cta_nil ?_; refine z_124 ?_; refine cY q_182 ?_; refine cY q_233 ?_; refine cY (y_callf rfl t_110 q_286 (fa_Contents fl nn q1.pl ev en hv1 hr1 om_ (setF l) (gnn (setF l).length) hLb hLk _) rfl) ?_; refine z_58 ?_; refine z_187 ?_; refine z_118 ?_; refine cC (fun h3=>?_) fun h3=>?_
   ·have hx:contS fl ev (setF l)=none:=by
     cases hq:contS fl ev (setF l) with
     | none=>rfl
     | some _=>simp [hq] at h3
    refine z_2 ?_; refine cY q_225 ?_; refine z_5 ?_;exact ⟨_,res_all (rs:=[.tmp 8,.tmp 9]) (cs:=[_,_]) rfl q_138 (n_2 rfl),(by rw [ hAS,hx]; exact ⟨(),.ret (.tups ⟨.old (old_keys _ ([]:List Ky) _),.old (.val _),tt⟩),tt⟩)⟩
   ·obtain ⟨x,hx⟩:∃ x,contS fl ev (setF l)=some x:=by
     cases hq:contS fl ev (setF l) with
     | none=>simp [hq] at h3
     | some x=>exact ⟨x,rfl⟩
    rw [hx];have hxl:=cont_len hx;refine cw_norm [.box (revC fl nn),.box (envC ev en),.box (revC fs ns),.box (envC ew ne),.dead,gobj (ev.map varK++ew.map varK).length,gobj l.length,.box [.list ((setF l).map Ky.cv) (gnn (setF l).length) none],.box [.list (x.map scv) (gnn x.length) none]] rfl ?_; refine z_168 ?_; refine cY q_182 ?_; refine cY q_233 ?_; refine cY (y_callf rfl t_110 q_286 (fa_Contents fs ns q2.pl ew ne hv2 hr2 om_ (setF l) (gnn (setF l).length) hLb hLk _) rfl) ?_; refine z_58 ?_; refine z_187 ?_; refine z_118 ?_; refine cC (fun h4=>?_) fun h4=>?_
    ·have hy:contS fs ew (setF l)=none:=by
      cases hq:contS fs ew (setF l) with
      | none=>rfl
      | some _=>simp [hq] at h4
     refine z_2 ?_; refine cY q_225 ?_; refine z_5 ?_;exact ⟨_,res_all (rs:=[.tmp 8,.tmp 9]) (cs:=[_,_]) rfl q_138 (n_2 rfl),(by rw [ hAS,hx,hy]; exact ⟨(),.ret (.tups ⟨.old (old_keys _ ([]:List Ky) _),.old (.val _),tt⟩),tt⟩)⟩
    ·obtain ⟨y,hy⟩:∃ y,contS fs ew (setF l)=some y:=by
      cases hq:contS fs ew (setF l) with
      | none=>simp [hq] at h4
      | some y=>exact ⟨y,rfl⟩
     rw [hy];have hyl:=cont_len hy;refine cw_norm [.box (revC fl nn),.box (envC ev en),.box (revC fs ns),.box (envC ew ne),.dead,gobj (ev.map varK++ew.map varK).length,gobj l.length,.box [.list ((setF l).map Ky.cv) (gnn (setF l).length) none],.box [.list (x.map scv) (gnn x.length) none],.box [.list (y.map scv) (gnn y.length) none]] rfl ?_; refine z_46 ?_;refine cD (d_alloc rfl t_109 rfl (.inl rfl) ?_);refine z_48 ?_; refine cY (y_mkfunc rfl q_272) ?_; refine z_1 ?_; refine z_42 ?_; refine cY q_233 ?_; refine cY q_105 ?_; refine z_24 ?_; refine cw_loopr hCC 11 rfl (α:=Nat × List Ky) (fun a=>[(18,.ptr 10 0),(19,(.clo 81 [.ptr 8 0,.ptr 9 0,.ptr 10 0,.ptr 7 0])),(69,(.val (.int .i64 ((setF l).length:Int)))),(70,(.val (.int .i64 (a.1:Int))))]) (fun a=>aSt fl nn ev en fs ns ew ne (setF l) x y a.2 11++[gobj a.2.length]) (fun a=>a.1<=(setF l).length/\diffK (setF l) x y=a.2++diffK ((setF l).drop a.1) (x.drop a.1) (y.drop a.1)/\a.2.length<=a.1) (fun a=>(setF l).length - a.1) ⟨(0,[]),[0,1,2,3,4,5,6,7,8,9,10,99],⟨n_3 _,rfl,n_5 _⟩,⟨rfl,rfl⟩,q_17,⟨.inr ⟨_,rfl,.same rfl q_261⟩,.inr ⟨_,rfl,.same rfl q_262⟩,.inr ⟨_,rfl,.same rfl q_261⟩,.inr ⟨_,rfl,.same rfl q_262⟩,.inl rfl,.inl rfl,.inl rfl,.inr ⟨_,rfl,.same rfl (old_box ⟨old_keys _ _ _,tt⟩)⟩,.inr ⟨_,rfl,.same rfl q_259⟩,.inr ⟨_,rfl,.same rfl q_259⟩,.inr ⟨_,rfl,.same rfl (old_box ⟨old_keys _ ([]:List Ky) _,tt⟩)⟩,.inl rfl,tt⟩⟩ ?_; intro ⟨i,out⟩ ⟨hi,hr,hol⟩;dsimp only at hi hr hol ⊢;refine z_28 ?_; refine cC (fun h5=>?_) fun h5=>?_
     ·have hlt:i < (setF l).length:=by simp at h5; omega
      obtain ⟨k,hk⟩:∃ k,(setF l)[i]? = some k:=⟨(setF l)[i]'hlt,si_⟩;obtain ⟨u,hu⟩:∃ u,x[i]? = some u:=⟨x[i]'om_,si_⟩;obtain ⟨v,hv⟩:∃ v,y[i]? = some v:=⟨y[i]'om_,si_⟩;rw [diffK_step hk hu hv] at hr;refine z_113 ?_; refine z_257 ?_;refine cD (d_callclov rfl tt rfl Tryz.call81 ⟨tt,tt⟩ (ed_clo fl nn ev en fs ns ew ne out i hk hu hv om_) rfl ?_);intro g hg;rw [<- hg] at hr;cases g
      ·refine co_norm (aSt fl nn ev en fs ns ew ne (setF l) x y out 11++[gobj out.length]) rfl ?_; refine z_89 ?_;exact ⟨(i+1,out),[0,1,2,3,4,5,6,7,8,9,10,11],⟨do_,do_,by dsimp only; exact hr,do_⟩,⟨rfl,rfl⟩,q_17,⟨.inr ⟨_,rfl,.same rfl q_261⟩,.inr ⟨_,rfl,.same rfl q_262⟩,.inr ⟨_,rfl,.same rfl q_261⟩,.inr ⟨_,rfl,.same rfl q_262⟩,.inl rfl,.inl rfl,.inl rfl,.inr ⟨_,rfl,.same rfl (old_box ⟨old_keys _ _ _,tt⟩)⟩,.inr ⟨_,rfl,.same rfl q_259⟩,.inr ⟨_,rfl,.same rfl q_259⟩,.inr ⟨_,rfl,.box ⟨RenV.grow (f:=Ky.cv) (fun _=>⟨.val _,.val _,.val _,tt⟩) rfl,tt⟩⟩,.inr ⟨_,rfl,.same rfl q_292⟩,tt⟩⟩
      ·refine co_norm (aSt fl nn ev en fs ns ew ne (setF l) x y (out++[k]) 12++[.dead,gobj (out++[k]).length]) rfl ?_; refine z_89 ?_;exact ⟨(i+1,out++[k]),[0,1,2,3,4,5,6,7,8,9,10,12],⟨do_,do_,by dsimp only; rw [hr,n_8]; rfl,by dsimp only; rw [n_4,n_111]; omega⟩,⟨rfl,rfl⟩,q_17,⟨.inr ⟨_,rfl,.same rfl q_261⟩,.inr ⟨_,rfl,.same rfl q_262⟩,.inr ⟨_,rfl,.same rfl q_261⟩,.inr ⟨_,rfl,.same rfl q_262⟩,.inl rfl,.inl rfl,.inl rfl,.inr ⟨_,rfl,.same rfl (old_box ⟨old_keys _ _ _,tt⟩)⟩,.inr ⟨_,rfl,.same rfl q_259⟩,.inr ⟨_,rfl,.same rfl q_259⟩,.inr ⟨_,rfl,.box ⟨RenV.grow (f:=Ky.cv) (fun _=>⟨.val _,.val _,.val _,tt⟩) rfl,tt⟩⟩,.inr ⟨_,rfl,.same rfl q_292⟩,tt⟩⟩
     ·have hie:i=(setF l).length:=by simp at h5; omega
      rw [hie,n_110] at hr;replace hr:diffK (setF l) x y=out:=by rw [hr]; simp [diffK]
      refine z_90 ?_; refine cY q_233 ?_; refine z_109 ?_;exact ⟨_,res_all (rs:=[.tmp 8,.tmp 9]) (cs:=[_,_]) rfl q_138 (n_2 rfl),(by rw [hAS,hx,n_6,hy,n_71,hr]; exact ⟨(),.ret (.tups ⟨.tok (fun r hr c hc=>(rows_pure (f:=Ky.cv) (fun b=>Pures.all (ky_pures b)) _) r hr c hc),.old (.val _),tt⟩),tt⟩)⟩
theorem pure_allR (o:Option (List Ky)):Pure (allR o):=pure_tup (cs:=[_,_]) ⟨pure_keys _ _,.val _,tt⟩
theorem ed_All (fl:List Fi) (nn:Bool) (ev:List Va) (en:Bool) (fs:List Fi) (ns:Bool) (ew:List Va) (ne:Bool) (q1:KUok fl) (q2:KUok fs) (hv1:∀ v∈ev,v.n.length<=1000000000) (hr1:∀ v∈ev,-9223372036854775808<=v.v/\v.v<=9223372036854775807) (he1:ev.length<=10000) (hv2:∀ v∈ew,v.n.length<=1000000000) (hr2:∀ v∈ew,-9223372036854775808<=v.v/\v.v<=9223372036854775807) (he2:ew.length<=10000) (σ:List CObj):CCalls CC 34 [.agg (revC fl nn),.agg (envC ev en),.agg (revC fs ns),.agg (envC ew ne)] σ fun r τ=>r = .ret (allR (allS fl ev fs ew))/\τ=σ :=
 (ccalls_any (res:=fun _:Unit=>.ret (allR (allS fl ev fs ew))) (P:=fun _=>True) hCC (fun a h=>by simp at h; rcases h with rfl | rfl | rfl | rfl; exact pure_revq _ _; exact pure_envq _ _; exact pure_revq _ _; exact pure_envq _ _) (ed_All0 fl nn ev en fs ns ew ne q1 q2 hv1 hr1 he1 hv2 hr2 he2) (fun _ _=>pure_allR _) σ).mono fun r τ ⟨_,h1,h2,_⟩=>⟨h1,h2⟩
noncomputable def chS (fl fs:List Fi):Option (List Ky):=allS fl [] fs []
def pkF (l:List Ky):List Str:=(l.filter fun k=>k.k == 6).map Ky.a
theorem pkF_step (h:l[i]? = some y):pkF (l.drop i)=(if (y.k == 6)=true then [y.a] else [])++pkF (l.drop (i+1)):=by
 obtain ⟨h1,rfl⟩:=n_1.1 h;rw [n_25 h1];unfold pkF;rw [n_56]
 split <;> rfl
def pkR (o:Option (List Ky)):CV:=.tup [.list ((pkF (o.getD [])).map scv) (gnn (pkF (o.getD [])).length) none,.val (.int .i64 (if o.isSome then 0 else 1))]
theorem nov1:∀ v∈([]:List Va),v.n.length<=1000000000:=fun v h=>by simp at h
theorem nov2:∀ v∈([]:List Va),-9223372036854775808<=v.v/\v.v<=9223372036854775807:=fun v h=>by simp at h
theorem ed_AllC (fl:List Fi) (nn:Bool) (fs:List Fi) (ns:Bool) (q1:KUok fl) (q2:KUok fs) (σ:List CObj):CCalls CC 34 [.agg (revC fl nn),.agg (envC [] false),.agg (revC fs ns),.agg (envC [] false)] σ fun r τ=>r = .ret (allR (chS fl fs))/\τ=σ:=ed_All fl nn [] false fs ns [] false q1 q2 nov1 nov2 (n_3 _) nov1 nov2 (n_3 _) σ
theorem ed_Changed_s (fl:List Fi) (nn:Bool) (fs:List Fi) (ns:Bool) (q1:KUok fl) (q2:KUok fs) (σ:List CObj):CCalls CC 38 [(.agg (revC fl nn)),(.agg (revC fs ns))] σ fun r σ'=>r = .ret (allR (chS fl fs))/\σ'=σ:=by
 refine CCalls.anyw (args:=[_,_]) hCC ⟨pure_revq _ _,pure_revq _ _,tt⟩ (pure_allR _) ?_ σ;refine ccalls_val (ccalls_of Tryz.func38 rfl rfl ?_);refine z_63 ?_; refine z_83 ?_; refine z_124 ?_; refine cY q_68 ?_; refine cY q_180 ?_; refine cY q_68 ?_; refine cY (y_callf rfl Tryz.call34 q_272 (ed_AllC fl nn fs ns q1 q2 _) rfl) ?_; refine z_40 ?_; refine cY q_236 ?_; refine z_5 ?_;exact ⟨_,res_all (rs:=[.tmp 4,.tmp 5]) (cs:=[_,_]) rfl q_138 (n_2 rfl),_,_,rfl,rfl,(.old (pure_allR _).old)⟩
theorem ed_Packages0 (fl:List Fi) (nn:Bool) (fs:List Fi) (ns:Bool) (q1:KUok fl) (q2:KUok fs) (hcl:∀ l,chS fl fs=some l->l.length<=1000000):CCalls CC 45 [.agg (revC fl nn),.agg (revC fs ns)] [] fun r τ=>∃ _:Unit,ClsR 0 τ r (.ret (pkR (chS fl fs)))/\True:=by
 refine (ccalls_of Tryz.func45 rfl rfl ?_);refine z_63 ?_; refine z_83 ?_; refine z_124 ?_; refine cY q_180 ?_; refine cY (y_callf rfl t_111 q_296 (ed_Changed_s fl nn fs ns q1 q2 _) rfl) ?_; refine z_96 ?_; refine z_118 ?_; refine cC (fun h1=>?_) fun h1=>?_
 ·have hc:chS fl fs=none:=by
   cases hq:chS fl fs with
   | none=>rfl
   | some _=>simp [hq] at h1
  refine z_2 ?_; refine cY q_225 ?_; refine z_5 ?_;exact ⟨_,res_all (rs:=[.tmp 4,.tmp 5]) (cs:=[_,_]) rfl q_138 (n_2 rfl),(by rw [hc]; exact ⟨(),.ret (.tups ⟨.old (old_strs _ ([]:List Str) _),.old (.val _),tt⟩),tt⟩)⟩
 ·obtain ⟨l,hc⟩:∃ l,chS fl fs=some l:=by
   cases hq:chS fl fs with
   | none=>simp [hq] at h1
   | some l=>exact ⟨l,rfl⟩
  have hll:=hcl l hc;rw [hc];refine cw_skip ?_; refine z_54 ?_; refine cY q_105 ?_; refine z_24 ?_; refine cw_loopr hCC 2 rfl (α:=Nat × List Str) (fun a=>[(8,(.list (a.2.map scv) (gnn a.2.length) (gtok a.2.length 2))),(20,(.list (l.map Ky.cv) (gnn l.length) none)),(21,(.val (.int .i64 (l.length:Int)))),(22,(.val (.int .i64 (a.1:Int))))]) (fun a=>[.box (revC fl nn),.box (revC fs ns),gobj a.2.length]) (fun a=>a.1<=l.length/\pkF l=a.2++pkF (l.drop a.1)/\a.2.length<=a.1) (fun a=>l.length - a.1) ⟨(0,[]),[0,1,99],⟨n_3 _,rfl,n_5 _⟩,⟨rfl,rfl⟩,q_11,⟨.inr ⟨_,rfl,.same rfl q_261⟩,.inr ⟨_,rfl,.same rfl q_261⟩,.inl rfl,tt⟩⟩ ?_; intro ⟨i,out⟩ ⟨hi,hr,hol⟩;dsimp only at hi hr hol ⊢;refine z_28 ?_; refine cC (fun h2=>?_) fun h2=>?_
  ·have hlt:i < l.length:=by simp at h2; omega
   obtain ⟨y,hb⟩:∃ y,l[i]? = some y:=⟨l[i]'hlt,si_⟩;rw [pkF_step hb] at hr;refine z_41 ?_; refine cY (y_index rfl tt tt rfl rfl t_5 t_4 om_ (rows_get hb) rfl) ?_; refine cY q_192 ?_; refine z_102 ?_; refine z_48 ?_; refine cY q_168 ?_; refine cY q_238 ?_; refine z_12 ?_; refine cC (fun h3=>?_) fun h3=>?_
   ·rw [if_pos (by simpa using h3)] at hr;refine z_7 ?_; refine z_192 ?_; refine cY (y_lit [scv y.a] rfl ⟨tt,tt⟩ t_2 t_0 t_3 rfl rfl rfl rfl rfl rfl rfl rfl rfl) ?_;refine cD (d_appu rfl tt tt rfl si_ q_19 t_2 t_0 t_24 t_3 rfl (.inr rfl) q_21 q_81 q_226 ((out++[y.a]).map scv) (out++[y.a]).length (by rw [n_62]; rfl) si_ ?_);refine z_111 ?_;exact ⟨(i+1,out++[y.a]),[0,1,4],⟨do_,do_,by dsimp only; rw [hr,n_8],by dsimp only; rw [n_4,n_111]; omega⟩,⟨rfl,rfl⟩,q_9,⟨.inr ⟨_,rfl,.same rfl q_261⟩,.inr ⟨_,rfl,.same rfl q_261⟩,.inr ⟨_,rfl,.same rfl q_292⟩,tt⟩⟩
   ·rw [if_neg (by simpa using h3),n_33] at hr;refine z_51 ?_;exact ⟨(i+1,out),[0,1,2],⟨do_,do_,hr,do_⟩,⟨rfl,rfl⟩,q_9,⟨.inr ⟨_,rfl,.same rfl q_261⟩,.inr ⟨_,rfl,.same rfl q_261⟩,.inr ⟨_,rfl,.same rfl q_292⟩,tt⟩⟩
  ·have hie:i=l.length:=by simp at h2; omega
   rw [hie,n_110] at hr;replace hr:pkF l=out:=by rw [hr]; simp [pkF]
   refine z_65 ?_; refine z_109 ?_;exact ⟨_,res_all (rs:=[.tmp 4,.tmp 5]) (cs:=[_,_]) rfl q_138 (n_2 rfl),(by exact ⟨(),.ret (.tups ⟨(show Cls _ _ _ (.list ((pkF l).map scv) (gnn (pkF l).length) none) from hr ▸ .tok (fun r hr c hc=>(rows_pure (f:=scv) (fun _=>Pures.all ⟨.val _,tt⟩) _) r hr c hc)),.old (.val _),tt⟩),tt⟩)⟩
theorem pure_pkR (o:Option (List Ky)):Pure (pkR o):=pure_tup (cs:=[_,_]) ⟨pure_strs _ _,.val _,tt⟩
theorem ed_Packages (fl:List Fi) (nn:Bool) (fs:List Fi) (ns:Bool) (q1:KUok fl) (q2:KUok fs) (hcl:∀ l,chS fl fs=some l->l.length<=1000000) (σ:List CObj):CCalls CC 45 [.agg (revC fl nn),.agg (revC fs ns)] σ fun r τ=>r = .ret (pkR (chS fl fs))/\τ=σ :=
 (ccalls_any (res:=fun _:Unit=>.ret (pkR (chS fl fs))) (P:=fun _=>True) hCC (fun a h=>by simp at h; rcases h with rfl | rfl; exact pure_revq _ _; exact pure_revq _ _) (ed_Packages0 fl nn fs ns q1 q2 hcl) (fun _ _=>pure_pkR _) σ).mono fun r τ ⟨_,h1,h2,_⟩=>⟨h1,h2⟩
def srcOf (f:Fi):Option Src:=if srcPB f.p=true then parseS f.b else none
def deK (x:Src) (d:De):Nm:=keyNm d.k x.pkg d.name
def occ1 (q:Nm) (f:Fi):List (Src × De):=match srcOf f with
 | none=>[]
 | some x=>(x.decls.filter fun d=>decide (deK x d=q)).map fun d=>(x,d)
def occ (q:Nm) (fl:List Fi):List (Src × De):=fl.flatMap (occ1 q)
noncomputable def occT:List (Src × De)->Str
 | []=>[45]
 | [(x,d)]=>[61]++textT x d
 | _=>[63]
def EntO (ms:SM) (o:Option En):List (Src × De)->Prop
 | []=>o=none
 | (x,d)::t=>∃ e,o=some e/\e.ct=1+(t.length:Int)/\glk ms e.pl=some x/\0<=e.ix/\x.decls[e.ix.toNat]? = some d
theorem EntO.add {O:Nm->List (Src × De)} (h:∀ q,EntO ms (glk me q) (O q)) {path:Str} {x:Src} {d:De} (hg:glk ms path=some x) (hd:x.decls[i]? = some d) (q:Nm):EntO ms (glk (addE me ⟨x.pkg,d.name,d.k,path,(i:Int),1⟩) q) (O q++if deK x d=q then [(x,d)] else []):=by
 rw [addE,glk_gput];show EntO ms (if q=keyNm d.k x.pkg d.name then _ else _) _;by_cases hq:deK x d=q
 ·rw [if_pos hq];subst hq;have h1:=h (deK x d);rw [if_pos (show deK x d=keyNm d.k x.pkg d.name from rfl)];cases hO:O (deK x d) with
  | nil =>
   rw [hO] at h1;have h1:glk me (keyNm d.k x.pkg d.name)=none:=h1;simp only [h1];exact ⟨_,rfl,rfl,hg,Int.natCast_nonneg _,by simpa using hd⟩
  | cons y t =>
   obtain ⟨y,z⟩:=y;rw [hO] at h1;obtain ⟨e,h2,h3,h4,h5,h6⟩:=h1;have h2:glk me (keyNm d.k x.pkg d.name)=some e:=h2;simp only [h2];refine ⟨_,rfl,?_,h4,h5,h6⟩;show e.ct+1=1+((t++[(x,d)]).length:Int);rw [h3,n_4];simp only [n_7,n_12];omega
 ·rw [if_neg hq,n_32];rw [if_neg (fun e=>hq e.symm)];exact h q
theorem EntO.addDs {ms:SM} {path:Str} {x:Src} (hg:glk ms path=some x):∀ (n k:Nat) (me:EM) (O:Nm->List (Src × De)),x.decls.length - k=n->(∀ q,EntO ms (glk me q) (O q))->∀ q,EntO ms (glk (addDs me path x.pkg (x.decls.drop k) k) q) (O q++(((x.decls.drop k).filter fun d=>decide (deK x d=q)).map fun d=>(x,d)))
 | 0,k,me,O,hn,h,q=>by
  rw [n_34 om_,Go.Proofs.YtlppbmfecjabeaaGreatDoor.addDs];simpa using h q
 | n+1,k,me,O,hn,h,q=>by
  obtain ⟨d,hd⟩:∃ d,x.decls[k]? = some d:=⟨x.decls[k]'om_,si_⟩;rw [addDs_step hd];have h1:=EntO.addDs hg n (k+1) _ _ om_ (fun q=>EntO.add h hg hd q) q;have hdr:x.decls.drop k=d::x.decls.drop (k+1):=by
   obtain ⟨hlt,rfl⟩:=n_1.1 hd;exact n_25 hlt
  rw [hdr,n_56];by_cases hq:deK x d=q
  ·rw [if_pos (by simpa using hq),n_65];rw [if_pos hq,n_8] at h1;exact h1
  ·rw [if_neg (by simpa using hq)];rw [if_neg hq,n_32] at h1;exact h1
theorem EntO.put {o:Option En} {l:List (Src × De)} {path:Str} {x:Src} (h:EntO ms o l) (hp:glk ms path=none):EntO (gput ms path x) o l:=by
 rcases l with _ | ⟨⟨y,d⟩,t⟩
 ·exact h
 ·obtain ⟨e,h1,h2,h3,h4⟩:=h;refine ⟨e,h1,h2,?_,h4⟩;rw [glk_gput,if_neg]
  ·exact h3
  ·intro he; rw [he,hp] at h3; cases h3
structure WRd (dn:List Fi) (ms:SM) (me:EM):Prop where
 src:∀ f∈dn,glk ms f.p=srcOf f
 non:∀ p,(∀ f∈dn,f.p≠p)->glk ms p=none
 ent:∀ q,EntO ms (glk me q) (occ q dn)
theorem WRd.step {dn:List Fi} {s:WS} (h:WRd dn s.2.1 s.2.2) (hf:∀ g∈dn,g.p≠f.p):WRd (dn++[f]) (wStep s f).2.1 (wStep s f).2.2:=by
 have hnone:=h.non f.p hf;have hocc:∀ q,occ q (dn++[f])=occ q dn++occ1 q f:=fun q=>by simp [occ]
 cases hs:srcOf f with
 | none =>
  have hw:(wStep s f).2=s.2:=by
   unfold wStep;unfold srcOf at hs
   split
   ·rename_i h1;rw [if_pos h1] at hs;rw [hs]
   ·rfl
  have e1:(wStep s f).2.1=s.2.1:=by rw [hw]
  have e2:(wStep s f).2.2=s.2.2:=by rw [hw]
  rw [e1,e2];refine ⟨fun g hg=>?_,fun p hp=>h.non p fun g hg=>hp g (by simp [hg]),fun q=>?_⟩
  ·rcases n_18.1 hg with hg | hg
   ·exact h.src g hg
   ·rw [n_96.1 hg,hs]; exact hnone
  ·rw [hocc,occ1,hs,n_32]; exact h.ent q
 | some x =>
  have hw:(wStep s f).2=(gput s.2.1 f.p x,addDs s.2.2 f.p x.pkg x.decls 0):=by
   unfold wStep;unfold srcOf at hs;split at hs
   ·rename_i h1;rw [if_pos h1,hs]
   ·cases hs
  have e1:(wStep s f).2.1=gput s.2.1 f.p x:=by rw [hw]
  have e2:(wStep s f).2.2=addDs s.2.2 f.p x.pkg x.decls 0:=by rw [hw]
  rw [e1,e2];refine ⟨fun g hg=>?_,fun p hp=>?_,fun q=>?_⟩
  ·rw [glk_gput]
   rcases n_18.1 hg with hg | hg
   ·rw [if_neg (hf g hg)]; exact h.src g hg
   ·rw [n_96.1 hg,if_pos rfl,hs]
  ·rw [glk_gput,if_neg (fun e=>hp f si_ e.symm)];exact h.non p fun g hg=>hp g (by simp [hg])
  ·rw [hocc,occ1,hs];have hg:glk (gput s.2.1 f.p x) f.p=some x:=by rw [glk_gput,if_pos rfl]
   have:=EntO.addDs hg _ 0 s.2.2 (fun q=>occ q dn) rfl (fun q=>(h.ent q).put hnone) q;simpa using this
theorem WRd.all:∀ {l dn:List Fi} {s:WS},WRd dn s.2.1 s.2.2->(l.Pairwise fun a b=>a.p≠b.p)->(∀ g∈dn,∀ f∈l,g.p≠f.p)->WRd (dn++l) (newF l s).2.1 (newF l s).2.2
 | [],dn,s,h,_,_=>by simpa [newF] using h
 | f::l,dn,s,h,hp,hd=>by
  have h1:=h.step (f:=f) fun g hg=>hd g hg f si_;obtain ⟨hp1,hp2⟩:=n_41.1 hp;have:=WRd.all (l:=l) h1 hp2 (fun g hg e he=>by
   rcases n_18.1 hg with hg | hg
   ·exact hd g hg e (by simp [he])
   ·rw [n_96.1 hg]; exact hp1 e he)
  rw [n_8] at this;exact this
theorem rv_ne (h:revE fl=0):fl.Pairwise fun a b=>a.p≠b.p:=by
 have h0:rvE none fl=0:=by
  unfold revE at h;split at h
  ·cases h
  ·exact h
 exact (rv_asc h0).2.imp fun {a b} hab he=>by rw [he] at hab; exact List.lt_irrefl _ hab
theorem newW_wr (h:revE fl=0):WRd fl (newW fl).2.1 (newW fl).2.2:=by
 have:=WRd.all (l:=fl) (dn:=[]) (s:=([],[],[])) ⟨fun f hf=>by simp at hf,fun p _=>rfl,fun q=>rfl⟩ (rv_ne h) (fun g hg=>by simp at hg);rw [newW,if_pos h];simpa using this
theorem findE_ct0 {k:Int} {o:Str} (h:glk me (keyNm k p o)=none):(findE true me k p o).ct=0:=by
 unfold findE;rw [if_pos rfl,h]
theorem declF_occ (h:revE fl=0) (k:Int) (p o:Str):declF (newW fl).2.1 (findE true (newW fl).2.2 k p o)=occT (occ (keyNm k p o) fl):=by
 have h1:=(newW_wr h).ent (keyNm k p o);cases hO:occ (keyNm k p o) fl with
 | nil =>
  rw [hO] at h1;unfold declF;rw [if_pos (findE_ct0 h1)];rfl
 | cons y t =>
  obtain ⟨x,d⟩:=y;rw [hO] at h1;obtain ⟨e,h2,h3,h4,h5,h6⟩:=h1;have he:findE true (newW fl).2.2 k p o=e:=by
   unfold findE;rw [if_pos rfl,h2]
  rw [he];unfold declF;rw [if_neg om_];cases t with
  | nil =>
   rw [if_pos (by simpa using h3)];unfold declT;rw [h4];simp only [n_6,h6,n_71,n_44];rfl
  | cons z t =>
   rw [if_neg (by rw [h3,n_7]; omega)];rfl
theorem ofNat_inj {n m:Nat} (hn:n < 256) (hm:m < 256) (h:UInt8.ofNat n=UInt8.ofNat m):n=m:=by
 have:=congrArg UInt8.toNat h;rw [UInt8.toNat_ofNat',UInt8.toNat_ofNat'] at this;have e1:n%2^8=n:=n_104 om_;have e2:m%2^8=m:=n_104 om_;omega
theorem putU_inj:∀ (n m:Nat) (r t:Str),putU n++r=putU m++t->n=m/\r=t:=fun n=>by
 induction n using Nat.strongRecOn with
 | ind n ih =>
  intro m r t h;rw [putU_step n,putU_step m] at h;split at h
  ·rename_i hn;split at h
   ·rename_i hm;simp only [n_48,n_33,List.cons.injEq] at h;exact ⟨ofNat_inj om_ om_ h.1,h.2⟩
   ·rename_i hm;simp only [n_48,n_33,List.cons.injEq] at h;have:=ofNat_inj om_ om_ h.1;omega
  ·rename_i hn;split at h
   ·rename_i hm;simp only [n_48,n_33,List.cons.injEq] at h;have:=ofNat_inj om_ om_ h.1;omega
   ·rename_i hm;simp only [n_48,List.cons.injEq] at h;have h1:=ofNat_inj om_ om_ h.1;obtain ⟨h2,h3⟩:=ih (n / 128) om_ (m / 128) r t h.2;exact ⟨om_,h3⟩
theorem putU_ne (n:Nat):putU n≠[]:=by
 rw [putU_step]
 split <;> simp
def encT (s:Str):Str:=putU s.length++s
theorem putT_enc (l s:Str):putT l s=l++encT s:=by unfold putT encT; rw [n_8]
theorem encT_inj {s' r r':Str} (h:encT s++r=encT s'++r'):s=s'/\r=r':=by
 unfold encT at h;rw [n_8,n_8] at h;obtain ⟨h1,h2⟩:=putU_inj _ _ _ _ h;exact List.append_inj h2 h1
theorem encT_ne (s:Str):encT s≠[]:=fun h=>putU_ne _ (List.append_eq_nil_iff.1 h).1
theorem treT_enc (ms:SM) (fl:List Fi):∀ (N:List Str) (l:Str),treT ms fl l N=l++N.flatMap fun s=>encT s++encT (filesC ms fl s)
 | [],l=>by simp [treT]
 | s::N,l=>by
  have:treT ms fl l (s::N)=treT ms fl (putT (putT l s) (filesC ms fl s)) N:=rfl;rw [this,treT_enc ms fl N,putT_enc,putT_enc,n_82];simp
theorem encN_inj {g g':Str->Str}:∀ {l m:List Str},(l.flatMap fun s=>encT s++encT (g s))=(m.flatMap fun s=>encT s++encT (g' s))->l=m/\∀ s∈l,g s=g' s
 | [],[],_=>⟨rfl,fun s hs=>by simp at hs⟩
 | [],f::m,h=>by
  rw [n_82,n_8] at h;exact absurd (List.append_eq_nil_iff.1 h.symm).1 (encT_ne _)
 | f::l,[],h=>by
  rw [n_82,n_8] at h;exact absurd (List.append_eq_nil_iff.1 h).1 (encT_ne _)
 | x::l,y::m,h=>by
  rw [n_82,n_82,n_8,n_8] at h;obtain ⟨h1,h2⟩:=encT_inj h;obtain ⟨h3,h4⟩:=encT_inj h2;obtain ⟨h5,h6⟩:=encN_inj h4;subst h1 h5;exact ⟨rfl,fun s hs=>by
   rcases n_13.1 hs with rfl | hs
   ·exact h3
   ·exact h6 s hs⟩
theorem nodup_of (P:Str->Prop):∀ l:List Str,∃ N:List Str,N.Nodup/\∀ n,n∈N↔n∈l/\P n
 | []=>⟨[],si_,fun n=>by simp⟩
 | x::l=>by
  obtain ⟨N,h1,h2⟩:=nodup_of P l;by_cases hx:P x/\x∉N
  ·refine ⟨x::N,List.nodup_cons.2 ⟨hx.2,h1⟩,fun n=>?_⟩;simp only [n_13,h2];constructor
   ·rintro (rfl | ⟨a,b⟩)
    ·exact ⟨.inl rfl,hx.1⟩
    ·exact ⟨.inr a,b⟩
   ·rintro ⟨rfl | a,b⟩
    ·exact .inl rfl
    ·exact .inr ⟨a,b⟩
  ·refine ⟨N,h1,fun n=>?_⟩;rw [h2,n_13];constructor
   ·rintro ⟨a,b⟩;exact ⟨.inr a,b⟩
   ·rintro ⟨rfl | a,b⟩
    ·exact (h2 n).1 (Classical.byContradiction fun h=>hx ⟨b,h⟩)
    ·exact ⟨a,b⟩
theorem treeNs_mem (ms:SM) (fl:List Fi) (pkg n:Str):n∈treeNs ms fl pkg↔Reach ms fl pkg n:=by
 obtain ⟨N,h1,h2⟩:=nodup_of (Reach ms fl pkg) (pkg::allI ms fl);have h3:∀ n,n∈N↔Reach ms fl pkg n:=fun n=>(h2 n).trans ⟨fun h=>h.2,fun h=>⟨reach_in h,h⟩⟩;rw [treeNs_eq h1 h3,<- h3];exact (n_124 N _).mem_iff
theorem treeC_inj {ms':SM} (h:treeC ms fl p=treeC ms' fs p):treeNs ms fl p=treeNs ms' fs p/\∀ s∈treeNs ms fl p,filesC ms fl s=filesC ms' fs s:=by
 unfold treeC at h;rw [treT_enc,treT_enc,n_33,n_33] at h;exact encN_inj (List.append_cancel_left h)
theorem rvE_ok:∀ {l:List Fi} {pv:Option Fi},(∀ f∈l,pathB f.p=true/\f.b.length<=16384)->SrtF l->(∀ g,pv=some g->∀ f∈l,Op.bytesLess g.p f.p=true)->rvE pv l=0
 | [],_,_,_,_=>rfl
 | f::l,pv,h,hs,hp=>by
  obtain ⟨h1,h2⟩:=n_41.1 hs;have hf:=h f si_;have e0:rvStep pv f=0:=by
   unfold rvStep;rw [if_neg (by rw [hf.1]; simp)];cases pv with
   | none =>
    rw [if_neg si_,if_neg si_,if_neg om_]
   | some g =>
    have hg:=hp g rfl f si_;have hne:¬ f.p=g.p:=fun e=>by rw [e,bl_irr] at hg; cases hg
    have hnl:¬ Op.bytesLess f.p g.p=true:=fun e=>by
     have:=bl_trans hg e;rw [bl_irr] at this; cases this
    rw [if_neg (by simpa using hne),if_neg (by simpa using hnl),if_neg om_]
  rw [rvE,if_pos e0];exact rvE_ok (fun g hg=>h g (by simp [hg])) h2 fun g hg=>by injection hg with hg; subst hg; exact h1
theorem path_all:∀ s∈madeAll,pathB s=true/\s.length<=1000:=by decide
theorem MadeR.valid (h:MadeR B fl) (hB:B<=16384):revE fl=0:=by
 have hl:=h.len;unfold revE;rw [if_neg om_];exact rvE_ok (fun f hf=>⟨(path_all _ (h.pth f hf)).1,n_89 (h.byt f hf) hB⟩) h.srt fun g hg=>by cases hg
theorem coarse_tree (h:contF fl (newW fl).2.1 (newW fl).2.2 ev ⟨7,p,[]⟩=contF fs (newW fs).2.1 (newW fs).2.2 ev ⟨7,p,[]⟩):contF fl (newW fl).2.1 (newW fl).2.2 ev ⟨6,p,[]⟩=contF fs (newW fs).2.1 (newW fs).2.2 ev ⟨6,p,[]⟩ :=
 (treeC_inj h).2 p ((treeNs_mem _ _ _ _).2 .base)
theorem gput_mem {α β:Type} [DecidableEq α] {a:α} {c:β} {x:α × β}:∀ {l:List (α × β)},x∈gput l a c->x=(a,c)\/x∈l
 | [],h=>.inl (by simpa [gput] using h)
 | (b,d)::l,h=>by
  rw [gput] at h;split at h
  ·rename_i hab;subst hab
   rcases n_13.1 h with h | h
   ·exact .inl h
   ·exact .inr (n_59 _ h)
  ·rcases n_13.1 h with h | h
   ·exact .inr (h ▸ n_83)
   ·exact (gput_mem h).imp id (n_59 _)
theorem gput_len {α β:Type} [DecidableEq α] {a:α} {c:β}:∀ {l:List (α × β)},(gput l a c).length<=l.length+1
 | []=>n_5 _
 | (b,d)::l=>by
  rw [gput]
  split
  ·simp
  ·have:=gput_len (a:=a) (c:=c) (l:=l); simp only [n_7]; omega
theorem glk_in {β:Type} [DecidableEq α] {l:List (α × β)} {a:α} {c:β} (h:glk l a=some c):(a,c)∈l:=by
 obtain ⟨i,hi,_⟩:=glk_some h;exact n_0 hi
structure EnV (q:Nm) (e:En):Prop where
 key:q=keyNm e.k e.p e.o
 kind:e.k=1\/e.k=2\/e.k=3
 pkg:nameB e.p=true
 own:e.k≠3->nameB e.o=true
 pth:e.k=3->pathB e.o=true
theorem addE_v {x:En} (hx:EnV (keyNm x.k x.p x.o) x) (h:∀ y∈me,EnV y.1 y.2):∀ y∈addE me x,EnV y.1 y.2:=fun y hy=>by
 unfold addE at hy
 rcases gput_mem hy with rfl | hy
 ·dsimp only
  split
  ·rename_i f hf;have:=h _ (glk_in hf);exact ⟨this.key,this.kind,this.pkg,this.own,this.pth⟩
  ·exact hx
 ·exact h y hy
theorem addDs_v {path pkg:Str} (hp:nameB pkg=true):∀ (l:List De) (k:Nat) (me:EM),(∀ d∈l,DeG d)->(∀ y∈me,EnV y.1 y.2)->(∀ y∈addDs me path pkg l k,EnV y.1 y.2)/\(addDs me path pkg l k).length<=me.length+l.length
 | [],k,me,_,h=>⟨h,n_5 _⟩
 | d::l,k,me,hd,h=>by
  have hg:=hd d n_83;obtain ⟨h1,h2⟩:=addDs_v hp l (k+1) (addE me ⟨pkg,d.name,d.k,path,k,1⟩) (fun e he=>hd e (n_59 _ he)) (addE_v ⟨rfl,hg.kind,hp,fun h3=>(hg.name h3).1,hg.path⟩ h);refine ⟨h1,n_89 h2 ?_⟩;have h3:(addE me ⟨pkg,d.name,d.k,path,k,1⟩).length<=me.length+1:=gput_len;rw [n_7];omega
structure WV (n:Nat) (s:WS):Prop where
 src:∀ x∈s.2.1,SrcG x.2
 ent:∀ x∈s.2.2,EnV x.1 x.2
 sl:s.2.1.length<=n
 el:s.2.2.length<=64*n
theorem WV.step {n:Nat} {s:WS} (h:WV n s) (f:Fi):WV (n+1) (wStep s f):=by
 unfold wStep;have hel:=h.el;have hsl:=h.sl
 split
 ·cases hp:parseS f.b with
  | none=>exact ⟨h.src,h.ent,Nat.le_succ_of_le hsl,do_⟩
  | some x =>
   have hx:=parseS_ok hp;obtain ⟨h1,h2⟩:=addDs_v (path:=f.p) hx.pkg.1 x.decls 0 s.2.2 hx.dec h.ent;have hd:=hx.decl;have:=gput_len (a:=f.p) (c:=x) (l:=s.2.1);refine ⟨fun y hy=>?_,h1,do_,do_⟩
   rcases gput_mem hy with rfl | hy
   ·exact hx
   ·exact h.src y hy
 ·exact ⟨h.src,h.ent,Nat.le_succ_of_le hsl,om_⟩
theorem newF_v:∀ {l:List Fi} {n:Nat} {s:WS},WV n s->WV (n+l.length) (newF l s)
 | [],n,s,h=>h
 | f::l,n,s,h=>by
  have:=newF_v (l:=l) (h.step f);rw [show n+1+l.length=n+(f::l).length by simp; omega] at this;exact this
theorem newW_v (fl:List Fi):WV fl.length (newW fl):=by
 unfold newW
 split
 ·simpa using newF_v (l:=fl) (n:=0) (s:=([],[],[])) ⟨fun x h=>by simp at h,fun x h=>by simp at h,n_5 _,n_5 _⟩
 ·exact ⟨fun x h=>by simp at h,fun x h=>by simp at h,n_3 _,n_3 _⟩
theorem enKy_ok {q:Nm} {e:En} (h:EnV q e):keyB (enKy e)=true:=by
 unfold enKy
 rcases h.kind with hk | hk | hk
 ·rw [if_pos hk]; simp [keyB,h.pkg,h.own om_]
 ·rw [if_neg om_,if_pos hk]; simp [keyB,h.pkg,h.own om_]
 ·rw [if_neg om_,if_neg om_]; simp [keyB,h.pth hk]
theorem srcK_ok {x:Src} (h:SrcG x):∀ k∈srcK x,keyB k=true:=fun k hk=>by
 obtain ⟨s,hs,hk⟩:=n_81.1 hk;have hn:nameB s=true:=by
  rcases n_13.1 hs with rfl | hs
  ·exact h.pkg.1
  ·exact (h.imp s hs).1
 simp only [key2,n_13,n_80,or_false] at hk
 rcases hk with rfl | rfl <;> simp [keyB,hn]
theorem ku_ok (h:revE fl=0):∀ k∈KU fl,keyB k=true:=fun k hk=>by
 obtain ⟨h1,h2⟩:=revE_all h;have hv:=newW_v fl;unfold KU at hk
 rcases n_18.1 hk with hk | hk
 ·rcases n_18.1 hk with hk | hk
  ·obtain ⟨f,hf,rfl⟩:=n_9.1 hk;simp [dataK,keyB,(h2 f hf).1]
  ·obtain ⟨e,he,rfl⟩:=n_9.1 hk;obtain ⟨x,hx,rfl⟩:=n_9.1 he;exact enKy_ok (hv.ent x hx)
 ·obtain ⟨x,hx,hk⟩:=n_81.1 hk;obtain ⟨y,hy,rfl⟩:=n_9.1 hx;exact srcK_ok (hv.src y hy) k hk
theorem keyB_len (h:keyB k=true):k.a.length<=100/\k.b.length<=100:=by
 obtain ⟨h1,h2⟩:=key_kind h;refine ⟨h2,?_⟩;unfold keyB at h;split at h
 ·have:=nameB_len (n_88.1 h).2; omega
 ·split at h
  ·have:=of_decide_eq_true (n_88.1 h).2; rw [this]; exact n_3 _
  ·split at h
   ·have:=of_decide_eq_true (n_88.1 h).2; rw [this]; exact n_3 _
   ·cases h
theorem keyB_b (h:keyB k=true) (h1:k.k≠1) (h2:k.k≠2):k.b=[]:=by
 unfold keyB at h;rw [if_neg (by simp [h1,h2])] at h;split at h
 ·exact of_decide_eq_true (n_88.1 h).2
 ·split at h
  ·exact of_decide_eq_true (n_88.1 h).2
  ·cases h
theorem KUok.of (h:revE fl=0):KUok fl:=by
 obtain ⟨h1,h2⟩:=revE_all h;have hv:=newW_v fl;have h3:=hv.el;have h4:=hv.sl;exact ⟨fun f hf=>by have:=pathB_len (h2 f hf).1; omega,h1,om_,om_,fun x hx=>(hv.src x hx).impl,fun k hk=>by have:=keyB_len (ku_ok h k hk); omega⟩
def dflC (k:Ky):Str:=if k.k=6 then [61] else if k.k=7 then [61]++putT (putT [] k.a) [61] else [45]
noncomputable def conF (fl:List Fi) (ev:List Va) (k:Ky):Str:=contF fl (newW fl).2.1 (newW fl).2.2 ev k
theorem files_none (h:(⟨6,a,[]⟩:Ky)∉KU fl):filesF (newW fl).2.1 fl a=[]:=by
 unfold filesF;rw [List.filter_eq_nil_iff];intro f hf hh;rw [n_88] at hh;cases hg:glk (newW fl).2.1 f.p with
 | none=>rw [hg] at hh; cases hh.1
 | some x =>
  rw [hg] at hh;have hx:x.pkg=a:=of_decide_eq_true hh.2;refine h (n_103 _ (n_81.2 ⟨x,n_9.2 ⟨_,glk_in hg,rfl⟩,n_81.2 ⟨x.pkg,n_83,?_⟩⟩));rw [hx];simp [key2]
theorem ent_none {k:Int} {o:Str} (hk:k=1\/k=2\/k=3) (h:(if k=3 then (⟨3,o,[]⟩:Ky) else ⟨k,p,o⟩)∉KU fl):glk (newW fl).2.2 (keyNm k p o)=none:=by
 cases hg:glk (newW fl).2.2 (keyNm k p o) with
 | none=>rfl
 | some e =>
  have hv:=(newW_v fl).ent _ (glk_in hg);have hq:=hv.key;dsimp only at hq;simp only [keyNm,Nm.mk.injEq] at hq;obtain ⟨q1,q2,q3⟩:=hq;exfalso;refine h (n_86 _ (n_103 _ (n_9.2 ⟨e,n_9.2 ⟨_,glk_in hg,rfl⟩,?_⟩)));unfold enKy
  rcases hk with hk | hk | hk <;> subst hk
  ·rw [if_pos q1.symm,if_neg de_];rw [if_neg de_,if_neg om_] at q2;rw [<- q2,<- q3]
  ·rw [if_neg om_,if_pos q1.symm,if_neg de_];rw [if_neg de_,if_neg om_] at q2;rw [<- q2,<- q3]
  ·rw [if_neg om_,if_neg om_,if_pos rfl,<- q3]
theorem ky_eta {n:Int} (h:k.k=n) (hb:k.b=[]):(⟨n,k.a,[]⟩:Ky)=k:=by
 obtain ⟨a,b,c⟩:=k;simp only at h hb;subst h hb;rfl
theorem con_dfl (hk:keyB k=true) (hn:k∉KU fl) (hv:k∉ev.map varK):conF fl ev k=dflC k:=by
 have decl0:∀ {n:Int} {p o:Str},glk (newW fl).2.2 (keyNm n p o)=none->declF (newW fl).2.1 (findE true (newW fl).2.2 n p o)=[45]:=fun h=>by rw [declF,if_pos (findE_ct0 h)]
 have hb:=keyB_b hk;unfold conF contF dflC
 rcases (key_kind hk).1 with h | h | h | h | h | h | h
 ·rw [h];refine decl0 (ent_none (.inl rfl) fun hm=>hn ?_);rw [if_neg de_,<- h] at hm; exact hm
 ·rw [h];refine decl0 (ent_none (.inr (.inl rfl)) fun hm=>hn ?_);rw [if_neg de_,<- h] at hm; exact hm
 ·rw [h];refine decl0 (ent_none (.inr (.inr rfl)) fun hm=>hn ?_);rw [if_pos rfl,ky_eta h (hb om_ om_)] at hm; exact hm
 ·rw [h];show (if (dataF fl k.a).isSome then [61]++(dataF fl k.a).getD [] else [45])=[45];have:dataF fl k.a=none:=by
   unfold dataF;rw [Option.map_eq_none_iff,n_98];intro f hf hh;refine hn (n_86 _ (n_86 _ (n_9.2 ⟨f,hf,?_⟩)));rw [dataK,of_decide_eq_true hh,ky_eta h (hb om_ om_)]
  rw [this]; rfl
 ·rw [h];show (if (varF ev k.a).isSome then [61]++Lib.itoa ((varF ev k.a).getD 0) else [45])=[45];have:varF ev k.a=none:=by
   unfold varF;rw [Option.map_eq_none_iff,n_98];intro v hf hh;refine hv (n_9.2 ⟨v,hf,?_⟩);rw [varK,of_decide_eq_true hh,ky_eta h (hb om_ om_)]
  rw [this]; rfl
 ·rw [h];show filesC (newW fl).2.1 fl k.a=[61];rw [filesC,files_none (by rw [ky_eta h (hb om_ om_)]; exact hn)]; rfl
 ·have h6:(⟨6,k.a,[]⟩:Ky)∉KU fl:=fun hm=>by
   refine hn ?_;unfold KU at hm ⊢
   rcases n_18.1 hm with hm | hm
   ·rcases n_18.1 hm with hm | hm
    ·obtain ⟨f,_,hf⟩:=n_9.1 hm;simp [dataK] at hf
    ·obtain ⟨e,_,he⟩:=n_9.1 hm;unfold enKy at he;split at he
     ·simp at he
     ·split at he <;> simp at he
   ·obtain ⟨x,hx,hm⟩:=n_81.1 hm;obtain ⟨s,hs,hm⟩:=n_81.1 hm;have hsa:s=k.a:=by simp [key2] at hm; exact hm.symm
    refine n_103 _ (n_81.2 ⟨x,hx,n_81.2 ⟨s,hs,?_⟩⟩);rw [<- ky_eta h (hb om_ om_),hsa];simp [key2]
  have hf:=files_none h6;have hr:∀ n,n∈[k.a]↔Reach (newW fl).2.1 fl k.a n:=fun n=>by
   rw [n_96];constructor
   ·rintro rfl; exact .base
   ·intro hr
    induction hr with
    | base=>rfl
    | step _ hff _ ih=>subst ih; rw [hf] at hff; cases hff
  rw [h];show treeC (newW fl).2.1 fl k.a=[61]++putT (putT [] k.a) [61];rw [treeC,treeNs_eq si_ hr];have:srtS [k.a]=[k.a]:=by simp [srtS]
  rw [this];show [61]++putT (putT [] k.a) (filesC (newW fl).2.1 fl k.a)=_;rw [filesC,hf]; rfl
theorem diffK_filter (f g:Ky->Str):∀ l:List Ky,diffK l (l.map f) (l.map g)=l.filter fun k=>decide (f k≠g k)
 | []=>rfl
 | k::l=>by
  rw [n_65,n_65,diffK,n_56,diffK_filter f g l];by_cases h:f k=g k
  ·rw [if_pos h,if_neg (by simp [h])]
  ·rw [if_neg h,if_pos (by simp [h])]
noncomputable def chL (fl:List Fi) (ev:List Va) (fs:List Fi) (ew:List Va):List Ky:=(setK (KU fl++KU fs++(ev.map varK++ew.map varK))).filter fun k=>decide (conF fl ev k≠conF fs ew k)
theorem evB_name:∀ {l:List Va} {pv:Option Va},evB pv l=true->∀ v∈l,nameB v.n=true
 | [],_,_,v,hv=>by cases hv
 | w::l,pv,h,v,hv=>by
  rw [evB,n_88] at h
  rcases n_13.1 hv with rfl | hv
  ·have:=h.1;unfold evStep at this;simp only [n_29] at this;exact this.1.1
  ·exact evB_name h.2 v hv
theorem envB_name (h:envB ev=true):∀ v∈ev,nameB v.n=true:=evB_name (n_88.1 h).2
theorem vark_ok (h:envB ev=true):∀ k∈ev.map varK,keyB k=true:=fun k hk=>by
 obtain ⟨v,hv,rfl⟩:=n_9.1 hk;have:=envB_name h v hv;simp [varK,keyB,this]
theorem uni_ok (h1:revE fl=0) (h2:revE fs=0) (h3:envB ev=true) (h4:envB ew=true):∀ k∈setK (KU fl++KU fs++(ev.map varK++ew.map varK)),keyB k=true:=fun k hk=>by
 rw [(setK_spec _).2] at hk;simp only [n_18] at hk
 rcases hk with (hk | hk) | hk | hk
 ·exact ku_ok h1 k hk
 ·exact ku_ok h2 k hk
 ·exact vark_ok h3 k hk
 ·exact vark_ok h4 k hk
theorem allS_some (h1:revE fl=0) (h2:revE fs=0) (h3:envB ev=true) (h4:envB ew=true):allS fl ev fs ew=some (chL fl ev fs ew):=by
 have hu:=uni_ok h1 h2 h3 h4;have c1:∀ l,(∀ k∈l,keyB k=true)->contS fl ev l=some (l.map (conF fl ev)):=fun l hl=>by rw [contS,if_pos ⟨h1,h3,n_22.2 hl⟩]; rfl
 have c2:∀ l,(∀ k∈l,keyB k=true)->contS fs ew l=some (l.map (conF fs ew)):=fun l hl=>by rw [contS,if_pos ⟨h2,h4,n_22.2 hl⟩]; rfl
 rw [<- setF_setK] at hu;rw [allS,c1 [] si_,c2 [] si_,if_pos ⟨rfl,rfl⟩,c1 _ hu,c2 _ hu,n_6,n_71,diffK_filter,chL,setF_setK]
theorem chL_mem (h1:revE fl=0) (h2:revE fs=0) (h3:envB ev=true) (h4:envB ew=true) (k:Ky):k∈chL fl ev fs ew↔keyB k=true/\conF fl ev k≠conF fs ew k:=by
 rw [chL,n_108,n_51];constructor
 ·rintro ⟨hm,hd⟩;exact ⟨uni_ok h1 h2 h3 h4 k hm,hd⟩
 ·rintro ⟨hk,hd⟩;refine ⟨?_,hd⟩;rw [(setK_spec _).2];by_cases hm:k∈KU fl++KU fs++(ev.map varK++ew.map varK)
  ·exact hm
  ·simp only [n_18,not_or] at hm;exact absurd ((con_dfl hk hm.1.1 hm.2.1).trans (con_dfl hk hm.1.2 hm.2.2).symm) hd
theorem chL_len (h1:fl.length<=64) (h2:fs.length<=64) (h3:ev.length<=1000) (h4:ew.length<=1000):(chL fl ev fs ew).length<=100000:=by
 have ku:∀ l:List Fi,l.length<=64->(KU l).length<=10000:=fun l hl=>by
  have hv:=newW_v l;have e1:=hv.el;have e2:=hv.sl;have e3:∀ ss:List Src,(∀ x∈ss,x.imports.length<=8)->(ss.flatMap srcK).length<=18*ss.length:=fun ss=>by
   induction ss with
   | nil=>intro _; exact n_5 _
   | cons x ss ih =>
    intro hs;have:=ih fun y hy=>hs y (n_59 _ hy);have hx:=hs x n_83;have e4:∀ t:List Str,(t.flatMap key2).length=2*t.length:=fun t=>by
     induction t with
     | nil=>rfl
     | cons y t ih=>rw [n_82,n_4,ih]; simp [key2]; omega
    rw [n_82,n_4,n_7,srcK,e4,n_7];omega
  have e5:=e3 ((newW l).2.1.map Prod.snd) fun x hx=>by
   obtain ⟨y,hy,rfl⟩:=n_9.1 hx;exact (hv.src y hy).impl
  unfold KU;rw [n_4,n_4,n_17,n_17,n_17];rw [n_17] at e5;omega
 have h5:=ku fl h1;have h6:=ku fs h2;have h7:=setK_len (KU fl++KU fs++(ev.map varK++ew.map varK));simp only [n_4,n_17] at h7;have h8:(chL fl ev fs ew).length<=_:=List.length_filter_le _ _;omega
def madeEnv:List Str:=[[109],[110]]
structure MadeE (ev:List Va):Prop where
 sub:(ev.map Va.n).Sublist madeEnv
 rng:∀ v∈ev,-9007199254740992<=v.v/\v.v<=9007199254740992
theorem MadeE.len (h:MadeE ev):ev.length<=2:=by
 have:=h.sub.length_le;rw [n_17] at this;exact this
def aw16 (c:UInt8):List Fi:=[⟨[97,46,115,114,99],[112,97,99,107,97,103,101,32,112,59,32,102,117,110,99,32,102,40,41,32,61,32]++[c]++[59]⟩]
theorem aw16_decl {n:Int} {c:UInt8} (h0:revE (aw16 c)=0) (hg:glk (newW (aw16 c)).2.1 [97,46,115,114,99]=some ⟨[112],[],[⟨1,[102],[],[⟨1,n,0,[],[]⟩]⟩]⟩) (hx:findE true (newW (aw16 c)).2.2 1 [112] [102]=⟨[112],[102],1,[97,46,115,114,99],0,1⟩):conF (aw16 c) [] ⟨1,[112],[102]⟩=[61]++textT ⟨[112],[],[⟨1,[102],[],[⟨1,n,0,[],[]⟩]⟩]⟩ ⟨1,[102],[],[⟨1,n,0,[],[]⟩]⟩/\bodyT ⟨1,[102],[],[⟨1,n,0,[],[]⟩]⟩=(Tr.n 1 n 0 [] []).txt [] 0:=by
 have hok:=newW_ok h0;have hd:=(hok.src _ _ hg).dec _ n_83;refine ⟨?_,body_num hd rfl⟩;unfold conF contF;rw [if_pos rfl,hx];show declF _ _=_;unfold declF;rw [if_neg de_,if_pos rfl];unfold declT;rw [hg];rfl
theorem aw16_func:conF (aw16 49) [] ⟨1,[112],[102]⟩≠conF (aw16 50) [] ⟨1,[112],[102]⟩:=by
 obtain ⟨h1,h2⟩:=aw16_decl (n:=1) (c:=49) q_289 q_289 q_289;obtain ⟨h3,h4⟩:=aw16_decl (n:=2) (c:=50) q_289 q_289 q_289;have e1:(Tr.n 1 1 0 [] []).txt [] 0=[49]:=by kernel_rfl
 have e2:(Tr.n 1 2 0 [] []).txt [] 0=[50]:=by kernel_rfl
 rw [h1,h3];unfold textT;rw [h2,h4,e1,e2];intro h;exact absurd h (by decide +kernel)
def L16:List Ky:=[⟨1,[112],[102]⟩,⟨4,[97,46,115,114,99],[]⟩,⟨6,[112],[]⟩,⟨7,[112],[]⟩]
theorem aw16_u:setK (KU (aw16 49)++KU (aw16 50)++(([]:List Va).map varK++([]:List Va).map varK))=L16:=by kernel_rfl
theorem aw16_files:decide (conF (aw16 49) [] ⟨6,[112],[]⟩=conF (aw16 50) [] ⟨6,[112],[]⟩)=false:=by kernel_rfl
theorem aw16_data:decide (conF (aw16 49) [] ⟨4,[97,46,115,114,99],[]⟩=conF (aw16 50) [] ⟨4,[97,46,115,114,99],[]⟩)=false:=by kernel_rfl
theorem aw16_ch:chS (aw16 49) (aw16 50)=some L16:=by
 rw [chS,allS_some q_289 q_289 rfl rfl,chL,aw16_u]
 congr 1
 refine n_107.2 fun k hk=>n_40 ?_;simp only [L16,n_13,n_80,or_false] at hk
 rcases hk with rfl | rfl | rfl | rfl
 ·exact aw16_func
 ·exact of_decide_eq_false aw16_data
 ·exact of_decide_eq_false aw16_files
 ·exact fun h=>of_decide_eq_false aw16_files (coarse_tree h)
theorem aw16_no:chS (aw16 49) (aw16 49)=some []:=by
 rw [chS,allS_some q_289 q_289 rfl rfl,chL]
 congr 1
 refine List.filter_eq_nil_iff.2 fun k _=>by simp
theorem aw16_ok (c:UInt8) (h:revE (aw16 c)=0):KUok (aw16 c):=KUok.of h
theorem aw16_c1 (σ:List CObj):CCalls CC 38 [.agg (revC (aw16 49) true),.agg (revC (aw16 50) true)] σ fun r τ=>r = .ret (.tup [.list (L16.map Ky.cv) true none,.val (.int .i64 0)])/\τ=σ:=by
 have h:=ed_Changed_s (aw16 49) true (aw16 50) true (aw16_ok 49 q_289) (aw16_ok 50 q_289) σ;rw [aw16_ch] at h; exact h
theorem aw16_c2 (σ:List CObj):CCalls CC 45 [.agg (revC (aw16 49) true),.agg (revC (aw16 50) true)] σ fun r τ=>r = .ret (.tup [.list ([([112]:Str)].map scv) true none,.val (.int .i64 0)])/\τ=σ:=by
 have h:=ed_Packages (aw16 49) true (aw16 50) true (aw16_ok 49 q_289) (aw16_ok 50 q_289) (fun l hl=>by rw [aw16_ch] at hl; injection hl with hl; subst hl; decide) σ;rw [aw16_ch] at h; exact h
theorem aw16_c3 (σ:List CObj):CCalls CC 38 [.agg (revC (aw16 49) true),.agg (revC (aw16 49) true)] σ fun r τ=>r = .ret (.tup [.list (([]:List Ky).map Ky.cv) false none,.val (.int .i64 0)])/\τ=σ:=by
 have h:=ed_Changed_s (aw16 49) true (aw16 49) true (aw16_ok 49 q_289) (aw16_ok 49 q_289) σ;rw [aw16_no] at h; exact h
theorem l6_awake_s  (σ:List CObj):CCalls CC 37 [] σ fun r σ'=>r = .ret (.val (.bool true))/\σ'=σ:=by
 refine CCalls.anyw hCC pu_ pu_ ?_ σ;refine ccalls_val (ccalls_of Tryz.func37 rfl rfl ?_);refine z_144 ?_; refine cY q_52 ?_; refine cY (y_lit ((aw16 49).map Fi.cv) rfl ⟨tt,tt⟩ t_19 t_16 t_17 rfl rfl rfl rfl rfl rfl rfl rfl rfl) ?_; refine cY q_61 ?_; refine z_219 ?_; refine z_0 ?_; refine cY q_52 ?_; refine cY (y_lit ((aw16 50).map Fi.cv) rfl ⟨tt,tt⟩ t_19 t_16 t_17 rfl rfl rfl rfl rfl rfl rfl rfl rfl) ?_; refine cY q_61 ?_; refine z_219 ?_; refine z_124 ?_; refine cY q_180 ?_; refine cY (y_callf rfl t_111 q_296 (by exact aw16_c1 _) rfl) ?_; refine z_96 ?_; refine z_1 ?_; refine z_124 ?_; refine cY q_180 ?_; refine cY (y_callf rfl Tryz.call45 q_296 (by exact aw16_c2 _) rfl) ?_; refine z_96 ?_; refine z_1 ?_; refine z_124 ?_; refine cY q_180 ?_; refine cY (y_callf rfl t_111 q_296 (by exact aw16_c3 _) rfl) ?_; refine z_96 ?_; refine z_38 ?_; refine z_130 ?_; refine z_31 ?_; refine z_22 ?_; refine z_31 ?_; refine z_22 ?_; refine cG (fun hg=>y_len rfl hg rfl t_5 q_250 rfl) ?_; refine z_31 ?_; refine z_22 ?_; refine cG (fun hg=>y_index rfl hg rfl rfl rfl t_5 t_4 q_240 (rows_get (f:=Ky.cv) (show L16[0]? = some ⟨1,[112],[102]⟩ from rfl)) rfl) ?_; refine cG (fun hg=>y_load_c rfl hg rfl t_41 t_4 (nb rfl)) ?_; refine cG (fun hg=>y_build' #[(0,1),(1,1),(2,1)] rfl ⟨rfl,rfl,rfl,tt⟩ t_58 t_11 rfl ⟨_,rfl⟩ (fun w=>by kernel_rfl) rfl rfl) ?_; refine cG (fun hg=>y_eqs rfl hg hg (xs:=[.int .i64 1,.string (str [112]),.string (str [102])]) (ys:=[.int .i64 1,.string (str [112]),.string (str [102])]) rfl rfl t_91 (eq_ky ⟨1,[112],[102]⟩ ⟨1,[112],[102]⟩)) ?_; refine z_108 ?_; refine cG (fun hg=>y_len rfl hg rfl t_2 q_250 rfl) ?_; refine z_31 ?_; refine z_22 ?_; refine cG (fun hg=>y_index rfl hg rfl rfl rfl t_2 t_0 q_240 (rows_get (f:=scv) (show ([[112]]:List Str)[0]? = some [112] from rfl)) rfl) ?_; refine cG q_213 ?_;refine cG q_201 ?_; refine z_108 ?_; refine cG (fun hg=>y_len rfl hg rfl t_5 q_250 rfl) ?_; refine z_217 ?_;exact ⟨_,res1 rfl tt q_269,_,_,rfl,rfl,cls_bool (by rfl)⟩
theorem ed_Ch (nn ns:Bool) (h1:revE fl=0) (h2:revE fs=0) (σ:List CObj):CCalls CC 38 [.agg (revC fl nn),.agg (revC fs ns)] σ fun r τ=>r = .ret (.tup [.list ((chL fl [] fs []).map Ky.cv) (gnn (chL fl [] fs []).length) none,.val (.int .i64 0)])/\τ=σ:=by
 have h:=ed_Changed_s fl nn fs ns (KUok.of h1) (KUok.of h2) σ;rw [chS,allS_some h1 h2 rfl rfl] at h; exact h
theorem chL_le (h1:revE fl=0) (h2:revE fs=0):(chL fl [] fs []).length<=100000:=chL_len (revE_all h1).1 (revE_all h2).1 (n_3 _) (n_3 _)
def woF (l:List Fi) (p:Str):List Fi:=l.filter fun f=>decide (f.p≠p)
theorem woF_step {l:List Fi} {y:Fi} (h:l[i]? = some y) (p:Str):woF (l.drop i) p=(if y.p≠p then [y] else [])++woF (l.drop (i+1)) p:=by
 obtain ⟨hlt,rfl⟩:=n_1.1 h;rw [n_25 hlt];unfold woF;rw [n_56];by_cases hh:l[i].p≠p
 ·rw [if_pos (n_40 hh),if_pos hh]; rfl
 ·rw [if_neg (by simpa using hh),if_neg hh]; rfl
def wiF (x:Fi):Bool->List Fi->List Fi
 | d,[]=>if d=true then [] else [x]
 | d,y::l=>if (!d && Op.bytesLess x.p y.p)=true then x::y::wiF x true l else y::wiF x d l
theorem wiF_step {l:List Fi} {y:Fi} (h:l[i]? = some y) (x:Fi) (d:Bool):wiF x d (l.drop i)=if (!d && Op.bytesLess x.p y.p)=true then x::y::wiF x true (l.drop (i+1)) else y::wiF x d (l.drop (i+1)):=by
 obtain ⟨hlt,rfl⟩:=n_1.1 h;rw [n_25 hlt]; rfl
theorem woF_le (l:List Fi) (p:Str):(woF l p).length<=l.length:=List.length_filter_le _ _
def putF (l:List Fi) (p b:Str):List Fi × Int:=if revE l≠0 then ([],revE l) else if pathB p=false then ([],6) else if 16384 < b.length\/64 < (wiF ⟨p,b⟩ false (woF l p)).length then ([],2) else (wiF ⟨p,b⟩ false (woF l p),0)
theorem r7_Check_s (l:List Fi) (nn:Bool) (σ:List CObj):CCalls CC 52 [.agg (revC l nn)] σ fun r σ'=>r = .ret (.val (.int .i64 (revE l)))/\σ'=σ:=by
 refine CCalls.anyw hCC pu_ pu_ ?_ σ;refine ccalls_val (ccalls_of Tryz.func52 rfl rfl ?_);refine z_209 ?_; refine z_95 ?_; refine z_12 ?_; refine cC (fun h1=>?_) fun h1=>?_
 ·have hlen:64 < l.length:=by simp at h1; omega
  exact z_211
 ·have hlen:¬ 64 < l.length:=by simp at h1; omega
  refine z_230 ?_; refine z_139 ?_; refine cw_loopd hCC (α:=Nat) (fun i=>[(1,.ptr 0 0),(10,(.list (l.map Fi.cv) nn none)),(11,(.val (.int .i64 (l.length:Int)))),(12,(.val (.int .i64 (i:Int))))]) (fun _=>[.box (revC l nn)]) (fun i=>i<=l.length/\revE l=rvE (prv l i) (l.drop i)) (fun i=>l.length - i) 0 ⟨n_3 _,by rw [revE,if_neg hlen]; rfl⟩ tu_ (extra0:=[]) rfl q_273 uz_ ?_; intro i ⟨hi,hr⟩; refine z_28 ?_; refine cC (fun h2=>?_) fun h2=>?_
  ·have hlt:(i:Int) < l.length:=by simpa using h2
   obtain ⟨y,hb⟩:∃ y,l[i]? = some y:=⟨l[i]'om_,si_⟩;obtain ⟨p,hp⟩:=prv_ex (l:=l) (i:=i) om_;have hpp:0 < i->l[i - 1]? = some p:=fun h=>(hp h).2;rw [rvE_step hb] at hr;refine z_113 ?_; refine z_104 ?_;refine cD (d_alloc rfl t_17 rfl q_288 ?_);refine z_278 ?_; refine z_67 ?_; refine z_44 ?_; refine cY (y_callf rfl t_112 ⟨tt,tt⟩ (r4_Path_s y.p _) rfl) ?_; refine z_32 ?_; refine cC (fun h3=>?_) fun h3=>?_
   ·have u3:pathB y.p=false:=by simpa using h3
    have us:rvStep (prv l i) y=6:=by rw [rvStep,if_pos u3]
    rw [us] at hr;exact z_37
   ·have u3:¬ pathB y.p=false:=by simpa using h3
    refine z_9 ?_; refine cw_seq ?_; refine z_237 ?_; refine hY q_255 ?_; refine hY q_246 ?_; refine z_133 ?_; refine z_134 ?_; refine z_216 ?_; refine z_135 ?_; refine ch_g rfl rfl tt rfl q_204 ?_; refine hY q_196 ?_; refine z_79 ?_; refine cC (fun h4=>?_) fun h4=>?_
    ·have u4:((prv l i).any fun g=>decide (y.p=g.p))=true:=by rw [prv_any hpp]; exact h4
     have us:rvStep (prv l i) y=10:=by rw [rvStep,if_neg u3,if_pos u4]
     rw [us] at hr;exact z_37
    ·have u4:¬ ((prv l i).any fun g=>decide (y.p=g.p))=true:=by rw [prv_any hpp]; simpa using h4
     refine z_9 ?_; refine cw_seq ?_; refine z_237 ?_; refine hY q_255 ?_; refine hY q_246 ?_; refine z_133 ?_; refine z_134 ?_; refine z_216 ?_; refine z_135 ?_; refine z_275 ?_; refine z_79 ?_; refine cC (fun h5=>?_) fun h5=>?_
     ·have u5:((prv l i).any fun g=>Op.bytesLess y.p g.p)=true:=by rw [prv_any hpp]; exact h5
      have us:rvStep (prv l i) y=6:=by rw [rvStep,if_neg u3,if_neg u4,if_pos u5]
      rw [us] at hr;exact z_37
     ·have u5:¬ ((prv l i).any fun g=>Op.bytesLess y.p g.p)=true:=by rw [prv_any hpp]; simpa using h5
      refine z_46 ?_; refine z_44 ?_; refine z_228 ?_; refine cC (fun h6=>?_) fun h6=>?_
      ·have u6:16384 < y.b.length:=by simp at h6; omega
       have us:rvStep (prv l i) y=2:=by rw [rvStep,if_neg u3,if_neg u4,if_neg u5,if_pos u6]
       rw [us] at hr;exact z_37
      ·have u6:¬ 16384 < y.b.length:=by simp at h6; omega
       have us:rvStep (prv l i) y=0:=by rw [rvStep,if_neg u3,if_neg u4,if_neg u5,if_neg u6]
       rw [us,if_pos rfl] at hr;exact z_53
  ·exact z_256
theorem srcPB_sub (s:Str):((pathB s && decide ((s.length:Int) > 4)) && decide (((s.take s.length).drop (s.length - 4))=[46,115,114,99]))=srcPB s:=by
 rw [srcPB,Bool.and_assoc,n_55];by_cases h:(s.length:Int) > 4
 ·have h4:([46,115,114,99]:Str).length=4:=rfl;have h5:decide ((4:Nat)<=s.length)=true:=n_40 om_;rw [sufB,h4,h5,n_97]
 ·rw [n_57 h]; rfl
theorem r7_IsSource_s (s:Str) (hs:s.length<=1000000000) (σ:List CObj):CCalls CC 24 [(sv s)] σ fun r σ'=>r = .ret (.val (.bool (srcPB s)))/\σ'=σ:=by
 refine CCalls.anyw hCC pu_ pu_ ?_ σ;refine ccalls_val (ccalls_of Tryz.func24 rfl rfl ?_);refine z_66 ?_; refine cY (y_callf rfl t_112 ⟨tt,tt⟩ (r4_Path_s s _) rfl) ?_; refine z_22 ?_; refine cG q_210 ?_; refine z_31 ?_; refine z_94 ?_; refine cG q_210 ?_; refine cG q_58 ?_; refine cG (fun hg=>y_sslice (a:=(s.length - 4)) rfl hg rfl t_6 ⟨hg,_,_,rfl,by first|omega|(simp at hg; omega),by first|omega|(simp at hg; omega)⟩ rfl (by simp at hg; omega) (by simp at hg; omega)) ?_; refine cG q_201 ?_; refine z_72 ?_;exact ⟨_,res1 rfl tt q_269,_,_,rfl,rfl,cls_bool (srcPB_sub _)⟩
theorem r7_Find_s (l:List Fi) (nn:Bool) (p:Str) (hl:l.length<=1000000) (σ:List CObj):CCalls CC 87 [.agg (revC l nn),(sv p)] σ fun r σ'=>r = .ret (.tup [sv ((if revE l=0 then dataF l p else none).getD []),.val (.bool (if revE l=0 then dataF l p else none).isSome)])/\σ'=σ:=by
 refine CCalls.anyw hCC pu_ pu_ ?_ σ;refine ccalls_val (ccalls_of Tryz.func87 rfl rfl ?_);refine z_10 ?_; refine z_83 ?_; refine z_42 ?_; refine cY q_180 ?_; refine cY q_190 ?_; refine z_12 ?_; refine cC (fun h1=>?_) fun h1=>?_
 ·have h0:¬ revE l=0:=by simpa using h1
  refine z_0 ?_; refine z_166 ?_;exact ⟨_,res_all (rs:=[.tmp 4,.tmp 5]) (cs:=[_,_]) rfl q_138 (n_2 rfl),_,_,rfl,rfl,(by rw [if_neg h0]; exact .tups ⟨.old (.val _),.old (.val _),tt⟩)⟩
 ·have h0:revE l=0:=by simpa using h1
  refine z_230 ?_; refine z_139 ?_; refine cw_loopd hCC (α:=Nat) (fun i=>[(1,(sv p)),(12,(.list (l.map Fi.cv) nn none)),(13,(.val (.int .i64 (l.length:Int)))),(14,(.val (.int .i64 (i:Int))))]) (fun _=>[.box (revC l nn)]) (fun i=>i<=l.length/\dataF l p=dataF (l.drop i) p) (fun i=>l.length - i) 0 ⟨n_3 _,rfl⟩ tu_ (extra0:=[]) rfl q_273 uz_ ?_; intro i ⟨hi,hr⟩; refine z_28 ?_; refine cC (fun h2=>?_) fun h2=>?_
  ·have hlt:(i:Int) < l.length:=by simpa using h2
   obtain ⟨y,hb⟩:∃ y,l[i]? = some y:=⟨l[i]'om_,si_⟩;rw [dataF_step hb] at hr;refine z_174 ?_; refine z_48 ?_; refine z_44 ?_; refine cY q_246 ?_; refine z_264 ?_; refine cC (fun h3=>?_) fun h3=>?_
   ·have u2:y.p=p:=by simpa using h3
    rw [if_pos u2] at hr;refine z_0 ?_; refine z_44 ?_; refine z_109 ?_;exact ⟨_,res_all (rs:=[.tmp 4,.tmp 5]) (cs:=[_,_]) rfl q_138 (n_2 rfl),_,_,rfl,rfl,(by rw [if_pos h0,hr]; exact .tups ⟨.old (.val _),.old (.val _),tt⟩)⟩
   ·have u2:¬ y.p=p:=by simpa using h3
    rw [if_neg u2] at hr;exact z_53
  ·have hge:l.length<=i:=by simp at h2; omega
   rw [n_34 hge] at hr;refine z_90 ?_; refine z_166 ?_;exact ⟨_,res_all (rs:=[.tmp 4,.tmp 5]) (cs:=[_,_]) rfl q_138 (n_2 rfl),_,_,rfl,rfl,(by rw [if_pos h0,hr]; exact .tups ⟨.old (.val _),.old (.val _),tt⟩)⟩
theorem r7_without0 (l:List Fi) (nn:Bool) (p:Str) (hl:l.length<=1000000):CCalls CC 65 [.agg (revC l nn),(sv p)] [] fun r τ=>∃ _:Unit,ClsR 0 τ r (.ret (.agg (revC (woF l p) (gnn (woF l p).length))))/\True:=by
 refine (ccalls_of Tryz.func65 rfl rfl ?_);refine z_10 ?_; refine z_141 ?_; refine z_67 ?_; refine z_139 ?_; refine cw_loopr hCC 3 rfl (α:=Nat × List Fi) (fun x=>[(1,(sv p)),(4,.ptr 1 0),(5,.ptr 2 0),(9,(.list (l.map Fi.cv) nn none)),(10,(.val (.int .i64 (l.length:Int)))),(11,(.val (.int .i64 (x.1:Int))))]) (fun x=>[.box (revC l nn),.box [.list [] false none],.box [(.list (x.2.map Fi.cv) (gnn x.2.length) (gtok x.2.length 3))],gobj x.2.length]) (fun x=>x.1<=l.length/\x.2.length<=x.1/\woF l p=x.2++woF (l.drop x.1) p) (fun x=>l.length - x.1) ⟨(0,[]),[0,1,2,9],⟨n_3 _,n_5 _,rfl⟩,⟨rfl,rfl⟩,q_5,⟨.inr ⟨_,rfl,.box ⟨.old q_290,tt⟩⟩,.inr ⟨_,rfl,.box ⟨.old (old_fis _ [] _),tt⟩⟩,.inr ⟨_,rfl,.box ⟨.old (old_fis _ [] _),tt⟩⟩,.inl rfl,tt⟩⟩ ?_; intro ⟨i,out⟩ ⟨hi,hol,hr⟩;dsimp only at hi hol hr ⊢;refine z_28 ?_; refine cC (fun h1=>?_) fun h1=>?_
 ·have hlt:(i:Int) < l.length:=by simpa using h1
  obtain ⟨y,hb⟩:∃ y,l[i]? = some y:=⟨l[i]'om_,si_⟩;rw [woF_step hb] at hr;refine z_174 ?_; refine z_48 ?_; refine z_44 ?_; refine cY q_246 ?_; refine cY q_234 ?_; refine co_nil ?_; refine cC (fun h2=>?_) fun h2=>?_
  ·have u2:y.p≠p:=by simpa using h2
   rw [if_pos u2] at hr;refine z_182 ?_; refine cY q_57 ?_;refine cD (d_appu rfl tt tt rfl si_ q_19 t_19 t_16 t_87 t_17 rfl (.inr rfl) q_21 q_78 q_226 ((out++[y]).map Fi.cv) (out++[y]).length si_ si_ ?_);refine z_30 ?_; refine z_89 ?_;exact ⟨(i+1,out++[y]),[0,1,2,5],⟨do_,do_,by dsimp only; simp; omega,by dsimp only; rw [hr,n_8]⟩,⟨rfl,rfl⟩,q_5,⟨.inr ⟨_,rfl,.box ⟨.old q_290,tt⟩⟩,.inr ⟨_,rfl,.box ⟨.old (old_fis _ [] _),tt⟩⟩,.inr ⟨_,rfl,.box ⟨RenV.grow (f:=Fi.cv) (fun _=>⟨.val _,.val _,tt⟩) rfl,tt⟩⟩,.inr ⟨_,rfl,.same rfl q_292⟩,tt⟩⟩
  ·have u2:¬ y.p≠p:=by simpa using h2
   rw [if_neg u2,n_33] at hr;refine z_51 ?_;exact ⟨(i+1,out),[0,1,2,3],⟨do_,do_,do_,hr⟩,⟨rfl,rfl⟩,q_5,⟨.inr ⟨_,rfl,.box ⟨.old q_290,tt⟩⟩,.inr ⟨_,rfl,.box ⟨.old (old_fis _ [] _),tt⟩⟩,.inr ⟨_,rfl,.box ⟨RenV.grow (f:=Fi.cv) (fun _=>⟨.val _,.val _,tt⟩) rfl,tt⟩⟩,.inr ⟨_,rfl,.same rfl q_292⟩,tt⟩⟩
 ·have hge:l.length<=i:=by simp at h1; omega
  rw [n_34 hge] at hr;replace hr:woF l p=out:=by rw [hr]; exact n_32 _
  refine z_90 ?_; refine cY q_180 ?_; refine z_261 ?_;exact ⟨_,res_one rfl q_113,⟨(),by rw [hr]; exact .ret (.aggs ⟨.tok (rows_pure (f:=Fi.cv) (fun a=>(Fi.pure a).all) _),tt⟩),tt⟩⟩
theorem r7_without (l:List Fi) (nn:Bool) (p:Str) (hl:l.length<=1000000) (σ:List CObj):CCalls CC 65 [.agg (revC l nn),(sv p)] σ fun r τ=>r = .ret (.agg (revC (woF l p) (gnn (woF l p).length)))/\τ=σ :=
 (ccalls_any (α:=Unit) (res:=fun _=>.ret (.agg (revC (woF l p) (gnn (woF l p).length)))) hCC (fun c h=>by simp at h; rcases h with rfl|rfl <;> first|exact .val _|exact pure_agg ⟨pure_fis _ _,tt⟩) (r7_without0 l nn p hl) (fun _ _=>pure_agg ⟨pure_fis _ _,tt⟩) σ).mono fun _ _ ⟨_,h1,h2,_⟩=>⟨h1,h2⟩
theorem r7_with0 (l:List Fi) (nn:Bool) (x:Fi) (hl:l.length<=1000000):CCalls CC 64 [.agg (revC l nn),.agg x.cells] [] fun r τ=>∃ _:Unit,ClsR 0 τ r (.ret (.agg (revC (wiF x false l) (gnn (wiF x false l).length))))/\True:=by
 refine (ccalls_of Tryz.func64 rfl rfl ?_);refine z_63 ?_; refine z_141 ?_; refine co_nil ?_; refine z_4 ?_; refine z_42 ?_; refine z_139 ?_; refine cw_loopr hCC 4 rfl (α:=Nat × Bool × List Fi) (fun a=>[(3,.ptr 1 0),(4,.ptr 2 0),(5,.ptr 3 0),(6,(.val (.bool a.2.1))),(10,(.list (l.map Fi.cv) nn none)),(11,(.val (.int .i64 (l.length:Int)))),(12,(.val (.int .i64 (a.1:Int))))]) (fun a=>[.box (revC l nn),.box x.cells,.box [.list [] false none],.box [(.list (a.2.2.map Fi.cv) (gnn a.2.2.length) (gtok a.2.2.length 4))],gobj a.2.2.length]) (fun a=>a.1<=l.length/\a.2.2.length<=a.1+1/\(a.2.1=false->a.2.2.length<=a.1)/\wiF x false l=a.2.2++wiF x a.2.1 (l.drop a.1)) (fun a=>l.length - a.1) ⟨(0,false,[]),[0,1,2,3,9],⟨n_3 _,n_3 _,fun _=>n_5 _,rfl⟩,⟨rfl,rfl⟩,q_2,⟨.inr ⟨_,rfl,.box ⟨.old q_290,tt⟩⟩,.inr ⟨_,rfl,.box ⟨.old (.val _),.old (.val _),tt⟩⟩,.inr ⟨_,rfl,.box ⟨.old (old_fis _ [] _),tt⟩⟩,.inr ⟨_,rfl,.box ⟨.old (old_fis _ [] _),tt⟩⟩,.inl rfl,tt⟩⟩ ?_; intro ⟨i,d,out⟩ ⟨hi,hol,hdl,hr⟩;dsimp only at hi hol hdl hr ⊢;refine z_28 ?_; refine cC (fun h1=>?_) fun h1=>?_
 ·have hlt:(i:Int) < l.length:=by simpa using h1
  obtain ⟨y,hb⟩:∃ y,l[i]? = some y:=⟨l[i]'om_,si_⟩;rw [wiF_step hb] at hr;refine z_174 ?_; refine z_158 ?_; refine cY q_280 ?_; refine cY q_246 ?_; refine cG q_124 ?_; refine cG q_207 ?_; refine cG q_124 ?_; refine cG q_207 ?_; refine cG (fun hg=>y_scmp rfl hg hg rfl rfl (cstr_lss _ _)) ?_; refine z_265 ?_; refine cC (fun h2=>?_) fun h2=>?_
  ·have u2:(!d && Op.bytesLess x.p y.p)=true:=by simpa using h2
   rw [if_pos u2] at hr;have hd:d=false:=by cases d; rfl; simp at u2
   have hdl:=hdl hd;refine z_0 ?_; refine z_142 ?_; refine cY q_59 ?_;refine cD (d_appu rfl tt tt rfl si_ q_19 t_19 t_16 t_87 t_17 rfl (.inr rfl) q_21 q_78 q_226 ((out++[x]).map Fi.cv) (out++[x]).length si_ si_ ?_);refine z_30 ?_;refine co_nil (cw_region ?_);refine z_3 ?_; refine z_182 ?_; refine cY q_57 ?_;refine cD (d_appu rfl tt tt rfl si_ q_19 t_19 t_16 t_87 t_17 rfl (.inr rfl) q_21 q_78 q_226 ((out++[x]++[y]).map Fi.cv) (out++[x]++[y]).length si_ si_ ?_);refine z_30 ?_; refine z_89 ?_;exact ⟨(i+1,true,out++[x]++[y]),[0,1,2,3,7],⟨do_,do_,by dsimp only; simp; omega,fun h=>(by cases h),by dsimp only; rw [hr,n_8,n_8]; rfl⟩,⟨rfl,rfl⟩,q_2,⟨.inr ⟨_,rfl,.box ⟨.old q_290,tt⟩⟩,.inr ⟨_,rfl,.box ⟨.old (.val _),.old (.val _),tt⟩⟩,.inr ⟨_,rfl,.box ⟨.old (old_fis _ [] _),tt⟩⟩,.inr ⟨_,rfl,.box ⟨RenV.grow (f:=Fi.cv) (fun _=>⟨.val _,.val _,tt⟩) rfl,tt⟩⟩,.inr ⟨_,rfl,.same rfl q_292⟩,tt⟩⟩
  ·have u2:¬ (!d && Op.bytesLess x.p y.p)=true:=by simpa using h2
   rw [if_neg u2] at hr;refine cw_skip ?_; refine z_182 ?_; refine cY q_57 ?_;refine cD (d_appu rfl tt tt rfl si_ q_19 t_19 t_16 t_87 t_17 rfl (.inr rfl) q_21 q_78 q_226 ((out++[y]).map Fi.cv) (out++[y]).length si_ si_ ?_);refine z_30 ?_; refine z_89 ?_;exact ⟨(i+1,d,out++[y]),[0,1,2,3,6],⟨do_,do_,by dsimp only; simp; omega,fun h=>by have:=hdl h; dsimp only; simp; omega,by dsimp only; rw [hr,n_8]; rfl⟩,⟨rfl,rfl⟩,q_2,⟨.inr ⟨_,rfl,.box ⟨.old q_290,tt⟩⟩,.inr ⟨_,rfl,.box ⟨.old (.val _),.old (.val _),tt⟩⟩,.inr ⟨_,rfl,.box ⟨.old (old_fis _ [] _),tt⟩⟩,.inr ⟨_,rfl,.box ⟨RenV.grow (f:=Fi.cv) (fun _=>⟨.val _,.val _,tt⟩) rfl,tt⟩⟩,.inr ⟨_,rfl,.same rfl q_292⟩,tt⟩⟩
 ·have hge:l.length<=i:=by simp at h1; omega
  rw [n_34 hge] at hr;refine z_241 ?_; refine z_32 ?_; refine cC (fun h3=>?_) fun h3=>?_
  ·have u3:d=false:=by simpa using h3
   subst u3;replace hr:wiF x false l=out++[x]:=hr;refine z_182 ?_; refine cY q_59 ?_;refine cD (d_appu rfl tt tt rfl si_ q_19 t_19 t_16 t_87 t_17 rfl (.inr rfl) q_21 q_78 q_226 ((out++[x]).map Fi.cv) (out++[x]).length si_ si_ ?_);refine z_30 ?_; refine z_48 ?_; refine cY q_180 ?_; refine z_261 ?_;exact ⟨_,res_one rfl q_113,⟨(),by rw [hr]; exact .ret (.aggs ⟨.tok (rows_pure (f:=Fi.cv) (fun a=>(Fi.pure a).all) _),tt⟩),tt⟩⟩
  ·have u3:d=true:=by simpa using h3
   subst u3;replace hr:wiF x false l=out:=by rw [hr]; exact n_32 _
   refine z_168 ?_; refine z_261 ?_;exact ⟨_,res_one rfl q_113,⟨(),by rw [hr]; exact .ret (.aggs ⟨.tok (rows_pure (f:=Fi.cv) (fun a=>(Fi.pure a).all) _),tt⟩),tt⟩⟩
theorem r7_with (l:List Fi) (nn:Bool) (x:Fi) (hl:l.length<=1000000) (σ:List CObj):CCalls CC 64 [.agg (revC l nn),.agg x.cells] σ fun r τ=>r = .ret (.agg (revC (wiF x false l) (gnn (wiF x false l).length)))/\τ=σ :=
 (ccalls_any (α:=Unit) (res:=fun _=>.ret (.agg (revC (wiF x false l) (gnn (wiF x false l).length)))) hCC (fun c h=>by simp at h; rcases h with rfl|rfl <;> first|exact pure_agg (Fi.pure _)|exact pure_agg ⟨pure_fis _ _,tt⟩) (r7_with0 l nn x hl) (fun _ _=>pure_agg ⟨pure_fis _ _,tt⟩) σ).mono fun _ _ ⟨_,h1,h2,_⟩=>⟨h1,h2⟩
theorem wiF_len (x:Fi):∀ (l:List Fi) (d:Bool),(wiF x d l).length<=l.length+1
 | [],d=>by unfold wiF; split <;> simp
 | y::l,d=>by
  unfold wiF;have h2:=wiF_len x l d
  split
  ·rename_i h;have h1:∀ l:List Fi,(wiF x true l).length=l.length:=fun l=>by induction l with
    | nil=>rfl
    | cons y l ih=>simp [wiF,ih]
   simp [h1]
  ·simp; omega
theorem r7_Put_s (l:List Fi) (nn:Bool) (p b:Str) (hl:l.length<=1000000) (hb:b.length<=1000000000) (σ:List CObj):CCalls CC 26 [.agg (revC l nn),(sv p),(sv b)] σ fun r σ'=>r = .ret (.tup [.agg (revC (putF l p b).1 (gnn (putF l p b).1.length)),.val (.int .i64 (putF l p b).2)])/\σ'=σ:=by
 refine CCalls.anyw hCC pu_ pu_ ?_ σ;refine ccalls_val (ccalls_of Tryz.func26 rfl rfl ?_);refine z_10 ?_;refine cD (d_alloc rfl t_50 rfl q_288 ?_);refine z_3 ?_; refine z_42 ?_; refine cY q_180 ?_; refine cY q_190 ?_; refine z_208 ?_; refine cC (fun h1=>?_) fun h1=>?_
 ·have h0:revE l≠0:=by simpa using h1
  have hp:putF l p b=([],revE l):=by rw [putF,if_pos h0]
  refine z_0 ?_; refine cY q_67 ?_; refine cY q_246 ?_;refine cD (d_store rfl tt tt rfl q_269 t_27 q_288 rfl rfl (nb rfl) ?_);refine z_5 ?_;exact ⟨_,res_all (rs:=[.cell 6 32,.tmp 7]) (cs:=[_,_]) rfl q_66 (n_2 rfl),_,_,rfl,rfl,q_39⟩
 ·have h0:¬ revE l≠0:=by simpa using h1
  refine z_145 ?_; refine cY (y_callf rfl t_112 ⟨tt,tt⟩ (r4_Path_s p _) rfl) ?_; refine z_32 ?_; refine cC (fun h2=>?_) fun h2=>?_
  ·have h4:pathB p=false:=by simpa using h2
   have hp:putF l p b=([],6):=by rw [putF,if_neg h0,if_pos h4]
   refine z_0 ?_; refine cY q_67 ?_; refine z_100 ?_;exact ⟨_,res_all (rs:=[.cell 6 32,.tmp 7]) (cs:=[_,_]) rfl q_66 (n_2 rfl),_,_,rfl,rfl,q_39⟩
  ·have h4:¬ pathB p=false:=by simpa using h2
   have hw1:=woF_le l p;have hw2:=wiF_len ⟨p,b⟩ (woF l p) false;refine z_168 ?_; refine cY q_246 ?_; refine cY (y_callf rfl Tryz.call65 q_296 (r7_without l nn p hl _) rfl) ?_; refine z_86 ?_; refine cY q_53 ?_; refine cY (y_callf rfl Tryz.call64 q_296 (r7_with (woF l p) _ ⟨p,b⟩ om_ _) rfl) ?_; refine z_103 ?_; refine z_158 ?_; refine cY q_242 ?_; refine z_159 ?_; refine cG q_120 ?_; refine cG q_205 ?_; refine cG (fun hg=>y_len rfl hg rfl t_19 q_250 rfl) ?_; refine z_189 ?_; refine cC (fun h3=>?_) fun h3=>?_
   ·have h5:16384 < b.length\/64 < (wiF ⟨p,b⟩ false (woF l p)).length:=by
     simp at h3;omega
    have hp:putF l p b=([],2):=by rw [putF,if_neg h0,if_neg h4,if_pos h5]
    refine z_0 ?_; refine cY q_67 ?_; refine z_100 ?_;exact ⟨_,res_all (rs:=[.cell 6 32,.tmp 7]) (cs:=[_,_]) rfl q_66 (n_2 rfl),_,_,rfl,rfl,q_39⟩
   ·have h5:¬ (16384 < b.length\/64 < (wiF ⟨p,b⟩ false (woF l p)).length):=by
     simp at h3;omega
    have hp:putF l p b=(wiF ⟨p,b⟩ false (woF l p),0):=by rw [putF,if_neg h0,if_neg h4,if_neg h5]
    refine z_168 ?_; refine z_100 ?_;exact ⟨_,res_all (rs:=[.cell 6 32,.tmp 7]) (cs:=[_,_]) rfl q_66 (n_2 rfl),_,_,rfl,rfl,(by rw [hp]; exact .tups ⟨.aggs ⟨.old q_290,tt⟩,.old (.val _),tt⟩)⟩
def Ok {α:Type} (e:Int) (o:Option α) (e':Int) (y:α):Prop:=(e=0->(o=some y/\e'=0)\/(o=none/\e'≠0))/\(e≠0->e'≠0)
theorem Ok.none {e e':Int} {y:α} (h:e'≠0):Ok e (Option.none:Option α) e' y:=⟨fun _=>.inr ⟨rfl,h⟩,fun _=>h⟩
theorem Ok.some {e:Int} {y:α}:Ok e (Option.some y) e y:=⟨fun h=>.inl ⟨rfl,h⟩,fun h=>h⟩
theorem Ok.dead {e e':Int} {o:Option α} {y:α} (h:e≠0) (h':e'≠0):Ok e o e' y:=⟨fun h0=>absurd h0 h,fun _=>h'⟩
structure RX where
 x:Int
 n:Nat
 at_:Int
 e:Int
 b:List Ex
variable {x:Ky} {e:Int} {n:Nat}
abbrev cx (p:PX):Int × Nat × List Ex:=((p.1:Int),p.2.1,p.2.2)
def RXP (T:List Tok) (n:Nat) (e:Int) (o:Option PX) (a:RX):Prop:=Ok e (o.map cx) a.e (a.x,a.n,a.b)/\a.n < T.length/\a.b.length<=256/\(a.e=0->n < a.n)/\-1<=a.x/\a.x<=256
theorem RXP.dead {T:List Tok} {m:Nat} {e2 x at2:Int} {o:Option PX} {b:List Ex} (h:e=0->o=Option.none) (h2:e2≠0) (hm:m < T.length) (hb:b.length<=256) (hx : -1<=x/\x<=256):RXP T n e o ⟨x,m,at2,e2,b⟩:=by
 refine ⟨⟨fun h0=>.inr ⟨by rw [h h0]; rfl,h2⟩,fun _=>h2⟩,hm,hb,fun h0=>absurd h0 h2,hx.1,hx.2⟩
def srcA (p b:Str):Option Src:=if srcPB p=true then parseS b else none
def loadS (l:List Fi):List (Str × Src):=l.filterMap fun f=>(srcA f.p f.b).map fun s=>(f.p,s)
def er (t:Tok):Tok:=⟨t.k,t.t,t.n,0⟩
abbrev ers (T:List Tok):List Tok:=T.map er
theorem tk_er (T:List Tok) (n:Nat):tk (ers T) n=er (tk T n):=by
 unfold tk;rw [n_14];cases T[n]? <;> rfl
theorem isT_er (t:Tok) (k:Int) (s:Str):isT (er t) k s=isT t k s:=rfl
theorem opS_er (t:Tok) (lv:Int):opS (er t) lv=opS t lv:=rfl
theorem pIs_er (T:List Tok) (n:Nat) (k:Int) (s:Str):pIs (ers T) n k s=pIs T n k s:=by unfold pIs; rw [tk_er]; rfl
theorem pTake_er (T:List Tok) (n:Nat) (k:Int):pTake (ers T) n k=(pTake T n k).map fun x=>(er x.1,x.2):=by
 unfold pTake;rw [tk_er];show (if (tk T n).k=k then _ else _)=_
 split <;> rfl
theorem pName_er (T:List Tok) (n:Nat):pName (ers T) n=(pName T n).map fun x=>(er x.1,x.2):=by
 unfold pName;rw [pTake_er];cases pTake T n 1 with
 | none=>rfl
 | some x =>
  show (if resB x.1.t=true then _ else _)=Option.map _ (if resB x.1.t=true then _ else _)
  split <;> rfl
theorem pPath_er (T:List Tok) (n:Nat):pPath (ers T) n=(pPath T n).map fun x=>(er x.1,x.2):=by
 unfold pPath;rw [pTake_er];cases pTake T n 3 with
 | none=>rfl
 | some x =>
  show (if pathB x.1.t=true then _ else _)=Option.map _ (if pathB x.1.t=true then _ else _)
  split <;> rfl
theorem pArgs_er (T:List Tok) (F:PF) (d n:Nat) (b:List Ex):pArgs (ers T) F d n b=pArgs T F d n b:=by
 unfold pArgs;simp only [pIs_er,tk_er,isT_er]
theorem er_k (t:Tok):(er t).k=t.k:=rfl
theorem er_t (t:Tok):(er t).t=t.t:=rfl
theorem er_n (t:Tok):(er t).n=t.n:=rfl
theorem pBuilt_er (T:List Tok) (F:PF) (u:Str) (d n:Nat) (b:List Ex):pBuilt (ers T) F u d n b=pBuilt T F u d n b:=by
 unfold pBuilt;simp only [pIs_er,pPath_er,pTake_er,n_112,Function.comp_def,er_t,er_n];rfl
theorem pStep_er (T:List Tok) (ps:List Str) (F:PF):pStep (ers T) ps F=pStep T ps F:=by
 unfold pStep;simp only [pIs_er,tk_er,isT_er,opS_er,pTake_er,pArgs_er,pBuilt_er,n_112,Function.comp_def,er_k,er_t,er_n]
theorem pAll_er (T:List Tok) (ps:List Str):∀ f,pAll (ers T) ps f=pAll T ps f
 | 0=>rfl
 | f+1=>by rw [pAll,pAll,pStep_er,pAll_er T ps f]
theorem pParL_er (T:List Tok):∀ (f n:Nat) (l:List Str),pParL f (ers T) n l=pParL f T n l
 | 0,_,_=>rfl
 | f+1,n,l=>by
  unfold pParL;simp only [pName_er,pIs_er,tk_er,isT_er,n_112,Function.comp_def,er_t,pParL_er T f];rfl
theorem pParams_er (T:List Tok) (n:Nat):pParams (ers T) n=pParams T n:=by
 unfold pParams;simp only [pIs_er,tk_er,isT_er,pParL_er]
theorem pDecl_er (T:List Tok) (bs:List De) (n:Nat):pDecl (ers T) bs n=pDecl T bs n:=by
 have h1:∀ k m,pHead (ers T) k m=(pHead T k m).map fun x=>(er x.1,x.2):=fun k m=>by
  unfold pHead
  split
  ·exact pPath_er T m
  ·exact pName_er T m
 have h2:∀ k m,pPars (ers T) k m=pPars T k m:=fun k m=>by unfold pPars; rw [pParams_er]
 have h3:∀ ps d m,pExpr (ers T) ps d m=pExpr T ps d m:=fun ps d m=>by unfold pExpr; rw [pAll_er,n_17]
 unfold pDecl;simp only [h1,h2,h3,pIs_er,tk_er,n_112,Function.comp_def,er_k,er_t];rfl
theorem pImps_er (T:List Tok) (pkg:Str):∀ (f n:Nat) (l:List Str),pImps f (ers T) pkg n l=pImps f T pkg n l
 | 0,_,_=>rfl
 | f+1,n,l=>by
  unfold pImps;simp only [pName_er,pIs_er,tk_er,isT_er,n_112,Function.comp_def,er_t,pImps_er T pkg f];rfl
theorem pDecls_er (T:List Tok):∀ (f n:Nat) (l:List De),pDecls f (ers T) n l=pDecls f T n l
 | 0,_,_=>rfl
 | f+1,n,l=>by
  unfold pDecls;simp only [pDecl_er,tk_er,er_k,pDecls_er T f]
theorem pFile_er (T:List Tok):pFile (ers T)=pFile T:=by
 unfold pFile;simp only [pName_er,pIs_er,pImps_er,pDecls_er,n_112,Function.comp_def,er_t]
theorem drop_pre (p b:Str) (i:Nat):(p++b).drop (p.length+i)=b.drop i:=by rw [List.drop_append,n_34 om_,n_33,n_137]
theorem get_pre (p b:Str) (i:Nat):(p++b)[p.length+i]? = b[i]?:=by rw [n_27 om_]; congr 1; omega
theorem span_pre (p b:Str) (i:Nat) (ks:List Int):spanS (p++b) (p.length+i) ks=p.length+spanS b i ks:=by unfold spanS; rw [drop_pre]; omega
theorem line_pre (p b:Str) (i:Nat):lineE (p++b) (p.length+i)=p.length+lineE b i:=by unfold lineE; rw [drop_pre]; omega
theorem lexF_fuel (s:Str):∀ f g i,i<=s.length->s.length < f+i->s.length < g+i->lexF f s i=lexF g s i
 | 0,_,_,h,h1,_=>by omega
 | _+1,0,_,h,_,h2=>by omega
 | f+1,g+1,i,h,h1,h2=>by
  obtain ⟨k1,k2⟩:=spanS_le (ks:=[5]) h;unfold lexF;cases hb:s[spanS s i [5]]? with
  | none=>rfl
  | some b =>
   simp only
   split
   ·rename_i h6;have:=lineE_lt hb h6;exact lexF_fuel s f g _ (lineE_le k2) om_ om_
   ·split
    ·rfl
    ·rename_i h4;obtain ⟨e,g1,g2,g3⟩:=tokX_next hb h4;rw [g1,show (e:Int).toNat=e by omega,lexF_fuel s f g e g3 om_ om_]
def hitS (q:Nm) (x:Src):List De:=x.decls.filter fun d=>decide (deK x d=q)
theorem occ_hits (q:Nm):∀ fl:List Fi,(occ q fl).length=((loadS fl).flatMap fun x=>hitS q x.2).length
 | []=>rfl
 | f::fl=>by
  have ih:=occ_hits q fl;have e1:occ q (f::fl)=occ1 q f++occ q fl:=by simp [occ]
  rw [e1,n_4,ih];unfold occ1 loadS;rw [List.filterMap_cons,show srcA f.p f.b=srcOf f from rfl];cases srcOf f with
  | none=>simp
  | some x=>simp [hitS]
theorem wiF_true (x:Fi):∀ l:List Fi,wiF x true l=l
 | []=>rfl
 | y::l=>by
  unfold wiF;rw [if_neg si_,wiF_true x l]
theorem wiF_mem {x f:Fi}:∀ {l:List Fi},f∈wiF x false l->f=x\/f∈l
 | [],h=>by
  unfold wiF at h;rw [if_neg si_] at h;exact .inl (n_96.1 h)
 | y::l,h=>by
  unfold wiF at h;split at h
  ·rw [wiF_true] at h
   rcases n_13.1 h with h | h
   ·exact .inl h
   ·exact .inr h
  ·rcases n_13.1 h with rfl | h
   ·exact .inr n_83
   ·exact (wiF_mem h).imp id (n_59 _)
theorem wiF_srt {x:Fi}:∀ {l:List Fi},SrtF l->(∀ f∈l,f.p≠x.p)->SrtF (wiF x false l)
 | [],_,_=>List.pairwise_singleton _ _
 | y::l,h,hn=>by
  obtain ⟨h1,h2⟩:=n_41.1 h;unfold wiF
  split
  ·rename_i hc;have hc:Op.bytesLess x.p y.p=true:=by simpa using hc
   rw [wiF_true];refine n_41.2 ⟨fun f hf=>?_,h⟩
   rcases n_13.1 hf with rfl | hf
   ·exact hc
   ·exact bl_trans hc (h1 f hf)
  ·rename_i hc;have hc:¬ Op.bytesLess x.p y.p=true:=by simpa using hc
   refine n_41.2 ⟨fun f hf=>?_,wiF_srt h2 fun g hg=>hn g (n_59 _ hg)⟩
   rcases wiF_mem hf with rfl | hf
   ·exact bl_tot (by simpa using hc) fun e=>hn y n_83 e.symm
   ·exact h1 f hf
def comP:Str:=[10,35,32,109,111,114,101,10]
theorem tw_app {p:UInt8->Bool} (h:p 10=false):∀ l:Str,(l++comP).takeWhile p=l.takeWhile p
 | []=>by rw [n_33,comP,n_79,h]; rfl
 | b::l=>by
  rw [n_48,n_79,n_79,tw_app h l]
theorem span_com (h:i<=s.length) {ks:List Int} (hk:inK ks 10=false):spanS (s++comP) i ks=spanS s i ks:=by
 unfold spanS; rw [n_125 h,tw_app hk]
theorem line_com (h:i<=s.length):lineE (s++comP) i=lineE s i:=by
 unfold lineE; rw [n_125 h,tw_app de_]
theorem sub_com {a e:Nat} (h:e<=s.length):sub (s++comP) a e=sub s a e:=by
 unfold sub; rw [List.take_append_of_le_length h]
theorem endL_com:∀ l:Str,endL (l++comP)=endL l
 | []=>by decide
 | b::l=>by rw [n_48,endL,endL,endL_com l]
theorem pre_com:∀ l:Str,preB [61,61] (l++comP)=preB [61,61] l
 | []=>by decide
 | [b]=>by simp [preB,comP,List.isPrefixOf]
 | b::c::l=>by simp [preB,List.isPrefixOf]
theorem tokX_com {a:Nat} {b:UInt8} (h:s[a]? = some b):tokX (s++comP) a b=tokX s a b:=by
 have hlt:=(n_1.1 h).1;unfold tokX;rw [span_com (ks:=[1,2,3]) om_ de_,span_com (ks:=[2]) om_ de_,n_125 (show a+1<=s.length by omega),endL_com,n_125 (show a<=s.length by omega),pre_com,
  sub_com (spanS_le (ks:=[1,2,3]) om_).2,sub_com (spanS_le (ks:=[2]) om_).2]
 split
 ·rfl
 ·split
  ·rfl
  ·split
   ·cases he:endL (s.drop (a+1)) with
    | none=>rfl
    | some n =>
     have:=endL_lt he;rw [n_72] at this;simp only;rw [sub_com om_]
   ·split
    ·by_cases hp:preB [61,61] (s.drop a)=true
     ·have:=pre_len hp;rw [n_72] at this;rw [if_pos hp,if_pos hp,sub_com (by simp at this; omega)]
     ·rw [if_neg hp,if_neg hp,sub_com om_]
    ·rfl
theorem lexF_com2 (s:Str):∀ f i,i<=s.length->s.length < f+i->(lexF (f+2) (s++comP) i).map ers=(lexF f s i).map ers
 | 0,i,h,h1=>by omega
 | f+1,i,h,h1=>by
  obtain ⟨k1,k2⟩:=spanS_le (ks:=[5]) h;have hl:(s++comP).length=s.length+8:=by rw [n_4,show comP.length=8 from rfl]
  have hsp:spanS (s++comP) i [5]=if spanS s i [5]=s.length then s.length+1 else spanS s i [5]:=by
   unfold spanS;rw [n_125 h,List.takeWhile_append,n_72];by_cases hc:((s.drop i).takeWhile (inK [5])).length=s.length - i
   ·rw [if_pos hc,if_pos om_,n_4,n_72,show (comP.takeWhile (inK [5])).length=1 by decide]; omega
   ·rw [if_neg hc,if_neg om_]
  cases hb:s[spanS s i [5]]? with
  | none =>
   have hge:=List.getElem?_eq_none_iff.1 hb;have he:spanS s i [5]=s.length:=by omega
   rw [if_pos he] at hsp;have g1:(s++comP)[s.length+1]? = some 35:=get_pre s comP 1;have g2:lineE (s++comP) (s.length+1)=s.length+7:=by rw [line_pre]; rfl
   have g3:spanS (s++comP) (s.length+7) [5]=s.length+8:=by rw [span_pre]; rfl
   rw [lexF_com hsp.symm g1 rfl,g2,lexF_end g3.symm om_,lexF_end rfl hge];rfl
  | some b =>
   have hlt:=(n_1.1 hb).1;rw [if_neg om_] at hsp;have hb2:(s++comP)[spanS s i [5]]? = some b:=by rw [n_15 hlt,hb]
   unfold lexF;rw [hsp,hb2,hb];simp only;rw [tokX_com hb,line_com k2]
   split
   ·rename_i h6;have:=lineE_lt hb h6;exact lexF_com2 s f _ (lineE_le k2) om_
   ·split
    ·rfl
    ·rename_i h4;obtain ⟨e,g1,g2,g3⟩:=tokX_next hb h4;rw [g1,show (e:Int).toNat=e by omega];have ih:=lexF_com2 s f e g3 om_;cases ha:lexF (f+2) (s++comP) e <;> cases hc:lexF f s e <;> rw [ha,hc] at ih
     ·cases ih
     ·cases ih
     ·simp only [n_71,Option.some.injEq] at ih ⊢;show er _::ers _=er _::ers _;rw [ih]
theorem parse_com (s:Str) (h:s.length<=16376):parseS (s++comP)=parseS s:=by
 have hl:(s++comP).length=s.length+8:=by rw [n_4,show comP.length=8 from rfl]
 have h4:=lexF_com2 s (s.length+7) 0 (n_3 _) om_;have h5:=lexF_fuel s (s.length+7) (s.length+1) 0 (n_3 _) om_ om_;have h8:(lexS (s++comP)).map ers=(lexS s).map ers:=by
  unfold lexS;rw [if_neg om_,if_neg om_,hl,<- h5]; exact h4
 unfold parseS;cases h1:lexS (s++comP) <;> cases h2:lexS s <;> rw [h1,h2] at h8
 ·cases h8
 ·cases h8
 ·simp only [n_71,Option.some.injEq] at h8;rw [n_6,n_6,<- pFile_er,h8,pFile_er]
def newP:Str:=[110,101,119,47]
theorem new_path:∀ s∈madeAll,pathB (newP++s)=true/\newP++s∉madeAll/\(srcPB s=true->srcPB (newP++s)=true):=by decide +kernel
def RC (f g:Fi):Prop:=(srcPB f.p=false/\g=f)\/(srcPB f.p=true/\(g=⟨f.p,f.b++comP⟩\/g=⟨newP++f.p,f.b⟩))
theorem RC.occ (h:RC f g) (hp:f.p∈madeAll) (hb:f.b.length<=16376) (q:Nm):occ1 q g=occ1 q f:=by
 have:srcOf g=srcOf f:=by
  rcases h with ⟨_,rfl⟩ | ⟨h1,rfl | rfl⟩
  ·rfl
  ·unfold srcOf;rw [if_pos h1,if_pos h1];exact parse_com _ hb
  ·unfold srcOf;rw [if_pos h1,if_pos ((new_path _ hp).2.2 h1)]
 unfold occ1;rw [this]
theorem wiF_perm (x:Fi):∀ l,(wiF x false l).Perm (x::l)
 | []=>.refl _
 | y::l=>by
  rw [wiF]
  split
  ·rw [wiF_true]
  ·exact ((wiF_perm x l).cons y).trans (.swap x y l)
theorem srt_ne {l:List Fi} (h:SrtF l):l.Pairwise fun a b=>a.p≠b.p:=List.Pairwise.imp (fun {a b} hab e=>by rw [e,bl_irr] at hab; cases hab) h
theorem srt_get {l:List Fi} (h:SrtF l) {j:Nat} {a b:Fi} (ha:l[i]? = some a) (hb:l[j]? = some b) (hij:i < j):a.p≠b.p:=by
 obtain ⟨h1,rfl⟩:=n_1.1 ha;obtain ⟨h2,rfl⟩:=n_1.1 hb;exact List.pairwise_iff_getElem.1 (srt_ne h) i j h1 h2 hij
theorem srt_uni {l:List Fi} (h:SrtF l) {a b:Fi} (ha:a∈l) (hb:b∈l) (e:a.p=b.p):a=b:=by
 obtain ⟨i,hi⟩:=n_11.1 ha;obtain ⟨j,hj⟩:=n_11.1 hb
 rcases n_128 i j with h1 | h1 | h1
 ·exact absurd e (srt_get h hi hj h1)
 ·rw [h1,hj] at hi; injection hi with hi; exact hi.symm
 ·exact absurd e.symm (srt_get h hj hi h1)
structure CmI (al bl G:List Fi) (i:Nat):Prop where
 gl:G.length=i
 rc:∀ (j:Nat) (f g:Fi),al[j]? = some f->G[j]? = some g->RC f g
 perm:bl.Perm (G++al.drop i)
 srt:SrtF bl
section
theorem CmI.src (h:CmI al bl G i) (hi:i<=al.length) (hg:g∈bl):(∃ j f,j < i/\al[j]? = some f/\RC f g)\/g∈al.drop i:=by
 rcases n_18.1 (h.perm.mem_iff.1 hg) with hg | hg
 ·obtain ⟨j,hj⟩:=n_11.1 hg;have hlt:=(n_1.1 hj).1;rw [h.gl] at hlt;exact .inl ⟨j,al[j]'om_,hlt,si_,h.rc j _ g si_ hj⟩
 ·exact .inr hg
theorem CmI.pth (h:CmI al bl G i) (hi:i<=al.length) (hm:MadeR B al) (hg:g∈bl):(g.p∈madeAll\/∃ s∈madeAll,g.p=newP++s)/\g.b.length<=B+8:=by
 rcases h.src hi hg with ⟨j,f,_,hf,hr⟩ | hg
 ·have hfm:=n_0 hf;have h1:=hm.pth f hfm;have h2:=hm.byt f hfm
  rcases hr with ⟨_,rfl⟩ | ⟨_,rfl | rfl⟩
  ·exact ⟨.inl h1,om_⟩
  ·exact ⟨.inl h1,by show (f.b++comP).length<=_; rw [n_4,show comP.length=8 from rfl]; omega⟩
  ·exact ⟨.inr ⟨_,h1,rfl⟩,by show f.b.length<=_; omega⟩
 ·have hgm:=n_52 hg;exact ⟨.inl (hm.pth g hgm),by have:=hm.byt g hgm; omega⟩
theorem CmI.len (h:CmI al bl G i) (hi:i<=al.length):bl.length=al.length:=by
 rw [h.perm.length_eq,n_4,h.gl,n_72]; omega
theorem CmI.valid (h:CmI al bl G i) (hi:i<=al.length) (hm:MadeR B al) (hB:B<=16376):revE bl=0:=by
 have hl:=hm.len;unfold revE;rw [h.len hi,if_neg om_];refine rvE_ok (fun g hg=>?_) h.srt (fun g hg=>by cases hg);obtain ⟨h1,h2⟩:=h.pth hi hm hg;refine ⟨?_,om_⟩
 rcases h1 with h1 | ⟨s,hs,h1⟩
 ·exact (path_all _ h1).1
 ·rw [h1]; exact (new_path s hs).1
theorem CmI.at (h:CmI al bl G i) (hf:al[i]? = some f):f∈bl:=by
 rw [h.perm.mem_iff];obtain ⟨hlt,he⟩:=n_1.1 hf;rw [n_25 hlt,he];exact n_103 _ n_83
theorem CmI.data (h:CmI al bl G i) (hf:al[i]? = some f):dataF bl f.p=some f.b:=by
 have hfm:=h.at hf;unfold dataF;cases hx:bl.find? fun g=>decide (g.p=f.p) with
 | none=>have:=n_98.1 hx f hfm; simp at this
 | some g =>
  have h1:=n_123 hx;have h2:=List.find?_some hx;rw [srt_uni h.srt h1 hfm (of_decide_eq_true h2)];rfl
theorem CmI.fresh (h:CmI al bl G i) (hm:MadeR B al) (hf:al[i]? = some f) (hg:g∈bl):g.p≠newP++f.p:=fun e=>by
 have hlt:=(n_1.1 hf).1;have hn:=(new_path _ (hm.pth f (n_0 hf))).2.1
 rcases h.src om_ hg with ⟨j,f',hj,hf',hr⟩ | hg
 ·have hp:=hm.pth f' (n_0 hf')
  rcases hr with ⟨_,rfl⟩ | ⟨_,rfl | rfl⟩
  ·exact hn (e ▸ hp)
  ·exact hn (e ▸ hp)
  ·exact srt_get hm.srt hf' hf hj (List.append_cancel_left e)
 ·exact hn (e ▸ hm.pth g (n_52 hg))
theorem CmI.skip (h:CmI al bl G i) (hf:al[i]? = some f) (hs:srcPB f.p=false):CmI al bl (G++[f]) (i+1) where
 gl:=by rw [n_4,h.gl]; rfl
 rc:=fun j a g ha hg=>by
  rcases n_23 j G.length with hj | hj
  ·rw [n_15 hj] at hg;exact h.rc j a g ha hg
  ·rw [n_27 hj] at hg
   rcases hk:j - G.length with _ | k
   ·rw [hk] at hg;injection hg with hg
    have:j=i:=by rw [<- h.gl]; omega
    subst this;rw [hf] at ha;injection ha with ha
    subst ha;exact .inl ⟨hs,hg.symm⟩
   ·rw [hk] at hg; cases hg
 perm:=by
  obtain ⟨hlt,he⟩:=n_1.1 hf;have:=h.perm;rw [n_25 hlt,he] at this;rw [n_8]; exact this
 srt:=h.srt
theorem CmI.step (h:CmI al bl G i) (hm:MadeR B al) {x:Fi} (hf:al[i]? = some f) (hs:srcPB f.p=true) (hx:x=⟨f.p,f.b++comP⟩\/x=⟨newP++f.p,f.b⟩):CmI al (wiF x false (woF bl f.p)) (G++[x]) (i+1):=by
 obtain ⟨hlt,he⟩:=n_1.1 hf;have hdr:al.drop i=f::al.drop (i+1):=by rw [n_25 hlt,he]
 have hfp:=hm.pth f (n_0 hf);have hw:(woF bl f.p).Perm (G++al.drop (i+1)):=by
  have h1:(woF bl f.p).Perm (woF (G++al.drop i) f.p):=h.perm.filter _;refine h1.trans (.of_eq ?_);unfold woF;rw [hdr,List.filter_append,n_56,if_neg si_]
  congr 1
  ·refine n_107.2 fun g hg=>n_40 ?_;obtain ⟨j,hj⟩:=n_11.1 hg;have hjl:=(n_1.1 hj).1;rw [h.gl] at hjl;have hf':al[j]? = some (al[j]'om_):=by simp
   have hne:=srt_get hm.srt hf' hf hjl
   rcases h.rc j _ g hf' hj with ⟨_,rfl⟩ | ⟨_,rfl | rfl⟩
   ·exact hne
   ·exact hne
   ·intro e;have e:newP++(al[j]'om_).p=f.p:=e;exact (new_path _ (hm.pth _ (n_0 hf'))).2.1 (by rw [e]; exact hfp)
  ·refine n_107.2 fun g hg=>n_40 ?_;obtain ⟨j,hj⟩:=n_11.1 hg;rw [n_49] at hj;exact (srt_get hm.srt hf hj om_).symm
 have hsw:SrtF (woF bl f.p):=List.Pairwise.filter _ h.srt;refine ⟨by rw [n_4,h.gl]; rfl,fun j a g ha hg=>?_,?_,wiF_srt hsw fun y hy=>?_⟩
 ·rcases n_23 j G.length with hj | hj
  ·rw [n_15 hj] at hg;exact h.rc j a g ha hg
  ·rw [n_27 hj] at hg
   rcases hk:j - G.length with _ | k
   ·rw [hk] at hg;injection hg with hg
    have:j=i:=by rw [<- h.gl]; omega
    subst this;rw [hf] at ha;injection ha with ha
    subst ha hg;exact .inr ⟨hs,hx⟩
   ·rw [hk] at hg; cases hg
 ·refine (wiF_perm x _).trans ((hw.cons x).trans ?_);rw [n_8];exact (List.perm_middle (a:=x) (l₁:=G) (l₂:=al.drop (i+1))).symm
 ·obtain ⟨h1,h2⟩:=n_108.1 hy
  rcases hx with rfl | rfl
  ·exact of_decide_eq_true h2
  ·exact h.fresh hm hf h1
theorem CmI.occ (h:CmI al bl G al.length) (hm:MadeR B al) (hB:B<=16376) (q:Nm):(occ q bl).Perm (occ q al):=by
 have h1:bl.Perm G:=by have:=h.perm; rwa [n_110,n_32] at this
 have h2:G.map (occ1 q)=al.map (occ1 q):=by
  refine n_93 fun j=>?_;rw [n_14,n_14];cases ha:al[j]? with
  | none =>
   have:=List.getElem?_eq_none_iff.1 ha;rw [n_84 (by rw [h.gl]; exact this)]
  | some f =>
   have hj:=(n_1.1 ha).1;obtain ⟨g,hg⟩:∃ g,G[j]? = some g:=⟨G[j]'(by rw [h.gl]; exact hj),si_⟩;have hfm:=n_0 ha;rw [hg,n_71,n_71,(h.rc j f g ha hg).occ (hm.pth f hfm) (n_89 (hm.byt f hfm) hB) q]
 have h3:Go.Proofs.YtlppbmfecjabeaaGreatDoor.occ q G=Go.Proofs.YtlppbmfecjabeaaGreatDoor.occ q al:=by
  unfold Go.Proofs.YtlppbmfecjabeaaGreatDoor.occ;rw [List.flatMap_def,List.flatMap_def,h2]
 rw [<- h3];exact h1.flatMap_right _
end
theorem occT_perm {a b:List (Src × De)} (h:a.Perm b):occT a=occT b:=by
 have hl:=h.length_eq
 rcases a with _ | ⟨x,_ | ⟨y,a⟩⟩ <;> rcases b with _ | ⟨z,_ | ⟨w,b⟩⟩ <;> simp at hl
 ·rfl
 ·rw [List.singleton_perm_singleton.1 h]
 ·obtain ⟨_,_⟩:=x;obtain ⟨_,_⟩:=z;rfl
theorem con_same (h:CmI al bl G al.length) (hm:MadeR B al) (hB:B<=16376) (hk:k.k=1\/k.k=2\/k.k=3\/k.k=5):conF al [] k=conF bl [] k:=by
 have v1:=hm.valid om_;have v2:=h.valid (n_5 _) hm hB;have key:∀ (n:Int) (p o:Str),declF (newW al).2.1 (findE true (newW al).2.2 n p o)=declF (newW bl).2.1 (findE true (newW bl).2.2 n p o):=fun n p o=>by
  rw [declF_occ v1,declF_occ v2,occT_perm (h.occ hm hB _)]
 unfold conF contF
 rcases hk with hk | hk | hk | hk <;> rw [hk]
 ·exact key _ _ _
 ·exact key _ _ _
 ·exact key _ _ _
 ·rfl
theorem r7_Move_s (l:List Fi) (nn:Bool) (fr to b:Str) (hl:l.length<=1000000) (h0:revE l=0) (hp:pathB to=true) (hd:dataF l fr=some b) (hd2:dataF l to=none) (σ:List CObj):CCalls CC 40 [.agg (revC l nn),(sv fr),(sv to)] σ fun r σ'=>r = .ret (.tup [.agg (revC (wiF ⟨to,b⟩ false (woF l fr)) (gnn (wiF ⟨to,b⟩ false (woF l fr)).length)),.val (.int .i64 0)])/\σ'=σ:=by
 refine CCalls.anyw hCC pu_ pu_ ?_ σ;refine ccalls_val (ccalls_of Tryz.func40 rfl rfl ?_);refine z_10 ?_;refine cD (d_alloc rfl t_50 rfl q_288 ?_);refine z_3 ?_; refine z_42 ?_; refine cY q_180 ?_; refine cY q_190 ?_; refine z_208 ?_; refine cC (fun h1=>?_) fun h1=>?_
 ·exfalso;rw [h0] at h1;cases h1
 ·rw [h0];refine z_145 ?_; refine cY (y_callf rfl t_112 ⟨tt,tt⟩ (r4_Path_s to _) rfl) ?_; refine z_32 ?_; refine cC (fun h2=>?_) fun h2=>?_
  ·exfalso;rw [hp] at h2;cases h2
  ·refine z_168 ?_; refine cY q_246 ?_; refine cY (y_callf rfl Tryz.call87 q_296 (r7_Find_s l nn fr hl _) rfl) ?_; refine z_96 ?_; refine z_62 ?_; refine z_32 ?_; refine cC (fun h3=>?_) fun h3=>?_
   ·exfalso;rw [if_pos h0,hd] at h3;cases h3
   ·rw [if_pos h0,hd];refine z_9 ?_; refine z_124 ?_; refine cY q_246 ?_; refine cY (y_callf rfl Tryz.call87 q_296 (r7_Find_s l nn to hl _) rfl) ?_; refine z_96 ?_; refine z_38 ?_; refine co_nil ?_; refine cC (fun h4=>?_) fun h4=>?_
    ·exfalso;rw [if_pos h0,hd2] at h4;cases h4
    ·have hw1:=woF_le l fr;refine z_168 ?_; refine cY q_246 ?_; refine cY (y_callf rfl Tryz.call65 q_296 (r7_without l nn fr hl _) rfl) ?_; refine z_86 ?_; refine cY q_53 ?_; refine cY (y_callf rfl Tryz.call64 q_296 (r7_with (woF l fr) _ ⟨to,b⟩ om_ _) rfl) ?_; refine z_100 ?_;exact ⟨_,res_all (rs:=[.cell 6 32,.tmp 7]) (cs:=[_,_]) rfl q_66 (n_2 rfl),_,_,rfl,rfl,(by exact .tups ⟨.aggs ⟨.old q_290,tt⟩,.old (.val _),tt⟩)⟩
theorem cm_put (h:CmI al bl G i) (hm:MadeR B al) (hB:B<=16376) (hf:al[i]? = some f) (nn:Bool) (σ:List CObj):CCalls CC 26 [.agg (revC bl nn),sv f.p,sv (f.b++comP)] σ fun r τ=>r = .ret (.tup [.agg (revC (wiF ⟨f.p,f.b++comP⟩ false (woF bl f.p)) (gnn (wiF ⟨f.p,f.b++comP⟩ false (woF bl f.p)).length)),.val (.int .i64 0)])/\τ=σ:=by
 have hlt:=(n_1.1 hf).1;have hfm:=n_0 hf;have hv:=h.valid om_ hm hB;have hl:=h.len om_;have hl2:=hm.len;have hb:=hm.byt f hfm;have hbl:(f.b++comP).length<=16384:=by rw [n_4,show comP.length=8 from rfl]; omega
 have hw:=((wiF_perm ⟨f.p,f.b++comP⟩ (woF bl f.p))).length_eq;have hw2:=woF_le bl f.p;rw [n_7] at hw;have hc:=r7_Put_s bl nn f.p (f.b++comP) om_ om_ σ;have hp:putF bl f.p (f.b++comP)=((wiF ⟨f.p,f.b++comP⟩ false (woF bl f.p)),0):=by
  rw [putF,if_neg (by rw [hv]; exact fun e=>e rfl),if_neg (by rw [(path_all _ (hm.pth f hfm)).1]; exact fun e=>by cases e),if_neg om_]
 rw [hp] at hc;exact hc
theorem cm_move (h:CmI al bl G i) (hm:MadeR B al) (hB:B<=16376) (hf:al[i]? = some f) (nn:Bool) (σ:List CObj):CCalls CC 40 [.agg (revC bl nn),sv f.p,sv (newP++f.p)] σ fun r τ=>r = .ret (.tup [.agg (revC (wiF ⟨newP++f.p,f.b⟩ false (woF bl f.p)) (gnn (wiF ⟨newP++f.p,f.b⟩ false (woF bl f.p)).length)),.val (.int .i64 0)])/\τ=σ:=by
 have hlt:=(n_1.1 hf).1;have hl:=h.len om_;have hl2:=hm.len;refine r7_Move_s bl nn f.p (newP++f.p) f.b om_ (h.valid om_ hm hB) (new_path _ (hm.pth f (n_0 hf))).1 (h.data hf) ?_ σ;unfold dataF;rw [Option.map_eq_none_iff,n_98];intro g hg hh;exact h.fresh hm hf hg (of_decide_eq_true hh)
theorem l6_EntitydiffComments0 (l:List Int) (nn:Bool) (hl:l.length<=maxLen):CCalls CC 8 [.list (l.map icv) nn none] [] fun r τ=>∃ _:Unit,ClsR 0 τ r (.ret (.val (.bool true)))/\True:=by
 refine (ccalls_of Tryz.func8 rfl rfl ?_);refine z_66 ?_; refine cY (y_build' #[(0,1),(1,1)] rfl ⟨tt,tt⟩ t_158 Tryz.zeroValue29 rfl ⟨_,rfl⟩ (fun w=>by kernel_rfl) rfl rfl) ?_;refine cD (d_box rfl tt q_269 q_288 ?_);refine z_38 ?_;refine cD (d_callv rfl Tryz.call27 ⟨tt,tt⟩ (mk_Revision l nn 0 om_ hl _ 0 rfl) rfl ?_);intro ⟨al,p0⟩ ⟨hm,hp1,hp2⟩;dsimp only at hm hp1 hp2 ⊢;have hal:=hm.len;refine co_norm [tapeC l nn p0] rfl ?_; refine z_219 ?_; refine z_124 ?_; refine z_103 ?_; refine z_67 ?_; refine z_139 ?_; refine cw_loopd hCC (α:=List Fi × List Fi × Nat × Nat) (fun x=>[(3,.ptr 0 0),(4,.ptr 1 0),(5,.ptr 2 0),(21,(.list (al.map Fi.cv) (gnn al.length) none)),(22,(.val (.int .i64 (al.length:Int)))),(23,(.val (.int .i64 (x.2.2.1:Int))))]) (fun x=>[tapeC l nn x.2.2.2,.box (revC al (gnn al.length)),.box (revC x.1 (gnn x.1.length))]) (fun x=>x.2.2.1<=al.length/\CmI al x.1 x.2.1 x.2.2.1/\x.2.2.2<=4400+x.2.2.1) (fun x=>al.length - x.2.2.1) (al,[],0,p0) ⟨n_3 _,⟨rfl,fun j f g _ hg=>by simp at hg,.refl _,hm.srt⟩,do_⟩ tu_ (extra0:=[]) rfl q_273 uz_ ?_; intro ⟨bl,G,i,p⟩ ⟨hi,hc,hp⟩;dsimp only at hi hc hp ⊢;refine z_28 ?_; refine cC (fun h1=>?_) fun h1=>?_
 ·have hlt:i < al.length:=by simp at h1; omega
  obtain ⟨y,hy⟩:∃ y,al[i]? = some y:=⟨al[i]'hlt,si_⟩;have hym:=n_0 hy;have hyp:=pathB_len (path_all _ (hm.pth y hym)).1;have hyb:=hm.byt y hym;refine z_41 ?_; refine z_234 ?_; refine z_23 ?_; refine z_67 ?_; refine z_44 ?_; refine cY (y_callf rfl Tryz.call24 ⟨tt,tt⟩ (r7_IsSource_s y.p om_ _) rfl) ?_; refine z_32 ?_; refine cC (fun h2=>?_) fun h2=>?_
  ·have hs:srcPB y.p=false:=by simpa using h2
   refine z_207 ?_;exact ⟨(bl,G++[y],i+1,p),_,⟨do_,do_,hc.skip hy hs,do_⟩,tu_,rfl⟩
  ·have hs:srcPB y.p=true:=by simpa using h2
   refine z_168 ?_; refine z_44 ?_; refine z_44 ?_; refine cY q_160 ?_; refine cY (y_callf rfl Tryz.call26 q_286 (by exact cm_put hc hm om_ hy _ _) rfl) ?_; refine z_58 ?_; refine z_103 ?_; refine z_1 ?_; refine cw_cutd hCC (α:=List Fi × Nat) (fun x=>[(3,.ptr 0 0),(4,.ptr 1 0),(5,.ptr 2 0),(8,.ptr 4 0),(9,(.val (.int .i64 (0)))),(21,(.list (al.map Fi.cv) (gnn al.length) none)),(22,(.val (.int .i64 (al.length:Int)))),(23,(.val (.int .i64 (i:Int))))]) (fun x=>[tapeC l nn x.2,.box (revC al (gnn al.length)),.box (revC bl (gnn bl.length)),.box y.cells,.box (revC x.1 (gnn x.1.length))]) (fun x=>x.2=p+1/\∃ z:Fi,(z=⟨y.p,y.b++comP⟩\/z=⟨newP++y.p,y.b⟩)/\x.1=wiF z false (woF bl y.p)) q_273 uz_ ?_ ?_
   ·
    refine z_2 ?_;refine cD (d_callv rfl t_35 q_283 (tape_chance l nn p _ 0 rfl om_ hl 1 2 om_) rfl ?_);intro _ _; refine co_nil ?_; refine cC (fun h3=>?_) fun h3=>?_
    ·refine cw_region ?_; refine cY q_180 ?_; refine z_44 ?_; refine z_44 ?_; refine cY q_163 ?_; refine cY (y_callf rfl Tryz.call40 q_286 (by exact cm_move hc hm om_ hy _ _) rfl) ?_; refine z_58 ?_;refine cD (d_store rfl tt tt rfl q_269 t_27 q_288 rfl rfl (nb rfl) ?_);refine z_1 ?_;exact ⟨((wiF ⟨newP++y.p,y.b⟩ false (woF bl y.p)),p+1),_,⟨rfl,_,.inr rfl,rfl⟩,tu_,rfl⟩
    ·refine cw_skip ?_;exact ⟨((wiF ⟨y.p,y.b++comP⟩ false (woF bl y.p)),p+1),_,⟨rfl,_,.inl rfl,rfl⟩,tu_,rfl⟩
   ·rintro ⟨xl,p'⟩ ⟨hp',z,hz,hx⟩;dsimp only at hp' hx ⊢;subst hp' hx;refine z_183 ?_; refine cC (fun h4=>?_) fun h4=>?_
    ·exfalso;cases h4
    ·have hc2:=hc.step hm hy hs hz;refine cw_skip (cw_region ?_);refine cY q_180 ?_; refine z_29 ?_; refine z_21 ?_;exact ⟨(wiF z false (woF bl y.p),G++[z],i+1,p+1),_,⟨do_,do_,hc2,do_⟩,tu_,rfl⟩
 ·have hie:i=al.length:=by simp at h1; omega
  subst hie;have v1:=hm.valid om_;have v2:=hc.valid (n_5 _) hm om_;have n1:=chL_le v1 v2;refine z_90 ?_; refine cY q_180 ?_; refine cY q_180 ?_; refine cY (y_callf rfl t_111 q_296 (ed_Ch _ _ v1 v2 _) rfl) ?_; refine z_96 ?_; refine z_118 ?_; refine cC (fun h5=>?_) fun h5=>?_
  ·exfalso;cases h5
  ·refine z_145 ?_; refine cY q_105 ?_; refine z_24 ?_; refine cw_loopd hCC (α:=Nat) (fun i=>[(65,(.list ((chL al [] bl []).map Ky.cv) (gnn (chL al [] bl []).length) none)),(66,(.val (.int .i64 ((chL al [] bl []).length:Int)))),(67,(.val (.int .i64 (i:Int))))]) (fun _=>[tapeC l nn p,.box (revC al (gnn al.length)),.box (revC bl (gnn bl.length))]) (fun i=>i<=(chL al [] bl []).length) (fun i=>(chL al [] bl []).length - i) 0 (n_3 _) tu_ (extra0:=[]) rfl q_273 uz_ ?_; intro j hj; refine z_28 ?_; refine cC (fun h6=>?_) fun h6=>?_
   ·have hlt:j < (chL al [] bl []).length:=by simp at h6; omega
    obtain ⟨y,hy⟩:∃ y,(chL al [] bl [])[j]? = some y:=⟨(chL al [] bl [])[j]'hlt,si_⟩;refine z_41 ?_; refine z_235 ?_; refine z_102 ?_; refine z_48 ?_; refine cY q_168 ?_; refine cY q_238 ?_; refine z_159 ?_; refine cG q_127 ?_; refine cG q_208 ?_; refine z_243 ?_; refine cY q_246 ?_; refine cG q_127 ?_; refine cG q_208 ?_; refine z_243 ?_; refine cY q_246 ?_; refine cG q_127 ?_; refine cG q_208 ?_; refine z_189 ?_; refine cC (fun h7=>?_) fun h7=>?_
    ·have hk:=(chL_mem v1 v2 rfl rfl y).1 (n_0 hy);exact absurd (con_same hc hm om_ (by simp at h7; omega)) hk.2
    ·refine z_51 ?_;exact ⟨(j+1),_,⟨om_,om_⟩,tu_,rfl⟩
   ·refine z_90 ?_; refine cY (y_callf rfl Tryz.call37 trivial (l6_awake_s _) rfl) ?_; refine z_5 ?_;exact ⟨_,res1 rfl tt q_269,⟨(),.ret (.old (.val _)),tt⟩⟩
theorem l6_EntitydiffComments (l:List Int) (nn:Bool) (hl:l.length<=maxLen) (σ:List CObj):CCalls CC 8 [.list (l.map icv) nn none] σ fun r τ=>r = .ret (.val (.bool true))/\τ=σ :=
 (ccalls_any (res:=fun _:Unit=>.ret (.val (.bool true))) (P:=fun _=>True) hCC (fun a h=>by simp at h; subst h; exact pure_ints _ _) (l6_EntitydiffComments0 l nn hl) (fun _ _=>.val _) σ).mono fun r τ ⟨_,h1,h2,_⟩=>⟨h1,h2⟩
end Go.Proofs.YtlppbmfecjabeaaGreatDoor
