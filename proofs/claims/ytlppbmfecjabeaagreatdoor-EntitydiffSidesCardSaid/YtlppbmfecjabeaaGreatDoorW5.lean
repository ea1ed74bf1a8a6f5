/- Part 5 of what the claim needs: values without addresses, and what the program's functions do with them. -/
import Derived.Test.YtlppbmfecjabeaaGreatDoorW4
set_option maxRecDepth 100000
set_option maxHeartbeats 4000000
namespace Go
theorem tuk4_ {p : Prop} (h : p := by exact ⟨⟨tt,rfl⟩,⟨tt,rfl⟩,⟨tt,rfl⟩,⟨tt,rfl⟩,tt⟩) : p := h
theorem tuk7_ {p : Prop} (h : p := by exact ⟨⟨tt,rfl⟩,⟨tt,rfl⟩,⟨tt,rfl⟩,⟨tt,rfl⟩,⟨tt,rfl⟩,⟨tt,rfl⟩,⟨tt,rfl⟩,tt⟩) : p := h
end Go
namespace Go.Proofs.YtlppbmfecjabeaaGreatDoor
open Go Go.Cl
variable {i B n L b:Nat} {fl:List Fi} {l:List Ky} {nn:Bool} {y k:Ky} {α:Type} {f:Fi} {σ:List CObj}
theorem rv_asc:∀ {pv:Option Fi} {l:List Fi},rvE pv l=0->(∀ g,pv=some g->∀ f∈l,g.p < f.p)/\l.Pairwise fun a b=>a.p < b.p
 | _,[],_=>⟨fun _ _ f hf=>(by cases hf),List.Pairwise.nil⟩
 | pv,x::l,h=>by
  rw [rvE] at h;split at h
  ·rename_i hs;obtain ⟨h1,h2⟩:=rv_asc h;have hx:∀ g,pv=some g->g.p < x.p:=fun g hg=>by
    subst hg;unfold rvStep at hs;split at hs
    ·cases hs
    ·split at hs
     ·cases hs
     ·rename_i h3;split at hs
      ·cases hs
      ·rename_i h4;simp only [Option.any_some,n_48] at h3 h4;rw [bytesLess_eq,n_48] at h4
       rcases List.le_total g.p x.p with h5 | h5
       ·rcases Decidable.em (g.p < x.p) with h6 | h6
        ·exact h6
        ·exact absurd (List.le_antisymm h5 (List.not_lt.1 h6)).symm h3
       ·rcases Decidable.em (g.p < x.p) with h6 | h6
        ·exact h6
        ·exact absurd (List.le_antisymm h5 (List.not_lt.1 h4)) h3
   refine ⟨fun g hg f hf=>?_,.cons (fun f hf=>h1 x rfl f hf) h2⟩
   rcases n_13.1 hf with rfl | hf
   ·exact hx g hg
   ·exact List.lt_trans (hx g hg) (h1 x rfl f hf)
  ·rename_i hs;exact absurd h hs
structure WI (seen:List Str) (ms:SM) (me:EM):Prop where
 src:∀ p x,glk ms p=some x->SrcG x/\p∈seen
 ent:∀ k e,glk me k=some e->1<=e.ct/\EnOk ms e
theorem addDs_ok {ms:SM} {path:Str} {x:Src} (hg:glk ms path=some x) (hx:SrcG x):∀ (n k:Nat) (me:EM),x.decls.length - k=n->(∀ k e,glk me k=some e->1<=e.ct/\EnOk ms e)->∀ q e,glk (addDs me path x.pkg (x.decls.drop k) k) q=some e->1<=e.ct/\EnOk ms e
 | 0,k,me,hn,h,q,e,he=>by
  rw [n_34 om_,addDs] at he;exact h q e he
 | n+1,k,me,hn,h,q,e,he=>by
  obtain ⟨d,hd⟩:∃ d,x.decls[k]? = some d:=⟨x.decls[k]'om_,si_⟩;rw [addDs_step hd] at he;refine addDs_ok hg hx n (k+1) _ om_ (fun q e he=>?_) q e he;rw [addE,glk_gput] at he;split at he
  ·injection he with he
   subst he
   split
   ·rename_i f hf;obtain ⟨h1,_⟩:=h _ _ hf;exact ⟨by simp only; omega,fun hc=>by simp only at hc; omega⟩
   ·exact ⟨n_93 _,fun _=>⟨x,d,k,hg,hx,rfl,hd⟩⟩
  ·exact h q e he
theorem EnOk.put {ms:SM} {e:En} {path:Str} {x:Src} (h:EnOk ms e) (hp:glk ms path=none):EnOk (gput ms path x) e:=fun hc=>by
 obtain ⟨s,d,i,h1,h2⟩:=h hc;refine ⟨s,d,i,?_,h2⟩;rw [glk_gput,if_neg]
 ·exact h1
 ·intro he; rw [he,hp] at h1; cases h1
theorem wStep_ok {seen:List Str} {s:WS} (h:WI seen s.2.1 s.2.2) (hf:f.p∉seen):WI (f.p::seen) (wStep s f).2.1 (wStep s f).2.2:=by
 have hw:WI (f.p::seen) s.2.1 s.2.2:=⟨fun p x hp=>⟨(h.src p x hp).1,n_69 _ (h.src p x hp).2⟩,h.ent⟩;unfold wStep
 split
 ·split
  ·exact hw
  ·rename_i x hx;have hn:glk s.2.1 f.p=none:=by
    cases hg:glk s.2.1 f.p with
    | none=>rfl
    | some y=>exact absurd (h.src _ _ hg).2 hf
   have hok:=parseS_ok hx;refine ⟨fun p y hp=>?_,?_⟩
   ·simp only [glk_gput] at hp;split at hp
    ·rename_i e;injection hp with hp
     subst hp;exact ⟨hok,by rw [e]; simp⟩
    ·exact ⟨(h.src p y hp).1,n_69 _ (h.src p y hp).2⟩
   ·have hg:glk (gput s.2.1 f.p x) f.p=some x:=by rw [glk_gput,if_pos rfl]
    have:=addDs_ok hg hok _ 0 s.2.2 rfl (fun k e he=>⟨(h.ent k e he).1,(h.ent k e he).2.put hn⟩);simpa using this
 ·exact hw
theorem newF_ok:∀ {l:List Fi} {seen:List Str} {s:WS},WI seen s.2.1 s.2.2->(∀ f∈l,f.p∉seen)->(l.Pairwise fun a b=>a.p < b.p)->∃ seen',WI seen' (newF l s).2.1 (newF l s).2.2
 | [],seen,s,h,_,_=>⟨seen,h⟩
 | f::l,seen,s,h,hn,hp=>by
  have h1:=wStep_ok h (hn f si_);refine newF_ok (l:=l) h1 (fun g hg hm=>?_) (n_49.1 hp).2
  rcases n_13.1 hm with hm | hm
  ·have:=(n_49.1 hp).1 g hg;rw [hm] at this;exact absurd this (List.lt_irrefl _)
  ·exact hn g (by simp [hg]) hm
theorem newW_ok (h:revE fl=0):WOk fl (newW fl).2.1 (newW fl).2.2:=by
 obtain ⟨h1,h2⟩:=revE_all h;have h0:rvE none fl=0:=by
  unfold revE at h;split at h
  ·cases h
  ·exact h
 obtain ⟨seen,h3⟩:=newF_ok (l:=fl) (seen:=[]) (s:=([],[],[])) ⟨fun p x hp=>(by cases hp),fun k e he=>(by cases he)⟩ (fun f _ hm=>(by cases hm)) (rv_asc h0).2;rw [newW,if_pos h];exact ⟨h1,fun f hf=>by have:=pathB_len (h2 f hf).1; have:=(h2 f hf).2; omega,fun p s hp=>(h3.src p s hp).1,fun k e he=>(h3.ent k e he).2⟩
abbrev fv (f:FuncId):CV:=.val (.func (.func f) #[] #[])
def cmapV (b:Nat):List (Int × CV):=[(1,fv 105),(2,fv 107),(3,fv 108),(4,fv 109),(5,.clo 111 [.ptr b 0]),(6,fv 114),(7,fv 116)]
abbrev cmO (b:Nat):CObj:=.map (gm kv (fun c:CV=>c) (cmapV b))
def cfv (b:Nat) (k:Int):CV:=(glk (cmapV b) k).getD (cvOf .nilFunc)
theorem old_cmO (h:b < L):OldObj L (cmO b):=fun x hx=>by
 obtain ⟨y,hy,rfl⟩:=n_9.1 hx;refine ⟨.val _,?_⟩;simp only [cmapV,n_13,n_79,or_false] at hy
 rcases hy with rfl | rfl | rfl | rfl | rfl | rfl | rfl
 ·exact .val _
 ·exact .val _
 ·exact .val _
 ·exact .val _
 ·refine .clo fun i c hi=>?_
  rcases i with _ | i
  ·injection hi with hi; subst hi; exact .ptr h
  ·cases hi
 ·exact .val _
 ·exact .val _
theorem ren_cmO {R:Nat->Nat->Prop} {b':Nat} (h:R b b'):RenRO R (cmO b) (cmO b'):=.map ⟨rfl,fun i x x' h1 h2=>by
 rcases i with _ | _ | _ | _ | _ | _ | _ | i
 ·injection h1 with h1; injection h2 with h2; subst h1 h2; exact ⟨.pure (.val _),.pure (.val _)⟩
 ·injection h1 with h1; injection h2 with h2; subst h1 h2; exact ⟨.pure (.val _),.pure (.val _)⟩
 ·injection h1 with h1; injection h2 with h2; subst h1 h2; exact ⟨.pure (.val _),.pure (.val _)⟩
 ·injection h1 with h1; injection h2 with h2; subst h1 h2; exact ⟨.pure (.val _),.pure (.val _)⟩
 ·injection h1 with h1; injection h2 with h2; subst h1 h2
  refine ⟨.pure (.val _),.clo rfl fun i c c' g g'=>?_⟩
  rcases i with _ | i
  ·injection g with g; injection g' with g'; subst g g'; exact .ptr h
  ·cases g
 ·injection h1 with h1; injection h2 with h2; subst h1 h2; exact ⟨.pure (.val _),.pure (.val _)⟩
 ·injection h1 with h1; injection h2 with h2; subst h1 h2; exact ⟨.pure (.val _),.pure (.val _)⟩
 ·cases h1⟩
theorem fa_contents0 (ev:List Va) (en:Bool):CCalls CC 58 [.agg (envC ev en)] [] fun r τ=>∃ _:Unit,r = .ret (.map 1)/\τ=[.box (envC ev en),cmO 0]/\True:=by
 refine (ccalls_of Tryz.func58 rfl rfl ?_);refine z_50 ?_; refine z_0 ?_;refine cD (d_makeMap rfl ?_);refine cD (d_mapUpdate_g (vc:=fun c:CV=>c) (l:=(cmapV 0).take 0) (a:=1) (b:=((cmapV 0).getD 0 (0,fv 0)).2) keyI (.inr rfl) tt rfl tt rfl rfl rfl t_50 rfl ?_);refine cD (d_mapUpdate_g (vc:=fun c:CV=>c) (l:=(cmapV 0).take 1) (a:=2) (b:=((cmapV 0).getD 1 (0,fv 0)).2) keyI (.inr rfl) tt rfl tt rfl rfl rfl t_50 rfl ?_);refine cD (d_mapUpdate_g (vc:=fun c:CV=>c) (l:=(cmapV 0).take 2) (a:=3) (b:=((cmapV 0).getD 2 (0,fv 0)).2) keyI (.inr rfl) tt rfl tt rfl rfl rfl t_50 rfl ?_);refine cD (d_mapUpdate_g (vc:=fun c:CV=>c) (l:=(cmapV 0).take 3) (a:=4) (b:=((cmapV 0).getD 3 (0,fv 0)).2) keyI (.inr rfl) tt rfl tt rfl rfl rfl t_50 rfl ?_);refine cY (y_mkfunc rfl ⟨tt,tt⟩) ?_;refine cD (d_mapUpdate_g (vc:=fun c:CV=>c) (l:=(cmapV 0).take 4) (a:=5) (b:=((cmapV 0).getD 4 (0,fv 0)).2) keyI (.inr rfl) tt rfl tt rfl rfl rfl t_50 rfl ?_);refine cD (d_mapUpdate_g (vc:=fun c:CV=>c) (l:=(cmapV 0).take 5) (a:=6) (b:=((cmapV 0).getD 5 (0,fv 0)).2) keyI (.inr rfl) tt rfl tt rfl rfl rfl t_50 rfl ?_);refine cD (d_mapUpdate_g (vc:=fun c:CV=>c) (l:=(cmapV 0).take 6) (a:=7) (b:=((cmapV 0).getD 6 (0,fv 0)).2) keyI (.inr rfl) tt rfl tt rfl rfl rfl t_50 rfl ?_);refine cY q_247 ?_; refine z_4 ?_;exact ⟨_,res1 rfl tt q_272,(by exact ⟨(),rfl,rfl,tt⟩)⟩
theorem fa_contents (ev:List Va) (en:Bool) (σ:List CObj):CCalls CC 58 [.agg (envC ev en)] σ fun r τ=>∃ _:Unit,r = .ret (.map (σ.length+1))/\τ=σ++[.box (envC ev en),cmO σ.length]/\True :=
 ccalls_new (α:=Unit) hCC (fun a ha=>by simp at ha; subst ha; exact pure_agg ⟨pure_vas _ _,tt⟩) (res:=fun _=>.ret (.map 1)) (res':=fun _ m=>.ret (.map (m+1))) (S:=fun _=>[.box (envC ev en),cmO 0]) (S':=fun _ m=>[.box (envC ev en),cmO m]) (P:=fun _=>True) (fa_contents0 ev en) (fun _ _=>rfl) (fun _ m i x h=>by
  rcases i with _ | _ | i
  ·injection h with h; subst h; exact ⟨_,rfl,.box (renL_pure (fun c hc=>by simp at hc; subst hc; exact pure_vas _ _))⟩
  ·injection h with h; subst h; exact ⟨_,rfl,ren_cmO si_⟩
  ·cases h) (fun _ m=>.ret (.map rfl)) σ
theorem key_kind (h:keyB k=true):(k.k=1\/k.k=2\/k.k=3\/k.k=4\/k.k=5\/k.k=6\/k.k=7)/\k.a.length<=100:=by
 unfold keyB at h;split at h
 ·rename_i h1;simp only [n_38,beq_iff_eq] at h1;simp only [n_29] at h;have:=nameB_len h.1;exact ⟨om_,om_⟩
 ·split at h
  ·rename_i h1;simp only [n_38,beq_iff_eq] at h1;simp only [n_29] at h;have:=pathB_len h.1;exact ⟨om_,om_⟩
  ·split at h
   ·rename_i h1;simp only [n_38,beq_iff_eq] at h1;simp only [n_29] at h;have:=nameB_len h.1;exact ⟨om_,om_⟩
   ·cases h
theorem fa_dyn {br:List Str} {ms:SM} {me:EM} {w q1 q2 t:Nat} (hσ:WAt σ w q1 q2 t fl nn true br ms me) (hok:WOk fl ms me) {ev:List Va} {en:Bool} (hb:σ[b]? = some (.box (envC ev en))) (hev:∀ v∈ev,-9223372036854775808<=v.v/\v.v<=9223372036854775807) (hel:ev.length<=1000000000) (hk:keyB k=true) :
 Answers CC (cfv b k.k) [.ptr w 0,.agg k.cells] σ (sv (contF fl ms me ev k)):=by
 obtain ⟨hkk,hka⟩:=key_kind hk
 rcases hkk with h | h | h | h | h | h | h
 ·refine .inl ⟨105,by rw [h]; rfl,Tryz.call105,?_⟩;rw [contF,if_pos h];exact fa_c1 hσ hok k
 ·refine .inl ⟨107,by rw [h]; rfl,Tryz.call107,?_⟩;rw [contF,if_neg om_,if_pos h];exact fa_c2 hσ hok k
 ·refine .inl ⟨108,by rw [h]; rfl,Tryz.call108,?_⟩;rw [contF,if_neg om_,if_neg om_,if_pos h];exact fa_c3 hσ hok k
 ·refine .inl ⟨109,by rw [h]; rfl,Tryz.call109,?_⟩;rw [contF,if_neg om_,if_neg om_,if_neg om_,if_pos h];exact fa_c4 hσ hok k
 ·refine .inr ⟨111,[.ptr b 0],by rw [h]; rfl,Tryz.call111,?_⟩;rw [contF,if_neg om_,if_neg om_,if_neg om_,if_neg om_,if_pos h];exact fa_c5 hb hev hel k
 ·refine .inl ⟨114,by rw [h]; rfl,Tryz.call114,?_⟩;rw [contF,if_neg om_,if_neg om_,if_neg om_,if_neg om_,if_neg om_,if_pos h];exact fa_c6 hσ hok k
 ·refine .inl ⟨116,by rw [h]; rfl,Tryz.call116,?_⟩;rw [contF,if_neg om_,if_neg om_,if_neg om_,if_neg om_,if_neg om_,if_neg om_];exact fa_c7 hσ hok k hka
noncomputable def contS (fl:List Fi) (ev:List Va) (l:List Ky):Option (List Str) :=
 if revE fl=0/\envB ev=true/\l.all keyB=true then some (l.map (contF fl (newW fl).2.1 (newW fl).2.2 ev)) else none
def contR (o:Option (List Str)):CV:=.tup [.list ((o.getD []).map scv) (gnn (o.getD []).length) none,.val (.int .i64 (if o.isSome then 0 else 1))]
theorem lk_cfv (b:Nat) (k:Int):((glk (cmapV b) k).map fun c:CV=>c).getD (cvOf .nilFunc)=cfv b k:=by unfold cfv; cases glk (cmapV b) k <;> rfl
theorem allK_step {p:Ky->Bool} (h:l[i]? = some y) (ha:(l.take i).all p=true) (hy:p y=true):(l.take (i+1)).all p=true:=by
 rw [n_46,h,List.all_append,ha]; simp [hy]
theorem allK_not {p:Ky->Bool} (h:l[i]? = some y) (hy:p y=false):l.all p≠true:=fun hh=>by
 rw [n_21] at hh;rw [hh y (n_0 h)] at hy;cases hy
theorem fa_Contents0 (fl:List Fi) (nn:Bool) (hfl:∀ f∈fl,f.p.length<=1000000000) (ev:List Va) (en:Bool) (hev:∀ v∈ev,v.n.length<=1000000000) (hvr:∀ v∈ev,-9223372036854775808<=v.v/\v.v<=9223372036854775807) (hel:ev.length<=1000000000) (l:List Ky) (nk:Bool) (hl:l.length<=1000000000) (hk:∀ k∈l,k.a.length<=1000000000/\k.b.length<=1000000000):CCalls CC 16 [.agg (revC fl nn),.agg (envC ev en),.list (l.map Ky.cv) nk none] [] fun r τ=>∃ _:Unit,ClsR 0 τ r (.ret (contR (contS fl ev l)))/\True:=by
 refine (ccalls_of Tryz.func16 rfl rfl ?_);refine z_63 ?_; refine z_106 ?_; refine z_79 ?_;refine cD (d_callv rfl Tryz.call56 ⟨tt,tt⟩ (wo_New fl nn hfl _) rfl ?_);intro _ _; refine z_64 ?_; refine cY q_282 ?_; refine z_208 ?_; refine cY q_284 ?_; refine cY q_247 ?_; refine cG (fun hg=>y_load rfl tt rfl t_88 t_89 rfl (nb rfl)) ?_; refine cG (fun hg=>y_callf rfl Tryz.call57 ⟨hg,tt⟩ (ev_CheckEnvironment_s ev en hev _) rfl) ?_; refine cG q_267 ?_; refine z_65 ?_; refine cC (fun h1=>?_) fun h1=>?_
 ·have hv:¬ (revE fl=0/\envB ev=true/\l.all keyB=true):=by
   rintro ⟨u1,u2,_⟩;simp [u1,u2] at h1
  refine z_0 ?_; refine z_229 ?_;exact ⟨_,res_all (rs:=[.tmp 6,.tmp 7]) (cs:=[_,_]) rfl q_140 (n_2 rfl),(by rw [contS,if_neg hv]; exact ⟨(),.ret (.tups ⟨.old (old_strs _ ([]:List Str) _),.old (.val _),tt⟩),tt⟩)⟩
 ·have hv:revE fl=0/\envB ev=true:=by simpa using h1
  have hok:=newW_ok hv.1;have hva:(revE fl == 0)=true:=by simp [hv.1]
  rw [hva];refine z_60 ?_; refine cY q_185 ?_;refine cD (d_callv rfl Tryz.call58 ⟨tt,tt⟩ (fa_contents ev en _) rfl ?_);intro _ _; refine z_1 ?_; refine z_279 ?_; refine z_24 ?_; refine cw_loopr hCC 8 rfl (α:=Nat) (fun i=>[(8,.ptr 2 0),(9,.map 7),(10,(.list (((l.take i).map (contF fl (newW fl).2.1 (newW fl).2.2 ev)).map scv) (gnn ((l.take i).map (contF fl (newW fl).2.1 (newW fl).2.2 ev)).length) (gtok ((l.take i).map (contF fl (newW fl).2.1 (newW fl).2.2 ev)).length 8))),(27,(.list (l.map Ky.cv) nk none)),(28,(.val (.int .i64 ((l.length:Int))))),(29,(.val (.int .i64 ((i:Int)))))]) (fun i=>[.box (revC fl nn),.box (envC ev en),wbx fl nn true (newW fl).1 3 4 5,smO (newW fl).2.1,emO (newW fl).2.2,gobj (newW fl).1.length,.box (envC ev en),cmO 6,gobj ((l.take i).map (contF fl (newW fl).2.1 (newW fl).2.2 ev)).length]) (fun i=>i<=l.length/\(l.take i).all keyB=true) (fun i=>l.length - i) ⟨0,[0,1,2,3,4,5,6,7,13],⟨n_3 _,rfl⟩,⟨rfl,rfl⟩,⟨q_45,q_45,q_45,q_45,q_45,q_45,tt⟩,⟨.inr ⟨_,rfl,.same rfl q_262⟩,.inr ⟨_,rfl,.same rfl q_264⟩,.inr ⟨_,rfl,.same rfl q_273⟩,.inr ⟨_,rfl,.same rfl q_295⟩,.inr ⟨_,rfl,.same rfl q_296⟩,.inr ⟨_,rfl,.same rfl q_293⟩,.inr ⟨_,rfl,.same rfl q_264⟩,.inr ⟨_,rfl,.same rfl (old_cmO de_)⟩,.inl rfl,tt⟩⟩ ?_; intro i ⟨hi,hall⟩; refine z_30 ?_; refine cC (fun h2=>?_) fun h2=>?_
  ·have hlt:i < l.length:=by simp at h2; omega
   obtain ⟨y,hy⟩:∃ y,l[i]? = some y:=⟨l[i]'hlt,si_⟩;have hyl:=hk y (n_0 hy);refine z_37 ?_; refine cY (y_index rfl tt tt rfl rfl t_4 t_2 om_ (rows_get hy) rfl) ?_; refine cY q_194 ?_; refine z_103 ?_; refine z_81 ?_; refine cY q_186 ?_; refine cY (y_callf rfl Tryz.call59 ⟨tt,tt⟩ (fa_Check_s y hyl.1 hyl.2 _) rfl) ?_; refine z_38 ?_; refine cC (fun h3=>?_) fun h3=>?_
   ·have hv2:¬ (revE fl=0/\envB ev=true/\l.all keyB=true):=fun u=>allK_not hy (by simpa using h3) u.2.2;refine z_0 ?_; refine z_229 ?_;exact ⟨_,res_all (rs:=[.tmp 6,.tmp 7]) (cs:=[_,_]) rfl q_140 (n_2 rfl),(by rw [contS,if_neg hv2]; exact ⟨(),.ret (.tups ⟨.old (old_strs _ ([]:List Str) _),.old (.val _),tt⟩),tt⟩)⟩
   ·have hyk:keyB y=true:=by simpa using h3
    have htk1:l.take (i+1)=l.take i++[y]:=by rw [n_46,hy]; rfl
    refine cw_skip ?_; refine z_40 ?_; refine z_165 ?_; refine cY (y_lookup_g (vc:=fun c:CV=>c) (l:=cmapV 6) (a:=y.k) keyI rfl tt tt rfl rfl t_50 Tryz.zeroValue115 rfl rfl (lk_cfv 6 y.k)) ?_; refine cY q_247 ?_; refine cY q_186 ?_; refine cY (y_calldyn rfl tt rfl q_297 (by exact fa_dyn (w:=2) (q1:=3) (q2:=4) (t:=5) (b:=6) ⟨rfl,rfl,rfl,rfl,nodup4 ⟨de_,de_,de_,de_,de_,de_⟩⟩ hok rfl hvr hel hyk) rfl) ?_; refine cY (y_lit [scv ((contF fl (newW fl).2.1 (newW fl).2.2 ev) y)] rfl ⟨tt,tt⟩ t_1 t_0 t_5 rfl rfl rfl rfl rfl rfl rfl rfl rfl) ?_;refine cD (d_appu rfl tt tt rfl si_ q_18 t_1 t_0 t_26 t_5 rfl (.inr rfl) q_20 q_81 q_227 (((l.take (i+1)).map (contF fl (newW fl).2.1 (newW fl).2.2 ev)).map scv) ((l.take (i+1)).map (contF fl (newW fl).2.1 (newW fl).2.2 ev)).length (by rw [htk1,n_45,n_45]; rfl) (by rw [htk1]; simp) ?_);refine z_104 ?_;exact ⟨(i+1),[0,1,2,3,4,5,6,7,10],⟨om_,om_,allK_step hy hall hyk⟩,⟨rfl,rfl⟩,⟨q_37,q_37,q_37,q_37,q_37,q_37,tt⟩,⟨.inr ⟨_,rfl,.same rfl q_262⟩,.inr ⟨_,rfl,.same rfl q_264⟩,.inr ⟨_,rfl,.same rfl q_273⟩,.inr ⟨_,rfl,.same rfl q_295⟩,.inr ⟨_,rfl,.same rfl q_296⟩,.inr ⟨_,rfl,.same rfl q_293⟩,.inr ⟨_,rfl,.same rfl q_264⟩,.inr ⟨_,rfl,.same rfl (old_cmO de_)⟩,.inr ⟨_,rfl,.same rfl q_293⟩,tt⟩⟩
  ·have hge:l.length<=i:=by simp at h2; omega
   have hta:l.take i=l:=n_26 hge;refine z_67 ?_; refine z_119 ?_;exact ⟨_,res_all (rs:=[.tmp 6,.tmp 7]) (cs:=[_,_]) rfl q_140 (n_2 rfl),(by rw [contS,if_pos ⟨hv.1,hv.2,by rw [<- hta]; exact hall⟩,hta]; exact ⟨(),.ret (.tups ⟨.tok (fun r hr c hc=>(rows_pure (f:=scv) (fun _=>Pures.all ⟨.val _,tt⟩) _) r hr c hc),.old (.val _),tt⟩),tt⟩)⟩
theorem pure_contR (o:Option (List Str)):Pure (contR o):=pure_tup (cs:=[_,_]) ⟨pure_strs _ _,.val _,tt⟩
theorem fa_Contents (fl:List Fi) (nn:Bool) (hfl:∀ f∈fl,f.p.length<=1000000000) (ev:List Va) (en:Bool) (hev:∀ v∈ev,v.n.length<=1000000000) (hvr:∀ v∈ev,-9223372036854775808<=v.v/\v.v<=9223372036854775807) (hel:ev.length<=1000000000) (l:List Ky) (nk:Bool) (hl:l.length<=1000000000) (hk:∀ k∈l,k.a.length<=1000000000/\k.b.length<=1000000000) (σ:List CObj):CCalls CC 16 [.agg (revC fl nn),.agg (envC ev en),.list (l.map Ky.cv) nk none] σ fun r τ=>r = .ret (contR (contS fl ev l))/\τ=σ :=
 (ccalls_any (res:=fun _:Unit=>.ret (contR (contS fl ev l))) (P:=fun _=>True) hCC (fun a h=>by simp at h; rcases h with rfl | rfl | rfl; exact pure_agg (cs:=revC _ _) ⟨pure_fis _ _,tt⟩; exact pure_agg (cs:=envC _ _) ⟨pure_vas _ _,tt⟩; exact pure_keys _ _) (fa_Contents0 fl nn hfl ev en hev hvr hel l nk hl hk) (fun _ _=>pure_contR _) σ).mono fun r τ ⟨_,h1,h2,_⟩=>⟨h1,h2⟩
theorem bl_irr:∀ a:Str,Op.bytesLess a a=false
 | []=>rfl
 | x::a=>by simp [Op.bytesLess,bl_irr a]
theorem bl_trans:∀ {a b c:Str},Op.bytesLess a b=true->Op.bytesLess b c=true->Op.bytesLess a c=true
 | [],[],_,h,_=>by cases h
 | [],_::_,[],_,h=>by cases h
 | [],_::_,_::_,_,_=>rfl
 | _::_,[],_,h,_=>by cases h
 | _::_,_::_,[],_,h=>by cases h
 | x::a,y::b,z::c,h1,h2=>by
  simp only [Op.bytesLess,n_38,n_48,n_29,beq_iff_eq] at h1 h2 ⊢
  rcases h1 with h1 | ⟨h1,h1'⟩ <;> rcases h2 with h2 | ⟨h2,h2'⟩
  ·exact .inl (UInt8.lt_trans h1 h2)
  ·exact .inl (h2 ▸ h1)
  ·exact .inl (h1 ▸ h2)
  ·exact .inr ⟨h1.trans h2,bl_trans h1' h2'⟩
theorem bl_tot:∀ {a b:Str},Op.bytesLess a b=false->a≠b->Op.bytesLess b a=true
 | [],[],_,h=>absurd rfl h
 | [],_::_,h,_=>by cases h
 | _::_,[],_,_=>rfl
 | x::a,y::b,h1,h2=>by
  simp only [Op.bytesLess,Bool.or_eq_false_iff,decide_eq_false_iff_not,Bool.and_eq_false_iff,beq_eq_false_iff_ne,n_38,n_48,n_29,beq_iff_eq] at h1 ⊢;by_cases hxy:x=y
  ·subst hxy;refine .inr ⟨rfl,bl_tot (h1.2.resolve_left fun h=>h rfl) fun h=>h2 (by rw [h])⟩
  ·have:=h1.1;exact .inl (by
    rcases n_120 (fun h=>hxy (UInt8.toNat_inj.1 h):x.toNat≠y.toNat) with h | h
    ·exact absurd (n_116.2 h) this
    ·exact n_116.2 h)
def SrtF (l:List Fi):Prop:=l.Pairwise fun f g=>Op.bytesLess f.p g.p=true
def madeSources:List Str:=([[97,46,115,114,99],[98,46,115,114,99],[100,47,99,46,115,114,99],[120,46,115,114,99]]:List Str)
theorem mk_sources_s  (σ:List CObj):CCalls CC 66 [] σ fun r σ'=>r = .ret (.list (madeSources.map scv) true none)/\σ'=σ:=by
 refine CCalls.anyw hCC (by repeat' (first|exact .val _|exact pure_ints _ _|exact pure_strs _ _|exact pure_fis _ _|exact tt | refine pure_agg ?_ | refine pure_tup ?_ | refine ⟨?_,?_⟩)) (by repeat' (first|exact .val _|exact pure_ints _ _|exact pure_strs _ _|exact pure_fis _ _|exact tt | refine pure_agg ?_ | refine pure_tup ?_ | refine ⟨?_,?_⟩)) ?_ σ;refine ccalls_val (ccalls_of Tryz.func66 rfl rfl ?_);refine z_164 ?_; refine cY (y_lit (madeSources.map scv) rfl ⟨rfl,rfl,rfl,rfl,tt⟩ t_1 t_0 t_5 rfl rfl rfl rfl rfl rfl rfl rfl rfl) ?_; refine z_4 ?_;exact ⟨_,res1 rfl tt q_272,_,_,rfl,rfl,cls_eq rfl (by repeat' (first|exact .val _|exact pure_ints _ _|exact pure_strs _ _|exact tt | refine pure_agg ?_ | refine pure_tup ?_ | refine ⟨?_,?_⟩))⟩
theorem mk_Has_s (l:List Str) (nn:Bool) (s:Str) (hl:l.length<=1000000000) (σ:List CObj):CCalls CC 120 [(.list (l.map scv) nn none),(sv (s))] σ fun r σ'=>r = .ret (.val (.bool (decide (s∈l))))/\σ'=σ:=by
 refine CCalls.anyw hCC (by repeat' (first|exact .val _|exact pure_ints _ _|exact pure_strs _ _|exact pure_fis _ _|exact tt | refine pure_agg ?_ | refine pure_tup ?_ | refine ⟨?_,?_⟩)) (by repeat' (first|exact .val _|exact pure_ints _ _|exact pure_strs _ _|exact pure_fis _ _|exact tt | refine pure_agg ?_ | refine pure_tup ?_ | refine ⟨?_,?_⟩)) ?_ σ;refine ccalls_val (ccalls_of Tryz.func120 rfl rfl ?_);refine z_5 ?_; refine cw_seq ?_; refine z_252 ?_; refine cw_loopd hCC (fun i:Nat=>[(0,(.list (l.map scv) nn none)),(1,(sv (s))),(5,(.val (.int .i64 ((i:Int)))))]) (fun _=>[]) (fun i=>i<=l.length/\decide (s∈l)=decide (s∈l.drop i)) (fun i=>l.length - i) 0 ⟨n_3 _,rfl⟩ tu_ (extra0:=[]) rfl q_276 uz_ ?_; intro i ⟨hi,hr⟩; refine z_86 ?_; refine cY q_101 ?_; refine z_62 ?_; refine cC (fun h1=>?_) fun h1=>?_
 ·have hlt:i < l.length:=by simp at h1; omega
  obtain ⟨y,hb⟩:∃ y,l[i]? = some y:=⟨l[i]'hlt,si_⟩;have hdr:l.drop i=y::l.drop (i+1):=by
   obtain ⟨hlt,rfl⟩:=n_1.1 hb;exact n_27 hlt
  rw [hdr] at hr;refine z_19 ?_; refine z_6 ?_; refine z_173 ?_; refine z_190 ?_; refine cC (fun h2=>?_) fun h2=>?_
  ·have hys:y=s:=by simpa using h2
   refine z_22 ?_;exact ⟨_,res1 rfl tt q_272,_,_,rfl,rfl,cls_bool (by rw [hr,hys]; simp)⟩
  ·have hys:¬ y=s:=by simpa using h2
   refine z_265 ?_;exact ⟨(i+1),_,⟨om_,om_,by
    rw [hr];have:(s=y)=False:=by simpa using fun h=>hys h.symm
    simp [this]⟩,tu_,rfl⟩
 ·have hge:l.length<=i:=by simp at h1; omega
  rw [n_34 hge] at hr;refine z_105 ?_;exact ⟨_,res1 rfl tt q_272,_,_,rfl,rfl,cls_bool (by rw [hr]; rfl)⟩
def digS (n:Nat):Str:=if h:n < 10 then [UInt8.ofNat (48+n)] else digS (n / 10)++[UInt8.ofNat (48+n%10)]
termination_by n
decreasing_by omega
theorem digS_lt (h:n < 10):digS n=[UInt8.ofNat (48+n)]:=by rw [digS,dif_pos h]
theorem digS_ge (h:¬ n < 10):digS n=digS (n / 10)++digS (n%10):=by rw [digS,dif_neg h,digS_lt (n_51 _ om_)]
theorem digS_len:∀ (m n:Nat),n < 10^(m+1)->(digS n).length<=m+1
 | 0,n,h=>by rw [digS_lt q_285]; simp
 | m+1,n,h=>by
  by_cases hn:n < 10
  ·rw [digS_lt hn]; simp
  ·rw [digS,dif_neg hn,n_5];have:=digS_len m (n / 10) (by rw [Nat.div_lt_iff_lt_mul om_]; rw [Nat.pow_succ] at h; exact h);simp only [n_7,n_11];omega
theorem dig1:∀ n:Nat,n < 10->(([48,49,50,51,52,53,54,55,56,57]:Str).take (n+1)).drop n=[UInt8.ofNat (48+n)]:=by decide
theorem mk_Digits_ih (h:CCalls CC 72 [(.val (.int .i64 ((n:Int))))] [] fun r σ'=>r = .ret (sv (digS n))/\σ'=[]) (σ:List CObj):CCalls CC 72 [(.val (.int .i64 ((n:Int))))] σ fun r σ'=>r = .ret (sv (digS n))/\σ'=σ :=
 CCalls.anyw hCC (by repeat' (first|exact .val _|exact pure_ints _ _|exact pure_strs _ _|exact tt | refine pure_agg ?_ | refine pure_tup ?_ | refine ⟨?_,?_⟩)) (by repeat' (first|exact .val _|exact pure_ints _ _|exact pure_strs _ _|exact tt | refine pure_agg ?_ | refine pure_tup ?_ | refine ⟨?_,?_⟩)) h σ
theorem mk_Digits_s (n:Nat) (hn:n<=4611686018427387904) (σ:List CObj):CCalls CC 72 [(.val (.int .i64 ((n:Int))))] σ fun r σ'=>r = .ret (sv (digS n))/\σ'=σ:=by
 refine CCalls.anyw hCC (by repeat' (first|exact .val _|exact pure_ints _ _|exact pure_strs _ _|exact pure_fis _ _|exact tt | refine pure_agg ?_ | refine pure_tup ?_ | refine ⟨?_,?_⟩)) (by repeat' (first|exact .val _|exact pure_ints _ _|exact pure_strs _ _|exact pure_fis _ _|exact tt | refine pure_agg ?_ | refine pure_tup ?_ | refine ⟨?_,?_⟩)) ?_ σ
 induction n using Nat.strongRecOn
 rename_i n ih;refine ccalls_val (ccalls_of Tryz.func72 rfl rfl ?_);refine z_48 ?_; refine z_14 ?_; refine cC (fun h1=>?_) fun h1=>?_
 ·have hn9:n < 10:=by simp at h1; omega
  refine z_6 ?_; refine cY q_252 ?_; refine cY (y_sslice (a:=n) (h:=(n+1)) rfl rfl rfl t_6 q_80 q_80 om_ (by show n+1<=10; omega)) ?_; refine z_4 ?_;exact ⟨_,res1 rfl tt q_272,_,_,rfl,rfl,cls_str (by rw [digS_lt hn9]; exact congrArg str (dig1 n hn9))⟩
 ·have hn9:¬ n < 10:=by simp at h1; omega
  have hd:Int.tdiv (n:Int) 10=((n / 10:Nat):Int):=by rfl
  have hm:Int.tmod (n:Int) 10=((n%10:Nat):Int):=by rfl
  have g1:=digS_len 18 (n / 10) om_;have g2:=digS_len 18 (n%10) om_;have e1:IntKind.i64.wrap ((n:Int).tdiv 10)=((n / 10:Nat):Int):=by rw [hd]; exact wr64 om_ om_
  have e2:(n:Int).tmod 10=((n%10:Nat):Int):=by exact hm
  refine z_61 ?_; refine cY (y_int rfl tt rfl rfl rfl (rfl)) ?_; refine cY (y_callf rfl t_152 ⟨tt,tt⟩ (by have h:=mk_Digits_ih (ih (n / 10) om_ om_) []; rw [<- e1] at h; exact h) rfl) ?_; refine cY q_247 ?_; refine cY (y_int rfl tt rfl rfl rfl (rfl)) ?_; refine cY (y_callf rfl t_152 ⟨tt,tt⟩ (by have h:=mk_Digits_ih (ih (n%10) om_ om_) []; rw [<- e2] at h; exact h) rfl) ?_; refine cY q_174 ?_; refine z_4 ?_;exact ⟨_,res1 rfl tt q_272,_,_,rfl,rfl,cls_str (congrArg str (digS_ge hn9).symm)⟩
def leF (f x:Fi):Bool:=Op.bytesLess f.p x.p || decide (f.p=x.p)
def insG (f:Fi):Bool->List Fi->List Fi
 | d,[]=>if d then [] else [f]
 | d,x::l=>(if !d && leF f x then [f] else [])++((if x.p=f.p then [] else [x])++insG f (d || leF f x) l)
def insF (l:List Fi) (f:Fi):List Fi:=insG f false l
def remF (l:List Fi) (s:Str):List Fi:=l.filter fun x=>!decide (x.p=s)
theorem insG_step {l:List Fi} {y:Fi} (h:l[i]? = some y) (d:Bool):insG f d (l.drop i)=(if !d && leF f y then [f] else [])++((if y.p=f.p then [] else [y])++insG f (d || leF f y) (l.drop (i+1))):=by
 obtain ⟨hlt,rfl⟩:=n_1.1 h;rw [n_27 hlt]; rfl
theorem remF_step {s:Str} {l:List Fi} {y:Fi} (h:l[i]? = some y):remF (l.drop i) s=(if y.p=s then [] else [y])++remF (l.drop (i+1)) s:=by
 obtain ⟨hlt,rfl⟩:=n_1.1 h;rw [n_27 hlt,remF,n_60];by_cases h:(l[i]).p=s
 ·simp [h,remF]
 ·simp [h,remF]
theorem ren_rev {sel:List Nat} {l:List Fi} {tok:Option Nat}:RenV L sel (.agg [.list (l.map Fi.cv) nn tok]) (.agg (revC l nn)) :=
 .agg rfl fun i c c' h h'=>by
  rcases i with _ | i
  ·injection h with h; injection h' with h'; subst h h'; exact ren_lst (f:=Fi.cv) Fi.pure _
  ·cases h
theorem mk_insert0 (fl:List Fi) (nn:Bool) (f:Fi) (hfl:fl.length<=1000000):CCalls CC 67 [.agg (revC fl nn),.agg f.cells] [] fun r τ=>FinR 0 τ r (.ret (.agg (revC (insF fl f) (gnn (insF fl f).length)))) []:=by
 refine (ccalls_of Tryz.func67 rfl rfl ?_);refine z_63 ?_; refine z_219 ?_; refine co_nil ?_; refine z_5 ?_; refine z_47 ?_; refine z_146 ?_; refine cw_loopr hCC 4 rfl (α:=List Fi × Bool × Nat) (fun x=>[(3,.ptr 1 0),(4,.ptr 2 0),(5,.ptr 3 0),(6,(.val (.bool (x.2.1)))),(10,(.list (fl.map Fi.cv) nn none)),(11,(.val (.int .i64 ((fl.length:Int))))),(12,(.val (.int .i64 ((x.2.2:Int)))))]) (fun x=>[.box (revC fl nn),.box f.cells,.box (revC [] false),.box [(.list (x.1.map Fi.cv) (gnn x.1.length) (gtok x.1.length 4))],gobj x.1.length]) (fun x=>x.2.2<=fl.length/\x.1.length<=x.2.2+1/\(x.2.1=false->x.1.length<=x.2.2)/\insF fl f=x.1++insG f x.2.1 (fl.drop x.2.2)) (fun x=>fl.length - x.2.2) ⟨([],false,0),[0,1,2,3,9],⟨n_3 _,n_3 _,fun _=>n_3 _,rfl⟩,⟨rfl,rfl⟩,q_7,⟨.inr ⟨_,rfl,.same rfl q_262⟩,.inr ⟨_,rfl,.same rfl q_259⟩,.inr ⟨_,rfl,.same rfl q_222⟩,.inr ⟨_,rfl,.box ⟨.same rfl (old_fis _ ([]:List Fi) _),tt⟩⟩,.inl rfl,tt⟩⟩ ?_; intro ⟨out,d,i⟩ ⟨hi,hol,hod,hr⟩;dsimp only at hi hol hod hr ⊢;refine z_30 ?_; refine cC (fun h1=>?_) fun h1=>?_
 ·have hlt:i < fl.length:=by simp at h1; omega
  obtain ⟨y,hb⟩:∃ y,fl[i]? = some y:=⟨fl[i]'hlt,si_⟩;rw [insG_step hb] at hr;refine z_148 ?_; refine z_186 ?_; refine cY q_284 ?_; refine cY q_247 ?_; refine cG q_126 ?_; refine cG q_209 ?_; refine cG q_126 ?_; refine cG q_209 ?_; refine cG (fun hg=>y_scmp rfl hg hg rfl rfl (cstr_leq _ _)) ?_; refine cY q_197 ?_; refine co_nil ?_; refine cC (fun h2=>?_) fun h2=>?_
  ·have h2':d=false/\leF f y=true:=by
    have h2:(!d && leF f y)=true:=h2;simpa using h2
   obtain ⟨hd,hle⟩:=h2';subst hd;rw [hle] at hr;have hol2:=hod rfl;refine z_0 ?_; refine z_283 ?_; refine z_128 ?_; refine z_66 ?_;refine co_nil (cw_region ?_);refine z_3 ?_; refine z_0 ?_; refine z_54 ?_; refine z_54 ?_; refine cY q_234 ?_; refine co_nil ?_; refine cC (fun h3=>?_) fun h3=>?_
   ·have hyp:¬ y.p=f.p:=by simpa using h3
    rw [if_neg hyp] at hr;refine cw_region ?_; refine z_283 ?_; refine cY q_60 ?_;refine cD (d_appu rfl tt tt rfl si_ q_18 t_30 t_19 t_153 t_25 rfl (.inr rfl) q_20 q_79 q_227 ((out++[f]++[y]).map Fi.cv) (out++[f]++[y]).length si_ si_ ?_);refine z_66 ?_; refine z_112 ?_;exact ⟨(out++[f]++[y],true,i+1),[0,1,2,3,7],⟨do_,do_,by simp only [n_5,n_7,n_11]; omega,(fun h=>by cases h),by rw [hr]; simp⟩,⟨rfl,rfl⟩,q_7,⟨.inr ⟨_,rfl,.same rfl q_262⟩,.inr ⟨_,rfl,.same rfl q_259⟩,.inr ⟨_,rfl,.same rfl q_222⟩,.inr ⟨_,rfl,.box ⟨RenV.grow (f:=Fi.cv) (fun a=>⟨.val _,.val _,tt⟩) rfl,tt⟩⟩,.inr ⟨_,rfl,.same rfl q_293⟩,tt⟩⟩
   ·have hyp:y.p=f.p:=by simpa using h3
    rw [if_pos hyp] at hr;refine z_73 ?_;exact ⟨(out++[f],true,i+1),[0,1,2,3,6],⟨do_,do_,by simp only [n_5,n_7,n_11]; omega,(fun h=>by cases h),by rw [hr]; simp⟩,⟨rfl,rfl⟩,q_7,⟨.inr ⟨_,rfl,.same rfl q_262⟩,.inr ⟨_,rfl,.same rfl q_259⟩,.inr ⟨_,rfl,.same rfl q_222⟩,.inr ⟨_,rfl,.box ⟨RenV.grow (f:=Fi.cv) (fun a=>⟨.val _,.val _,tt⟩) rfl,tt⟩⟩,.inr ⟨_,rfl,.same rfl q_293⟩,tt⟩⟩
  ·have hd:(!d && leF f y)=false:=by
    have h2:(!d && leF f y)=false:=h2;simpa using h2
   have hd2:(d || leF f y)=d:=by cases d <;> simp_all
   rw [hd,hd2] at hr;refine z_60 ?_; refine z_54 ?_; refine z_54 ?_; refine cY q_234 ?_; refine co_nil ?_; refine cC (fun h4=>?_) fun h4=>?_
   ·have hyp:¬ y.p=f.p:=by simpa using h4
    rw [if_neg hyp] at hr;refine cw_region ?_; refine z_283 ?_; refine z_57 ?_; refine z_66 ?_; refine z_112 ?_;exact ⟨(out++[y],d,i+1),[0,1,2,3,6],⟨do_,do_,by simp only [n_5,n_7,n_11]; omega,(fun h=>by have:=hod h; simp only [n_5,n_7,n_11]; omega),by rw [hr]; simp⟩,⟨rfl,rfl⟩,q_7,⟨.inr ⟨_,rfl,.same rfl q_262⟩,.inr ⟨_,rfl,.same rfl q_259⟩,.inr ⟨_,rfl,.same rfl q_222⟩,.inr ⟨_,rfl,.box ⟨RenV.grow (f:=Fi.cv) (fun a=>⟨.val _,.val _,tt⟩) rfl,tt⟩⟩,.inr ⟨_,rfl,.same rfl q_293⟩,tt⟩⟩
   ·have hyp:y.p=f.p:=by simpa using h4
    rw [if_pos hyp] at hr;refine z_73 ?_;exact ⟨(out,d,i+1),[0,1,2,3,4],⟨do_,do_,do_,(fun h=>by have:=hod h; dsimp only; omega),by rw [hr]; simp⟩,⟨rfl,rfl⟩,q_7,⟨.inr ⟨_,rfl,.same rfl q_262⟩,.inr ⟨_,rfl,.same rfl q_259⟩,.inr ⟨_,rfl,.same rfl q_222⟩,.inr ⟨_,rfl,.box ⟨RenV.grow (f:=Fi.cv) (fun a=>⟨.val _,.val _,tt⟩) rfl,tt⟩⟩,.inr ⟨_,rfl,.same rfl q_293⟩,tt⟩⟩
 ·have hge:fl.length<=i:=by simp at h1; omega
  rw [n_34 hge] at hr;refine cw_exit ?_; refine z_17 ?_; refine z_38 ?_; refine cC (fun h5=>?_) fun h5=>?_
  ·have hd:d=false:=by simpa using h5
   subst hd;replace hr:insF fl f=out++[f]:=hr;refine cw_region ?_; refine z_283 ?_; refine z_128 ?_; refine z_66 ?_; refine z_42 ?_; refine cY q_183 ?_; refine z_29 ?_; refine cw_ret ?_;exact ⟨_,res_one rfl q_112,(by rw [hr]; exact fin0 ren_rev)⟩
  ·have hd:d=true:=by simpa using h5
   subst hd;replace hr:insF fl f=out:=by rw [hr]; exact n_32 _
   refine z_60 ?_; refine cY q_183 ?_; refine z_29 ?_; refine cw_ret ?_;exact ⟨_,res_one rfl q_112,(by rw [hr]; exact fin0 ren_rev)⟩
theorem mk_insert (fl:List Fi) (nn:Bool) (f:Fi) (hfl:fl.length<=1000000) (σ:List CObj):CCalls CC 67 [.agg (revC fl nn),.agg f.cells] σ fun r τ=>r = .ret (.agg (revC (insF fl f) (gnn (insF fl f).length)))/\τ=σ :=
 call0' hCC (fun a h=>by simp at h; rcases h with rfl | rfl; exact pure_agg (cs:=revC _ _) ⟨pure_fis _ _,tt⟩; exact pure_agg (Fi.pure _)) (pure_agg (cs:=revC _ _) ⟨pure_fis _ _,tt⟩) (mk_insert0 fl nn f hfl) σ
theorem mk_remove0 (fl:List Fi) (nn:Bool) (s:Str) (hfl:fl.length<=1000000):CCalls CC 71 [.agg (revC fl nn),(sv (s))] [] fun r τ=>FinR 0 τ r (.ret (.agg (revC (remF fl s) (gnn (remF fl s).length)))) []:=by
 refine (ccalls_of Tryz.func71 rfl rfl ?_);refine z_10 ?_; refine z_219 ?_; refine z_81 ?_; refine z_146 ?_; refine cw_loopr hCC 3 rfl (α:=List Fi × Nat) (fun x=>[(1,(sv (s))),(4,.ptr 1 0),(5,.ptr 2 0),(9,(.list (fl.map Fi.cv) nn none)),(10,(.val (.int .i64 ((fl.length:Int))))),(11,(.val (.int .i64 ((x.2:Int)))))]) (fun x=>[.box (revC fl nn),.box (revC [] false),.box [(.list (x.1.map Fi.cv) (gnn x.1.length) (gtok x.1.length 3))],gobj x.1.length]) (fun x=>x.2<=fl.length/\x.1.length<=x.2/\remF fl s=x.1++remF (fl.drop x.2) s) (fun x=>fl.length - x.2) ⟨([],0),[0,1,2,9],⟨n_3 _,n_3 _,rfl⟩,⟨rfl,rfl⟩,q_11,⟨.inr ⟨_,rfl,.same rfl q_262⟩,.inr ⟨_,rfl,.same rfl q_222⟩,.inr ⟨_,rfl,.box ⟨.same rfl (old_fis _ ([]:List Fi) _),tt⟩⟩,.inl rfl,tt⟩⟩ ?_; intro ⟨out,i⟩ ⟨hi,hol,hr⟩;dsimp only at hi hol hr ⊢;refine z_30 ?_; refine cC (fun h1=>?_) fun h1=>?_
 ·have hlt:i < fl.length:=by simp at h1; omega
  obtain ⟨y,hb⟩:∃ y,fl[i]? = some y:=⟨fl[i]'hlt,si_⟩;rw [remF_step hb] at hr;refine z_268 ?_; refine cY q_247 ?_; refine cY q_234 ?_; refine co_nil ?_; refine cC (fun h2=>?_) fun h2=>?_
  ·have hyp:¬ y.p=s:=by simpa using h2
   rw [if_neg hyp] at hr;refine cw_region ?_; refine z_283 ?_; refine z_57 ?_; refine z_66 ?_; refine z_112 ?_;exact ⟨(out++[y],i+1),[0,1,2,5],⟨do_,do_,by simp only [n_5,n_7,n_11]; omega,by rw [hr]; simp⟩,⟨rfl,rfl⟩,q_11,⟨.inr ⟨_,rfl,.same rfl q_262⟩,.inr ⟨_,rfl,.same rfl q_222⟩,.inr ⟨_,rfl,.box ⟨RenV.grow (f:=Fi.cv) (fun a=>⟨.val _,.val _,tt⟩) rfl,tt⟩⟩,.inr ⟨_,rfl,.same rfl q_293⟩,tt⟩⟩
  ·have hyp:y.p=s:=by simpa using h2
   rw [if_pos hyp] at hr;refine z_73 ?_;exact ⟨(out,i+1),[0,1,2,3],⟨do_,do_,do_,by rw [hr]; simp⟩,⟨rfl,rfl⟩,q_11,⟨.inr ⟨_,rfl,.same rfl q_262⟩,.inr ⟨_,rfl,.same rfl q_222⟩,.inr ⟨_,rfl,.box ⟨RenV.grow (f:=Fi.cv) (fun a=>⟨.val _,.val _,tt⟩) rfl,tt⟩⟩,.inr ⟨_,rfl,.same rfl q_293⟩,tt⟩⟩
 ·have hge:fl.length<=i:=by simp at h1; omega
  rw [n_34 hge] at hr;replace hr:remF fl s=out:=by rw [hr]; exact n_32 _
  refine cw_exit ?_; refine z_79 ?_; refine z_29 ?_; refine cw_ret ?_;exact ⟨_,res_one rfl q_112,(by rw [hr]; exact fin0 ren_rev)⟩
theorem mk_remove (fl:List Fi) (nn:Bool) (s:Str) (hfl:fl.length<=1000000) (σ:List CObj):CCalls CC 71 [.agg (revC fl nn),(sv (s))] σ fun r τ=>r = .ret (.agg (revC (remF fl s) (gnn (remF fl s).length)))/\τ=σ :=
 call0' hCC (fun a h=>by simp at h; rcases h with rfl | rfl; exact pure_agg (cs:=revC _ _) ⟨pure_fis _ _,tt⟩; exact .val _) (pure_agg (cs:=revC _ _) ⟨pure_fis _ _,tt⟩) (mk_remove0 fl nn s hfl) σ
theorem tapeN_lt {l:List Int} {k:Nat} {n:Int} (hn:1<=n):0<=tapeN l k n/\tapeN l k n < n:=fold_lt hn
theorem old_tape (n:Nat) (l:List Int) (nn:Bool) (k:Nat):OldObj n (tapeC l nn k):=old_box ⟨old_ints _ _ _,.val _,tt⟩
theorem tape_Text0 (l:List Int) (nn:Bool) (k:Nat) (hat:k<=900000000) (hl:l.length<=maxLen) (n:Nat) (hn:n<=1000) (al:Str) (ha:1<=al.length) (hal:al.length<=1000):CCalls CC 121 [.ptr 0 0,(.val (.int .i64 ((n:Int)))),(sv (al))] [tapeC l nn k] fun r τ=>∃ a:Str × Nat,FinR 1 τ r (.ret (sv a.1)) [tapeC l nn a.2]/\(a.1.length=n/\k<=a.2/\a.2<=k+n):=by
 refine (ccalls_of Tryz.func121 rfl rfl ?_);refine z_5 ?_; refine z_5 ?_; refine cw_seq ?_; refine z_252 ?_; refine cw_loopr hCC 1 rfl (α:=Str × Nat) (fun x=>[(0,.ptr 0 0),(1,(.val (.int .i64 ((n:Int))))),(2,(sv (al))),(7,(.list (x.1.map bcv) (gnn x.1.length) (gtok x.1.length 1))),(8,(.val (.int .i64 ((x.1.length:Int)))))]) (fun x=>[tapeC l nn x.2,gobj x.1.length]) (fun x=>x.1.length<=n/\x.2=k+x.1.length) (fun x=>n - x.1.length) ⟨([],k),[0,9],⟨n_3 _,rfl⟩,⟨rfl,rfl⟩,⟨q_51,q_51,q_51,q_51,q_51,tt⟩,⟨.inr ⟨_,rfl,.same rfl q_283⟩,.inl rfl,tt⟩⟩ ?_; intro ⟨out,p⟩ ⟨hol,hp⟩;dsimp only at hol hp ⊢;refine z_86 ?_; refine z_62 ?_; refine cC (fun h1=>?_) fun h1=>?_
 ·have hlt:out.length < n:=by simp at h1; omega
  have hb:=tapeN_lt (l:=l) (k:=p) (n:=(al.length:Int)) om_;obtain ⟨c,hc⟩:∃ c,al[(tapeN l p (al.length:Int)).toNat]? = some c:=⟨al[(tapeN l p (al.length:Int)).toNat]'om_,si_⟩;refine z_19 ?_; refine z_40 ?_; refine z_113 ?_; refine cY q_243 ?_;refine cD (d_callv rfl t_20 q_297 (tape_next l nn p _ 0 rfl om_ hl (al.length:Int) om_) rfl ?_);intro _ _; refine cY (y_sindex rfl tt tt rfl rfl t_6 om_ hc) ?_; refine cY q_66 ?_;refine cD (d_appu rfl tt tt rfl si_ q_18 t_10 t_15 t_49 t_23 rfl (.inr rfl) q_20 (by have hb:Tryz.t5.bytes=1:=rfl; rw [hb]; first|omega|(simp; done)|(simp; omega)) q_227 ((out++[c]).map bcv) (out++[c]).length si_ si_ ?_);refine z_183 ?_; refine z_82 ?_;exact ⟨(out++[c],p+1),[0,2],⟨by simp only [n_5,n_7,n_11]; omega,by simp only [n_5,n_7,n_11]; omega,by simp only [n_5,n_7,n_11]; omega⟩,⟨rfl,rfl⟩,⟨q_38,q_38,q_38,q_38,⟨tt,(by first|exact .ptr rfl|exact .map rfl|exact .vec rfl|exact .same (congrArg (fun x=>CV.val (.int .i64 x)) (by simp:(out.length:Int)+1=((out++[c]).length:Int))) uo_|exact RenV.grow (f:=bcv) (fun a=>⟨.val _,tt⟩) rfl)⟩,tt⟩,⟨.inr ⟨_,rfl,.same rfl q_283⟩,.inr ⟨_,rfl,.same rfl q_293⟩,tt⟩⟩
 ·have hge:out.length=n:=by simp at h1; omega
  refine z_67 ?_; refine cY q_107 ?_; refine z_4 ?_;exact ⟨_,res1 rfl tt q_272,⟨(out,p),fin1 rfl q_283 (.old (.val _)),hge,do_,do_⟩⟩
theorem tape_Text (l:List Int) (nn:Bool) (k:Nat) (hat:k<=900000000) (hl:l.length<=maxLen) (n:Nat) (hn:n<=1000) (al:Str) (ha:1<=al.length) (hal:al.length<=1000) (σ:List CObj) (q:Nat) (hq:σ[q]? = some (tapeC l nn k)):CCalls CC 121 [.ptr q 0,(.val (.int .i64 ((n:Int)))),(sv (al))] σ fun r τ=>∃ a:Str × Nat,r = .ret (sv a.1)/\τ=σ.set q (tapeC l nn a.2)/\(a.1.length=n/\k<=a.2/\a.2<=k+n) :=
 call1 (c:=fun a:Str × Nat=>sv a.1) (S:=fun a=>tapeC l nn a.2) hCC (fun a h=>by simp at h; rcases h with rfl | rfl <;> exact .val _) (fun _=>.val _) (fun _=>pure_tape _ _ _) (pure_tape _ _ _) rfl (tape_Text0 l nn k hat hl n hn al ha hal) σ q hq
theorem mk_data0 (l:List Int) (nn:Bool) (k:Nat) (hat:k<=800000000) (hl:l.length<=maxLen):CCalls CC 70 [.ptr 0 0] [tapeC l nn k] fun r τ=>∃ a:Str × Nat,FinR 1 τ r (.ret (sv a.1)) [tapeC l nn a.2]/\(a.1.length<=3/\k<=a.2/\a.2<=k+4):=by
 refine (ccalls_of Tryz.func70 rfl rfl ?_);refine z_133 ?_;refine cD (d_callv rfl t_20 q_294 (tape_next l nn k _ 0 rfl om_ hl 4 om_) rfl ?_);intro _ _;have hb:=tapeN_lt (l:=l) (k:=k) (n:=4) om_;obtain ⟨m,hm⟩:∃ m:Nat,tapeN l k 4=(m:Int):=⟨(tapeN l k 4).toNat,om_⟩;rw [hm] at hb ⊢;refine cD (d_callv rfl Tryz.call121 ⟨tt,tt,rfl,tt⟩ (tape_Text l nn (k+1) om_ hl m om_ [97,98,0,255,48] de_ de_ _ 0 rfl) rfl ?_);intro ⟨s,p⟩ ⟨hs,hp1,hp2⟩;dsimp only at hs hp1 hp2 ⊢;refine z_4 ?_;exact ⟨_,res1 rfl tt q_272,⟨(s,p),fin1 rfl q_283 (.old (.val _)),do_,do_,do_⟩⟩
theorem mk_data (l:List Int) (nn:Bool) (k:Nat) (hat:k<=800000000) (hl:l.length<=maxLen) (σ:List CObj) (q:Nat) (hq:σ[q]? = some (tapeC l nn k)):CCalls CC 70 [.ptr q 0] σ fun r τ=>∃ a:Str × Nat,r = .ret (sv a.1)/\τ=σ.set q (tapeC l nn a.2)/\(a.1.length<=3/\k<=a.2/\a.2<=k+4) :=
 call1 (c:=fun a:Str × Nat=>sv a.1) (S:=fun a=>tapeC l nn a.2) hCC (fun a h=>by simp at h) (fun _=>.val _) (fun _=>pure_tape _ _ _) (pure_tape _ _ _) rfl (mk_data0 l nn k hat hl) σ q hq
def ExprC (l:List Int) (nn:Bool) (ps:List Str) (d L K B:Nat):Prop:=∀ (k:Nat),k<=B->∀ (σ:List CObj) (q:Nat),σ[q]? = some (tapeC l nn k)->CCalls CC 122 [.ptr q 0,(.val (.int .i64 ((d:Int)))),.list (ps.map scv) (gnn ps.length) none] σ fun r τ=>∃ a:Str × Nat,r = .ret (sv a.1)/\τ=σ.set q (tapeC l nn a.2)/\(a.1.length<=L/\k<=a.2/\a.2<=k+K)
abbrev eob (l:List Int) (nn:Bool) (ps:List Str) (d p:Nat):List CObj:=[tapeC l nn (p),.box [.ptr 0 0],.box [(.val (.int .i64 ((d:Int))))],.box [(.list (ps.map scv) (gnn ps.length) none)]]
theorem expr_clo {l:List Int} {ps:List Str} {d K:Nat} (hd:d<=10) (ih:ExprC l nn ps d L K B) (p:Nat) (hp:p<=B):CCalls CC 163 [.ptr 1 0,.ptr 2 0,.ptr 3 0] (eob l nn ps (d+1) p) fun r τ=>∃ a:Str × Nat,r = .ret (sv a.1)/\τ=eob l nn ps (d+1) a.2/\(a.1.length<=L/\p<=a.2/\a.2<=p+K):=by
 refine (ccalls_of Tryz.func163 rfl rfl ?_);refine z_164 ?_; refine cY q_230 ?_; refine cY q_239 ?_; refine cY q_254 ?_; refine cY q_228 ?_;refine cD (d_callv rfl t_90 q_288 (by have h:=ih p hp (eob l nn ps (d+1) p) 0 rfl; rw [show (d:Int)=((d+1:Nat):Int) - 1 by omega] at h; exact h) rfl ?_);intro ⟨s,p1⟩ ⟨h1,h2,h3⟩;dsimp only at h1 h2 h3 ⊢;refine z_4 ?_;exact ⟨_,res1 rfl tt q_272,⟨(s,p1),rfl,rfl,h1,h2,h3⟩⟩
theorem mk_Expr0 (l:List Int) (nn:Bool) (k:Nat) (hl:l.length<=maxLen) (d:Nat) (hd:d<=10) (ps:List Str) (hps:∀ s∈ps,s.length<=10) (hpl:ps.length<=2) (L K B:Nat) (hL:L<=1000000) (hK:K<=1000) (hat:k+3*K+10<=B) (hB:B<=900000000) (hclo:1<=d->∀ p,p<=B->CCalls CC 163 [.ptr 1 0,.ptr 2 0,.ptr 3 0] (eob l nn ps d p) fun r τ=>∃ a:Str × Nat,r = .ret (sv a.1)/\τ=eob l nn ps d a.2/\(a.1.length<=L/\p<=a.2/\a.2<=p+K)):CCalls CC 122 [.ptr 0 0,(.val (.int .i64 ((d:Int)))),.list (ps.map scv) (gnn ps.length) none] [tapeC l nn k] fun r τ=>∃ a:Str × Nat,FinR 1 τ r (.ret (sv a.1)) [tapeC l nn a.2]/\(a.1.length<=3*L+30/\k<=a.2/\a.2<=k+(3*K+5)):=by
 refine (ccalls_of Tryz.func122 rfl rfl ?_);refine z_0 ?_;refine cD (d_box rfl tt q_272 (.inl rfl) ?_);refine cD (d_box rfl tt q_272 (.inl rfl) ?_);refine cD (d_box rfl tt q_272 (.inl rfl) ?_);refine z_3 ?_; refine cw_seq ?_; refine cw_cut (α:=Bool × Nat) (fun x=>[(3,.ptr 1 0),(4,.ptr 2 0),(5,.ptr 3 0),(15,(.val (.bool (x.1))))]) (fun x=>[tapeC l nn (x.2),.box [.ptr 0 0],.box [(.val (.int .i64 ((d:Int))))],.box [(.list (ps.map scv) (gnn ps.length) none)]]) (fun x=>k<=x.2/\x.2<=k+1/\(x.1=false->1<=d)) ?_ ?_
 ·
  refine cw_region ?_; refine cY q_239 ?_; refine z_245 ?_; refine cG (fun hg=>y_load1 rfl tt rfl t_154 rfl rfl) ?_;refine co_gd (.val (.bool false)) rfl rfl tt rfl rfl (fun hg=>d_callv rfl t_40 ⟨hg,rfl,rfl,tt⟩ (tape_chance l nn k _ 0 rfl om_ hl 1 4 om_) rfl ?_) (fun hg=>?_)
  ·
   intro _ _; refine z_65 ?_;exact ⟨(_,k+1),(by exact ⟨do_,do_,fun _=>by simp at hg; omega⟩),⟨⟨tt,rfl⟩,⟨tt,rfl⟩,⟨tt,rfl⟩,⟨tt,rfl⟩,tt⟩,rfl⟩
  ·
   refine z_65 ?_;exact ⟨(_,k),(by exact ⟨do_,do_,fun hb=>by exfalso; revert hb hg; cases decide ((d:Int)<=0) <;> simp⟩),⟨⟨tt,rfl⟩,⟨tt,rfl⟩,⟨tt,rfl⟩,⟨tt,rfl⟩,tt⟩,rfl⟩
 ·intro ⟨b,p⟩ E0 ⟨hp1,hp2,hbd⟩;dsimp only at hp1 hp2 hbd ⊢;refine cC (fun h1=>?_) fun h1=>?_
  ·refine cw_cut (α:=Nat) (fun _=>[(3,.ptr 1 0)]) (fun x=>[tapeC l nn (x),.box [.ptr 0 0],.box [(.val (.int .i64 ((d:Int))))],.box [(.list (ps.map scv) (gnn ps.length) none)]]) (fun x=>k<=x/\x<=k+3) ?_ ?_
   ·
    refine z_0 ?_; refine cY q_230 ?_;refine cD (d_callv rfl t_20 q_294 (tape_next l nn p _ 0 rfl om_ hl 9 om_) rfl ?_);intro _ _; refine z_12 ?_; refine cw_cut (α:=Bool) (fun b=>[(3,.ptr 1 0),(4,.ptr 2 0),(5,.ptr 3 0),(17,(.val (.int .i64 (tapeN l p 9)))),(18,(.val (.bool (b))))]) (fun _=>[tapeC l nn (p+1),.box [.ptr 0 0],.box [(.val (.int .i64 ((d:Int))))],.box [(.list (ps.map scv) (gnn ps.length) none)]]) (fun _=>True) ?_ ?_
    ·
     refine z_27 ?_; refine cC (fun h2=>?_) fun h2=>?_
     ·refine cw_skip ?_;exact ⟨_,tt,⟨⟨tt,rfl⟩,⟨tt,rfl⟩,⟨tt,rfl⟩,⟨tt,rfl⟩,⟨tt,rfl⟩,tt⟩,rfl⟩
     ·refine z_132 ?_;exact ⟨_,tt,⟨⟨tt,rfl⟩,⟨tt,rfl⟩,⟨tt,rfl⟩,⟨tt,rfl⟩,⟨tt,rfl⟩,tt⟩,rfl⟩
    ·intro b2 E2 _; refine cC (fun h3=>?_) fun h3=>?_
     ·refine z_0 ?_; refine cY q_228 ?_; refine z_228 ?_; refine cC (fun h4=>?_) fun h4=>?_
      ·obtain ⟨x,ps',rfl⟩:∃ x ps',ps=x::ps':=by
        rcases ps with _ | ⟨x,ps'⟩
        ·simp at h4
        ·exact ⟨x,ps',rfl⟩
       refine z_0 ?_; refine cY q_230 ?_; refine cY q_228 ?_;refine cD (d_callv rfl t_18 q_297 (tape_one l nn (p+1) _ 0 rfl om_ hl (x::ps') si_ om_) rfl ?_);intro v hv;have hv8:=hps v hv;exact z_74
      ·refine cw_skip ?_;exact ⟨(p+1),⟨om_,om_⟩,tu_,rfl⟩
     ·refine z_27 ?_; refine cC (fun h5=>?_) fun h5=>?_
      ·refine cw_seq ?_; refine z_194 ?_; refine hY q_205 ?_; refine z_223 ?_; intro v hv;have hv8:v.length<=8:=len_made (.inr (.inr (.inr (.inl hv))));refine z_92 ?_;exact z_74
      ·refine z_27 ?_; refine cC (fun h6=>?_) fun h6=>?_
       ·refine cw_seq ?_; refine z_194 ?_; refine hY q_205 ?_; refine z_223 ?_; intro v hv;have hv8:v.length<=8:=len_made (.inr (.inr (.inr (.inl hv))));refine z_92 ?_;exact z_74
       ·refine z_27 ?_; refine cC (fun h7=>?_) fun h7=>?_
        ·refine cw_seq ?_; refine z_194 ?_; refine hY (y_callf rfl Tryz.call84 trivial (mk_Variables_s _) rfl) ?_; refine ch_nil ?_;refine cD (d_callv rfl t_18 q_297 (tape_one l nn (p+1) _ 0 rfl om_ hl madeVariables de_ de_) rfl ?_);intro v hv;have hv8:v.length<=8:=len_made (.inr (.inr (.inr (.inr hv))));refine z_92 ?_;exact z_74
        ·refine z_27 ?_; refine cC (fun h8=>?_) fun h8=>?_
         ·refine z_0 ?_; refine cY q_230 ?_;refine cD (d_callv rfl t_40 q_286 (tape_chance l nn (p+1) _ 0 rfl om_ hl 1 5 om_) rfl ?_);intro _ _; refine co_nil ?_; refine cC (fun h9=>?_) fun h9=>?_
          ·refine z_0 ?_; refine cY q_230 ?_; refine cY (y_lit ([0,1,63].map icv) rfl ⟨rfl,rfl,rfl,tt⟩ t_8 t_3 t_11 rfl rfl rfl rfl rfl rfl rfl rfl rfl) ?_;refine cD (d_callv rfl t_155 q_297 (tape_pick l nn (p+2) _ 0 rfl om_ hl [0,1,63] si_ si_) rfl ?_);intro v hv;obtain ⟨m,hm,hm2⟩:∃ m:Nat,v=(m:Int)/\m < 10^17:=by
            simp only [n_13,n_79,or_false] at hv;exact ⟨v.toNat,om_,om_⟩
           subst hm;have hdl:=digS_len 16 m hm2;refine cY q_181 ?_; refine z_92 ?_; refine z_4 ?_;exact ⟨_,res1 rfl tt q_272,⟨(_,p+3),fin1 rfl q_283 (.old (.val _)),q_73,do_,do_⟩⟩
          ·refine cw_skip ?_;exact ⟨(p+2),⟨om_,om_⟩,tu_,rfl⟩
         ·refine cw_skip ?_;exact ⟨(p+1),⟨om_,om_⟩,tu_,rfl⟩
   ·intro p3 E3 ⟨hp3,hp4⟩; refine z_0 ?_; refine cY q_230 ?_; refine cY (y_lit ([0,1,2,3,10,255,9007199254740992,1073741824].map icv) rfl ⟨rfl,rfl,rfl,rfl,rfl,rfl,rfl,rfl,tt⟩ t_8 t_3 t_11 rfl rfl rfl rfl rfl rfl rfl rfl rfl) ?_;refine cD (d_callv rfl t_155 q_297 (tape_pick l nn (p3) _ 0 rfl om_ hl [0,1,2,3,10,255,9007199254740992,1073741824] si_ si_) rfl ?_);intro v hv;obtain ⟨m,hm,hm2⟩:∃ m:Nat,v=(m:Int)/\m < 10^17:=by
     simp only [n_13,n_79,or_false] at hv;exact ⟨v.toNat,om_,om_⟩
    subst hm;have hdl:=digS_len 16 m hm2;refine cY q_181 ?_; refine z_4 ?_;exact ⟨_,res1 rfl tt q_272,⟨(_,p3+1),fin1 rfl q_283 (.old (.val _)),q_73,do_,do_⟩⟩
  ·have hd1:1<=d:=hbd q_279;refine z_60 ?_; refine cY (y_mkfunc rfl q_288) ?_; refine z_1 ?_; refine z_47 ?_; refine cY q_230 ?_;refine cD (d_callv rfl t_20 q_294 (tape_next l nn p _ 0 rfl om_ hl 10 om_) rfl ?_);intro _ _; refine z_12 ?_; refine cw_cut (α:=Bool) (fun b=>[(3,.ptr 1 0),(7,(.clo 163 [.ptr 1 0,.ptr 2 0,.ptr 3 0])),(64,(.val (.int .i64 (tapeN l p 10)))),(65,(.val (.bool (b))))]) (fun _=>[tapeC l nn (p+1),.box [.ptr 0 0],.box [(.val (.int .i64 ((d:Int))))],.box [(.list (ps.map scv) (gnn ps.length) none)]]) (fun _=>True) ?_ ?_
   ·
    refine z_27 ?_; refine cC (fun h10=>?_) fun h10=>?_
    ·exact z_174
    ·refine z_27 ?_; refine cC (fun h11=>?_) fun h11=>?_
     ·exact z_174
     ·refine z_132 ?_;exact ⟨_,tt,⟨⟨tt,rfl⟩,⟨tt,rfl⟩,⟨tt,rfl⟩,⟨tt,rfl⟩,tt⟩,rfl⟩
   ·intro b4 E4 _; refine cC (fun h12=>?_) fun h12=>?_
    ·refine cw_seq ?_; refine cw_floatA [] [3] [0,1,4,2,3,5,6,7] 3 [0,0,3,7,0,23,63,127] [[2],[2],[],[],[]] (hd1l:=[0,1,4]) (tll:=[(2,[2]),(3,[2]),(5,[]),(6,[]),(7,[])]) q_291 q_291 q_291 tt rfl rfl rfl ?_; refine chf rfl q_199 ?_; refine chf rfl (hop_y rfl q_195) ?_; refine z_126 ?_;refine cta_d rfl rfl rfl rfl (d_callv rfl t_18 q_297 (tape_one l nn (p+1) _ 0 rfl om_ hl madeFunctions de_ de_) rfl ?_);intro v hv;have hv8:v.length<=8:=len_made (.inr (.inl hv));refine ⟨⟨q_184,tt⟩,?_⟩;refine z_163 ?_; intro ⟨s1,p1⟩ ⟨hs1,hq1,hr1⟩;dsimp only at hs1 hq1 hr1 ⊢;refine z_237 ?_; refine z_170 ?_; refine z_47 ?_; refine cY q_230 ?_; refine cY (y_lit ([0,0,0,1].map icv) rfl ⟨rfl,rfl,rfl,rfl,tt⟩ t_8 t_3 t_11 rfl rfl rfl rfl rfl rfl rfl rfl rfl) ?_;refine cD (d_callv rfl t_155 q_297 (tape_pick l nn (p1) _ 0 rfl om_ hl [0,0,0,1] si_ si_) rfl ?_);intro n hn;have hn01:n=0\/n=1:=by
      simp only [n_13,n_79,or_false] at hn;omega
     refine z_1 ?_; refine cw_block ?_; refine cw_loop' (α:=Str × Nat × Int) (fun x=>[(7,(.clo 163 [.ptr 1 0,.ptr 2 0,.ptr 3 0])),(8,(sv (x.1))),(9,(.val (.int .i64 (x.2.2))))]) (fun x=>[tapeC l nn (x.2.1),.box [.ptr 0 0],.box [(.val (.int .i64 ((d:Int))))],.box [(.list (ps.map scv) (gnn ps.length) none)]]) (fun x=>(x.2.2=0\/x.2.2=1)/\(x.2.2=1->x.1.length<=L+9/\x.2.1<=k+4+K)/\x.1.length<=2*L+11/\k<=x.2.1/\x.2.1<=k+4+2*K) (fun x=>x.2.2.toNat) (_,p1+1,n) ⟨hn01,fun _=>⟨by show List.length _<=_; simp only [n_5,n_7,n_11]; omega,do_⟩,by show List.length _<=_; simp only [n_5,n_7,n_11]; omega,do_,do_⟩ ⟨⟨tt,rfl⟩,⟨tt,rfl⟩,⟨tt,rfl⟩,tt⟩ rfl ?_; intro ⟨s,p5,n5⟩ E5 ⟨hn5,hn6,hs5,hq5,hq6⟩;dsimp only at hn5 hn6 hs5 hq5 hq6 ⊢;refine z_209 ?_; refine cC (fun h13=>?_) fun h13=>?_
     ·have h13':n5=1:=by simp at h13; omega
      obtain ⟨hs6,hq7⟩:=hn6 h13';refine z_19 ?_; refine z_40 ?_;refine cD (d_callclov rfl tt rfl t_59 trivial (by exact hclo om_ (p5) om_) rfl ?_);intro ⟨s2,p2⟩ ⟨hs2,hq2,hr2⟩;dsimp only at hs2 hq2 hr2 ⊢;refine cY q_164 ?_; refine cY q_174 ?_; refine z_183 ?_; refine z_129 ?_;exact ⟨(_,p2,n5 - 1),do_,(by exact ⟨do_,fun h=>by dsimp only at h; omega,by show List.length _<=_; simp only [n_5,n_7,n_11]; omega,do_,do_⟩),⟨⟨tt,rfl⟩,⟨tt,rfl⟩,⟨tt,rfl⟩,tt⟩,rfl⟩
     ·refine z_67 ?_; refine cY q_162 ?_; refine z_4 ?_;exact ⟨_,res1 rfl tt q_272,⟨(_,p5),fin1 rfl q_283 (.old (.val _)),q_73,do_,do_⟩⟩
    ·refine z_27 ?_; refine cC (fun h14=>?_) fun h14=>?_
     ·refine z_260 ?_; intro ⟨s1,p1⟩ ⟨hs1,hq1,hr1⟩;dsimp only at hs1 hq1 hr1 ⊢;refine z_92 ?_; refine cY q_247 ?_;refine cD (d_callclov rfl tt rfl t_59 trivial (by exact hclo om_ (p1) om_) rfl ?_);intro ⟨s2,p2⟩ ⟨hs2,hq2,hr2⟩;dsimp only at hs2 hq2 hr2 ⊢;refine z_200 ?_; refine cY q_247 ?_;refine cD (d_callclov rfl tt rfl t_59 trivial (by exact hclo om_ (p2) om_) rfl ?_);intro ⟨s3,p3⟩ ⟨hs3,hq3,hr3⟩;dsimp only at hs3 hq3 hr3 ⊢;refine z_200 ?_; refine z_4 ?_;exact ⟨_,res1 rfl tt q_272,⟨(_,p3),fin1 rfl q_283 (.old (.val _)),q_73,do_,do_⟩⟩
     ·refine z_27 ?_; refine cC (fun h15=>?_) fun h15=>?_
      ·refine cw_seq ?_; refine cw_floatA [] [3,4] [0,1,5,2,3,4,6,7,8,9] 3 [0,0,3,7,15,0,39,127,255,511] [[2],[2],[2],[],[],[],[]] (hd1l:=[0,1,5]) (tll:=[(2,[2]),(3,[2]),(4,[2]),(6,[]),(7,[]),(8,[]),(9,[])]) q_291 q_291 q_291 tt rfl rfl rfl ?_; refine chf rfl q_199 ?_; refine chf rfl (hop_y rfl q_205) ?_; refine z_126 ?_;refine cta_d rfl rfl rfl rfl (d_callv rfl t_18 q_297 (tape_one l nn (p+1) _ 0 rfl om_ hl madePaths de_ de_) rfl ?_);intro v hv;have hv8:v.length<=8:=len_made (.inr (.inr (.inr (.inl hv))));refine ⟨⟨q_184,tt⟩,?_⟩;refine cta_q rfl rfl (fun _=>hop_y rfl q_164) ?_; refine z_163 ?_; intro ⟨s1,p1⟩ ⟨hs1,hq1,hr1⟩;dsimp only at hs1 hq1 hr1 ⊢;refine z_237 ?_;refine cta_h rfl rfl rfl q_119 ⟨tt,?_⟩;refine z_170 ?_; refine cw_ret ?_;exact ⟨_,res1 rfl tt q_272,⟨(_,p1),fin1 rfl q_283 (.old (.val _)),q_73,do_,do_⟩⟩
      ·refine z_27 ?_; refine cC (fun h16=>?_) fun h16=>?_
       ·refine z_260 ?_; intro ⟨s1,p1⟩ ⟨hs1,hq1,hr1⟩;dsimp only at hs1 hq1 hr1 ⊢;refine z_92 ?_;exact z_51
       ·refine z_9 ?_; refine cw_floatA [] [2,3,7,8] [0,4,5,9,1,2,3,6,7,8,10,11,12,13] 4 [0,1,3,7,0,0,51,127,255,0,627,2047,4095,8191] [[1,2,3],[1,2,3],[1,2,3],[3],[3],[3],[],[],[],[]] (hd1l:=[0,4,5,9]) (tll:=[(1,[1,2,3]),(2,[1,2,3]),(3,[1,2,3]),(6,[3]),(7,[3]),(8,[3]),(10,[]),(11,[]),(12,[]),(13,[])]) q_291 q_291 q_291 tt rfl rfl rfl ?_; refine chf rfl q_208 ?_; refine chf rfl q_199 ?_; refine chf rfl (hop_y rfl q_22) ?_; refine z_126 ?_;refine cta_d rfl rfl rfl rfl (d_callclov rfl tt rfl t_59 trivial (by exact hclo om_ (p+1) om_) rfl ?_);intro ⟨s1,p1⟩ ⟨hs1,hq1,hr1⟩;dsimp only at hs1 hq1 hr1 ⊢;refine ⟨⟨(by exact hop_y rfl q_230),(by exact hop_y rfl q_22),q_184,tt⟩,?_⟩;refine cta_q rfl rfl (fun _=>hop_y rfl q_164) ?_; refine cta_q rfl rfl (fun _=>hop_y rfl q_162) ?_;refine cta_d rfl rfl rfl rfl (d_callv rfl t_18 q_297 (tape_one l nn p1 _ 0 rfl om_ hl ([[43],[45],[42],[47],[37],[60],[61,61]]:List Str) si_ si_) rfl ?_);intro v hv;have hv8:v.length<=2:=by revert v; decide
        refine ⟨⟨q_184,tt⟩,?_⟩;refine cta_q rfl rfl (fun _=>hop_y rfl q_174) ?_; refine cta_q rfl rfl (fun _=>hop_y rfl q_162) ?_;refine cta_d rfl rfl rfl rfl (d_callclov rfl tt rfl t_59 trivial (by exact hclo om_ (p1+1) om_) rfl ?_);intro ⟨s2,p2⟩ ⟨hs2,hq2,hr2⟩;dsimp only at hs2 hq2 hr2 ⊢;refine z_237 ?_;refine cta_h rfl rfl rfl q_119 ⟨tt,?_⟩;refine z_170 ?_; refine cw_ret ?_;exact ⟨_,res1 rfl tt q_272,⟨(_,p2),fin1 rfl q_283 (.old (.val _)),q_73,do_,do_⟩⟩
theorem mk_Expr1 {l:List Int} {k:Nat} (hl:l.length<=maxLen) (d:Nat) (hd:d<=10) (ps:List Str) (hps:∀ s∈ps,s.length<=10) (hpl:ps.length<=2) (L K B:Nat) (hL:L<=1000000) (hK:K<=1000) (hat:k+3*K+10<=B) (hB:B<=900000000) (hclo:1<=d->∀ p,p<=B->CCalls CC 163 [.ptr 1 0,.ptr 2 0,.ptr 3 0] (eob l nn ps d p) fun r τ=>∃ a:Str × Nat,r = .ret (sv a.1)/\τ=eob l nn ps d a.2/\(a.1.length<=L/\p<=a.2/\a.2<=p+K)) {q:Nat} (hq:σ[q]? = some (tapeC l nn k)) :
 CCalls CC 122 [.ptr q 0,(.val (.int .i64 ((d:Int)))),.list (ps.map scv) (gnn ps.length) none] σ fun r τ=>∃ a:Str × Nat,r = .ret (sv a.1)/\τ=σ.set q (tapeC l nn a.2)/\(a.1.length<=3*L+30/\k<=a.2/\a.2<=k+(3*K+5)) :=
 call1 (c:=fun a:Str × Nat=>sv a.1) (S:=fun a=>tapeC l nn a.2) hCC (fun a h=>by simp at h; rcases h with rfl | rfl; exact .val _; exact pure_strs _ _) (fun _=>.val _) (fun _=>pure_tape _ _ _) (pure_tape _ _ _) rfl (mk_Expr0 l nn k hl d hd ps hps hpl L K B hL hK hat hB hclo) σ q hq
theorem expr_any (l:List Int) (nn:Bool) (hl:l.length<=maxLen) (ps:List Str) (hps:∀ s∈ps,s.length<=10) (hpl:ps.length<=2):ExprC l nn ps 0 30 5 800000000/\ExprC l nn ps 1 120 20 799999000/\ExprC l nn ps 2 390 65 799998000/\ExprC l nn ps 3 1200 200 799997000:=by
 have e0:ExprC l nn ps 0 30 5 800000000:=fun k hk σ q hq=>mk_Expr1 hl 0 om_ ps hps hpl 0 0 900000000 om_ om_ om_ om_ (fun h=>by omega) hq;have e1:ExprC l nn ps 1 120 20 799999000:=fun k hk σ q hq=>mk_Expr1 hl 1 om_ ps hps hpl 30 5 800000000 om_ om_ om_ om_ (fun _ p hp=>expr_clo om_ e0 p hp) hq;have e2:ExprC l nn ps 2 390 65 799998000:=fun k hk σ q hq=>mk_Expr1 hl 2 om_ ps hps hpl 120 20 799999000 om_ om_ om_ om_ (fun _ p hp=>expr_clo om_ e1 p hp) hq;have e3:ExprC l nn ps 3 1200 200 799997000:=fun k hk σ q hq=>mk_Expr1 hl 3 om_ ps hps hpl 390 65 799998000 om_ om_ om_ om_ (fun _ p hp=>expr_clo om_ e2 p hp) hq;exact ⟨e0,e1,e2,e3⟩
theorem mk_Decl0 (l:List Int) (nn:Bool) (k:Nat) (hat:k<=700000000) (hl:l.length<=maxLen):CCalls CC 73 [.ptr 0 0] [tapeC l nn k] fun r τ=>∃ a:Str × Nat,FinR 1 τ r (.ret (sv a.1)) [tapeC l nn a.2]/\(a.1.length<=1240/\k<=a.2/\a.2<=k+210):=by
 refine (ccalls_of Tryz.func73 rfl rfl ?_);refine z_5 ?_; refine cw_cut (α:=Nat) (fun _=>[(0,.ptr 0 0)]) (fun x=>[tapeC l nn (x)]) (fun x=>x=k+1) ?_ ?_
 ·
  refine z_2 ?_;refine cD (d_callv rfl t_20 q_294 (tape_next l nn k _ 0 rfl om_ hl 8 om_) rfl ?_);intro _ _; refine z_12 ?_; refine cw_cut (α:=Bool) (fun b=>[(0,.ptr 0 0),(2,(sv ([]))),(6,(.val (.int .i64 (tapeN l k 8)))),(7,(.val (.bool (b))))]) (fun _=>[tapeC l nn (k+1)]) (fun _=>True) ?_ ?_
  ·
   refine z_27 ?_; refine cC (fun h1=>?_) fun h1=>?_
   ·exact z_174
   ·refine z_27 ?_; refine cC (fun h2=>?_) fun h2=>?_
    ·exact z_174
    ·refine z_132 ?_;exact ⟨_,tt,⟨⟨tt,rfl⟩,⟨tt,rfl⟩,⟨tt,rfl⟩,⟨tt,rfl⟩,tt⟩,rfl⟩
  ·intro b E0 _; refine cC (fun h3=>?_) fun h3=>?_
   ·refine z_2 ?_; refine cY (y_callf rfl Tryz.call82 trivial (mk_Tests_s _) rfl) ?_;refine cD (d_callv rfl t_18 q_297 (tape_one l nn (k+1) _ 0 rfl om_ hl madeTests de_ de_) rfl ?_);intro v hv;have hv8:v.length<=8:=len_made (.inr (.inr (.inl hv)));refine z_92 ?_; refine cY q_247 ?_;refine cD (d_callv rfl t_90 q_286 (by exact (expr_any l nn hl ([]:List Str) de_ de_).2.2.2 (k+2) om_ _ 0 rfl) rfl ?_);intro ⟨s1,p1⟩ ⟨hs1,hq1,hr1⟩;dsimp only at hs1 hq1 hr1 ⊢;refine z_200 ?_;exact z_51
   ·refine z_27 ?_; refine cC (fun h4=>?_) fun h4=>?_
    ·refine z_2 ?_; refine cY q_205 ?_;refine cD (d_callv rfl t_18 q_297 (tape_one l nn (k+1) _ 0 rfl om_ hl madePaths de_ de_) rfl ?_);intro v hv;have hv8:v.length<=8:=len_made (.inr (.inr (.inr (.inl hv))));refine z_92 ?_; refine cY q_247 ?_;refine cD (d_callv rfl t_90 q_286 (by exact (expr_any l nn hl ([]:List Str) de_ de_).2.2.1 (k+2) om_ _ 0 rfl) rfl ?_);intro ⟨s1,p1⟩ ⟨hs1,hq1,hr1⟩;dsimp only at hs1 hq1 hr1 ⊢;refine z_200 ?_;exact z_51
    ·refine cw_skip ?_;exact ⟨_,rfl,⟨⟨tt,rfl⟩,tt⟩,rfl⟩
 ·intro p E0 hp; subst hp; refine z_0 ?_;refine cD (d_lit1g rfl rfl rfl rfl t_1 t_0 t_5 rfl ?_);refine z_64 ?_;refine cD (d_callv rfl t_40 q_286 (tape_chance l nn (k+1) _ 0 rfl om_ hl 1 5 om_) rfl ?_);intro _ _; refine co_nil ?_; refine cC (fun h5=>?_) fun h5=>?_
  ·refine z_7 ?_; refine cY (y_lit [scv [98]] rfl ⟨rfl,tt⟩ t_1 t_0 t_5 rfl rfl rfl rfl rfl rfl rfl rfl rfl) ?_;refine cD (d_appu rfl tt tt rfl (show 1=List.length _ from rfl) q_18 t_1 t_0 t_26 t_5 rfl (.inr rfl) q_20 q_81 q_227 (([[97],[98]]:List Str).map scv) 2 rfl rfl ?_);refine z_39 ?_; refine z_214 ?_; intro v hv;have hv8:v.length<=8:=len_made (.inr (.inl hv));refine z_92 ?_; refine z_64 ?_; refine z_228 ?_; refine cC (fun h6=>?_) fun h6=>?_
   ·refine z_7 ?_; refine cY q_162 ?_; refine z_39 ?_; refine cY q_162 ?_; refine z_113 ?_;refine cD (d_callv rfl t_90 ⟨tt,rfl,tt,tt⟩ (by exact (expr_any l nn hl ([[97],[98]]:List Str) de_ de_).2.2.2 (k+3) om_ _ 0 rfl) rfl ?_);intro ⟨s1,p1⟩ ⟨hs1,hq1,hr1⟩;dsimp only at hs1 hq1 hr1 ⊢;refine z_200 ?_;exact z_51
   ·exfalso; simp at h6
  ·refine z_61 ?_; refine z_214 ?_; intro v hv;have hv8:v.length<=8:=len_made (.inr (.inl hv));refine z_92 ?_; refine z_64 ?_; refine z_228 ?_; refine cC (fun h7=>?_) fun h7=>?_
   ·exfalso; simp at h7
   ·refine z_61 ?_; refine cY q_162 ?_; refine z_113 ?_;refine cD (d_callv rfl t_90 ⟨tt,rfl,tt,tt⟩ (by exact (expr_any l nn hl ([[97]]:List Str) de_ de_).2.2.2 (k+3) om_ _ 0 rfl) rfl ?_);intro ⟨s1,p1⟩ ⟨hs1,hq1,hr1⟩;dsimp only at hs1 hq1 hr1 ⊢;refine z_200 ?_;exact z_51
theorem mk_Decl (l:List Int) (nn:Bool) (k:Nat) (hat:k<=700000000) (hl:l.length<=maxLen) (σ:List CObj) (q:Nat) (hq:σ[q]? = some (tapeC l nn k)):CCalls CC 73 [.ptr q 0] σ fun r τ=>∃ a:Str × Nat,r = .ret (sv a.1)/\τ=σ.set q (tapeC l nn a.2)/\(a.1.length<=1240/\k<=a.2/\a.2<=k+210) :=
 call1 (c:=fun a:Str × Nat=>sv a.1) (S:=fun a=>tapeC l nn a.2) hCC (fun a h=>by simp at h) (fun _=>.val _) (fun _=>pure_tape _ _ _) (pure_tape _ _ _) rfl (mk_Decl0 l nn k hat hl) σ q hq
theorem mk_Source0 (l:List Int) (nn:Bool) (k:Nat) (hat:k<=600000000) (hl:l.length<=maxLen) (pkg:Str) (hpk:pkg.length<=8):CCalls CC 68 [.ptr 0 0,(sv (pkg))] [tapeC l nn k] fun r τ=>∃ a:Str × Nat,FinR 1 τ r (.ret (sv a.1)) [tapeC l nn a.2]/\(a.1.length<=6300/\k<=a.2/\a.2<=k+1070):=by
 refine (ccalls_of Tryz.func68 rfl rfl ?_);refine z_80 ?_; refine z_92 ?_; refine z_1 ?_; refine cw_cut (α:=Str × Nat) (fun x=>[(0,.ptr 0 0),(1,(sv (pkg))),(5,(sv (x.1)))]) (fun x=>[tapeC l nn (x.2)]) (fun x=>x.1.length<=40/\x.2=k+1) ?_ ?_
 ·
  refine z_2 ?_;refine cD (d_callv rfl t_40 q_286 (tape_chance l nn k _ 0 rfl om_ hl 1 8 om_) rfl ?_);intro _ _; refine co_nil ?_; refine cC (fun h1=>?_) fun h1=>?_
  ·refine z_7 ?_; refine cY q_164 ?_; refine z_1 ?_;exact ⟨(_,k+1),q_64,⟨⟨tt,rfl⟩,⟨tt,rfl⟩,⟨tt,rfl⟩,tt⟩,rfl⟩
  ·refine cw_skip ?_;exact ⟨(_,k+1),q_64,⟨⟨tt,rfl⟩,⟨tt,rfl⟩,⟨tt,rfl⟩,tt⟩,rfl⟩
 ·intro ⟨s,p⟩ E0 ⟨hs,hp⟩;dsimp only at hs hp ⊢;subst hp; refine z_48 ?_;refine cD (d_callv rfl t_20 q_294 (tape_next l nn (k+1) _ 0 rfl om_ hl 3 om_) rfl ?_);intro _ _;have hb1:=tapeN_lt (l:=l) (k:=k+1) (n:=3) om_;refine z_1 ?_; refine cw_block ?_; refine cw_loopr hCC 1 rfl (α:=Str × List Str × Nat × Int) (fun x=>[(0,.ptr 0 0),(1,(sv (pkg))),(5,(sv (x.1))),(6,(.list (x.2.1.map scv) (gnn x.2.1.length) (gtok x.2.1.length 1))),(7,(.val (.int .i64 (x.2.2.2))))]) (fun x=>[tapeC l nn x.2.2.1,gobj x.2.1.length]) (fun x=>0<=x.2.2.2/\x.2.2.2<=2/\x.1.length+20*x.2.2.2<=80/\x.2.1.length+x.2.2.2<=2/\k+2<=x.2.2.1/\x.2.2.1+x.2.2.2<=k+4) (fun x=>x.2.2.2.toNat) ⟨(s,[],k+2,tapeN l (k+1) 3),[0,9],⟨do_,do_,do_,by dsimp only; simp; omega,do_,do_⟩,⟨rfl,rfl⟩,⟨q_45,q_45,q_45,q_45,q_45,tt⟩,⟨.inr ⟨_,rfl,.same rfl q_283⟩,.inl rfl,tt⟩⟩ ?_; intro ⟨s,seen,p,n⟩ ⟨hn1,hn2,hs2,hsn,hp1,hp2⟩;dsimp only at hn1 hn2 hs2 hsn hp1 hp2 ⊢;refine z_209 ?_; refine cC (fun h2=>?_) fun h2=>?_
  ·have hn3:1<=n:=by simp at h2; omega
   refine z_116 ?_; refine cY (y_callf rfl Tryz.call69 trivial (mk_Packages_s _) rfl) ?_;refine cD (d_callv rfl t_18 q_297 (tape_one l nn (p) _ 0 rfl om_ hl madePackages de_ de_) rfl ?_);intro v hv;have hv8:v.length<=8:=len_made (.inl hv);refine z_1 ?_; refine z_6 ?_; refine cY q_234 ?_; refine z_109 ?_; refine cG (fun hg=>y_callf rfl t_156 ⟨hg,hg,tt⟩ (mk_Has_s seen _ v om_ _) rfl) ?_; refine cG q_267 ?_; refine cY q_197 ?_; refine co_nil ?_; refine cC (fun h3=>?_) fun h3=>?_
   ·refine z_6 ?_; refine cY (y_lit [scv v] rfl ⟨tt,tt⟩ t_1 t_0 t_5 rfl rfl rfl rfl rfl rfl rfl rfl rfl) ?_;refine cD (d_appu rfl tt tt rfl si_ q_18 t_1 t_0 t_26 t_5 rfl (.inr rfl) q_20 q_81 q_227 ((seen++[v]).map scv) (seen++[v]).length si_ si_ ?_);refine z_256 ?_; refine z_92 ?_; refine cY q_174 ?_; refine z_183 ?_; refine z_129 ?_;exact ⟨(s++((([105,109,112,111,114,116,32]:Str)++v)++[59,10]),seen++[v],p+1,n - 1),[0,2],q_21,⟨rfl,rfl⟩,q_5,⟨.inr ⟨_,rfl,.same rfl q_283⟩,.inr ⟨_,rfl,.same rfl q_293⟩,tt⟩⟩
   ·refine z_123 ?_; refine z_129 ?_;exact ⟨(s,seen,p+1,n - 1),[0,1],⟨do_,do_,do_,do_,do_,do_,do_⟩,⟨rfl,rfl⟩,q_5,⟨.inr ⟨_,rfl,.same rfl q_283⟩,.inr ⟨_,rfl,.same rfl q_293⟩,tt⟩⟩
  ·have hn3:n=0:=by simp at h2; omega
   subst hn3; refine cw_exit ?_; refine z_48 ?_;refine cD (d_callv rfl t_20 q_294 (tape_next l nn p _ 0 rfl om_ hl 5 om_) rfl ?_);intro _ _;have hb2:=tapeN_lt (l:=l) (k:=p) (n:=5) om_;refine cY (y_add rfl rfl tt rfl rfl om_ om_) ?_; refine z_1 ?_; refine cw_block ?_; refine cw_loopr hCC 2 rfl (α:=Str × List Str × Nat × Int) (fun x=>[(0,.ptr 0 0),(5,(sv (x.1))),(9,(.list (x.2.1.map scv) (gnn x.2.1.length) (gtok x.2.1.length 2))),(10,(.val (.int .i64 (x.2.2.2))))]) (fun x=>[tapeC l nn x.2.2.1,gobj seen.length,gobj x.2.1.length]) (fun x=>0<=x.2.2.2/\x.2.2.2<=5/\x.1.length+1240*x.2.2.2<=6280/\x.2.1.length+x.2.2.2<=5/\k+3<=x.2.2.1/\x.2.2.1+211*x.2.2.2<=k+1060) (fun x=>x.2.2.2.toNat) ⟨(s,[],p+1,1+tapeN l p 5),[0,1,9],⟨do_,do_,do_,by dsimp only; simp; omega,do_,do_⟩,⟨rfl,rfl⟩,q_10,⟨.inr ⟨_,rfl,.same rfl q_283⟩,.inr ⟨_,rfl,.same rfl q_293⟩,.inl rfl,tt⟩⟩ ?_; intro ⟨s,hds,p2,n⟩ ⟨hn1,hn2,hs3,hhn,hp3,hp4⟩;dsimp only at hn1 hn2 hs3 hhn hp3 hp4 ⊢;refine z_209 ?_; refine cC (fun h4=>?_) fun h4=>?_
   ·have hn3:1<=n:=by simp at h4; omega
    refine z_116 ?_;refine cD (d_callv rfl Tryz.call73 ⟨tt,tt⟩ (mk_Decl l nn p2 om_ hl _ 0 rfl) rfl ?_);intro ⟨dt,p5⟩ ⟨hdt,hq5,hr5⟩;dsimp only at hdt hq5 hr5 ⊢;refine z_39 ?_; refine z_193 ?_; refine z_252 ?_; refine cw_loop' (α:=Nat) (fun i=>[(0,.ptr 0 0),(5,(sv (s))),(9,(.list (hds.map scv) (gnn hds.length) (gtok hds.length 2))),(10,(.val (.int .i64 (n)))),(11,(sv (dt))),(12,(sv (dt))),(13,(.val (.int .i64 ((i:Int)))))]) (fun _=>[tapeC l nn p5,gobj seen.length,gobj hds.length]) (fun i=>i<=dt.length) (fun i=>dt.length - i) 0 (n_3 _) tu_ rfl ?_; intro i E3 hi; refine z_86 ?_; refine cY q_243 ?_; refine z_62 ?_; refine cC (fun h5=>?_) fun h5=>?_
    ·have hlt:i < dt.length:=by simp at h5; omega
     obtain ⟨c,hc⟩:∃ c,dt[i]? = some c:=⟨dt[i]'hlt,si_⟩;refine z_19 ?_; refine z_6 ?_; refine cY (y_sindex rfl tt tt rfl rfl t_6 om_ (by rw [n_61]; exact hc)) ?_; refine cY q_256 ?_; refine z_109 ?_; refine cG (fun hg=>y_sindex rfl hg hg rfl rfl t_6 q_241 (by rw [n_61]; exact hc)) ?_; refine z_278 ?_; refine cC (fun h6=>?_) fun h6=>?_
     ·refine z_6 ?_; refine cY (y_sslice (h:=i) rfl tt rfl t_6 rfl q_80 q_271 q_271) ?_; refine z_1 ?_; refine cw_exit ?_; refine cw_cut (α:=Bool × Nat) (fun x=>[(0,.ptr 0 0),(5,(sv (s))),(9,(.list (hds.map scv) (gnn hds.length) (gtok hds.length 2))),(10,(.val (.int .i64 (n)))),(11,(sv (dt))),(12,(sv ((dt.take i)))),(84,(.val (.bool (x.1))))]) (fun x=>[tapeC l nn x.2,gobj seen.length,gobj hds.length]) (fun x=>p5<=x.2/\x.2<=p5+1) ?_ ?_
      ·
       refine z_40 ?_; refine cY (y_callf rfl t_156 q_297 (mk_Has_s hds _ _ om_ _) rfl) ?_; refine cY q_284 ?_; refine z_23 ?_;refine co_gd (.val (.bool false)) rfl rfl tt rfl rfl (fun hg=>d_callv rfl t_40 ⟨hg,rfl,rfl,tt⟩ (tape_chance l nn p5 _ 0 rfl om_ hl 1 40 om_) rfl ?_) (fun hg=>?_)
       ·
        intro _ _;exact z_284
       ·
        refine z_65 ?_;exact ⟨(_,p5),⟨do_,do_⟩,⟨⟨tt,rfl⟩,⟨tt,rfl⟩,⟨tt,rfl⟩,⟨tt,rfl⟩,⟨tt,rfl⟩,⟨tt,rfl⟩,⟨tt,rfl⟩,tt⟩,rfl⟩
      ·intro ⟨b6,p6⟩ E6 ⟨hq6,hr6⟩;dsimp only at hq6 hr6 ⊢;refine cC (fun h7=>?_) fun h7=>?_
       ·refine z_6 ?_; refine cY (y_lit [scv (dt.take i)] rfl ⟨tt,tt⟩ t_1 t_0 t_5 rfl rfl rfl rfl rfl rfl rfl rfl rfl) ?_;refine cD (d_appu rfl tt tt rfl si_ q_18 t_1 t_0 t_26 t_5 rfl (.inr rfl) q_20 q_81 q_227 ((hds++[(dt.take i)]).map scv) (hds++[(dt.take i)]).length si_ si_ ?_);refine z_256 ?_; refine cY q_174 ?_; refine z_183 ?_; refine z_129 ?_;exact ⟨(s++dt,hds++[(dt.take i)],p6,n - 1),[0,1,3],q_21,⟨rfl,rfl⟩,q_9,⟨.inr ⟨_,rfl,.same rfl q_283⟩,.inr ⟨_,rfl,.same rfl q_293⟩,.inr ⟨_,rfl,.same rfl q_293⟩,tt⟩⟩
       ·refine z_123 ?_; refine cY q_254 ?_;exact z_98
     ·refine z_265 ?_;exact ⟨(i+1),om_,hlt,tu_,rfl⟩
    ·refine cw_exit ?_; refine cw_cut (α:=Bool × Nat) (fun x=>[(0,.ptr 0 0),(5,(sv (s))),(9,(.list (hds.map scv) (gnn hds.length) (gtok hds.length 2))),(10,(.val (.int .i64 (n)))),(11,(sv (dt))),(12,(sv (dt))),(84,(.val (.bool (x.1))))]) (fun x=>[tapeC l nn x.2,gobj seen.length,gobj hds.length]) (fun x=>p5<=x.2/\x.2<=p5+1) ?_ ?_
     ·
      refine z_40 ?_; refine cY (y_callf rfl t_156 q_297 (mk_Has_s hds _ _ om_ _) rfl) ?_; refine cY q_284 ?_; refine z_23 ?_;refine co_gd (.val (.bool false)) rfl rfl tt rfl rfl (fun hg=>d_callv rfl t_40 ⟨hg,rfl,rfl,tt⟩ (tape_chance l nn p5 _ 0 rfl om_ hl 1 40 om_) rfl ?_) (fun hg=>?_)
      ·
       intro _ _;exact z_284
      ·
       refine z_65 ?_;exact ⟨(_,p5),⟨do_,do_⟩,⟨⟨tt,rfl⟩,⟨tt,rfl⟩,⟨tt,rfl⟩,⟨tt,rfl⟩,⟨tt,rfl⟩,⟨tt,rfl⟩,⟨tt,rfl⟩,tt⟩,rfl⟩
     ·intro ⟨b6,p6⟩ E6 ⟨hq6,hr6⟩;dsimp only at hq6 hr6 ⊢;refine cC (fun h8=>?_) fun h8=>?_
      ·refine z_6 ?_; refine cY (y_lit [scv dt] rfl ⟨tt,tt⟩ t_1 t_0 t_5 rfl rfl rfl rfl rfl rfl rfl rfl rfl) ?_;refine cD (d_appu rfl tt tt rfl si_ q_18 t_1 t_0 t_26 t_5 rfl (.inr rfl) q_20 q_81 q_227 ((hds++[dt]).map scv) (hds++[dt]).length si_ si_ ?_);refine z_256 ?_; refine cY q_174 ?_; refine z_183 ?_; refine z_129 ?_;exact ⟨(s++dt,hds++[dt],p6,n - 1),[0,1,3],q_21,⟨rfl,rfl⟩,q_9,⟨.inr ⟨_,rfl,.same rfl q_283⟩,.inr ⟨_,rfl,.same rfl q_293⟩,.inr ⟨_,rfl,.same rfl q_293⟩,tt⟩⟩
      ·refine z_123 ?_; refine cY q_254 ?_;exact z_98
   ·have hn3:n=0:=by simp at h4; omega
    subst hn3; refine cw_exit ?_; refine z_17 ?_;refine cD (d_callv rfl t_40 q_286 (tape_chance l nn p2 _ 0 rfl om_ hl 1 30 om_) rfl ?_);intro _ _; refine co_nil ?_; refine cC (fun h9=>?_) fun h9=>?_
    ·refine z_40 ?_; refine cY (y_lit (([[102,117,110,99],[125],[34],[116,101,115,116,32,116,32,61,32,49,59],[120]]:List Str).map scv) rfl ⟨rfl,rfl,rfl,rfl,rfl,tt⟩ t_1 t_0 t_5 rfl rfl rfl rfl rfl rfl rfl rfl rfl) ?_;refine cD (d_callv rfl t_18 q_297 (tape_one l nn (p2+1) _ 0 rfl om_ hl ([[102,117,110,99],[125],[34],[116,101,115,116,32,116,32,61,32,49,59],[120]]:List Str) si_ si_) rfl ?_);intro v hv;have hv8:v.length<=11:=by revert v; decide
     refine cY q_174 ?_; refine z_39 ?_; refine z_4 ?_;exact ⟨_,res1 rfl tt q_272,⟨(_,p2+2),fin1 rfl q_283 (.old (.val _)),q_73,do_,do_⟩⟩
    ·refine z_61 ?_; refine z_4 ?_;exact ⟨_,res1 rfl tt q_272,⟨(_,p2+1),fin1 rfl q_283 (.old (.val _)),q_73,do_,do_⟩⟩
theorem mk_Source (l:List Int) (nn:Bool) (k:Nat) (hat:k<=600000000) (hl:l.length<=maxLen) (pkg:Str) (hpk:pkg.length<=8) (σ:List CObj) (q:Nat) (hq:σ[q]? = some (tapeC l nn k)):CCalls CC 68 [.ptr q 0,(sv (pkg))] σ fun r τ=>∃ a:Str × Nat,r = .ret (sv a.1)/\τ=σ.set q (tapeC l nn a.2)/\(a.1.length<=6300/\k<=a.2/\a.2<=k+1070) :=
 call1 (c:=fun a:Str × Nat=>sv a.1) (S:=fun a=>tapeC l nn a.2) hCC (fun a h=>by simp at h; subst h; exact .val _) (fun _=>.val _) (fun _=>pure_tape _ _ _) (pure_tape _ _ _) rfl (mk_Source0 l nn k hat hl pkg hpk) σ q hq
def madeDat:List Str:=([[97,46,100,97,116],[100,47,98,46,100,97,116],[99]]:List Str)
def madeAll:List Str:=([[97,46,115,114,99],[98,46,115,114,99],[100,47,99,46,115,114,99],[120,46,115,114,99],[97,46,100,97,116],[100,47,98,46,100,97,116],[99],[122,48,46,115,114,99],[122,49,46,115,114,99],[122,50,46,115,114,99]]:List Str)
structure MadeR (B:Nat) (fl:List Fi):Prop where
 srt:SrtF fl
 pth:∀ f∈fl,f.p∈madeAll
 byt:∀ f∈fl,f.b.length<=B
theorem MadeR.nil (B:Nat):MadeR B []:=⟨.nil,fun f h=>by simp at h,fun f h=>by simp at h⟩
theorem MadeR.mono {C:Nat} (h:MadeR B fl) (hc:B<=C):MadeR C fl:=⟨h.srt,h.pth,fun f hf=>n_87 (h.byt f hf) hc⟩
theorem MadeR.len (h:MadeR B fl):fl.length<=10:=by
 have hn:(fl.map Fi.p).Nodup:=by
  rw [List.nodup_iff_pairwise_ne,List.pairwise_map];exact h.srt.imp fun {a b} hab he=>by rw [he,bl_irr] at hab; cases hab
 have hs:∀ x∈fl.map Fi.p,x∈madeAll:=fun x hx=>by
  obtain ⟨f,hf,rfl⟩:=n_9.1 hx;exact h.pth f hf
 have:=List.Nodup.length_le_of_subset hn (fun x hx=>hs x hx);rw [n_17] at this;exact this
theorem insG_true {f:Fi}:∀ l:List Fi,insG f true l=l.filter fun x=>!decide (x.p=f.p)
 | []=>rfl
 | x::l=>by
  rw [insG,Bool.true_or,insG_true l,n_60];by_cases h:x.p=f.p <;> simp [h]
theorem insG_mem {f:Fi} {x:Fi}:∀ {d:Bool} {l:List Fi},x∈insG f d l->x=f\/x∈l
 | d,[],h=>by
  cases d <;> simp [insG] at h
  exact .inl h
 | d,y::l,h=>by
  rw [insG] at h
  rcases n_18.1 h with h | h
  ·split at h <;> simp at h
   exact .inl h
  ·rcases n_18.1 h with h | h
   ·split at h <;> simp at h
    exact .inr (by rw [h]; simp)
   ·rcases insG_mem h with h | h
    ·exact .inl h
    ·exact .inr (n_69 _ h)
theorem insG_srt {f:Fi}:∀ {l:List Fi},SrtF l->SrtF (insG f false l)
 | [],_=>by simp [insG,SrtF]
 | y::l,h=>by
  obtain ⟨h1,h2⟩:=n_49.1 h;rw [insG];by_cases hle:leF f y=true
  ·simp only [hle,Bool.not_false,Bool.and_self,if_true,Bool.or_true,insG_true];have hl:SrtF (l.filter fun x=>!decide (x.p=f.p)):=h2.filter _;have hfl:∀ g∈l.filter fun x=>!decide (x.p=f.p),Op.bytesLess f.p g.p=true:=fun g hg=>by
    have hy:=h1 g ((n_92.1 hg).1);unfold leF at hle;simp only [n_38,n_48] at hle
    rcases hle with hle | hle
    ·exact bl_trans hle hy
    ·rw [hle]; exact hy
   by_cases hyp:y.p=f.p
   ·rw [if_pos hyp,n_35];exact n_49.2 ⟨hfl,hl⟩
   ·rw [if_neg hyp];have hfy:Op.bytesLess f.p y.p=true:=by
     unfold leF at hle;simp only [n_38,n_48] at hle
     rcases hle with hle | hle
     ·exact hle
     ·exact absurd hle.symm hyp
    refine n_49.2 ⟨fun g hg=>?_,n_49.2 ⟨fun g hg=>h1 g ((n_92.1 hg).1),hl⟩⟩
    rcases n_13.1 hg with rfl | hg
    ·exact hfy
    ·exact hfl g hg
  ·have hle':leF f y=false:=by simpa using hle
   have hyp:¬ y.p=f.p:=fun h=>by rw [leF,h] at hle'; simp at hle'
   simp only [hle',Bool.and_false,Bool.or_false,if_neg hyp];have:Op.bytesLess y.p f.p=true:=by
    unfold leF at hle';simp only [Bool.or_eq_false_iff,decide_eq_false_iff_not] at hle';exact bl_tot hle'.1 hle'.2
   refine n_49.2 ⟨fun g hg=>?_,insG_srt h2⟩
   rcases insG_mem hg with rfl | hg
   ·exact this
   ·exact h1 g hg
theorem MadeR.ins (h:MadeR B fl) (hp:f.p∈madeAll) (hb:f.b.length<=B):MadeR B (insF fl f) :=
 ⟨insG_srt h.srt,fun g hg=>by
  rcases insG_mem hg with rfl | hg
  ·exact hp
  ·exact h.pth g hg,fun g hg=>by
  rcases insG_mem hg with rfl | hg
  ·exact hb
  ·exact h.byt g hg⟩
theorem MadeR.rem (h:MadeR B fl) (s:Str):MadeR B (remF fl s) :=
 ⟨h.srt.filter _,fun g hg=>h.pth g ((n_92.1 hg).1),fun g hg=>h.byt g ((n_92.1 hg).1)⟩
theorem src_all:∀ s∈madeSources,s∈madeAll:=by decide
theorem dat_all:∀ s∈madeDat,s∈madeAll:=by decide
theorem pure_rev (fl:List Fi) (nn:Bool):Pure (.agg (revC fl nn)):=pure_agg (cs:=revC _ _) ⟨pure_fis _ _,tt⟩
theorem get_ex {l:List α} (h:i < l.length):∃ y,l[i]? = some y/\y∈l:=⟨l[i],by simp [h],n_107 h⟩
theorem mk_Revision0 (l:List Int) (nn:Bool) (k:Nat) (hat:k<=500000000) (hl:l.length<=maxLen):CCalls CC 27 [.ptr 0 0] [tapeC l nn k] fun r τ=>∃ a:List Fi × Nat,FinR 1 τ r (.ret (.agg (revC a.1 (gnn a.1.length)))) [tapeC l nn a.2]/\(MadeR 6300 a.1/\k<=a.2/\a.2<=k+4400):=by
 refine (ccalls_of Tryz.func27 rfl rfl ?_);refine z_0 ?_; refine z_219 ?_; refine z_81 ?_; refine cY (y_callf rfl Tryz.call66 trivial (mk_sources_s _) rfl) ?_; refine z_110 ?_; refine cw_loop' (α:=List Fi × Nat × Nat) (fun x=>[(0,.ptr 0 0),(2,.ptr 1 0),(3,.ptr 2 0),(8,(.list (madeSources.map scv) true none)),(9,(.val (.int .i64 ((madeSources.length:Int))))),(10,(.val (.int .i64 ((x.2.2:Int)))))]) (fun x=>[tapeC l nn (x.2.1),.box (revC [] false),.box (revC x.1 (gnn x.1.length))]) (fun x=>x.2.2<=madeSources.length/\MadeR 6300 x.1/\k+0<=x.2.1/\x.2.1<=k+0+x.2.2*1072) (fun x=>madeSources.length - x.2.2) ([],k,0) ⟨n_3 _,.nil _,do_,do_⟩ tu_ rfl ?_; intro ⟨fl,p,i⟩ E0 ⟨hi,hm,hp1,hp2⟩;dsimp only at hi hm hp1 hp2 ⊢;have hL:madeSources.length=4:=rfl;have hml:=hm.len;refine z_30 ?_; refine cC (fun h1=>?_) fun h1=>?_
 ·have hlt:i < madeSources.length:=by simp at h1; omega
  obtain ⟨y,hb,hym⟩:=get_ex hlt;refine cw_skip ?_; refine cw_cut (α:=List Fi × Nat) (fun x=>[(0,.ptr 0 0),(2,.ptr 1 0),(3,.ptr 2 0),(8,(.list (madeSources.map scv) true none)),(9,(.val (.int .i64 ((madeSources.length:Int))))),(10,(.val (.int .i64 ((i:Int)))))]) (fun x=>[tapeC l nn (x.2),.box (revC [] false),.box (revC x.1 (gnn x.1.length))]) (fun x=>MadeR 6300 x.1/\p<=x.2/\x.2<=p+1072) ?_ ?_
  ·
   refine cw_block ?_; refine z_0 ?_; refine z_173 ?_; refine z_39 ?_;refine cD (d_callv rfl t_40 q_286 (tape_chance l nn p _ 0 rfl om_ hl 3 4 om_) rfl ?_);intro _ _; refine co_nil ?_; refine cC (fun h2=>?_) fun h2=>?_
   ·refine z_43 ?_; refine chf rfl q_208 ?_; refine chf rfl q_208 ?_; refine chf rfl q_208 ?_; refine chf rfl q_130 ?_; refine chf_nil ?_;refine ctl_d rfl rfl (d_callv rfl t_18 q_297 (tape_one l nn (p+1) _ 0 rfl om_ hl madePackages de_ de_) rfl ?_);intro v hv;have hv8:v.length<=8:=len_made (.inl hv);refine ⟨⟨q_100,q_184,q_184,tt⟩,?_⟩;refine ctl_d rfl rfl (d_callv rfl Tryz.call68 q_297 (mk_Source l nn (p+2) om_ hl v hv8 _ 0 rfl) rfl ?_);intro ⟨s,p3⟩ ⟨hs,hq1,hq2⟩;dsimp only at hs hq1 hq2 ⊢;refine z_216 ?_; refine z_139 ?_;exact ⟨(insF fl ⟨y,s⟩,p3),⟨hm.ins (src_all _ hym) hs,do_,do_⟩,tu_,rfl⟩
   ·refine cw_skip ?_;exact ⟨(fl,p+1),⟨hm,do_,do_⟩,tu_,rfl⟩
  ·intro ⟨fl,p4⟩ E0 ⟨hm,hq1,hq2⟩;dsimp only at hm hq1 hq2 ⊢;refine z_20 ?_;exact ⟨(fl,p4,i+1),do_,⟨do_,hm,do_,do_⟩,tu_,rfl⟩
 ·refine cw_exit ?_; refine z_47 ?_; refine cY q_50 ?_; refine z_110 ?_; refine cw_loop' (α:=List Fi × Nat × Nat) (fun x=>[(0,.ptr 0 0),(2,.ptr 1 0),(3,.ptr 2 0),(26,(.list (madeDat.map scv) true none)),(27,(.val (.int .i64 ((madeDat.length:Int))))),(28,(.val (.int .i64 ((x.2.2:Int)))))]) (fun x=>[tapeC l nn (x.2.1),.box (revC [] false),.box (revC x.1 (gnn x.1.length))]) (fun x=>x.2.2<=madeDat.length/\MadeR 6300 x.1/\k+0<=x.2.1/\x.2.1<=k+4288+x.2.2*5) (fun x=>madeDat.length - x.2.2) (fl,p,0) ⟨n_3 _,hm,do_,do_⟩ tu_ rfl ?_; intro ⟨fl,p,i⟩ E0 ⟨hi,hm,hp1,hp2⟩;dsimp only at hi hm hp1 hp2 ⊢;have hL:madeDat.length=3:=rfl;have hml:=hm.len;refine z_30 ?_; refine cC (fun h3=>?_) fun h3=>?_
  ·have hlt:i < madeDat.length:=by simp at h3; omega
   obtain ⟨y,hb,hym⟩:=get_ex hlt;refine z_37 ?_; refine z_173 ?_; refine z_39 ?_;refine cD (d_callv rfl t_40 q_286 (tape_chance l nn p _ 0 rfl om_ hl 1 3 om_) rfl ?_);intro _ _; refine co_nil ?_; refine cC (fun h4=>?_) fun h4=>?_
   ·refine cw_float [0,1,2,3,4,5,6] 3 [0,0,0,4,14,31,63] [[0,1],[0],[],[]] (hd1l:=[0,1,2]) (tll:=[(3,[0,1]),(4,[0]),(5,[]),(6,[])]) q_291 q_291 rfl rfl rfl ?_; refine z_120 ?_; refine z_126 ?_;refine ctl_d rfl rfl (d_callv rfl Tryz.call70 ⟨tt,tt⟩ (mk_data l nn (p+1) om_ hl _ 0 rfl) rfl ?_);intro ⟨s,p3⟩ ⟨hs,hq1,hq2⟩;dsimp only at hs hq1 hq2 ⊢;refine z_216 ?_; refine z_139 ?_; refine z_20 ?_;exact ⟨(insF fl ⟨y,s⟩,p3,i+1),do_,⟨do_,hm.ins (dat_all _ hym) do_,do_,do_⟩,tu_,rfl⟩
   ·refine z_73 ?_;exact ⟨(fl,p+1,i+1),do_,⟨do_,hm,do_,do_⟩,tu_,rfl⟩
  ·refine cw_exit ?_; refine z_79 ?_; refine z_29 ?_; refine cw_ret ?_;exact ⟨_,res_one rfl q_112,⟨(fl,p),fin1 rfl q_283 (.old (pure_rev _ _).old),hm,do_,do_⟩⟩
theorem mk_Revision (l:List Int) (nn:Bool) (k:Nat) (hat:k<=500000000) (hl:l.length<=maxLen) (σ:List CObj) (q:Nat) (hq:σ[q]? = some (tapeC l nn k)):CCalls CC 27 [.ptr q 0] σ fun r τ=>∃ a:List Fi × Nat,r = .ret (.agg (revC a.1 (gnn a.1.length)))/\τ=σ.set q (tapeC l nn a.2)/\(MadeR 6300 a.1/\k<=a.2/\a.2<=k+4400) :=
 call1 (c:=fun a:List Fi × Nat=>(.agg (revC a.1 (gnn a.1.length)))) (S:=fun a=>tapeC l nn a.2) hCC (fun a h=>by simp at h) (fun _=>pure_rev _ _) (fun _=>pure_tape _ _ _) (pure_tape _ _ _) rfl (mk_Revision0 l nn k hat hl) σ q hq
theorem cont_some {ev:List Va} {k:List Ky} {l:List Str} (h:contS fl ev k=some l):l=k.map (contF fl (newW fl).2.1 (newW fl).2.2 ev):=by
 unfold contS at h;split at h
 ·injection h with h; exact h.symm
 ·cases h
theorem body_num {d:De} (h:DeG d) {k u o:Int} {nm:Str} (hb:d.body=[⟨k,u,o,nm,[]⟩]):bodyT d=(Tr.n k u o nm []).txt d.params 0:=by
 obtain ⟨t,h1,h2,h3⟩:=bodyT_eq h;rw [h3];rw [hb] at h1;have hl:=Tr.flat_len t 0;rw [<- h1] at hl
 rcases t with ⟨k',u',o',nm',ch⟩
 have hch:ch=[]:=by
  rcases ch with _ | ⟨c,ch⟩
  ·rfl
  ·have:=c.size_pos;simp only [Tr.size,sizeL,n_7,n_11] at hl;omega
 subst hch;simp only [Tr.flat,flatL,rootsL,n_35,List.cons.injEq,Ex.mk.injEq,and_true] at h1;obtain ⟨rfl,rfl,rfl,rfl⟩:=h1;rfl
theorem vget {rows:List (List CV)} {r:List CV} {j:Nat} (h:rows[i]? = some r) (e:j=i):rows[j]? = some r:=e ▸ h
abbrev zK:Ky:=⟨0,[],[]⟩
def insI (k:Ky):List Ky->Nat
 | []=>0
 | y::l=>if ltK y k=true then insI k l+1 else 0
def insK (l:List Ky) (k:Ky):List Ky:=if l[insI k l]? = some k then l else l.take (insI k l)++k::l.drop (insI k l)
theorem insI_le (k:Ky):∀ l:List Ky,insI k l<=l.length
 | []=>n_4 _
 | y::l=>by
  have:=insI_le k l;unfold insI
  split <;> simp <;> omega
theorem insI_step (h:l[i]? = some y):insI k (l.drop i)=if ltK y k=true then insI k (l.drop (i+1))+1 else 0:=by
 obtain ⟨hlt,rfl⟩:=n_1.1 h;rw [n_27 hlt]; rfl
theorem splice_ins {l:List (List CV)} {z y:List CV} (hi:i<=l.length):(spliceR (l++[z]) (i+1) (((l++[z]).drop i).take (l.length - i))).set i y=l.take i++y::l.drop i:=by
 obtain ⟨A,B,rfl,rfl⟩:∃ A B,l=A++B/\A.length=i:=⟨l.take i,l.drop i,si_,by simp; omega⟩;have h1:((A++B++[z]).drop A.length).take ((A++B).length - A.length)=B:=by simp
 rw [h1];obtain ⟨h,t,ht⟩:∃ h t,B++[z]=h::t:=by cases B <;> simp
 have h2:A++B++[z]=A++h::t:=by rw [n_8,ht]
 have h3:t.length=B.length:=by have:=congrArg List.length ht; simp at this; omega
 unfold spliceR;have h4:(A++h::t).take (A.length+1)=A++[h]:=by rw [List.take_append,n_26 om_,n_131]; rfl
 have h5:(A++h::t).drop (A.length+1+B.length)=[]:=by rw [List.drop_eq_nil_iff]; simp; omega
 rw [h2,h4,h5,n_32];simp
theorem splice_at {l N:List (List CV)} {z:List CV} (hi:i<=l.length):(spliceR (l++[z]) (i+1) N)[i]? = (l++[z])[i]?:=by
 unfold spliceR;rw [n_16 q_289,n_28,if_pos om_]
theorem old_vkeys (n:Nat) (l:List Ky):OldObj n (.vec 3 (l.map Ky.cv)):=fun r hr c hc=>((rows_pure (f:=Ky.cv) (fun _=>Pures.all ⟨.val _,.val _,.val _,tt⟩) _) r hr c hc).old
def insS (g:Bool) (l l':List Ky):List CObj:=if g=true then [.dead,.vec 3 (l'.map Ky.cv)] else [.vec 3 (l.map Ky.cv)]
theorem r10_InsV0 (l:List Ky) (k:Ky) (hl:l.length<=1000000):CCalls CC 86 [.vec 0 0 l.length,.agg k.cells] [(.vec 3 (l.map Ky.cv))] fun r τ=>∃ g:Bool,FinR 1 τ r (.ret (.vec (if g=true then 1 else 0) 0 (insK l k).length)) (insS g l (insK l k))/\(g=false->insK l k=l):=by
 refine (ccalls_of Tryz.func86 rfl rfl ?_);refine z_50 ?_; refine z_5 ?_; refine z_136 ?_; refine cw_loop' (α:=Nat) (fun i=>[(0,(.vec 0 0 l.length)),(3,.ptr 1 0),(5,(.val (.int .i64 ((i:Int)))))]) (fun _=>[(.vec 3 (l.map Ky.cv)),.box k.cells]) (fun i=>i<=l.length/\insI k l=i+insI k (l.drop i)) (fun i=>l.length - i) 0 ⟨n_3 _,(n_10 _).symm⟩ tu_ rfl ?_; intro i E0 ⟨hi,hr⟩;obtain ⟨y,hb⟩:∃ y,i < l.length->l[i]? = some y:=⟨l.getD i ⟨0,[],[]⟩,fun h=>by simp [h]⟩;refine cw_seq ?_; refine z_90 ?_; refine z_58 ?_; refine hY q_207 ?_; refine z_249 ?_; refine z_140 ?_; refine ch_g rfl rfl tt rfl q_28 ?_; refine ch_g rfl rfl tt rfl q_56 ?_; refine ch_g rfl rfl tt rfl q_129 ?_; refine ch_g rfl rfl tt rfl (fun hg=>y_callf rfl Tryz.call132 ⟨hg,hg,tt⟩ (r10_Less_s y k _) rfl) ?_; refine hY q_197 ?_; refine z_68 ?_; refine cC (fun h1=>?_) fun h1=>?_
 ·have h1':(i:Int) < (l.length:Int)/\ltK y k=true:=by simpa using h1
  have hlt:i < l.length:=by omega
  rw [insI_step (hb hlt),if_pos h1'.2] at hr;refine z_118 ?_; refine z_7 ?_; refine z_82 ?_;exact ⟨i+1,om_,⟨om_,om_⟩,tu_,rfl⟩
 ·have hi0:insI k l=i:=by
   rcases n_23 i l.length with hlt | hge
   ·rw [insI_step (hb hlt)] at hr;have hn:¬ ltK y k=true:=fun e=>by
     have:((i:Int) < (l.length:Int)):=by omega
     simp [e] at h1; omega
    rw [if_neg hn] at hr; exact hr
   ·rw [n_34 hge] at hr; exact hr
  refine cw_exit (cw_seq ?_);refine z_90 ?_; refine z_58 ?_; refine hY q_207 ?_; refine z_249 ?_; refine z_140 ?_; refine ch_g rfl rfl tt rfl q_28 ?_; refine ch_g rfl rfl tt rfl q_56 ?_; refine ch_g rfl rfl tt rfl q_129 ?_; refine ch_g rfl rfl tt rfl (fun hg=>y_eqs rfl hg hg (xs:=[.int .i64 y.k,.string (str y.a),.string (str y.b)]) (ys:=[.int .i64 k.k,.string (str k.a),.string (str k.b)]) rfl rfl t_53 (eq_ky y k)) ?_; refine hY q_197 ?_; refine z_68 ?_; refine cC (fun h2=>?_) fun h2=>?_
  ·have h2':(i:Int) < (l.length:Int)/\y=k:=by simpa using h2
   have hh:insK l k=l:=by rw [insK,hi0,if_pos (by rw [hb om_,h2'.2])]
   refine z_185 ?_;exact ⟨_,res1 rfl tt q_272,⟨false,by rw [hh]; exact ⟨[0],rfl,rfl,.ret (.vec rfl),.inr ⟨_,rfl,.same rfl (old_vkeys _ _)⟩,tt⟩,fun _=>hh⟩⟩
  ·have hh:insK l k=l.take i++k::l.drop i:=by
    rw [insK,hi0,if_neg];intro e
    rcases n_23 i l.length with hlt | hge
    ·rw [hb hlt] at e; injection e with e; subst e; simp at h2; omega
    ·rw [n_71 om_] at e; cases e
   have hhl:(insK l k).length=l.length+1:=by rw [hh]; simp; omega
   obtain ⟨x,hx⟩:∃ x,(l++[zK])[i]? = some x:=⟨(l++[zK])[i]'q_289,si_⟩;have hrx:(spliceR ((l++[zK]).map Ky.cv) (0+(i+1)) ((((l++[zK]).map Ky.cv).drop (0+i)).take (l.length+1 - (i+1))))[0+(i:Int).toNat]? = some (Ky.cv x):=by
    rw [show 0+(i:Int).toNat=i by omega,n_10,n_10,show l.length+1 - (i+1)=l.length - i by omega,n_45,n_55,List.map_nil,splice_at q_277];have:((l++[zK]).map Ky.cv)[i]? = some (Ky.cv x):=by rw [n_15,hx]; rfl
    simpa using this
   have hst:(spliceR ((l++[zK]).map Ky.cv) (0+(i+1)) ((((l++[zK]).map Ky.cv).drop (0+i)).take (l.length+1 - (i+1)))).set (0+(i:Int).toNat) (Ky.cv k)=(insK l k).map Ky.cv:=by
    rw [hh,show 0+(i:Int).toNat=i by omega,n_10,n_10,show l.length+1 - (i+1)=l.length - i by omega];have:=splice_ins (l:=l.map Ky.cv) (z:=Ky.cv zK) (y:=Ky.cv k) (i:=i) q_277;simpa using this
   refine z_61 ?_; refine cY q_54 ?_; refine cY q_57 ?_;refine cD (d_append_v' ((l++[zK]).map Ky.cv) (l.length+1) rfl tt tt rfl q_18 t_4 t_2 t_16 t_7 rfl rfl si_ si_ q_78 q_227 si_ si_ ?_);refine z_193 ?_; refine cw_draw 7 [0,0,2,7,0,0,48,127] q_291 q_291 rfl ?_; refine z_58 ?_; refine hY q_252 ?_; refine hY (y_slice_v (l:=(i+1)) rfl tt rfl t_4 t_2 rfl q_270 rfl q_212 si_) ?_; refine z_58 ?_; refine hY (y_slice_v (l:=i) rfl tt rfl t_4 t_2 rfl q_270 rfl q_212 si_) ?_; refine ch_nil ?_;refine cD (d_copy_sh rfl tt tt rfl rfl t_4 t_2 rfl om_ q_289 q_289 ?_);refine z_131 ?_; refine cY q_186 ?_; refine cY q_111 ?_;refine cD (d_store_e' ((insK l k).map Ky.cv) rfl tt tt rfl q_272 t_2 q_290 rfl hrx rfl (nb rfl) (by exact hst) rfl ?_);refine z_31 ?_; refine z_4 ?_;exact ⟨_,res1 rfl tt q_272,⟨true,by rw [hhl]; exact ⟨[0,2],rfl,rfl,.ret (.vec rfl),.inl rfl,.inr ⟨_,rfl,.same rfl (old_vkeys _ _)⟩,tt⟩,fun h=>by cases h⟩⟩
theorem r10_InsN0 (k:Ky):CCalls CC 86 [.list [] false none,.agg k.cells] [] fun r τ=>FinR 0 τ r (.ret (.vec 0 0 1)) [.vec 3 ([k].map Ky.cv)]:=by
 refine (ccalls_of Tryz.func86 rfl rfl ?_);refine z_50 ?_; refine z_5 ?_; refine z_136 ?_; refine cw_loop' (α:=Nat) (fun i=>[(0,(.list [] false none)),(3,.ptr 0 0),(5,(.val (.int .i64 ((i:Int)))))]) (fun _=>[.box k.cells]) (fun i=>i=0) (fun i=>0) 0 rfl tu_ rfl ?_; intro i E0 hi; subst hi; refine cw_seq ?_; refine z_90 ?_; refine z_58 ?_; refine hY q_103 ?_; refine z_249 ?_; refine z_140 ?_; refine ch_g rfl rfl tt rfl q_23 ?_; refine ch_g rfl rfl tt rfl q_131 ?_; refine ch_g rfl rfl tt rfl q_129 ?_; refine ch_g rfl rfl tt rfl (fun hg=>y_callf rfl Tryz.call132 ⟨hg,hg,tt⟩ (r10_Less_s k k _) rfl) ?_; refine hY q_197 ?_; refine z_68 ?_; refine cC (fun h1=>?_) fun h1=>?_
 ·exfalso;simp at h1
 ·refine cw_exit (cw_seq ?_);refine z_90 ?_; refine z_58 ?_; refine hY q_103 ?_; refine z_249 ?_; refine z_140 ?_; refine ch_g rfl rfl tt rfl q_23 ?_; refine ch_g rfl rfl tt rfl q_131 ?_; refine ch_g rfl rfl tt rfl q_129 ?_; refine ch_g rfl rfl tt rfl (fun hg=>y_eqs rfl hg hg (xs:=[.int .i64 k.k,.string (str k.a),.string (str k.b)]) (ys:=[.int .i64 k.k,.string (str k.a),.string (str k.b)]) rfl rfl t_53 (eq_ky k k)) ?_; refine hY q_197 ?_; refine z_68 ?_; refine cC (fun h2=>?_) fun h2=>?_
  ·exfalso;simp at h2
  ·refine z_61 ?_; refine cY q_54 ?_; refine cY q_57 ?_;refine cD (d_app0v 1 rfl tt tt rfl q_18 t_4 t_2 t_16 t_7 rfl si_ q_78 q_227 si_ ?_);refine z_193 ?_; refine cw_draw 7 [0,0,2,7,0,0,48,127] q_291 q_291 rfl ?_; refine z_58 ?_; refine hY q_252 ?_; refine hY (y_slice_v (l:=(0+1)) rfl tt rfl t_4 t_2 rfl q_270 rfl q_212 si_) ?_; refine z_58 ?_; refine hY (y_slice_v (l:=0) rfl tt rfl t_4 t_2 rfl q_270 rfl q_212 si_) ?_; refine ch_nil ?_;refine cD (d_copy_sh rfl tt tt rfl rfl t_4 t_2 rfl om_ si_ si_ ?_);refine z_131 ?_; refine cY q_186 ?_; refine cY q_111 ?_;refine cD (d_store_e' [Ky.cv k] rfl tt tt rfl q_272 t_2 q_290 rfl (r:=Ky.cv zK) rfl rfl (nb rfl) (by rfl) rfl ?_);refine z_31 ?_; refine z_4 ?_;exact ⟨_,res1 rfl tt q_272,⟨[1],rfl,rfl,.ret (.vec (k:=[CObj.box k.cells].length) rfl),.inr ⟨_,rfl,.same rfl (old_vkeys 0 [k])⟩,tt⟩⟩
def outV:List Ky->Nat->CV
 | [],_=>.list [] false none
 | _::l,q=>.vec q 0 (l.length+1)
def outO:List Ky->CObj
 | []=>.dead
 | x::l=>.vec 3 ((x::l).map Ky.cv)
theorem outV_ne (h:l≠[]) (q:Nat):outV l q = .vec q 0 l.length:=by cases l; exact absurd rfl h; rfl
theorem outO_ne (h:l≠[]):outO l = .vec 3 (l.map Ky.cv):=by cases l; exact absurd rfl h; rfl
theorem insK_ne (l:List Ky) (k:Ky):insK l k≠[]:=by
 unfold insK
 split
 ·rename_i h;intro e;rw [e] at h;cases h
 ·simp
theorem pure_vkeys (l:List Ky):∀ r∈l.map Ky.cv,∀ c∈r,Pure c:=fun r hr c hc=>(rows_pure (f:=Ky.cv) (fun _=>Pures.all ⟨.val _,.val _,.val _,tt⟩) _) r hr c hc
theorem set_same {l:List α} {x:α} (h:l[i]? = some x):l.set i x=l:=by
 apply n_85;intro j;rw [n_57]
 split
 ·rename_i e; subst e;rw [if_pos (n_1.1 h).1,h]
 ·rfl
theorem r10_Insert (l:List Ky) (k:Ky) (hl:l.length<=1000000) (σ:List CObj) (q:Nat) (hq:σ[q]? = some (outO l)):CCalls CC 86 [outV l q,.agg k.cells] σ fun r τ=>∃ g:Bool,r = .ret (.vec (if g=true then σ.length else q) 0 (insK l k).length)/\τ=(if g=true then σ.set q .dead++[.vec 3 ((insK l k).map Ky.cv)] else σ)/\(g=false->insK l k=l):=by
 by_cases h0:l=[]
 ·subst h0;have hq':σ[q]? = some .dead:=hq;have hs:σ.set q .dead=σ:=set_same hq';have h:=ccalls_new (α:=Unit) (res:=fun _=>.ret (.vec 0 0 1)) (res':=fun _ n=>.ret (.vec n 0 1)) (S:=fun _=>[.vec 3 ([k].map Ky.cv)]) (S':=fun _ _=>[.vec 3 ([k].map Ky.cv)]) (P:=fun _=>True) hCC (fun a h=>by
   simp at h; rcases h with rfl | rfl
   ·exact pure_keys [] false
   ·exact pure_agg ⟨.val _,.val _,.val _,tt⟩) (ccalls_ren hCC ((r10_InsN0 k).mono fun r τ hh=>⟨_,_,hh,(),rfl,rfl,tt⟩)) (fun _ _=>rfl) (fun _ n i x hx=>by
   rcases i with _ | i
   ·injection hx with hx; subst hx; exact ⟨_,rfl,ren_vec (pure_vkeys [k])⟩
   ·cases hx) (fun _ n=>.ret (.vec si_)) σ
  exact h.mono fun r τ ⟨_,h1,h2,_⟩=>⟨true,by rw [h1]; rfl,by rw [h2,hs]; rfl,fun e=>by cases e⟩
 ·rw [outO_ne h0] at hq;rw [outV_ne h0];have h:=ccalls_vec (α:=Bool) (g:=fun g=>g) (rows':=fun g=>if g=true then (insK l k).map Ky.cv else l.map Ky.cv) (off:=fun _=>0) (len:=fun _=>(insK l k).length) (P:=fun g=>g=false->insK l k=l) hCC (pure_vkeys l) (args:=[.agg k.cells]) (fun a h=>by
   simp at h; subst h; exact pure_agg ⟨.val _,.val _,.val _,tt⟩) (fun g _=>by cases g <;> exact pure_vkeys _) ((r10_InsV0 l k hl).mono fun r τ ⟨g,h1,h2⟩=>⟨g,by cases g <;> exact h1,h2⟩) hq
  refine h.mono fun r τ ⟨g,h1,h2,h3⟩=>⟨g,h1,?_,h3⟩;cases g
  ·have e:σ.set q (.vec 3 (l.map Ky.cv))=σ:=set_same hq;rw [h2]; exact e
  ·rw [h2]; rfl
theorem fgt_out (l:List Ky) (q:Nat):(outV l q).fgt=outV l q:=by cases l <;> rfl
theorem r10_InsertF (l:List Ky) (k:Ky) (hl:l.length<=1000000) (σ:List CObj) (q:Nat) (hq:σ[q]? = some (outO l)):CCalls CC 86 [(outV l q).fgt,.agg k.cells] σ fun r τ=>∃ g:Bool,r = .ret (.vec (if g=true then σ.length else q) 0 (insK l k).length)/\τ=(if g=true then σ.set q .dead++[.vec 3 ((insK l k).map Ky.cv)] else σ)/\(g=false->insK l k=l):=by
 rw [fgt_out]; exact r10_Insert l k hl σ q hq
def setK (l:List Ky):List Ky:=l.foldl insK []
theorem setK_snoc (h:l[i]? = some y):(l.take (i+1)).foldl insK []=insK ((l.take i).foldl insK []) y:=by
 rw [n_46,h,List.foldl_append]; rfl
theorem insK_len (l:List Ky) (k:Ky):(insK l k).length<=l.length+1:=by
 unfold insK
 split
 ·omega
 ·have:=insI_le k l; simp; omega
theorem cls_rows {f:α->List CV} {k s:Nat} {l:List α} (hk:n<=k) (hs:σ[k]? = some (.vec s (l.map f))) (hp:∀ r∈l.map f,∀ c∈r,Pure c):Cls n σ (.vec k 0 l.length) (.list (l.map f) true none) :=
 .vec hk hs si_ si_ (fun i r r' h1 h2=>by
  have h3:(l.map f)[i]? = some r:=by simpa [n_26] using h1
  rw [h3] at h2; injection h2 with h2; rw [h2]) (fun i j r r' c c' h1 h2 h3 h4=>by
  have h5:(l.map f)[i]? = some r:=by simpa [n_26] using h1
  rw [h5] at h2; injection h2 with h2; subst h2
  rw [h3] at h4; injection h4 with h4; subst h4
  exact .old (hp r (n_0 h5) c (n_0 h3)).old)
theorem gnn_ne {l:List α} (h:l≠[]):gnn l.length=true:=by cases l; exact absurd rfl h; rfl
theorem cls_out (l:List Ky):Cls 0 [outO l] (outV l 0) (.list (l.map Ky.cv) (gnn l.length) none):=by
 by_cases h:l=[]
 ·subst h; exact .old q_263
 ·rw [outV_ne h,outO_ne h,gnn_ne h];exact cls_rows (n_3 _) rfl (pure_vkeys l)
theorem r11_Set0 (l:List Ky) (nn:Bool) (hl:l.length<=1000000):CCalls CC 39 [(.list (l.map Ky.cv) nn none)] [] fun r σ'=>∃ extra c c',σ'=[]++extra/\r = .ret c/\Cls 0 σ' c c'/\c' = .list ((setK l).map Ky.cv) (gnn (setK l).length) none:=by
 refine (ccalls_of Tryz.func39 rfl rfl ?_);refine z_5 ?_; refine z_279 ?_; refine z_24 ?_; refine cw_loopr hCC 0 rfl (α:=List Ky × Nat) (fun x=>[(3,outV x.1 0),(6,(.list (l.map Ky.cv) nn none)),(7,(.val (.int .i64 ((l.length:Int))))),(8,(.val (.int .i64 ((x.2:Int)))))]) (fun x=>[outO x.1]) (fun x=>x.2<=l.length/\x.1=(l.take x.2).foldl insK []/\x.1.length<=x.2) (fun x=>l.length - x.2) ⟨([],0),[0],⟨n_3 _,rfl,n_4 _⟩,⟨rfl,rfl⟩,q_1,⟨.inl rfl,tt⟩⟩ ?_; intro ⟨out,i⟩ ⟨hi,ho,hn⟩;dsimp only at hi ho hn ⊢;refine z_30 ?_; refine cC (fun h1=>?_) fun h1=>?_
 ·have hlt:i < l.length:=by simp at h1; omega
  obtain ⟨y,hb⟩:∃ y,l[i]? = some y:=⟨l[i]'hlt,si_⟩;refine z_37 ?_; refine z_233 ?_; refine z_103 ?_; refine z_156 ?_; refine cY q_186 ?_;refine cD (d_callv rfl Tryz.call86 q_297 (r10_InsertF out y om_ _ 0 rfl) rfl ?_);intro g hg;have hne:=insK_ne out y;have hln:=insK_len out y;have hst:insK out y=(l.take (i+1)).foldl insK []:=by rw [setK_snoc hb,<- ho]
  refine z_104 ?_;exact ⟨(insK out y,i+1),[if g=true then 2 else 0],⟨do_,do_,hst,do_⟩,⟨rfl,rfl⟩,q_1,⟨.inr (by cases g; exact ⟨_,rfl,.same (by rw [hg rfl]) (by rw [outO_ne hne]; exact old_vkeys _ _)⟩; exact ⟨_,rfl,.same (outO_ne hne).symm (by rw [outO_ne hne]; exact old_vkeys _ _)⟩),tt⟩⟩
 ·have hge:l.length<=i:=by simp at h1; omega
  have hs:setK l=out:=by rw [ho,n_26 hge]; rfl
  refine z_158 ?_;exact ⟨_,res1 rfl tt q_272,⟨_,_,_,rfl,rfl,(by exact cls_out out),by rw [hs]⟩⟩
theorem setK_len (l:List Ky):(setK l).length<=l.length:=by
 have h:∀ (l a:List Ky),(l.foldl insK a).length<=a.length+l.length:=by
  intro l
  induction l with
  | nil=>intro a; simp
  | cons y l ih =>
   intro a;have h1:=ih (insK a y);have h2:=insK_len a y;simp only [n_108,n_7];omega
 have:=h l [];unfold setK;simpa using this
theorem r11_Set (l:List Ky) (nn:Bool) (hl:l.length<=1000000) (σ:List CObj):CCalls CC 39 [(.list (l.map Ky.cv) nn none)] σ fun r τ=>r = .ret (.list ((setK l).map Ky.cv) (gnn (setK l).length) none)/\τ=σ :=
 CCalls.anyw (args:=[.list (l.map Ky.cv) nn none]) hCC ⟨pure_keys _ _,tt⟩ (pure_keys _ _) ((ccalls_close (r11_Set0 l nn hl)).mono fun r τ ⟨⟨c,h1,h2⟩,h3⟩=>⟨by rw [h1,h2],h3⟩) σ
end Go.Proofs.YtlppbmfecjabeaaGreatDoor
namespace Go.Proofs
open Go.Shelf
def Tryz.sortKey_ren:Go.Shelf.Ren:=⟨fun | 6=>127 | 15=>166 | 14=>165 | 28=>216 | 29=>217 | 20=>208 | 21=>209 | 22=>210 | 23=>211 | 24=>212 | 25=>213 | 26=>214 | 27=>215 | 46=>264 | 47=>265 | 48=>266 | 49=>267 | 50=>268 | 57=>299 | n=>n,fun | 22=>36 | 24=>39 | 25=>171 | 3=>3 | 39=>141 | 0=>0 | 53=>262 | 55=>86 | 4=>4 | 46=>256 | 45=>255 | 50=>139 | 5=>5 | 9=>9 | 66=>292 | 70=>296 | 76=>320 | 77=>321 | n=>n,fun | n=>n⟩
theorem Tryz.sortKey:Go.Proofs.SlLaysF0.n6 Tryz.prog Tryz.sortKey_ren:={
 mixed:=by kernel_rfl
 f6:=⟨Tryz.f127.name,de_,Tryz.func127.trans (congrArg some q_291)⟩
 f14:=⟨Tryz.f165.name,de_,Tryz.func165.trans (congrArg some q_291)⟩
 f15:=Tryz.func166.trans (congrArg some q_291)
 f20:=⟨Tryz.f208.name,de_,Tryz.func208.trans (congrArg some q_291)⟩
 f21:=⟨Tryz.f209.name,de_,Tryz.func209.trans (congrArg some q_291)⟩
 f22:=⟨Tryz.f210.name,de_,Tryz.func210.trans (congrArg some q_291)⟩
 f23:=⟨Tryz.f211.name,de_,Tryz.func211.trans (congrArg some q_291)⟩
 f24:=⟨Tryz.f212.name,de_,Tryz.func212.trans (congrArg some q_291)⟩
 f25:=⟨Tryz.f213.name,de_,Tryz.func213.trans (congrArg some q_291)⟩
 f26:=⟨Tryz.f214.name,de_,Tryz.func214.trans (congrArg some q_291)⟩
 f27:=⟨Tryz.f215.name,de_,Tryz.func215.trans (congrArg some q_291)⟩
 f28:=Tryz.func216.trans (congrArg some q_291)
 f29:=t_128.trans (congrArg some q_291)
 f46:=⟨Tryz.f264.name,de_,Tryz.func264.trans (congrArg some q_291)⟩
 f47:=Tryz.func265.trans (congrArg some q_291)
 f48:=Tryz.func266.trans (congrArg some q_291)
 f49:=⟨Tryz.f267.name,de_,Tryz.func267.trans (congrArg some q_291)⟩
 f50:=⟨Tryz.f268.name,de_,Tryz.func268.trans (congrArg some q_291)⟩
 f57:=⟨Tryz.f299.name,de_,Tryz.func299.trans (congrArg some q_291)⟩
 t0:=t_129
 a0:=t_130
 z0:=t_131
 v0:=t_132
 t3:=t_102
 a3:=t_14
 z3:=t_3
 v3:=t_11
 t4:=t_103
 a4:=t_104
 z4:=t_105
 v4:=t_133
 t5:=t_134
 a5:=t_69
 z5:=t_15
 v5:=t_23
 t9:=t_135
 a9:=t_9
 z9:=t_0
 v9:=t_5
 t22:=Tryz.underlying36
 a22:=Tryz.isAgg36
 z22:=t_157
 v22:=t_109
 t25:=Tryz.underlying171
 a25:=Tryz.isAgg171
 z25:=Tryz.sizeOf171
 v25:=Tryz.zeroValue171
 t39:=t_137
 a39:=t_138
 z39:=t_139
 v39:=t_140
 t45:=Tryz.underlying255
 a45:=Tryz.isAgg255
 z45:=Tryz.sizeOf255
 v45:=Tryz.zeroValue255
 t46:=Tryz.underlying256
 a46:=Tryz.isAgg256
 z46:=Tryz.sizeOf256
 v46:=Tryz.zeroValue256
 t50:=Tryz.underlying139
 a50:=Tryz.isAgg139
 z50:=Tryz.sizeOf139
 v50:=Tryz.zeroValue139
 t53:=t_141
 a53:=t_142
 z53:=t_143
 v53:=t_144
 t55:=t_145
 a55:=t_146
 z55:=t_147
 v55:=t_148
 t66:=Tryz.underlying292
 a66:=Tryz.isAgg292
 z66:=Tryz.sizeOf292
 v66:=Tryz.zeroValue292
 t70:=Tryz.underlying296
 a70:=Tryz.isAgg296
 z70:=Tryz.sizeOf296
 v70:=Tryz.zeroValue296
 t76:=Tryz.underlying320
 a76:=Tryz.isAgg320
 z76:=Tryz.sizeOf320
 v76:=Tryz.zeroValue320
 t77:=Tryz.underlying321
 a77:=Tryz.isAgg321
 z77:=Tryz.sizeOf321
 v77:=Tryz.zeroValue321}
end Go.Proofs
namespace Go.Proofs.YtlppbmfecjabeaaGreatDoor
open Go Go.Cl
variable {fl fs:List Fi} {ev ew:List Va} {y k x:Ky} {l:List Ky} {p a:Str} {i:Nat} {ms:SM} {me:EM}
instance:Inhabited Ky:=⟨⟨0,[],[]⟩⟩
abbrev encK (x:Ky):List Value:=[.int .i64 x.k,.string (str x.a),.string (str x.b)]
theorem cb_less {b:Str}:Op.bytesLess a b=true↔Go.Lib.compareBytes a b = -1:=by rw [cb_lt]; simp
theorem cb_trans {b c:Str} (h:Go.Lib.compareBytes a b = -1) (k:Go.Lib.compareBytes b c = -1):Go.Lib.compareBytes a c = -1:=cb_less.1 (bl_trans (cb_less.2 h) (cb_less.2 k))
theorem cmpI_lt {a b:Int}:cmpI a b = -1↔a < b:=by unfold cmpI; split <;> (try split) <;> omega
theorem cmpK_lt:cmpK x y = -1↔x.k < y.k\/(x.k=y.k/\(Go.Lib.compareBytes x.a y.a = -1\/(x.a=y.a/\Go.Lib.compareBytes x.b y.b = -1))):=by
 unfold cmpK;by_cases h1:cmpI x.k y.k=0
 ·have e1:=(cmpI_eq _ _).1 h1;rw [if_neg (by simp [h1])];by_cases h2:Go.Lib.compareBytes x.a y.a=0
  ·have e2:=(cb_eq _ _).1 h2;rw [if_neg (by simp [h2])];constructor
   ·intro h; exact .inr ⟨e1,.inr ⟨e2,h⟩⟩
   ·rintro (h | ⟨-,h | ⟨-,h⟩⟩)
    ·omega
    ·omega
    ·exact h
  ·rw [if_pos h2];constructor
   ·intro h; exact .inr ⟨e1,.inl h⟩
   ·rintro (h | ⟨-,h | ⟨h,-⟩⟩)
    ·omega
    ·exact h
    ·exact absurd ((cb_eq _ _).2 h) h2
 ·rw [if_pos h1,cmpI_lt];constructor
  ·intro h; exact .inl h
  ·rintro (h | ⟨h,-⟩)
   ·exact h
   ·exact absurd ((cmpI_eq _ _).2 h) h1
theorem cmpK_trans {z:Ky} (h:cmpK x y = -1) (k:cmpK y z = -1):cmpK x z = -1:=by
 rw [cmpK_lt] at *
 rcases h with h | ⟨h1,h | ⟨h2,h⟩⟩ <;> rcases k with k | ⟨k1,k | ⟨k2,k⟩⟩
 ·exact .inl om_
 ·exact .inl om_
 ·exact .inl om_
 ·exact .inl om_
 ·exact .inr ⟨om_,.inl (cb_trans h k)⟩
 ·exact .inr ⟨om_,.inl (k2 ▸ h)⟩
 ·exact .inl om_
 ·exact .inr ⟨om_,.inl (h2 ▸ k)⟩
 ·exact .inr ⟨om_,.inr ⟨h2.trans k2,cb_trans h k⟩⟩
theorem ltOf_K (x y:Ky):Go.Proofs.ltOf cmpK x y=ltK x y:=by
 unfold Go.Proofs.ltOf ltK
 rcases cmpK_val x y with h | h | h <;> simp [h]
theorem ltK_trans {z:Ky} (h:ltK x y=true) (k:ltK y z=true):ltK x z=true:=by
 simp only [ltK,n_48] at *;exact cmpK_trans h k
theorem ltK_tot (h:ltK x y=false) (k:ltK y x=false):x=y:=by
 rw [ltK_swap] at k;simp only [ltK,decide_eq_false_iff_not] at h k
 rcases cmpK_val x y with e | e | e
 ·exact absurd e h
 ·exact (cmpK_eq x y).1 e
 ·exact absurd e k
theorem ltK_irr (x:Ky):ltK x x=false:=by simp [ltK,(cmpK_eq x x).2 rfl]
theorem swo_K:Go.Sort.SWO (Go.Proofs.ltOf cmpK) where
 irrefl x:=by rw [ltOf_K]; exact ltK_irr x
 trans x y z h k:=by rw [ltOf_K] at *; exact ltK_trans h k
 ntrans x y z h k:=by
  rw [ltOf_K] at *;cases h2:ltK x z
  ·rfl
  ·cases h3:ltK y x
   ·have:=ltK_tot h h3; subst this; exact h2.symm.trans k
   ·exact (ltK_trans h3 h2).symm.trans k
theorem glob_vals:∀ g cells,CC.glob g=some cells->∀ c∈cells,∃ v,c=CV.val v:=fun g cells h c hc=>by
 have:cells=tabP:=by
  simp only [CC] at h;split at h
  ·exact (Option.some.inj h).symm
  ·cases h
 subst this;obtain ⟨z,_,rfl⟩:=n_9.1 hc;exact ⟨_,rfl⟩
theorem sl_SortKeys {σ:List CObj} {k:Nat} (hne:l≠[]) (hlen:l.length<=1000000) (hk:σ[k]? = some (.vec 3 (l.map Ky.cv))):CCalls CC 127 [.vec k 0 l.length,.val (.func (.func 128) #[] #[])] σ fun r τ=>∃ _:Unit,r = .ret (.tup [])/\τ=σ.set k (.vec 3 ((srtF cmpK l).map Ky.cv))/\True :=
 (sortf_vec (C:=CC) (f:=127) (g:=128) (enc:=encK) (s:=3) (cf:=cmpK) om_ q_292 (fun x v hv=>by simp [encK] at hv; rcases hv with rfl | rfl | rfl <;> rfl)
  (fun blk off cap d w h1 h2 h3 h4=>Go.Proofs.AnyQ.slices_SortFunc_total Tryz.sortKey 3 t_31 t_2 encK q_292 (fun x v hv=>by simp [encK] at hv; rcases hv with rfl | rfl | rfl <;> rfl) cmpK swo_K 128 #[] blk off cap d w Tryz.call128 h1 h2 h3 h4 (fun x y e1 e2=>by rw [ltOf_K] at e1 e2; exact ltK_tot e1 e2))
  (fun x y=>fa_Compare x y) glob_vals hne om_ hk).mono fun r τ h=>⟨(),h.1,h.2,tt⟩
def ddK:List Ky->List Ky
 | []=>[]
 | [x]=>[x]
 | x::y::l=>if x=y then ddK (y::l) else x::ddK (y::l)
theorem dd_cc (x y:Ky) (l:List Ky):ddK (x::y::l)=if x=y then ddK (y::l) else x::ddK (y::l):=by rw [ddK]
theorem dd_snoc:∀ (l:List Ky) (x y:Ky),ddK (l++[x,y])=if x=y then ddK (l++[x]) else ddK (l++[x])++[y]
 | [],x,y=>by
  simp only [n_35,dd_cc];by_cases h:x=y <;> simp [h,ddK]
 | [a],x,y=>by
  simp only [n_53,n_35,dd_cc];by_cases h1:a=x <;> by_cases h2:x=y <;> simp [h1,h2,ddK]
 | a::b::l,x,y=>by
  have h:=dd_snoc (b::l) x y;simp only [n_53] at h;simp only [n_53,dd_cc,h];by_cases h1:a=b <;> by_cases h2:x=y <;> simp [h1,h2]
theorem dd_step {j:Nat} (hx:l[j]? = some x) (hy:l[j+1]? = some y):ddK (l.take (j+2))=if x=y then ddK (l.take (j+1)) else ddK (l.take (j+1))++[y]:=by
 have h1:l.take (j+1)=l.take j++[x]:=by rw [n_46,hx]; rfl
 have h2:l.take (j+2)=l.take j++[x,y]:=by rw [show j+2=(j+1)+1 from rfl,n_46,hy,h1]; simp
 rw [h1,h2,dd_snoc]
theorem dd_one:ddK (l.take 1)=l.take 1:=by cases l <;> rfl
theorem dd_short (h:l.length < 2):ddK l=l:=by
 match l,h with
 | [],_=>rfl
 | [x],_=>rfl
theorem clone_nil_K_s  (σ:List CObj):CCalls CC 126 [(.list (([]:List Ky).map Ky.cv) false none)] σ fun r σ'=>r = .ret (.list (([]:List Ky).map Ky.cv) false none)/\σ'=σ:=by
 refine CCalls.anyw hCC (by repeat' (first|exact .val _|exact pure_ints _ _|exact pure_strs _ _|exact pure_keys _ _|exact tt | refine pure_agg ?_ | refine pure_tup ?_ | refine ⟨?_,?_⟩)) (by repeat' (first|exact .val _|exact pure_ints _ _|exact pure_strs _ _|exact pure_keys _ _|exact tt | refine pure_agg ?_ | refine pure_tup ?_ | refine ⟨?_,?_⟩)) ?_ σ;refine ccalls_val (ccalls_of Tryz.func126 rfl rfl ?_);refine z_48 ?_; refine cY (y_slnil rfl tt rfl t_4 rfl) ?_; refine co_nil ?_; refine cC (fun h1=>?_) fun h1=>?_
 ·refine z_22 ?_;exact ⟨_,res1 rfl tt q_272,_,_,rfl,rfl,(cls_eq (show CV.list [] false none=_ from rfl) (by repeat' (first|exact .val _|exact pure_ints _ _|exact pure_strs _ _|exact pure_keys _ _|exact tt | refine pure_agg ?_ | refine pure_tup ?_ | refine ⟨?_,?_⟩)))⟩
 ·exfalso;cases h1
theorem clone_vec_K (l:List Ky) (hn:l≠[]) (hl:l.length<=1000000) (σ:List CObj):CCalls CC 126 [(.list (l.map Ky.cv) true none)] σ fun r σ'=>∃ _:Unit,r = .ret (.vec σ.length 0 l.length)/\σ'=σ++[.vec 3 (l.map Ky.cv)]/\True:=by
 refine (ccalls_of Tryz.func126 rfl rfl ?_);refine z_48 ?_; refine cY (y_slnil rfl tt rfl t_4 rfl) ?_; refine co_nil ?_; refine cC (fun h1=>?_) fun h1=>?_
 ·exfalso;cases h1
 ·refine z_60 ?_;refine cD (d_lit0 rfl t_4 t_2 (fun a0=>?_));refine cY q_247 ?_;refine cD (d_appcv l.length rfl tt tt rfl q_18 t_4 t_2 t_16 t_7 rfl (by simp; exact n_66.2 hn) q_78 q_227 si_ ?_);exact z_271
theorem cp_Compact0 (l:List Ky) (hl:l.length<=1000000):CCalls CC 129 [.vec 0 0 l.length] [.vec 3 (l.map Ky.cv)] fun r τ=>∃ rest:List Ky,r = .ret (.vec 0 0 (ddK l).length)/\τ=[.vec 3 ((ddK l++rest).map Ky.cv)]/\True:=by
 refine (ccalls_of Tryz.func129 rfl rfl ?_);refine z_48 ?_; refine cY q_207 ?_; refine z_14 ?_; refine cC (fun h1=>?_) fun h1=>?_
 ·have hlt:l.length < 2:=by simp at h1; omega
  have hdd:=dd_short hlt;refine z_185 ?_;exact ⟨_,res1 rfl tt q_272,⟨[],by rw [hdd],by rw [hdd]; simp,tt⟩⟩
 ·have hge:2<=l.length:=by simp at h1; omega
  refine z_9 ?_; refine z_252 ?_; refine cw_loop' (α:=Nat) (fun k=>[(0,(.vec 0 0 l.length)),(3,(.val (.int .i64 ((k:Int)))))]) (fun _=>[.vec 3 (l.map Ky.cv)]) (fun k=>1<=k/\k<=l.length/\ddK (l.take k)=l.take k) (fun k=>l.length - k) 1 ⟨n_4 _,om_,dd_one⟩ tu_ rfl ?_; intro k E0 ⟨hk1,hk2,hd⟩; refine z_86 ?_; refine cY q_207 ?_; refine z_62 ?_; refine cC (fun h2=>?_) fun h2=>?_
  ·have hlt:k < l.length:=by simp at h2; omega
   obtain ⟨y,hy⟩:∃ y,l[k]? = some y:=⟨l[k]'hlt,si_⟩;obtain ⟨x,hx⟩:∃ x,l[k - 1]? = some x:=⟨l[k - 1]'om_,si_⟩;have hstep:=dd_step hx (by rw [Nat.sub_add_cancel hk1]; exact hy);rw [show k - 1+2=k+1 by omega,show k - 1+1=k by omega,hd] at hstep;refine z_19 ?_; refine cw_seq ?_; refine cw_draw 10 [0,0,3,7,0,0,32,112,240,511] q_291 q_291 rfl ?_; refine z_58 ?_; refine hY q_111 ?_; refine hY (y_load_e rfl tt rfl t_31 t_2 rfl (vget (rows_get hy) om_) (nb rfl)) ?_; refine z_58 ?_; refine hY q_254 ?_; refine hY q_111 ?_; refine hY (y_load_e rfl tt rfl t_31 t_2 rfl (vget (rows_get hx) om_) (nb rfl)) ?_; refine hY (y_eqs rfl tt tt (xs:=[.int .i64 y.k,.string (str y.a),.string (str y.b)]) (ys:=[.int .i64 x.k,.string (str x.a),.string (str x.b)]) rfl rfl t_53 (eq_ky y x)) ?_; refine z_68 ?_; refine cC (fun h3=>?_) fun h3=>?_
   ·have hyx:x=y:=by
     have h3':y=x:=by simpa using h3
     exact h3'.symm
    rw [if_pos hyx] at hstep;refine z_6 ?_; refine cY (y_slice_v (l:=k) rfl tt rfl t_4 t_2 rfl q_270 rfl q_212 si_) ?_; refine z_193 ?_; refine z_252 ?_; refine cw_loop' (α:=List Ky × Nat × Nat) (fun a=>[(0,(.vec 0 0 l.length)),(3,(.val (.int .i64 ((a.2.1:Int))))),(4,(.vec 0 (0+k) (l.length - k))),(5,(.val (.int .i64 ((a.2.2:Int)))))]) (fun a=>[.vec 3 (a.1.map Ky.cv)]) (fun a=>a.1.length=l.length/\1<=a.2.2/\a.2.2<=l.length - k/\a.2.1<=k+a.2.2 - 1/\ddK (l.take (k+a.2.2))=a.1.take a.2.1/\∀ j,k+a.2.2 - 1<=j->a.1[j]? = l[j]?) (fun a=>l.length - a.2.2) (l,k,1) ⟨rfl,n_4 _,do_,do_,hstep,fun _ _=>rfl⟩ tu_ rfl ?_; intro ⟨m,p,q⟩ E1 ⟨hm,hq1,hq2,hp,hmd,hmj⟩;dsimp only at hm hq1 hq2 hp hmd hmj ⊢;refine z_86 ?_; refine cY q_207 ?_; refine z_62 ?_; refine cC (fun h4=>?_) fun h4=>?_
    ·have hlt2:q < l.length - k:=by simp at h4; omega
     obtain ⟨z,hz⟩:∃ z,l[k+q]? = some z:=⟨l[k+q]'om_,si_⟩;obtain ⟨u,hu⟩:∃ u,l[k+q - 1]? = some u:=⟨l[k+q - 1]'om_,si_⟩;have hzm:m[k+q]? = some z:=(hmj _ om_).trans hz;have hum:m[k+q - 1]? = some u:=(hmj _ om_).trans hu;have hst2:=dd_step hu (by rw [Nat.sub_add_cancel om_]; exact hz);rw [show k+q - 1+2=k+(q+1) by omega,show k+q - 1+1=k+q by omega,hmd] at hst2;refine z_19 ?_; refine cw_seq ?_; refine cw_draw 10 [0,0,3,7,0,0,32,112,240,511] q_291 q_291 rfl ?_; refine z_58 ?_; refine hY q_111 ?_; refine hY (y_load_e rfl tt rfl t_31 t_2 rfl (vget (rows_get hzm) om_) (nb rfl)) ?_; refine z_58 ?_; refine hY q_254 ?_; refine hY q_111 ?_; refine hY (y_load_e rfl tt rfl t_31 t_2 rfl (vget (rows_get hum) om_) (nb rfl)) ?_; refine hY (y_nes rfl tt tt (xs:=[.int .i64 z.k,.string (str z.a),.string (str z.b)]) (ys:=[.int .i64 u.k,.string (str u.a),.string (str u.b)]) rfl rfl t_53 (eq_ky z u)) ?_; refine z_68 ?_; refine cC (fun h5=>?_) fun h5=>?_
     ·have hzu:¬ u=z:=by
       have h5':¬ z=u:=by simpa using h5
       exact fun e=>h5' e.symm
      rw [if_neg hzu] at hst2;obtain ⟨o,ho⟩:∃ o,m[p]? = some o:=⟨m[p]'om_,si_⟩;refine z_44 ?_; refine cY q_247 ?_; refine cY q_111 ?_; refine cY (y_load_e rfl tt rfl t_31 t_2 rfl (vget (rows_get hzm) om_) (nb rfl)) ?_; refine cY q_111 ?_;refine cD (d_store_e' ((m.set p z).map Ky.cv) rfl tt tt rfl q_272 t_2 q_290 rfl (vget (rows_get ho) om_) rfl (nb rfl) (by rw [show 0+(p:Int).toNat=p by omega,List.map_set]; rfl) rfl ?_);refine z_156 ?_; refine z_82 ?_; refine z_7 ?_; refine z_82 ?_;exact ⟨(m.set p z,p+1,q+1),do_,⟨by simpa using hm,do_,do_,do_,by dsimp only; rw [hst2,n_46,List.take_set_of_le (n_4 _),n_74 om_]; rfl,fun j hj=>by dsimp only at hj; rw [n_40 om_]; exact hmj j om_⟩,tu_,rfl⟩
     ·have hzu:u=z:=by
       have h5':z=u:=by simpa using h5
       exact h5'.symm
      rw [if_pos hzu] at hst2;refine z_265 ?_;exact ⟨(m,p,q+1),do_,⟨hm,do_,do_,do_,hst2,fun j hj=>by dsimp only at hj; exact hmj j om_⟩,tu_,rfl⟩
    ·have hge2:q=l.length - k:=by simp at h4; omega
     subst hge2;rw [show k+(l.length - k)=l.length by omega,n_59] at hmd;have hpl:(m.take p).length=p:=by rw [n_43]; omega
     have hdl:(ddK l).length=p:=by rw [hmd,hpl]
     refine cw_exit ?_; refine z_6 ?_; refine cY (y_slice_v (l:=p) rfl tt rfl t_4 t_2 rfl q_270 rfl q_212 q_289) ?_;refine cD (d_clear' ((m.take p++List.replicate (l.length - p) zK).map Ky.cv) rfl tt rfl t_4 t_7 rfl (oneB_or rfl) rfl rfl q_289 (by rw [n_45,List.map_replicate]; unfold spliceR; rw [n_34 q_289,n_32,n_10,<- List.map_take]; rfl) rfl ?_);refine z_131 ?_; refine cY (y_slice_v (h:=p) rfl tt rfl t_4 t_2 rfl rfl q_270 q_212 q_289) ?_; refine z_4 ?_;exact ⟨_,res1 rfl tt q_272,⟨List.replicate (l.length - p) zK,by rw [hdl]; rfl,by rw [hmd]; rfl,tt⟩⟩
   ·have hyx:¬ x=y:=by
     have h3':¬ y=x:=by simpa using h3
     exact fun e=>h3' e.symm
    rw [if_neg hyx] at hstep;refine z_265 ?_;exact ⟨k+1,om_,⟨om_,om_,by rw [hstep,n_46,hy]; rfl⟩,tu_,rfl⟩
  ·have hge2:k=l.length:=by simp at h2; omega
   subst hge2;rw [n_59] at hd;refine z_158 ?_;exact ⟨_,res1 rfl tt q_272,⟨[],by rw [hd],by rw [hd]; simp,tt⟩⟩
theorem cp_nil_K_s  (σ:List CObj):CCalls CC 129 [(.list (([]:List Ky).map Ky.cv) false none)] σ fun r σ'=>r = .ret (.list (([]:List Ky).map Ky.cv) false none)/\σ'=σ:=by
 refine CCalls.anyw hCC (by repeat' (first|exact .val _|exact pure_ints _ _|exact pure_strs _ _|exact pure_keys _ _|exact tt | refine pure_agg ?_ | refine pure_tup ?_ | refine ⟨?_,?_⟩)) (by repeat' (first|exact .val _|exact pure_ints _ _|exact pure_strs _ _|exact pure_keys _ _|exact tt | refine pure_agg ?_ | refine pure_tup ?_ | refine ⟨?_,?_⟩)) ?_ σ;refine ccalls_val (ccalls_of Tryz.func129 rfl rfl ?_);refine z_279 ?_; refine z_14 ?_; refine cC (fun h1=>?_) fun h1=>?_
 ·refine z_2 ?_;exact z_76
 ·exfalso;simp at h1
theorem cp_Compact (l:List Ky) (hl:l.length<=1000000) {σ:List CObj} {q:Nat} (hq:σ[q]? = some (.vec 3 (l.map Ky.cv))):CCalls CC 129 [.vec q 0 l.length] σ fun r τ=>∃ rest:List Ky,r = .ret (.vec q 0 (ddK l).length)/\τ=σ.set q (.vec 3 ((ddK l++rest).map Ky.cv))/\True :=
 ccalls_vec (α:=List Ky) (g:=fun _=>false) (rows':=fun rest=>(ddK l++rest).map Ky.cv) (off:=fun _=>0) (len:=fun _=>(ddK l).length) (P:=fun _=>True) hCC (pure_vkeys l) (args:=[]) (fun a h=>by cases h) (fun _ _=>pure_vkeys _)
  ((cp_Compact0 l hl).mono fun r τ ⟨rest,h1,h2,_⟩=>⟨rest,by subst h1 h2; exact ⟨[0],rfl,rfl,.ret (.vec rfl),.inr ⟨_,rfl,.same rfl (old_vkeys _ _)⟩,tt⟩,tt⟩) hq
theorem sl_SortNone (nn:Bool) (σ:List CObj):CCalls CC 127 [.list [] nn none,.val (.func (.func 128) #[] #[])] σ fun r τ=>r = .ret (.tup [])/\τ=σ:=fun M w vs hr hn hx=>by
 have hs:vs.size=2:=hn;obtain ⟨v,v2,rfl⟩:∃ v v2,vs = #[v,v2]:=⟨vs[0]'om_,vs[1]'om_,Array.ext (by simp [hs]) fun i h1 h2=>by
  have:i=0\/i=1:=by omega
  rcases this with rfl | rfl <;> simp⟩
 have h0:RV M w (.list [] nn none) v:=hx 0 _ rfl;cases h0 with
 | list vals g1 g2 g3 g4 g5 g6 g7 g8 g9 g10 =>
  refine (Go.Proofs.AnyF.slices_SortFunc_none Tryz.sortKey _ _ v2 w).mono fun e w' ⟨he,hw⟩=>?_; subst he hw;exact ⟨_,_,M,Ext.refl M w',hr,.tup rfl (fun i c h=>by simp at h),rfl,rfl⟩
def setF (l:List Ky):List Ky:=ddK (srtF cmpK l)
theorem fa_Set_nil_s  (σ:List CObj):CCalls CC 76 [(.list (([]:List Ky).map Ky.cv) false none)] σ fun r σ'=>r = .ret (.list (([]:List Ky).map Ky.cv) false none)/\σ'=σ:=by
 refine CCalls.anyw hCC (by repeat' (first|exact .val _|exact pure_ints _ _|exact pure_strs _ _|exact pure_keys _ _|exact tt | refine pure_agg ?_ | refine pure_tup ?_ | refine ⟨?_,?_⟩)) (by repeat' (first|exact .val _|exact pure_ints _ _|exact pure_strs _ _|exact pure_keys _ _|exact tt | refine pure_agg ?_ | refine pure_tup ?_ | refine ⟨?_,?_⟩)) ?_ σ;refine ccalls_val (ccalls_of Tryz.func76 rfl rfl ?_);refine z_80 ?_; refine cY (y_callf rfl Tryz.call126 ⟨tt,tt⟩ (clone_nil_K_s _) rfl) ?_; refine z_39 ?_; refine cY (y_callf rfl Tryz.call127 q_297 (sl_SortNone false _) rfl) ?_; refine z_31 ?_; refine cY (y_callf rfl Tryz.call129 ⟨tt,tt⟩ (cp_nil_K_s _) rfl) ?_;exact z_76
theorem fa_Set0 (l:List Ky) (hne:l≠[]) (hl:l.length<=1000000):CCalls CC 76 [(.list (l.map Ky.cv) true none)] [] fun r σ'=>∃ extra c c',σ'=[]++extra/\r = .ret c/\Cls 0 σ' c c'/\c' = .list ((setF l).map Ky.cv) true none:=by
 have hsl:(srtF cmpK l).length=l.length:=n_113 _;refine (ccalls_of Tryz.func76 rfl rfl ?_);refine z_80 ?_;refine cD (d_callv rfl Tryz.call126 ⟨tt,tt⟩ (clone_vec_K l hne hl _) rfl ?_);intro _ _; refine z_39 ?_;refine cD (d_callv rfl Tryz.call127 q_297 (sl_SortKeys hne hl rfl) rfl ?_);intro _ _; refine z_31 ?_;refine cD (d_callv rfl Tryz.call129 ⟨tt,tt⟩ ((by rw [<- hsl]; exact cp_Compact (srtF cmpK l) om_ rfl)) rfl ?_);intro rest _; refine z_4 ?_;exact ⟨_,res1 rfl tt q_272,⟨_,_,_,rfl,rfl,(.vecs (n_3 _) rfl si_ (by simp; rfl) (pure_vkeys (setF l))),rfl⟩⟩
theorem fa_Set (l:List Ky) (hl:l.length<=1000000) (σ:List CObj):CCalls CC 76 [(.list (l.map Ky.cv) (gnn l.length) none)] σ fun r τ=>r = .ret (.list ((setF l).map Ky.cv) (gnn (setF l).length) none)/\τ=σ:=by
 by_cases h:l=[]
 ·subst h;rw [show setF []=[] by simp [setF,srtF,ddK]];exact fa_Set_nil_s σ
 ·rw [gnn_ne h];have hn:setF l≠[]:=by
   intro e;have hd:∀ m:List Ky,m≠[]->ddK m≠[]:=by
    intro m
    induction m with
    | nil=>intro h; exact absurd rfl h
    | cons a m ih =>
     intro _;cases m with
     | nil=>simp [ddK]
     | cons b m =>
      rw [dd_cc]
      split
      ·exact ih si_
      ·simp
   exact hd (srtF cmpK l) (fun e2=>h (List.length_eq_zero_iff.1 (by rw [<- n_113 (l:=l) (le:=fun x y=>!(Go.Proofs.ltOf cmpK) y x)]; exact congrArg List.length e2))) e
  rw [gnn_ne hn];exact CCalls.anyw (args:=[.list (l.map Ky.cv) true none]) hCC ⟨pure_keys _ _,tt⟩ (pure_keys _ _) ((ccalls_close (fa_Set0 l h hl)).mono fun r τ ⟨⟨c,h1,h2⟩,h3⟩=>⟨by rw [h1,h2],h3⟩) σ
def SrtK (l:List Ky):Prop:=l.Pairwise fun x y=>ltK x y=true
theorem srtK_ext {a b:List Ky} (ha:SrtK a) (hb:SrtK b) (h:∀ x,x∈a↔x∈b):a=b:=by
 have nd:∀ {l:List Ky},SrtK l->l.Nodup:=fun hl=>hl.imp fun {x y} hxy e=>by
  subst e;rw [ltK_irr] at hxy;cases hxy
 refine List.Perm.eq_of_pairwise (le:=fun x y=>ltK x y=true) (fun x y _ _ h1 h2=>?_) ha hb ((n_126 (nd ha) (nd hb)).2 h);have:=ltK_trans h1 h2;rw [ltK_irr] at this;cases this
theorem insK_cons (y k:Ky) (l:List Ky):insK (y::l) k=if ltK y k=true then y::insK l k else if y=k then y::l else k::y::l:=by
 unfold insK;rw [show insI k (y::l)=if ltK y k=true then insI k l+1 else 0 from rfl];by_cases h:ltK y k=true
 ·simp only [h,if_true,n_112,n_54,List.drop_succ_cons]
  split <;> simp
 ·simp only [h,if_false,n_72,n_89,Option.some.injEq,List.take_zero,n_67,n_35]
theorem insK_mem {k x:Ky}:∀ {l:List Ky},x∈insK l k↔x=k\/x∈l
 | []=>by simp [insK,insI]
 | y::l=>by
  have ih:=insK_mem (k:=k) (x:=x) (l:=l);rw [insK_cons]
  split
  ·rw [n_13,ih,n_13];constructor
   ·rintro (h | h | h)
    ·exact .inr (.inl h)
    ·exact .inl h
    ·exact .inr (.inr h)
   ·rintro (h | h | h)
    ·exact .inr (.inl h)
    ·exact .inl h
    ·exact .inr (.inr h)
  ·split
   ·rename_i h; subst h;rw [n_13];constructor
    ·exact .inr
    ·rintro (h | h)
     ·exact .inl h
     ·exact h
   ·rw [n_13]
theorem insK_srt {k:Ky}:∀ {l:List Ky},SrtK l->SrtK (insK l k)
 | [],_=>by simp [insK,insI,SrtK]
 | y::l,h=>by
  obtain ⟨h1,h2⟩:=n_49.1 h;rw [insK_cons]
  split
  ·rename_i hy;refine n_49.2 ⟨fun x hx=>?_,insK_srt h2⟩
   rcases insK_mem.1 hx with rfl | hx
   ·exact hy
   ·exact h1 x hx
  ·rename_i hy
   split
   ·exact h
   ·rename_i hne;have hk:ltK k y=true:=by
     cases e:ltK k y
     ·exact absurd (ltK_tot (by simpa using hy) e) hne
     ·rfl
    refine n_49.2 ⟨fun x hx=>?_,h⟩
    rcases n_13.1 hx with rfl | hx
    ·exact hk
    ·exact ltK_trans hk (h1 x hx)
theorem setK_spec (l:List Ky):SrtK (setK l)/\∀ x,x∈setK l↔x∈l:=by
 have h:∀ (l a:List Ky),SrtK a->SrtK (l.foldl insK a)/\∀ x,x∈l.foldl insK a↔x∈a\/x∈l:=by
  intro l
  induction l with
  | nil=>intro a ha; exact ⟨ha,fun x=>by simp⟩
  | cons y l ih =>
   intro a ha;obtain ⟨h1,h2⟩:=ih (insK a y) (insK_srt ha);refine ⟨h1,fun x=>?_⟩;rw [n_108,h2,insK_mem,n_13];constructor
   ·rintro ((h | h) | h)
    ·exact .inr (.inl h)
    ·exact .inl h
    ·exact .inr (.inr h)
   ·rintro (h | h | h)
    ·exact .inl (.inr h)
    ·exact .inl (.inl h)
    ·exact .inr h
 obtain ⟨h1,h2⟩:=h l [] List.Pairwise.nil;exact ⟨h1,fun x=>by rw [setK,h2]; simp⟩
theorem ddK_mem {x:Ky}:∀ {l:List Ky},x∈ddK l↔x∈l
 | []=>by simp [ddK]
 | [a]=>by simp [ddK]
 | a::b::l=>by
  have ih:=ddK_mem (x:=x) (l:=b::l);rw [dd_cc]
  split
  ·rename_i h; subst h;rw [ih]; simp
  ·rw [n_13,ih]; simp
theorem ddK_srt:∀ {l:List Ky},(l.Pairwise fun x y=>ltK y x=false)->SrtK (ddK l)
 | [],_=>.nil
 | [a],_=>List.pairwise_singleton _ _
 | a::b::l,h=>by
  obtain ⟨h1,h2⟩:=n_49.1 h;have ih:=ddK_srt h2;rw [dd_cc]
  split
  ·exact ih
  ·rename_i hne;refine n_49.2 ⟨fun y hy=>?_,ih⟩;have hy':=ddK_mem.1 hy;cases e:ltK a y
   ·have ea:=ltK_tot e (h1 y hy');subst ea
    rcases n_13.1 hy' with e2 | hl
    ·exact absurd e2 hne
    ·have h3:=(n_49.1 h2).1 a hl;have h4:=h1 b n_104;exact absurd (ltK_tot h3 h4) hne
   ·rfl
theorem setF_setK (l:List Ky):setF l=setK l:=by
 obtain ⟨h1,h2⟩:=setK_spec l;refine srtK_ext (ddK_srt ?_) h1 fun x=>?_
 ·have hp:=n_132 (le:=fun x y=>!(Go.Proofs.ltOf cmpK) y x) (fun a b c h k=>?_) (fun a b=>?_) l
  ·exact hp.imp fun {x y} h=>by simpa [ltOf_K] using h
  ·simp only [Bool.not_eq_true',ltOf_K] at *;exact (show ltK c a=false from by
    rw [<- ltOf_K] at *;exact swo_K.ntrans c b a k h)
  ·simp only [n_38,Bool.not_eq_true',ltOf_K];cases e:ltK b a
   ·exact .inl rfl
   ·right
    cases e2:ltK a b
    ·rfl
    ·have:=ltK_trans e e2;rw [ltK_irr] at this; cases this
 ·rw [h2,setF,ddK_mem];exact (n_119 _ _).mem_iff
def diffK:List Ky->List Str->List Str->List Ky
 | k::l,x::xs,y::ys=>if x=y then diffK l xs ys else k::diffK l xs ys
 | _,_,_=>[]
theorem diffK_step {xs ys:List Str} {x y:Str} (hk:l[i]? = some k) (hx:xs[i]? = some x) (hy:ys[i]? = some y):diffK (l.drop i) (xs.drop i) (ys.drop i)=(if decide (x≠y)=true then [k] else [])++diffK (l.drop (i+1)) (xs.drop (i+1)) (ys.drop (i+1)):=by
 obtain ⟨h1,rfl⟩:=n_1.1 hk;obtain ⟨h2,rfl⟩:=n_1.1 hx;obtain ⟨h3,rfl⟩:=n_1.1 hy;rw [n_27 h1,n_27 h2,n_27 h3,diffK];by_cases h:xs[i]=ys[i]
 ·rw [if_pos h]; simp [h]
 ·rw [if_neg h]; simp [h]
abbrev aSt (fl:List Fi) (nn:Bool) (ev:List Va) (en:Bool) (fs:List Fi) (ns:Bool) (ew:List Va) (ne:Bool) (L:List Ky) (x y:List Str) (out:List Ky) (p:Nat):List CObj:=[.box (revC fl nn),.box (envC ev en),.box (revC fs ns),.box (envC ew ne),.dead,.dead,.dead,.box [.list (L.map Ky.cv) (gnn L.length) none],.box [.list (x.map scv) (gnn x.length) none],.box [.list (y.map scv) (gnn y.length) none],.box [.list (out.map Ky.cv) (gnn out.length) (gtok out.length p)]]
theorem ed_clo (fl:List Fi) (nn:Bool) (ev:List Va) (en:Bool) (fs:List Fi) (ns:Bool) (ew:List Va) (ne:Bool) {L:List Ky} {x y:List Str} (out:List Ky) (i:Nat) (hk:L[i]? = some k) {u v:Str} (hx:x[i]? = some u) (hy:y[i]? = some v) (hol:out.length<=1000000):CCalls CC 81 ([(.val (.int .i64 ((i:Int))))]++[.ptr 8 0,.ptr 9 0,.ptr 10 0,.ptr 7 0]) (aSt fl nn ev en fs ns ew ne L x y out 11++[gobj out.length]) fun r τ=>∃ g:Bool,r = .ret (.tup [])/\τ=(if g=true then aSt fl nn ev en fs ns ew ne L x y (out++[k]) 12++[.dead,gobj (out++[k]).length] else aSt fl nn ev en fs ns ew ne L x y out 11++[gobj out.length])/\g=decide (u≠v):=by
 refine (ccalls_of Tryz.func81 rfl rfl ?_);refine cw_seq ?_; refine cw_draw 9 [0,0,3,7,0,0,48,112,255] q_291 q_291 rfl ?_; refine hY q_228 ?_; refine hY q_247 ?_; refine hY (y_index rfl tt tt rfl rfl t_1 t_0 om_ (rows_get hx) rfl) ?_; refine hY q_248 ?_; refine hY q_228 ?_; refine hY q_247 ?_; refine hY q_96 ?_; refine hY q_248 ?_; refine hY q_234 ?_; refine z_68 ?_; refine cC (fun h1=>?_) fun h1=>?_
 ·have hne:decide (u≠v)=true:=by simpa using h1
  refine cw_draw 6 [0,0,0,6,14,30,63,127] q_291 q_291 rfl ?_; refine hY q_235 ?_; refine hY q_235 ?_; refine hY q_247 ?_; refine hY (y_index rfl tt tt rfl rfl t_4 t_2 om_ (rows_get hk) rfl) ?_; refine hY q_194 ?_; refine hY (y_lit [Ky.cv k] rfl ⟨tt,tt⟩ t_4 t_2 t_7 rfl rfl rfl rfl rfl rfl rfl rfl rfl) ?_; refine ch_nil ?_;refine cD (d_appu rfl tt tt rfl si_ q_18 t_4 t_2 t_16 t_7 rfl (.inr rfl) q_20 q_78 q_227 ((out++[k]).map Ky.cv) (out++[k]).length (by rw [n_45]; rfl) si_ ?_);refine cD (d_store rfl tt tt rfl q_272 t_157 (.inl rfl) rfl rfl (nb rfl) ?_);refine co_nil ?_;exact ⟨_,res_all (rs:=[]) (cs:=[]) rfl tt (n_2 rfl),⟨true,rfl,rfl,hne.symm⟩⟩
 ·have hne:decide (u≠v)=false:=by simpa using h1
  refine cw_skip ?_;exact ⟨_,res_all (rs:=[]) (cs:=[]) rfl tt (n_2 rfl),⟨false,rfl,rfl,hne.symm⟩⟩
theorem old_caps:Old 11 (.clo 81 [.ptr 8 0,.ptr 9 0,.ptr 10 0,.ptr 7 0]):=.clo fun i c hc=>by
 rcases i with _ | _ | _ | _ | i <;> first|(injection hc with hc; subst hc; exact .ptr (nb rfl)) | cases hc
noncomputable def allS (fl:List Fi) (ev:List Va) (fs:List Fi) (ew:List Va):Option (List Ky) :=
 if (contS fl ev []).isSome=true/\(contS fs ew []).isSome=true then (contS fl ev (setF (KU fl++KU fs++(ev.map varK++ew.map varK)))).bind fun x=>(contS fs ew (setF (KU fl++KU fs++(ev.map varK++ew.map varK)))).map fun y=>diffK (setF (KU fl++KU fs++(ev.map varK++ew.map varK))) x y else none
def allR (o:Option (List Ky)):CV:=.tup [.list ((o.getD []).map Ky.cv) (gnn (o.getD []).length) none,.val (.int .i64 (if o.isSome then 0 else 1))]
theorem cont_len {k:List Ky} {l:List Str} (h:contS fl ev k=some l):l.length=k.length:=by rw [cont_some h,n_17]
theorem setF_ext {a b:List Ky} (h:∀ x,x∈a↔x∈b):setF a=setF b:=by
 rw [setF_setK,setF_setK];exact srtK_ext (setK_spec a).1 (setK_spec b).1 fun x=>by rw [(setK_spec a).2,(setK_spec b).2,h]
theorem setF_len (l:List Ky):(setF l).length<=l.length:=by rw [setF_setK]; exact setK_len l
theorem ed_All0 (fl:List Fi) (nn:Bool) (ev:List Va) (en:Bool) (fs:List Fi) (ns:Bool) (ew:List Va) (ne:Bool) (q1:KUok fl) (q2:KUok fs) (hv1:∀ v∈ev,v.n.length<=1000000000) (hr1:∀ v∈ev,-9223372036854775808<=v.v/\v.v<=9223372036854775807) (he1:ev.length<=10000) (hv2:∀ v∈ew,v.n.length<=1000000000) (hr2:∀ v∈ew,-9223372036854775808<=v.v/\v.v<=9223372036854775807) (he2:ew.length<=10000):CCalls CC 34 [.agg (revC fl nn),.agg (envC ev en),.agg (revC fs ns),.agg (envC ew ne)] [] fun r τ=>∃ _:Unit,ClsR 0 τ r (.ret (allR (allS fl ev fs ew)))/\True:=by
 have hnil:([]:List Ky).length<=1000000000:=n_3 _;have hnk:∀ k∈([]:List Ky),k.a.length<=1000000000/\k.b.length<=1000000000:=fun k hk=>by simp at hk
 refine (ccalls_of Tryz.func34 rfl rfl ?_);refine z_63 ?_;refine cD (d_box rfl tt q_272 q_290 ?_);refine cD (d_box rfl tt q_272 q_290 ?_);refine z_106 ?_; refine z_47 ?_; refine cY q_183 ?_; refine cY q_185 ?_; refine cY (y_callf rfl t_110 ⟨tt,tt,rfl,tt⟩ (fa_Contents fl nn q1.pl ev en hv1 hr1 om_ [] false hnil hnk _) rfl) ?_; refine z_93 ?_; refine z_39 ?_; refine z_14 ?_; refine cC (fun h1=>?_) fun h1=>?_
 ·have hc1:¬ (contS fl ev []).isSome=true:=by intro u; simp [u] at h1
  refine z_2 ?_; refine cY q_226 ?_; refine z_4 ?_;exact ⟨_,res_all (rs:=[.tmp 8,.tmp 9]) (cs:=[_,_]) rfl q_140 (n_2 rfl),(by rw [allS,if_neg (fun u=>hc1 u.1),if_neg hc1]; exact ⟨(),.ret (.tups ⟨.old q_263,.old (.val _),tt⟩),tt⟩)⟩
 ·have hc1:(contS fl ev []).isSome=true:=by
   cases hq:(contS fl ev []).isSome with
   | true=>rfl
   | false=>simp [hq] at h1
  refine z_9 ?_; refine z_79 ?_; refine cY q_185 ?_; refine cY (y_callf rfl t_110 ⟨tt,tt,rfl,tt⟩ (fa_Contents fs ns q2.pl ew ne hv2 hr2 om_ [] false hnil hnk _) rfl) ?_; refine z_93 ?_; refine z_39 ?_; refine z_14 ?_; refine cC (fun h2=>?_) fun h2=>?_
  ·have hc2:¬ (contS fs ew []).isSome=true:=by intro u; simp [u] at h2
   refine z_2 ?_; refine cY q_226 ?_; refine z_4 ?_;exact ⟨_,res_all (rs:=[.tmp 8,.tmp 9]) (cs:=[_,_]) rfl q_140 (n_2 rfl),(by rw [allS,if_neg (fun u=>hc2 u.2),if_neg hc2]; exact ⟨(),.ret (.tups ⟨.old q_263,.old (.val _),tt⟩),tt⟩)⟩
  ·have hc2:(contS fs ew []).isSome=true:=by
    cases hq:(contS fs ew []).isSome with
    | true=>rfl
    | false=>simp [hq] at h2
   refine z_9 ?_; refine cw_floatA [8] [] [0,1,3,4,2,5,6,7,8,9] 4 [0,0,3,0,0,31,63,127,0,511] [[2,3],[],[],[],[],[]] (hd1l:=[0,1,3,4]) (tll:=[(2,[2,3]),(5,[]),(6,[]),(7,[]),(8,[]),(9,[])]) q_291 q_291 q_291 ⟨⟨_,_,_,rfl,.inl ⟨_,_,rfl,t_109,rfl,(.inl rfl),rfl⟩,rfl,rfl⟩,tt⟩ rfl rfl rfl ?_; refine chf rfl q_127 ?_; refine chf rfl q_127 ?_; refine chf rfl q_128 ?_; refine chf rfl q_128 ?_; refine chf_nil ?_;refine cta_d rfl rfl rfl rfl (d_callv rfl Tryz.call77 q_288 (ed_unionK fl nn q1 fs ns q2 _) rfl ?_);intro l1 ⟨hm1,hl1⟩;refine ⟨⟨q_108,q_108,tt⟩,?_⟩;refine cta_d rfl rfl rfl rfl (d_callv rfl Tryz.call79 q_288 (ed_unionV ev en om_ ew ne om_ _) rfl ?_);intro _ _;obtain ⟨l,hl⟩:∃ l,l=l1++(ev.map varK++ew.map varK):=⟨_,rfl⟩;have hll:l.length<=100000:=by rw [hl,n_5,n_5,n_17,n_17]; omega
   have hset:setF (KU fl++KU fs++(ev.map varK++ew.map varK))=setF l:=setF_ext fun k=>by simp only [hl,n_18,hm1]
   have hLl:(setF l).length<=100000:=n_87 (setF_len l) hll;have hLb:(setF l).length<=1000000000:=by omega
   have hLk:∀ k∈setF l,k.a.length<=1000000000/\k.b.length<=1000000000:=fun k hk=>by
    rw [setF_setK,(setK_spec l).2,hl,n_18,n_18,hm1,n_18] at hk
    rcases hk with (hk | hk) | hk | hk
    ·exact q1.ky k hk
    ·exact q2.ky k hk
    ·obtain ⟨v,hv,rfl⟩:=n_9.1 hk;exact ⟨hv1 v hv,n_3 _⟩
    ·obtain ⟨v,hv,rfl⟩:=n_9.1 hk;exact ⟨hv2 v hv,n_3 _⟩
   have hAS:allS fl ev fs ew=(contS fl ev (setF l)).bind fun x=>(contS fs ew (setF l)).map fun y=>diffK (setF l) x y:=by rw [allS,if_pos ⟨hc1,hc2⟩,hset]
   refine ⟨tt,?_⟩;refine cta_d rfl rfl rfl rfl (d_appu rfl tt tt rfl si_ q_18 t_4 t_2 t_16 t_7 rfl (.inr rfl) q_20 q_78 q_227 (l.map Ky.cv) l.length (by rw [hl]; simp) (by rw [hl]; simp) ?_);refine ⟨tt,?_⟩;refine cta_h rfl rfl rfl (hop_y rfl (y_callf rfl Tryz.call76 ⟨tt,tt⟩ (fa_Set l om_ _) rfl)) ⟨tt,?_⟩;refine cta_a rfl rfl rfl rfl t_109 rfl (.inl rfl) ?_;refine ⟨tt,?_⟩;refine cta_d rfl rfl rfl rfl (d_store rfl tt tt rfl q_272 t_157 (.inl rfl) rfl rfl (nb rfl) ?_);refine ⟨tt,?_⟩;refine cta_nil ?_; refine z_79 ?_; refine cY q_185 ?_; refine cY q_235 ?_; refine cY (y_callf rfl t_110 q_288 (fa_Contents fl nn q1.pl ev en hv1 hr1 om_ (setF l) (gnn (setF l).length) hLb hLk _) rfl) ?_; refine z_55 ?_; refine z_191 ?_; refine z_134 ?_; refine cC (fun h3=>?_) fun h3=>?_
   ·have hx:contS fl ev (setF l)=none:=by
     cases hq:contS fl ev (setF l) with
     | none=>rfl
     | some _=>simp [hq] at h3
    refine z_2 ?_; refine cY q_226 ?_; refine z_4 ?_;exact ⟨_,res_all (rs:=[.tmp 8,.tmp 9]) (cs:=[_,_]) rfl q_140 (n_2 rfl),(by rw [ hAS,hx]; exact ⟨(),.ret (.tups ⟨.old q_263,.old (.val _),tt⟩),tt⟩)⟩
   ·obtain ⟨x,hx⟩:∃ x,contS fl ev (setF l)=some x:=by
     cases hq:contS fl ev (setF l) with
     | none=>simp [hq] at h3
     | some x=>exact ⟨x,rfl⟩
    rw [hx];have hxl:=cont_len hx;refine cw_norm [.box (revC fl nn),.box (envC ev en),.box (revC fs ns),.box (envC ew ne),.dead,gobj (ev.map varK++ew.map varK).length,gobj l.length,.box [.list ((setF l).map Ky.cv) (gnn (setF l).length) none],.box [.list (x.map scv) (gnn x.length) none]] rfl ?_; refine z_60 ?_; refine cY q_183 ?_; refine cY q_185 ?_; refine cY q_235 ?_; refine cY (y_callf rfl t_110 q_288 (fa_Contents fs ns q2.pl ew ne hv2 hr2 om_ (setF l) (gnn (setF l).length) hLb hLk _) rfl) ?_; refine z_55 ?_; refine z_191 ?_; refine z_134 ?_; refine cC (fun h4=>?_) fun h4=>?_
    ·have hy:contS fs ew (setF l)=none:=by
      cases hq:contS fs ew (setF l) with
      | none=>rfl
      | some _=>simp [hq] at h4
     refine z_2 ?_; refine cY q_226 ?_; refine z_4 ?_;exact ⟨_,res_all (rs:=[.tmp 8,.tmp 9]) (cs:=[_,_]) rfl q_140 (n_2 rfl),(by rw [ hAS,hx,hy]; exact ⟨(),.ret (.tups ⟨.old q_263,.old (.val _),tt⟩),tt⟩)⟩
    ·obtain ⟨y,hy⟩:∃ y,contS fs ew (setF l)=some y:=by
      cases hq:contS fs ew (setF l) with
      | none=>simp [hq] at h4
      | some y=>exact ⟨y,rfl⟩
     rw [hy];have hyl:=cont_len hy;refine cw_norm [.box (revC fl nn),.box (envC ev en),.box (revC fs ns),.box (envC ew ne),.dead,gobj (ev.map varK++ew.map varK).length,gobj l.length,.box [.list ((setF l).map Ky.cv) (gnn (setF l).length) none],.box [.list (x.map scv) (gnn x.length) none],.box [.list (y.map scv) (gnn y.length) none]] rfl ?_; refine z_60 ?_;refine cD (d_alloc rfl t_109 rfl (.inl rfl) ?_);refine z_42 ?_; refine cY (y_mkfunc rfl q_275) ?_; refine z_1 ?_; refine z_47 ?_; refine cY q_235 ?_; refine cY q_103 ?_; refine z_24 ?_; refine cw_loopr hCC 11 rfl (α:=Nat × List Ky) (fun a=>[(18,.ptr 10 0),(19,(.clo 81 [.ptr 8 0,.ptr 9 0,.ptr 10 0,.ptr 7 0])),(69,(.val (.int .i64 (((setF l).length:Int))))),(70,(.val (.int .i64 ((a.1:Int)))))]) (fun a=>aSt fl nn ev en fs ns ew ne (setF l) x y a.2 11++[gobj a.2.length]) (fun a=>a.1<=(setF l).length/\diffK (setF l) x y=a.2++diffK ((setF l).drop a.1) (x.drop a.1) (y.drop a.1)/\a.2.length<=a.1) (fun a=>(setF l).length - a.1) ⟨(0,[]),[0,1,2,3,4,5,6,7,8,9,10,99],⟨n_3 _,rfl,n_4 _⟩,⟨rfl,rfl⟩,q_16,⟨.inr ⟨_,rfl,.same rfl q_262⟩,.inr ⟨_,rfl,.same rfl q_264⟩,.inr ⟨_,rfl,.same rfl q_262⟩,.inr ⟨_,rfl,.same rfl q_264⟩,.inl rfl,.inl rfl,.inl rfl,.inr ⟨_,rfl,.same rfl (old_box ⟨old_keys _ _ _,tt⟩)⟩,.inr ⟨_,rfl,.same rfl q_260⟩,.inr ⟨_,rfl,.same rfl q_260⟩,.inr ⟨_,rfl,.same rfl (old_box ⟨old_keys _ ([]:List Ky) _,tt⟩)⟩,.inl rfl,tt⟩⟩ ?_; intro ⟨i,out⟩ ⟨hi,hr,hol⟩;dsimp only at hi hr hol ⊢;refine z_30 ?_; refine cC (fun h5=>?_) fun h5=>?_
     ·have hlt:i < (setF l).length:=by simp at h5; omega
      obtain ⟨k,hk⟩:∃ k,(setF l)[i]? = some k:=⟨(setF l)[i]'hlt,si_⟩;obtain ⟨u,hu⟩:∃ u,x[i]? = some u:=⟨x[i]'om_,si_⟩;obtain ⟨v,hv⟩:∃ v,y[i]? = some v:=⟨y[i]'om_,si_⟩;rw [diffK_step hk hu hv] at hr;refine z_116 ?_; refine z_256 ?_;refine cD (d_callclov rfl tt rfl Tryz.call81 ⟨tt,tt⟩ (ed_clo fl nn ev en fs ns ew ne out i hk hu hv om_) rfl ?_);intro g hg;rw [<- hg] at hr;cases g
      ·refine co_norm (aSt fl nn ev en fs ns ew ne (setF l) x y out 11++[gobj out.length]) rfl ?_; refine z_112 ?_;exact ⟨(i+1,out),[0,1,2,3,4,5,6,7,8,9,10,11],⟨do_,do_,by dsimp only; exact hr,do_⟩,⟨rfl,rfl⟩,q_16,⟨.inr ⟨_,rfl,.same rfl q_262⟩,.inr ⟨_,rfl,.same rfl q_264⟩,.inr ⟨_,rfl,.same rfl q_262⟩,.inr ⟨_,rfl,.same rfl q_264⟩,.inl rfl,.inl rfl,.inl rfl,.inr ⟨_,rfl,.same rfl (old_box ⟨old_keys _ _ _,tt⟩)⟩,.inr ⟨_,rfl,.same rfl q_260⟩,.inr ⟨_,rfl,.same rfl q_260⟩,.inr ⟨_,rfl,.box ⟨RenV.grow (f:=Ky.cv) (fun _=>⟨.val _,.val _,.val _,tt⟩) rfl,tt⟩⟩,.inr ⟨_,rfl,.same rfl q_293⟩,tt⟩⟩
      ·refine co_norm (aSt fl nn ev en fs ns ew ne (setF l) x y (out++[k]) 12++[.dead,gobj (out++[k]).length]) rfl ?_; refine z_112 ?_;exact ⟨(i+1,out++[k]),[0,1,2,3,4,5,6,7,8,9,10,12],⟨do_,do_,by dsimp only; rw [hr,n_8]; rfl,by dsimp only; rw [n_5,n_103]; omega⟩,⟨rfl,rfl⟩,q_16,⟨.inr ⟨_,rfl,.same rfl q_262⟩,.inr ⟨_,rfl,.same rfl q_264⟩,.inr ⟨_,rfl,.same rfl q_262⟩,.inr ⟨_,rfl,.same rfl q_264⟩,.inl rfl,.inl rfl,.inl rfl,.inr ⟨_,rfl,.same rfl (old_box ⟨old_keys _ _ _,tt⟩)⟩,.inr ⟨_,rfl,.same rfl q_260⟩,.inr ⟨_,rfl,.same rfl q_260⟩,.inr ⟨_,rfl,.box ⟨RenV.grow (f:=Ky.cv) (fun _=>⟨.val _,.val _,.val _,tt⟩) rfl,tt⟩⟩,.inr ⟨_,rfl,.same rfl q_293⟩,tt⟩⟩
     ·have hie:i=(setF l).length:=by simp at h5; omega
      rw [hie,n_118] at hr;replace hr:diffK (setF l) x y=out:=by rw [hr]; simp [diffK]
      refine z_144 ?_; refine cY q_235 ?_; refine z_119 ?_;exact ⟨_,res_all (rs:=[.tmp 8,.tmp 9]) (cs:=[_,_]) rfl q_140 (n_2 rfl),(by rw [hAS,hx,n_6,hy,n_99,hr]; exact ⟨(),.ret (.tups ⟨.tok (fun r hr c hc=>(rows_pure (f:=Ky.cv) (fun b=>Pures.all (ky_pures b)) _) r hr c hc),.old (.val _),tt⟩),tt⟩)⟩
theorem pure_allR (o:Option (List Ky)):Pure (allR o):=pure_tup (cs:=[_,_]) ⟨pure_keys _ _,.val _,tt⟩
theorem ed_All (fl:List Fi) (nn:Bool) (ev:List Va) (en:Bool) (fs:List Fi) (ns:Bool) (ew:List Va) (ne:Bool) (q1:KUok fl) (q2:KUok fs) (hv1:∀ v∈ev,v.n.length<=1000000000) (hr1:∀ v∈ev,-9223372036854775808<=v.v/\v.v<=9223372036854775807) (he1:ev.length<=10000) (hv2:∀ v∈ew,v.n.length<=1000000000) (hr2:∀ v∈ew,-9223372036854775808<=v.v/\v.v<=9223372036854775807) (he2:ew.length<=10000) (σ:List CObj):CCalls CC 34 [.agg (revC fl nn),.agg (envC ev en),.agg (revC fs ns),.agg (envC ew ne)] σ fun r τ=>r = .ret (allR (allS fl ev fs ew))/\τ=σ :=
 (ccalls_any (res:=fun _:Unit=>.ret (allR (allS fl ev fs ew))) (P:=fun _=>True) hCC (fun a h=>by simp at h; rcases h with rfl | rfl | rfl | rfl; exact pure_revq _ _; exact pure_envq _ _; exact pure_revq _ _; exact pure_envq _ _) (ed_All0 fl nn ev en fs ns ew ne q1 q2 hv1 hr1 he1 hv2 hr2 he2) (fun _ _=>pure_allR _) σ).mono fun r τ ⟨_,h1,h2,_⟩=>⟨h1,h2⟩
noncomputable def chS (fl fs:List Fi):Option (List Ky):=allS fl [] fs []
def pkF (l:List Ky):List Str:=(l.filter fun k=>k.k == 6).map Ky.a
theorem pkF_step (h:l[i]? = some y):pkF (l.drop i)=(if (y.k == 6)=true then [y.a] else [])++pkF (l.drop (i+1)):=by
 obtain ⟨h1,rfl⟩:=n_1.1 h;rw [n_27 h1];unfold pkF;rw [n_60]
 split <;> rfl
def pkR (o:Option (List Ky)):CV:=.tup [.list ((pkF (o.getD [])).map scv) (gnn (pkF (o.getD [])).length) none,.val (.int .i64 (if o.isSome then 0 else 1))]
theorem nov1:∀ v∈([]:List Va),v.n.length<=1000000000:=fun v h=>by simp at h
theorem nov2:∀ v∈([]:List Va),-9223372036854775808<=v.v/\v.v<=9223372036854775807:=fun v h=>by simp at h
theorem ed_AllC (fl:List Fi) (nn:Bool) (fs:List Fi) (ns:Bool) (q1:KUok fl) (q2:KUok fs) (σ:List CObj):CCalls CC 34 [.agg (revC fl nn),.agg (envC [] false),.agg (revC fs ns),.agg (envC [] false)] σ fun r τ=>r = .ret (allR (chS fl fs))/\τ=σ:=ed_All fl nn [] false fs ns [] false q1 q2 nov1 nov2 (n_3 _) nov1 nov2 (n_3 _) σ
theorem ed_Changed_s (fl:List Fi) (nn:Bool) (fs:List Fi) (ns:Bool) (q1:KUok fl) (q2:KUok fs) (σ:List CObj):CCalls CC 38 [(.agg (revC fl nn)),(.agg (revC fs ns))] σ fun r σ'=>r = .ret (allR (chS fl fs))/\σ'=σ:=by
 refine CCalls.anyw (args:=[_,_]) hCC ⟨pure_revq _ _,pure_revq _ _,tt⟩ (pure_allR _) ?_ σ;refine ccalls_val (ccalls_of Tryz.func38 rfl rfl ?_);refine z_63 ?_; refine z_106 ?_; refine z_79 ?_; refine cY q_69 ?_; refine cY q_183 ?_; refine cY q_69 ?_; refine cY (y_callf rfl Tryz.call34 q_275 (ed_AllC fl nn fs ns q1 q2 _) rfl) ?_; refine z_36 ?_; refine cY q_237 ?_; refine z_4 ?_;exact ⟨_,res_all (rs:=[.tmp 4,.tmp 5]) (cs:=[_,_]) rfl q_140 (n_2 rfl),_,_,rfl,rfl,(.old (pure_allR _).old)⟩
theorem ed_Packages0 (fl:List Fi) (nn:Bool) (fs:List Fi) (ns:Bool) (q1:KUok fl) (q2:KUok fs) (hcl:∀ l,chS fl fs=some l->l.length<=1000000):CCalls CC 45 [.agg (revC fl nn),.agg (revC fs ns)] [] fun r τ=>∃ _:Unit,ClsR 0 τ r (.ret (pkR (chS fl fs)))/\True:=by
 refine (ccalls_of Tryz.func45 rfl rfl ?_);refine z_63 ?_; refine z_106 ?_; refine z_171 ?_; refine cY (y_callf rfl t_60 q_297 (ed_Changed_s fl nn fs ns q1 q2 _) rfl) ?_; refine z_93 ?_; refine z_134 ?_; refine cC (fun h1=>?_) fun h1=>?_
 ·have hc:chS fl fs=none:=by
   cases hq:chS fl fs with
   | none=>rfl
   | some _=>simp [hq] at h1
  refine z_2 ?_; refine cY q_226 ?_; refine z_4 ?_;exact ⟨_,res_all (rs:=[.tmp 4,.tmp 5]) (cs:=[_,_]) rfl q_140 (n_2 rfl),(by rw [hc]; exact ⟨(),.ret (.tups ⟨.old (old_strs _ ([]:List Str) _),.old (.val _),tt⟩),tt⟩)⟩
 ·obtain ⟨l,hc⟩:∃ l,chS fl fs=some l:=by
   cases hq:chS fl fs with
   | none=>simp [hq] at h1
   | some l=>exact ⟨l,rfl⟩
  have hll:=hcl l hc;rw [hc];refine cw_skip ?_; refine z_279 ?_; refine z_24 ?_; refine cw_loopr hCC 2 rfl (α:=Nat × List Str) (fun a=>[(8,(.list (a.2.map scv) (gnn a.2.length) (gtok a.2.length 2))),(20,(.list (l.map Ky.cv) (gnn l.length) none)),(21,(.val (.int .i64 ((l.length:Int))))),(22,(.val (.int .i64 ((a.1:Int)))))]) (fun a=>[.box (revC fl nn),.box (revC fs ns),gobj a.2.length]) (fun a=>a.1<=l.length/\pkF l=a.2++pkF (l.drop a.1)/\a.2.length<=a.1) (fun a=>l.length - a.1) ⟨(0,[]),[0,1,99],⟨n_3 _,rfl,n_4 _⟩,⟨rfl,rfl⟩,q_10,⟨.inr ⟨_,rfl,.same rfl q_262⟩,.inr ⟨_,rfl,.same rfl q_262⟩,.inl rfl,tt⟩⟩ ?_; intro ⟨i,out⟩ ⟨hi,hr,hol⟩;dsimp only at hi hr hol ⊢;refine z_30 ?_; refine cC (fun h2=>?_) fun h2=>?_
  ·have hlt:i < l.length:=by simp at h2; omega
   obtain ⟨y,hb⟩:∃ y,l[i]? = some y:=⟨l[i]'hlt,si_⟩;rw [pkF_step hb] at hr;refine z_37 ?_; refine z_233 ?_; refine z_103 ?_; refine z_42 ?_; refine z_165 ?_; refine z_14 ?_; refine cC (fun h3=>?_) fun h3=>?_
   ·rw [if_pos (by simpa using h3)] at hr;refine z_7 ?_; refine z_91 ?_; refine cY (y_lit [scv y.a] rfl ⟨tt,tt⟩ t_1 t_0 t_5 rfl rfl rfl rfl rfl rfl rfl rfl rfl) ?_;refine cD (d_appu rfl tt tt rfl si_ q_18 t_1 t_0 t_26 t_5 rfl (.inr rfl) q_20 q_81 q_227 ((out++[y.a]).map scv) (out++[y.a]).length (by rw [n_45]; rfl) si_ ?_);refine z_104 ?_;exact ⟨(i+1,out++[y.a]),[0,1,4],⟨do_,do_,by dsimp only; rw [hr,n_8],by dsimp only; rw [n_5,n_103]; omega⟩,⟨rfl,rfl⟩,q_8,⟨.inr ⟨_,rfl,.same rfl q_262⟩,.inr ⟨_,rfl,.same rfl q_262⟩,.inr ⟨_,rfl,.same rfl q_293⟩,tt⟩⟩
   ·rw [if_neg (by simpa using h3),n_35] at hr;refine z_73 ?_;exact ⟨(i+1,out),[0,1,2],⟨do_,do_,hr,do_⟩,⟨rfl,rfl⟩,q_8,⟨.inr ⟨_,rfl,.same rfl q_262⟩,.inr ⟨_,rfl,.same rfl q_262⟩,.inr ⟨_,rfl,.same rfl q_293⟩,tt⟩⟩
  ·have hie:i=l.length:=by simp at h2; omega
   rw [hie,n_118] at hr;replace hr:pkF l=out:=by rw [hr]; simp [pkF]
   refine z_67 ?_; refine z_119 ?_;exact ⟨_,res_all (rs:=[.tmp 4,.tmp 5]) (cs:=[_,_]) rfl q_140 (n_2 rfl),(by exact ⟨(),.ret (.tups ⟨(show Cls _ _ _ (.list ((pkF l).map scv) (gnn (pkF l).length) none) from hr ▸ .tok (fun r hr c hc=>(rows_pure (f:=scv) (fun _=>Pures.all ⟨.val _,tt⟩) _) r hr c hc)),.old (.val _),tt⟩),tt⟩)⟩
theorem pure_pkR (o:Option (List Ky)):Pure (pkR o):=pure_tup (cs:=[_,_]) ⟨pure_strs _ _,.val _,tt⟩
theorem ed_Packages (fl:List Fi) (nn:Bool) (fs:List Fi) (ns:Bool) (q1:KUok fl) (q2:KUok fs) (hcl:∀ l,chS fl fs=some l->l.length<=1000000) (σ:List CObj):CCalls CC 45 [.agg (revC fl nn),.agg (revC fs ns)] σ fun r τ=>r = .ret (pkR (chS fl fs))/\τ=σ :=
 (ccalls_any (res:=fun _:Unit=>.ret (pkR (chS fl fs))) (P:=fun _=>True) hCC (fun a h=>by simp at h; rcases h with rfl | rfl; exact pure_revq _ _; exact pure_revq _ _) (ed_Packages0 fl nn fs ns q1 q2 hcl) (fun _ _=>pure_pkR _) σ).mono fun r τ ⟨_,h1,h2,_⟩=>⟨h1,h2⟩
def srcOf (f:Fi):Option Src:=if srcPB f.p=true then parseS f.b else none
def deK (x:Src) (d:De):Nm:=keyNm d.k x.pkg d.name
def occ1 (q:Nm) (f:Fi):List (Src × De):=match srcOf f with
 | none=>[]
 | some x=>(x.decls.filter fun d=>decide (deK x d=q)).map fun d=>(x,d)
def occ (q:Nm) (fl:List Fi):List (Src × De):=fl.flatMap (occ1 q)
def EntO (ms:SM) (o:Option En):List (Src × De)->Prop
 | []=>o=none
 | (x,d)::t=>∃ e,o=some e/\e.ct=1+(t.length:Int)/\glk ms e.pl=some x/\0<=e.ix/\x.decls[e.ix.toNat]? = some d
theorem EntO.add {O:Nm->List (Src × De)} (h:∀ q,EntO ms (glk me q) (O q)) {path:Str} {x:Src} {d:De} (hg:glk ms path=some x) (hd:x.decls[i]? = some d) (q:Nm):EntO ms (glk (addE me ⟨x.pkg,d.name,d.k,path,(i:Int),1⟩) q) (O q++if deK x d=q then [(x,d)] else []):=by
 rw [addE,glk_gput];show EntO ms (if q=keyNm d.k x.pkg d.name then _ else _) _;by_cases hq:deK x d=q
 ·rw [if_pos hq];subst hq;have h1:=h (deK x d);rw [if_pos (show deK x d=keyNm d.k x.pkg d.name from rfl)];cases hO:O (deK x d) with
  | nil =>
   rw [hO] at h1;have h1:glk me (keyNm d.k x.pkg d.name)=none:=h1;simp only [h1];exact ⟨_,rfl,rfl,hg,Int.natCast_nonneg _,by simpa using hd⟩
  | cons y t =>
   obtain ⟨y,z⟩:=y;rw [hO] at h1;obtain ⟨e,h2,h3,h4,h5,h6⟩:=h1;have h2:glk me (keyNm d.k x.pkg d.name)=some e:=h2;simp only [h2];refine ⟨_,rfl,?_,h4,h5,h6⟩;show e.ct+1=1+((t++[(x,d)]).length:Int);rw [h3,n_5];simp only [n_7,n_11];omega
 ·rw [if_neg hq,n_32];rw [if_neg (fun e=>hq e.symm)];exact h q
theorem EntO.addDs {ms:SM} {path:Str} {x:Src} (hg:glk ms path=some x):∀ (n k:Nat) (me:EM) (O:Nm->List (Src × De)),x.decls.length - k=n->(∀ q,EntO ms (glk me q) (O q))->∀ q,EntO ms (glk (addDs me path x.pkg (x.decls.drop k) k) q) (O q++(((x.decls.drop k).filter fun d=>decide (deK x d=q)).map fun d=>(x,d)))
 | 0,k,me,O,hn,h,q=>by
  rw [n_34 om_,Go.Proofs.YtlppbmfecjabeaaGreatDoor.addDs];simpa using h q
 | n+1,k,me,O,hn,h,q=>by
  obtain ⟨d,hd⟩:∃ d,x.decls[k]? = some d:=⟨x.decls[k]'om_,si_⟩;rw [addDs_step hd];have h1:=EntO.addDs hg n (k+1) _ _ om_ (fun q=>EntO.add h hg hd q) q;have hdr:x.decls.drop k=d::x.decls.drop (k+1):=by
   obtain ⟨hlt,rfl⟩:=n_1.1 hd;exact n_27 hlt
  rw [hdr,n_60];by_cases hq:deK x d=q
  ·rw [if_pos (by simpa using hq),n_55];rw [if_pos hq,n_8] at h1;exact h1
  ·rw [if_neg (by simpa using hq)];rw [if_neg hq,n_32] at h1;exact h1
theorem EntO.put {o:Option En} {l:List (Src × De)} {path:Str} {x:Src} (h:EntO ms o l) (hp:glk ms path=none):EntO (gput ms path x) o l:=by
 rcases l with _ | ⟨⟨y,d⟩,t⟩
 ·exact h
 ·obtain ⟨e,h1,h2,h3,h4⟩:=h;refine ⟨e,h1,h2,?_,h4⟩;rw [glk_gput,if_neg]
  ·exact h3
  ·intro he; rw [he,hp] at h3; cases h3
structure WRd (dn:List Fi) (ms:SM) (me:EM):Prop where
 src:∀ f∈dn,glk ms f.p=srcOf f
 non:∀ p,(∀ f∈dn,f.p≠p)->glk ms p=none
 ent:∀ q,EntO ms (glk me q) (occ q dn)
theorem WRd.step {dn:List Fi} {s:WS} {f:Fi} (h:WRd dn s.2.1 s.2.2) (hf:∀ g∈dn,g.p≠f.p):WRd (dn++[f]) (wStep s f).2.1 (wStep s f).2.2:=by
 have hnone:=h.non f.p hf;have hocc:∀ q,occ q (dn++[f])=occ q dn++occ1 q f:=fun q=>by simp [occ]
 cases hs:srcOf f with
 | none =>
  have hw:(wStep s f).2=s.2:=by
   unfold wStep;unfold srcOf at hs
   split
   ·rename_i h1;rw [if_pos h1] at hs;rw [hs]
   ·rfl
  have e1:(wStep s f).2.1=s.2.1:=by rw [hw]
  have e2:(wStep s f).2.2=s.2.2:=by rw [hw]
  rw [e1,e2];refine ⟨fun g hg=>?_,fun p hp=>h.non p fun g hg=>hp g (by simp [hg]),fun q=>?_⟩
  ·rcases n_18.1 hg with hg | hg
   ·exact h.src g hg
   ·rw [n_115.1 hg,hs]; exact hnone
  ·rw [hocc,occ1,hs,n_32]; exact h.ent q
 | some x =>
  have hw:(wStep s f).2=(gput s.2.1 f.p x,addDs s.2.2 f.p x.pkg x.decls 0):=by
   unfold wStep;unfold srcOf at hs;split at hs
   ·rename_i h1;rw [if_pos h1,hs]
   ·cases hs
  have e1:(wStep s f).2.1=gput s.2.1 f.p x:=by rw [hw]
  have e2:(wStep s f).2.2=addDs s.2.2 f.p x.pkg x.decls 0:=by rw [hw]
  rw [e1,e2];refine ⟨fun g hg=>?_,fun p hp=>?_,fun q=>?_⟩
  ·rw [glk_gput]
   rcases n_18.1 hg with hg | hg
   ·rw [if_neg (hf g hg)]; exact h.src g hg
   ·rw [n_115.1 hg,if_pos rfl,hs]
  ·rw [glk_gput,if_neg (fun e=>hp f si_ e.symm)];exact h.non p fun g hg=>hp g (by simp [hg])
  ·rw [hocc,occ1,hs];have hg:glk (gput s.2.1 f.p x) f.p=some x:=by rw [glk_gput,if_pos rfl]
   have:=EntO.addDs hg _ 0 s.2.2 (fun q=>occ q dn) rfl (fun q=>(h.ent q).put hnone) q;simpa using this
theorem findE_ct0 {k:Int} {o:Str} (h:glk me (keyNm k p o)=none):(findE true me k p o).ct=0:=by
 unfold findE;rw [if_pos rfl,h]
theorem ofNat_inj {n m:Nat} (hn:n < 256) (hm:m < 256) (h:UInt8.ofNat n=UInt8.ofNat m):n=m:=by
 have:=congrArg UInt8.toNat h;rw [UInt8.toNat_ofNat',UInt8.toNat_ofNat'] at this;have e1:n%2^8=n:=n_96 om_;have e2:m%2^8=m:=n_96 om_;omega
theorem putU_inj:∀ (n m:Nat) (r t:Str),putU n++r=putU m++t->n=m/\r=t:=fun n=>by
 induction n using Nat.strongRecOn with
 | ind n ih =>
  intro m r t h;rw [putU_step n,putU_step m] at h;split at h
  ·rename_i hn;split at h
   ·rename_i hm;simp only [n_53,n_35,List.cons.injEq] at h;exact ⟨ofNat_inj om_ om_ h.1,h.2⟩
   ·rename_i hm;simp only [n_53,n_35,List.cons.injEq] at h;have:=ofNat_inj om_ om_ h.1;omega
  ·rename_i hn;split at h
   ·rename_i hm;simp only [n_53,n_35,List.cons.injEq] at h;have:=ofNat_inj om_ om_ h.1;omega
   ·rename_i hm;simp only [n_53,List.cons.injEq] at h;have h1:=ofNat_inj om_ om_ h.1;obtain ⟨h2,h3⟩:=ih (n / 128) om_ (m / 128) r t h.2;exact ⟨om_,h3⟩
theorem putU_ne (n:Nat):putU n≠[]:=by
 rw [putU_step]
 split <;> simp
def encT (s:Str):Str:=putU s.length++s
theorem putT_enc (l s:Str):putT l s=l++encT s:=by unfold putT encT; rw [n_8]
theorem encT_inj {s s' r r':Str} (h:encT s++r=encT s'++r'):s=s'/\r=r':=by
 unfold encT at h;rw [n_8,n_8] at h;obtain ⟨h1,h2⟩:=putU_inj _ _ _ _ h;exact List.append_inj h2 h1
theorem encT_ne (s:Str):encT s≠[]:=fun h=>putU_ne _ (List.append_eq_nil_iff.1 h).1
theorem treT_enc (ms:SM) (fl:List Fi):∀ (N:List Str) (l:Str),treT ms fl l N=l++N.flatMap fun s=>encT s++encT (filesC ms fl s)
 | [],l=>by simp [treT]
 | s::N,l=>by
  have:treT ms fl l (s::N)=treT ms fl (putT (putT l s) (filesC ms fl s)) N:=rfl;rw [this,treT_enc ms fl N,putT_enc,putT_enc,n_81];simp
theorem encN_inj {g g':Str->Str}:∀ {l m:List Str},(l.flatMap fun s=>encT s++encT (g s))=(m.flatMap fun s=>encT s++encT (g' s))->l=m/\∀ s∈l,g s=g' s
 | [],[],_=>⟨rfl,fun s hs=>by simp at hs⟩
 | [],f::m,h=>by
  rw [n_81,n_8] at h;exact absurd (List.append_eq_nil_iff.1 h.symm).1 (encT_ne _)
 | f::l,[],h=>by
  rw [n_81,n_8] at h;exact absurd (List.append_eq_nil_iff.1 h).1 (encT_ne _)
 | x::l,y::m,h=>by
  rw [n_81,n_81,n_8,n_8] at h;obtain ⟨h1,h2⟩:=encT_inj h;obtain ⟨h3,h4⟩:=encT_inj h2;obtain ⟨h5,h6⟩:=encN_inj h4;subst h1 h5;exact ⟨rfl,fun s hs=>by
   rcases n_13.1 hs with rfl | hs
   ·exact h3
   ·exact h6 s hs⟩
theorem nodup_of (P:Str->Prop):∀ l:List Str,∃ N:List Str,N.Nodup/\∀ n,n∈N↔n∈l/\P n
 | []=>⟨[],si_,fun n=>by simp⟩
 | x::l=>by
  obtain ⟨N,h1,h2⟩:=nodup_of P l;by_cases hx:P x/\x∉N
  ·refine ⟨x::N,List.nodup_cons.2 ⟨hx.2,h1⟩,fun n=>?_⟩;simp only [n_13,h2];constructor
   ·rintro (rfl | ⟨a,b⟩)
    ·exact ⟨.inl rfl,hx.1⟩
    ·exact ⟨.inr a,b⟩
   ·rintro ⟨rfl | a,b⟩
    ·exact .inl rfl
    ·exact .inr ⟨a,b⟩
  ·refine ⟨N,h1,fun n=>?_⟩;rw [h2,n_13];constructor
   ·rintro ⟨a,b⟩;exact ⟨.inr a,b⟩
   ·rintro ⟨rfl | a,b⟩
    ·exact (h2 n).1 (Classical.byContradiction fun h=>hx ⟨b,h⟩)
    ·exact ⟨a,b⟩
theorem treeNs_mem (ms:SM) (fl:List Fi) (pkg n:Str):n∈treeNs ms fl pkg↔Reach ms fl pkg n:=by
 obtain ⟨N,h1,h2⟩:=nodup_of (Reach ms fl pkg) (pkg::allI ms fl);have h3:∀ n,n∈N↔Reach ms fl pkg n:=fun n=>(h2 n).trans ⟨fun h=>h.2,fun h=>⟨reach_in h,h⟩⟩;rw [treeNs_eq h1 h3,<- h3];exact (n_119 N _).mem_iff
theorem treeC_inj {ms':SM} (h:treeC ms fl p=treeC ms' fs p):treeNs ms fl p=treeNs ms' fs p/\∀ s∈treeNs ms fl p,filesC ms fl s=filesC ms' fs s:=by
 unfold treeC at h;rw [treT_enc,treT_enc,n_35,n_35] at h;exact encN_inj (List.append_cancel_left h)
theorem rvE_ok:∀ {l:List Fi} {pv:Option Fi},(∀ f∈l,pathB f.p=true/\f.b.length<=16384)->SrtF l->(∀ g,pv=some g->∀ f∈l,Op.bytesLess g.p f.p=true)->rvE pv l=0
 | [],_,_,_,_=>rfl
 | f::l,pv,h,hs,hp=>by
  obtain ⟨h1,h2⟩:=n_49.1 hs;have hf:=h f si_;have e0:rvStep pv f=0:=by
   unfold rvStep;rw [if_neg (by rw [hf.1]; simp)];cases pv with
   | none =>
    rw [if_neg si_,if_neg si_,if_neg om_]
   | some g =>
    have hg:=hp g rfl f si_;have hne:¬ f.p=g.p:=fun e=>by rw [e,bl_irr] at hg; cases hg
    have hnl:¬ Op.bytesLess f.p g.p=true:=fun e=>by
     have:=bl_trans hg e;rw [bl_irr] at this; cases this
    rw [if_neg (by simpa using hne),if_neg (by simpa using hnl),if_neg om_]
  rw [rvE,if_pos e0];exact rvE_ok (fun g hg=>h g (by simp [hg])) h2 fun g hg=>by injection hg with hg; subst hg; exact h1
theorem path_all:∀ s∈madeAll,pathB s=true/\s.length<=1000:=by decide
theorem MadeR.valid {B:Nat} (h:MadeR B fl) (hB:B<=16384):revE fl=0:=by
 have hl:=h.len;unfold revE;rw [if_neg om_];exact rvE_ok (fun f hf=>⟨(path_all _ (h.pth f hf)).1,n_87 (h.byt f hf) hB⟩) h.srt fun g hg=>by cases hg
theorem coarse_tree (h:contF fl (newW fl).2.1 (newW fl).2.2 ev ⟨7,p,[]⟩=contF fs (newW fs).2.1 (newW fs).2.2 ev ⟨7,p,[]⟩):contF fl (newW fl).2.1 (newW fl).2.2 ev ⟨6,p,[]⟩=contF fs (newW fs).2.1 (newW fs).2.2 ev ⟨6,p,[]⟩ :=
 (treeC_inj h).2 p ((treeNs_mem _ _ _ _).2 .base)
theorem gput_mem {α β:Type} [DecidableEq α] {a:α} {c:β} {x:α × β}:∀ {l:List (α × β)},x∈gput l a c->x=(a,c)\/x∈l
 | [],h=>.inl (by simpa [gput] using h)
 | (b,d)::l,h=>by
  rw [gput] at h;split at h
  ·rename_i hab;subst hab
   rcases n_13.1 h with h | h
   ·exact .inl h
   ·exact .inr (n_69 _ h)
  ·rcases n_13.1 h with h | h
   ·exact .inr (h ▸ n_104)
   ·exact (gput_mem h).imp id (n_69 _)
theorem gput_len {α β:Type} [DecidableEq α] {a:α} {c:β}:∀ {l:List (α × β)},(gput l a c).length<=l.length+1
 | []=>n_4 _
 | (b,d)::l=>by
  rw [gput]
  split
  ·simp
  ·have:=gput_len (a:=a) (c:=c) (l:=l); simp only [n_7]; omega
theorem glk_in {α β:Type} [DecidableEq α] {l:List (α × β)} {a:α} {c:β} (h:glk l a=some c):(a,c)∈l:=by
 obtain ⟨i,hi,_⟩:=glk_some h;exact n_0 hi
structure EnV (q:Nm) (e:En):Prop where
 key:q=keyNm e.k e.p e.o
 kind:e.k=1\/e.k=2\/e.k=3
 pkg:nameB e.p=true
 own:e.k≠3->nameB e.o=true
 pth:e.k=3->pathB e.o=true
theorem addE_v {x:En} (hx:EnV (keyNm x.k x.p x.o) x) (h:∀ y∈me,EnV y.1 y.2):∀ y∈addE me x,EnV y.1 y.2:=fun y hy=>by
 unfold addE at hy
 rcases gput_mem hy with rfl | hy
 ·dsimp only
  split
  ·rename_i f hf;have:=h _ (glk_in hf);exact ⟨this.key,this.kind,this.pkg,this.own,this.pth⟩
  ·exact hx
 ·exact h y hy
theorem addDs_v {path pkg:Str} (hp:nameB pkg=true):∀ (l:List De) (k:Nat) (me:EM),(∀ d∈l,DeG d)->(∀ y∈me,EnV y.1 y.2)->(∀ y∈addDs me path pkg l k,EnV y.1 y.2)/\(addDs me path pkg l k).length<=me.length+l.length
 | [],k,me,_,h=>⟨h,n_4 _⟩
 | d::l,k,me,hd,h=>by
  have hg:=hd d n_104;obtain ⟨h1,h2⟩:=addDs_v hp l (k+1) (addE me ⟨pkg,d.name,d.k,path,k,1⟩) (fun e he=>hd e (n_69 _ he)) (addE_v ⟨rfl,hg.kind,hp,fun h3=>(hg.name h3).1,hg.path⟩ h);refine ⟨h1,n_87 h2 ?_⟩;have h3:(addE me ⟨pkg,d.name,d.k,path,k,1⟩).length<=me.length+1:=gput_len;rw [n_7];omega
structure WV (n:Nat) (s:WS):Prop where
 src:∀ x∈s.2.1,SrcG x.2
 ent:∀ x∈s.2.2,EnV x.1 x.2
 sl:s.2.1.length<=n
 el:s.2.2.length<=64*n
theorem WV.step {n:Nat} {s:WS} (h:WV n s) (f:Fi):WV (n+1) (wStep s f):=by
 unfold wStep;have hel:=h.el;have hsl:=h.sl
 split
 ·cases hp:parseS f.b with
  | none=>exact ⟨h.src,h.ent,Nat.le_succ_of_le hsl,do_⟩
  | some x =>
   have hx:=parseS_ok hp;obtain ⟨h1,h2⟩:=addDs_v (path:=f.p) hx.pkg.1 x.decls 0 s.2.2 hx.dec h.ent;have hd:=hx.decl;have:=gput_len (a:=f.p) (c:=x) (l:=s.2.1);refine ⟨fun y hy=>?_,h1,do_,do_⟩
   rcases gput_mem hy with rfl | hy
   ·exact hx
   ·exact h.src y hy
 ·exact ⟨h.src,h.ent,Nat.le_succ_of_le hsl,om_⟩
theorem newF_v:∀ {l:List Fi} {n:Nat} {s:WS},WV n s->WV (n+l.length) (newF l s)
 | [],n,s,h=>h
 | f::l,n,s,h=>by
  have:=newF_v (l:=l) (h.step f);rw [show n+1+l.length=n+(f::l).length by simp; omega] at this;exact this
theorem newW_v (fl:List Fi):WV fl.length (newW fl):=by
 unfold newW
 split
 ·simpa using newF_v (l:=fl) (n:=0) (s:=([],[],[])) ⟨fun x h=>by simp at h,fun x h=>by simp at h,n_4 _,n_4 _⟩
 ·exact ⟨fun x h=>by simp at h,fun x h=>by simp at h,n_3 _,n_3 _⟩
theorem enKy_ok {q:Nm} {e:En} (h:EnV q e):keyB (enKy e)=true:=by
 unfold enKy
 rcases h.kind with hk | hk | hk
 ·rw [if_pos hk]; simp [keyB,h.pkg,h.own om_]
 ·rw [if_neg om_,if_pos hk]; simp [keyB,h.pkg,h.own om_]
 ·rw [if_neg om_,if_neg om_]; simp [keyB,h.pth hk]
theorem srcK_ok {x:Src} (h:SrcG x):∀ k∈srcK x,keyB k=true:=fun k hk=>by
 obtain ⟨s,hs,hk⟩:=n_80.1 hk;have hn:nameB s=true:=by
  rcases n_13.1 hs with rfl | hs
  ·exact h.pkg.1
  ·exact (h.imp s hs).1
 simp only [key2,n_13,n_79,or_false] at hk
 rcases hk with rfl | rfl <;> simp [keyB,hn]
theorem ku_ok (h:revE fl=0):∀ k∈KU fl,keyB k=true:=fun k hk=>by
 obtain ⟨h1,h2⟩:=revE_all h;have hv:=newW_v fl;unfold KU at hk
 rcases n_18.1 hk with hk | hk
 ·rcases n_18.1 hk with hk | hk
  ·obtain ⟨f,hf,rfl⟩:=n_9.1 hk;simp [dataK,keyB,(h2 f hf).1]
  ·obtain ⟨e,he,rfl⟩:=n_9.1 hk;obtain ⟨x,hx,rfl⟩:=n_9.1 he;exact enKy_ok (hv.ent x hx)
 ·obtain ⟨x,hx,hk⟩:=n_80.1 hk;obtain ⟨y,hy,rfl⟩:=n_9.1 hx;exact srcK_ok (hv.src y hy) k hk
theorem keyB_len (h:keyB k=true):k.a.length<=100/\k.b.length<=100:=by
 obtain ⟨h1,h2⟩:=key_kind h;refine ⟨h2,?_⟩;unfold keyB at h;split at h
 ·have:=nameB_len (n_86.1 h).2; omega
 ·split at h
  ·have:=of_decide_eq_true (n_86.1 h).2; rw [this]; exact n_3 _
  ·split at h
   ·have:=of_decide_eq_true (n_86.1 h).2; rw [this]; exact n_3 _
   ·cases h
theorem keyB_b (h:keyB k=true) (h1:k.k≠1) (h2:k.k≠2):k.b=[]:=by
 unfold keyB at h;rw [if_neg (by simp [h1,h2])] at h;split at h
 ·exact of_decide_eq_true (n_86.1 h).2
 ·split at h
  ·exact of_decide_eq_true (n_86.1 h).2
  ·cases h
theorem KUok.of (h:revE fl=0):KUok fl:=by
 obtain ⟨h1,h2⟩:=revE_all h;have hv:=newW_v fl;have h3:=hv.el;have h4:=hv.sl;exact ⟨fun f hf=>by have:=pathB_len (h2 f hf).1; omega,h1,om_,om_,fun x hx=>(hv.src x hx).impl,fun k hk=>by have:=keyB_len (ku_ok h k hk); omega⟩
def dflC (k:Ky):Str:=if k.k=6 then [61] else if k.k=7 then [61]++putT (putT [] k.a) [61] else [45]
noncomputable def conF (fl:List Fi) (ev:List Va) (k:Ky):Str:=contF fl (newW fl).2.1 (newW fl).2.2 ev k
theorem files_none (h:(⟨6,a,[]⟩:Ky)∉KU fl):filesF (newW fl).2.1 fl a=[]:=by
 unfold filesF;rw [List.filter_eq_nil_iff];intro f hf hh;rw [n_86] at hh;cases hg:glk (newW fl).2.1 f.p with
 | none=>rw [hg] at hh; cases hh.1
 | some x =>
  rw [hg] at hh;have hx:x.pkg=a:=of_decide_eq_true hh.2;refine h (n_110 _ (n_80.2 ⟨x,n_9.2 ⟨_,glk_in hg,rfl⟩,n_80.2 ⟨x.pkg,n_104,?_⟩⟩));rw [hx];simp [key2]
theorem ent_none {k:Int} {o:Str} (hk:k=1\/k=2\/k=3) (h:(if k=3 then (⟨3,o,[]⟩:Ky) else ⟨k,p,o⟩)∉KU fl):glk (newW fl).2.2 (keyNm k p o)=none:=by
 cases hg:glk (newW fl).2.2 (keyNm k p o) with
 | none=>rfl
 | some e =>
  have hv:=(newW_v fl).ent _ (glk_in hg);have hq:=hv.key;dsimp only at hq;simp only [keyNm,Nm.mk.injEq] at hq;obtain ⟨q1,q2,q3⟩:=hq;exfalso;refine h (n_83 _ (n_110 _ (n_9.2 ⟨e,n_9.2 ⟨_,glk_in hg,rfl⟩,?_⟩)));unfold enKy
  rcases hk with hk | hk | hk <;> subst hk
  ·rw [if_pos q1.symm,if_neg de_];rw [if_neg de_,if_neg om_] at q2;rw [<- q2,<- q3]
  ·rw [if_neg om_,if_pos q1.symm,if_neg de_];rw [if_neg de_,if_neg om_] at q2;rw [<- q2,<- q3]
  ·rw [if_neg om_,if_neg om_,if_pos rfl,<- q3]
theorem ky_eta {n:Int} (h:k.k=n) (hb:k.b=[]):(⟨n,k.a,[]⟩:Ky)=k:=by
 obtain ⟨a,b,c⟩:=k;simp only at h hb;subst h hb;rfl
theorem con_dfl (hk:keyB k=true) (hn:k∉KU fl) (hv:k∉ev.map varK):conF fl ev k=dflC k:=by
 have decl0:∀ {n:Int} {p o:Str},glk (newW fl).2.2 (keyNm n p o)=none->declF (newW fl).2.1 (findE true (newW fl).2.2 n p o)=[45]:=fun h=>by rw [declF,if_pos (findE_ct0 h)]
 have hb:=keyB_b hk;unfold conF contF dflC
 rcases (key_kind hk).1 with h | h | h | h | h | h | h
 ·rw [h];refine decl0 (ent_none (.inl rfl) fun hm=>hn ?_);rw [if_neg de_,<- h] at hm; exact hm
 ·rw [h];refine decl0 (ent_none (.inr (.inl rfl)) fun hm=>hn ?_);rw [if_neg de_,<- h] at hm; exact hm
 ·rw [h];refine decl0 (ent_none (.inr (.inr rfl)) fun hm=>hn ?_);rw [if_pos rfl,ky_eta h (hb om_ om_)] at hm; exact hm
 ·rw [h];show (if (dataF fl k.a).isSome then [61]++(dataF fl k.a).getD [] else [45])=[45];have:dataF fl k.a=none:=by
   unfold dataF;rw [Option.map_eq_none_iff,n_117];intro f hf hh;refine hn (n_83 _ (n_83 _ (n_9.2 ⟨f,hf,?_⟩)));rw [dataK,of_decide_eq_true hh,ky_eta h (hb om_ om_)]
  rw [this]; rfl
 ·rw [h];show (if (varF ev k.a).isSome then [61]++Lib.itoa ((varF ev k.a).getD 0) else [45])=[45];have:varF ev k.a=none:=by
   unfold varF;rw [Option.map_eq_none_iff,n_117];intro v hf hh;refine hv (n_9.2 ⟨v,hf,?_⟩);rw [varK,of_decide_eq_true hh,ky_eta h (hb om_ om_)]
  rw [this]; rfl
 ·rw [h];show filesC (newW fl).2.1 fl k.a=[61];rw [filesC,files_none (by rw [ky_eta h (hb om_ om_)]; exact hn)]; rfl
 ·have h6:(⟨6,k.a,[]⟩:Ky)∉KU fl:=fun hm=>by
   refine hn ?_;unfold KU at hm ⊢
   rcases n_18.1 hm with hm | hm
   ·rcases n_18.1 hm with hm | hm
    ·obtain ⟨f,_,hf⟩:=n_9.1 hm;simp [dataK] at hf
    ·obtain ⟨e,_,he⟩:=n_9.1 hm;unfold enKy at he;split at he
     ·simp at he
     ·split at he <;> simp at he
   ·obtain ⟨x,hx,hm⟩:=n_80.1 hm;obtain ⟨s,hs,hm⟩:=n_80.1 hm;have hsa:s=k.a:=by simp [key2] at hm; exact hm.symm
    refine n_110 _ (n_80.2 ⟨x,hx,n_80.2 ⟨s,hs,?_⟩⟩);rw [<- ky_eta h (hb om_ om_),hsa];simp [key2]
  have hf:=files_none h6;have hr:∀ n,n∈[k.a]↔Reach (newW fl).2.1 fl k.a n:=fun n=>by
   rw [n_115];constructor
   ·rintro rfl; exact .base
   ·intro hr
    induction hr with
    | base=>rfl
    | step _ hff _ ih=>subst ih; rw [hf] at hff; cases hff
  rw [h];show treeC (newW fl).2.1 fl k.a=[61]++putT (putT [] k.a) [61];rw [treeC,treeNs_eq si_ hr];have:srtS [k.a]=[k.a]:=by simp [srtS]
  rw [this];show [61]++putT (putT [] k.a) (filesC (newW fl).2.1 fl k.a)=_;rw [filesC,hf]; rfl
theorem diffK_filter (f g:Ky->Str):∀ l:List Ky,diffK l (l.map f) (l.map g)=l.filter fun k=>decide (f k≠g k)
 | []=>rfl
 | k::l=>by
  rw [n_55,n_55,diffK,n_60,diffK_filter f g l];by_cases h:f k=g k
  ·rw [if_pos h,if_neg (by simp [h])]
  ·rw [if_neg h,if_pos (by simp [h])]
noncomputable def chL (fl:List Fi) (ev:List Va) (fs:List Fi) (ew:List Va):List Ky:=(setK (KU fl++KU fs++(ev.map varK++ew.map varK))).filter fun k=>decide (conF fl ev k≠conF fs ew k)
theorem evB_name:∀ {l:List Va} {pv:Option Va},evB pv l=true->∀ v∈l,nameB v.n=true
 | [],_,_,v,hv=>by cases hv
 | w::l,pv,h,v,hv=>by
  rw [evB,n_86] at h
  rcases n_13.1 hv with rfl | hv
  ·have:=h.1;unfold evStep at this;simp only [n_29] at this;exact this.1.1
  ·exact evB_name h.2 v hv
theorem envB_name (h:envB ev=true):∀ v∈ev,nameB v.n=true:=evB_name (n_86.1 h).2
theorem vark_ok (h:envB ev=true):∀ k∈ev.map varK,keyB k=true:=fun k hk=>by
 obtain ⟨v,hv,rfl⟩:=n_9.1 hk;have:=envB_name h v hv;simp [varK,keyB,this]
theorem uni_ok (h1:revE fl=0) (h2:revE fs=0) (h3:envB ev=true) (h4:envB ew=true):∀ k∈setK (KU fl++KU fs++(ev.map varK++ew.map varK)),keyB k=true:=fun k hk=>by
 rw [(setK_spec _).2] at hk;simp only [n_18] at hk
 rcases hk with (hk | hk) | hk | hk
 ·exact ku_ok h1 k hk
 ·exact ku_ok h2 k hk
 ·exact vark_ok h3 k hk
 ·exact vark_ok h4 k hk
theorem allS_some (h1:revE fl=0) (h2:revE fs=0) (h3:envB ev=true) (h4:envB ew=true):allS fl ev fs ew=some (chL fl ev fs ew):=by
 have hu:=uni_ok h1 h2 h3 h4;have c1:∀ l,(∀ k∈l,keyB k=true)->contS fl ev l=some (l.map (conF fl ev)):=fun l hl=>by rw [contS,if_pos ⟨h1,h3,n_21.2 hl⟩]; rfl
 have c2:∀ l,(∀ k∈l,keyB k=true)->contS fs ew l=some (l.map (conF fs ew)):=fun l hl=>by rw [contS,if_pos ⟨h2,h4,n_21.2 hl⟩]; rfl
 rw [<- setF_setK] at hu;rw [allS,c1 [] si_,c2 [] si_,if_pos ⟨rfl,rfl⟩,c1 _ hu,c2 _ hu,n_6,n_99,diffK_filter,chL,setF_setK]
theorem chL_mem (h1:revE fl=0) (h2:revE fs=0) (h3:envB ev=true) (h4:envB ew=true) (k:Ky):k∈chL fl ev fs ew↔keyB k=true/\conF fl ev k≠conF fs ew k:=by
 rw [chL,n_92,n_48];constructor
 ·rintro ⟨hm,hd⟩;exact ⟨uni_ok h1 h2 h3 h4 k hm,hd⟩
 ·rintro ⟨hk,hd⟩;refine ⟨?_,hd⟩;rw [(setK_spec _).2];by_cases hm:k∈KU fl++KU fs++(ev.map varK++ew.map varK)
  ·exact hm
  ·simp only [n_18,not_or] at hm;exact absurd ((con_dfl hk hm.1.1 hm.2.1).trans (con_dfl hk hm.1.2 hm.2.2).symm) hd
theorem chL_srt (fl fs:List Fi) (ev ew:List Va):SrtK (chL fl ev fs ew):=(setK_spec _).1.filter _
theorem chL_swap (h1:revE fl=0) (h2:revE fs=0) (h3:envB ev=true) (h4:envB ew=true):chL fl ev fs ew=chL fs ew fl ev :=
 srtK_ext (chL_srt _ _ _ _) (chL_srt _ _ _ _) fun k=>by rw [chL_mem h1 h2 h3 h4,chL_mem h2 h1 h4 h3,ne_comm]
theorem chL_two {fu:List Fi} (h1:revE fl=0) (h2:revE fs=0) (h3:revE fu=0):setK (setK (chL fl [] fs []++chL fs [] fu [])++chL fl [] fu [])=setK (chL fl [] fs []++chL fs [] fu []) :=
 srtK_ext (setK_spec _).1 (setK_spec _).1 fun k=>by
  rw [(setK_spec _).2,n_18,or_iff_left_of_imp];intro hk;rw [(setK_spec _).2,n_18,chL_mem h1 h2 rfl rfl,chL_mem h2 h3 rfl rfl];rw [chL_mem h1 h3 rfl rfl] at hk;by_cases hh:conF fl [] k=conF fs [] k
  ·exact .inr ⟨hk.1,fun e=>hk.2 (hh.trans e)⟩
  ·exact .inl ⟨hk.1,hh⟩
theorem chL_len (h1:fl.length<=64) (h2:fs.length<=64) (h3:ev.length<=1000) (h4:ew.length<=1000):(chL fl ev fs ew).length<=100000:=by
 have ku:∀ l:List Fi,l.length<=64->(KU l).length<=10000:=fun l hl=>by
  have hv:=newW_v l;have e1:=hv.el;have e2:=hv.sl;have e3:∀ ss:List Src,(∀ x∈ss,x.imports.length<=8)->(ss.flatMap srcK).length<=18*ss.length:=fun ss=>by
   induction ss with
   | nil=>intro _; exact n_4 _
   | cons x ss ih =>
    intro hs;have:=ih fun y hy=>hs y (n_69 _ hy);have hx:=hs x n_104;have e4:∀ t:List Str,(t.flatMap key2).length=2*t.length:=fun t=>by
     induction t with
     | nil=>rfl
     | cons y t ih=>rw [n_81,n_5,ih]; simp [key2]; omega
    rw [n_81,n_5,n_7,srcK,e4,n_7];omega
  have e5:=e3 ((newW l).2.1.map Prod.snd) fun x hx=>by
   obtain ⟨y,hy,rfl⟩:=n_9.1 hx;exact (hv.src y hy).impl
  unfold KU;rw [n_5,n_5,n_17,n_17,n_17];rw [n_17] at e5;omega
 have h5:=ku fl h1;have h6:=ku fs h2;have h7:=setK_len (KU fl++KU fs++(ev.map varK++ew.map varK));simp only [n_5,n_17] at h7;have h8:(chL fl ev fs ew).length<=_:=List.length_filter_le _ _;omega
theorem zpath:∀ m:Nat,m < 3->([122]++digS m++[46,115,114,99]:Str)∈madeAll:=fun m hm=>by
 have h3:m=0\/m=1\/m=2:=by omega
 rcases h3 with rfl | rfl | rfl <;> rw [digS_lt om_] <;> decide
theorem mk_Edit0 (l:List Int) (nn:Bool) (k:Nat) (hat:k<=500000000) (hl:l.length<=maxLen) (B:Nat) (hB:6300<=B/\B<=1000000) (fl:List Fi) (hm:MadeR B fl):CCalls CC 28 [.ptr 0 0,(.agg (revC fl (gnn fl.length)))] [tapeC l nn k] fun r τ=>∃ a:List Fi × Nat,FinR 1 τ r (.ret (.agg (revC a.1 (gnn a.1.length)))) [tapeC l nn a.2]/\(MadeR (B+1240) a.1/\k<=a.2/\a.2<=k+1080):=by
 refine (ccalls_of Tryz.func28 rfl rfl ?_);refine z_10 ?_;refine cD (d_alloc rfl t_41 rfl q_290 ?_);refine z_31 ?_; refine cY (y_callf rfl Tryz.call66 trivial (mk_sources_s _) rfl) ?_;refine cD (d_callv rfl t_18 q_297 (tape_one l nn (k) _ 0 rfl om_ hl madeSources de_ de_) rfl ?_);intro sp hsp;have hspa:=src_all _ hsp;have hml:=hm.len;refine z_1 ?_; refine cw_cutd hCC (α:=Nat) (fun _=>[(0,.ptr 0 0),(3,.ptr 1 0),(4,.ptr 2 0),(5,(sv (sp)))]) (fun p=>[tapeC l nn (p),.box (revC fl (gnn fl.length)),.box (revC [] false)]) (fun p=>p=k+2) q_276 uz_ ?_ ?_
 ·
  refine z_2 ?_;refine cD (d_callv rfl t_20 q_294 (tape_next l nn (k+1) _ 0 rfl om_ hl 9 om_) rfl ?_);intro _ _; refine z_182 ?_; refine cC (fun h1=>?_) fun h1=>?_
  ·refine cw_seq ?_; refine cw_float [0,1,2,4,3,5,6,7,8] 4 [0,0,0,6,0,30,62,127,255] [[0,3],[0],[0],[],[]] (hd1l:=[0,1,2,4]) (tll:=[(3,[0,3]),(5,[0]),(6,[0]),(7,[]),(8,[])]) q_291 q_291 rfl rfl rfl ?_; refine z_120 ?_; refine chf rfl (hop_y rfl q_50) ?_; refine z_126 ?_;refine ctl_d rfl rfl (d_callv rfl t_18 q_297 (tape_one l nn (k+2) _ 0 rfl om_ hl madeDat de_ de_) rfl ?_);intro v hv;refine ⟨⟨q_100,q_184,tt⟩,?_⟩;refine ctl_d rfl rfl (d_callv rfl Tryz.call70 ⟨tt,tt⟩ (mk_data l nn (k+3) om_ hl _ 0 rfl) rfl ?_);intro ⟨s,p4⟩ ⟨hs,hq1,hq2⟩;dsimp only at hs hq1 hq2 ⊢;refine ⟨⟨q_100,tt⟩,?_⟩;refine ctl_h rfl q_42 ⟨⟨q_100,tt⟩,?_⟩;refine ctl_h rfl (hop_y rfl (y_callf rfl t_61 q_297 (mk_insert fl _ ⟨v,s⟩ om_ _) rfl)) ⟨tt,?_⟩;refine z_253 ?_;exact ⟨_,res_one rfl q_112,⟨(insF fl ⟨v,s⟩,p4),fin1 rfl q_283 (.old (pure_rev _ _).old),(hm.mono om_).ins (dat_all _ hv) do_,do_,do_⟩⟩
  ·refine z_27 ?_; refine cC (fun h2=>?_) fun h2=>?_
   ·refine cw_seq ?_; refine cw_float [0,1,2,3,4,5] 3 [0,0,0,6,15,31] [[0],[],[]] (hd1l:=[0,1,2]) (tll:=[(3,[0]),(4,[]),(5,[])]) q_291 q_291 rfl rfl rfl ?_; refine z_120 ?_; refine chf rfl (hop_y rfl (y_lit (([[97,46,100,97,116],[100,47,98,46,100,97,116],[99],[97,46,115,114,99],[98,46,115,114,99]]:List Str).map scv) rfl ⟨rfl,rfl,rfl,rfl,rfl,tt⟩ t_1 t_0 t_5 rfl rfl rfl rfl rfl rfl rfl rfl rfl)) ?_; refine chf_nil ?_;refine ctl_d rfl rfl (d_callv rfl t_18 q_297 (tape_one l nn (k+2) _ 0 rfl om_ hl ([[97,46,100,97,116],[100,47,98,46,100,97,116],[99],[97,46,115,114,99],[98,46,115,114,99]]:List Str) de_ de_) rfl ?_);intro v hv;refine ⟨⟨q_100,tt⟩,?_⟩;refine ctl_h rfl (hop_y rfl (y_callf rfl Tryz.call71 q_297 (mk_remove fl _ v om_ _) rfl)) ⟨tt,?_⟩;refine z_253 ?_;exact ⟨_,res_one rfl q_112,⟨(remF fl v,k+3),fin1 rfl q_283 (.old (pure_rev _ _).old),(hm.mono om_).rem v,do_,do_⟩⟩
   ·refine z_27 ?_; refine cC (fun h3=>?_) fun h3=>?_
    ·refine cw_seq ?_; refine z_43 ?_; refine chf rfl q_208 ?_; refine chf rfl q_208 ?_; refine chf rfl q_208 ?_; refine chf rfl q_130 ?_; refine z_201 ?_; intro v hv;have hv8:v.length<=8:=len_made (.inl hv);refine z_178 ?_; intro ⟨s,p4⟩ ⟨hs,hq1,hq2⟩;dsimp only at hs hq1 hq2 ⊢;refine z_215 ?_; refine z_139 ?_;exact z_137
    ·refine z_27 ?_; refine cC (fun h4=>?_) fun h4=>?_
     ·refine z_276 ?_; refine cw_loopd hCC (fun i:Nat=>[(0,.ptr 0 0),(3,.ptr 1 0),(4,.ptr 2 0),(5,(sv (sp))),(50,(.list (fl.map Fi.cv) (gnn fl.length) none)),(51,(.val (.int .i64 ((fl.length:Int))))),(52,(.val (.int .i64 ((i:Int)))))]) (fun _=>[tapeC l nn (k+2),.box (revC fl (gnn fl.length)),.box (revC [] false)]) (fun i=>i<=fl.length) (fun i=>fl.length - i) 0 (n_3 _) tu_ (extra0:=[]) rfl q_276 uz_ ?_; intro i hi; refine z_30 ?_; refine cC (fun h5=>?_) fun h5=>?_
      ·have hlt:i < fl.length:=by simp at h5; omega
       obtain ⟨y,hb,hym⟩:=get_ex hlt;have hyb:=hm.byt y hym;refine z_268 ?_; refine z_190 ?_; refine cC (fun h6=>?_) fun h6=>?_
       ·have hrl:(remF fl sp).length<=fl.length:=List.length_filter_le _ _;have hb3:=tapeN_lt (l:=l) (k:=k+2) (n:=3) om_;obtain ⟨m,hmm⟩:∃ m:Nat,tapeN l (k+2) 3=(m:Int):=⟨(tapeN l (k+2) 3).toNat,om_⟩;have hm3:m < 3:=by omega
        have hzp:=zpath m hm3;have hdl:=digS_len 0 m om_;refine cw_seq ?_; refine cw_float [0,1,2,3,8,9,4,5,6,7,10,11,12] 6 [0,0,3,0,15,31,63,127,0,256,1023,2047,4095] [[4,5],[4,5],[4,5],[4,5],[],[],[]] (hd1l:=[0,1,2,3,8,9]) (tll:=[(4,[4,5]),(5,[4,5]),(6,[4,5]),(7,[4,5]),(10,[]),(11,[]),(12,[])]) q_291 q_291 rfl rfl rfl ?_; refine z_120 ?_; refine chf rfl (hop_y rfl (y_callf rfl Tryz.call71 q_297 (mk_remove fl _ sp om_ _) rfl)) ?_; refine chf rfl q_208 ?_; refine z_177 ?_; refine chf_nil ?_;refine ctl_d rfl rfl (d_callv rfl t_20 q_294 (tape_next l nn (k+2) _ 0 rfl om_ hl 3 om_) rfl ?_);intro _ _;rw [hmm];refine ⟨⟨q_93,q_175,tt⟩,?_⟩;refine ctl_h rfl (hop_y rfl q_181) ⟨⟨q_93,q_175,tt⟩,?_⟩;refine ctl_h rfl (hop_y rfl q_164) ⟨⟨q_93,q_175,tt⟩,?_⟩;refine ctl_h rfl q_119 ⟨⟨q_93,q_175,tt⟩,?_⟩;refine ctl_h rfl q_42 ⟨tt,?_⟩;refine ctl_h rfl (hop_y rfl (y_callf rfl t_61 q_297 (mk_insert (remF fl sp) _ ⟨[122]++digS m++[46,115,114,99],y.b⟩ om_ _) rfl)) ⟨tt,?_⟩;refine z_253 ?_;exact ⟨_,res_one rfl q_112,⟨(insF (remF fl sp) ⟨[122]++digS m++[46,115,114,99],y.b⟩,k+3),fin1 rfl q_283 (.old (pure_rev _ _).old),((hm.mono om_).rem sp).ins hzp do_,do_,do_⟩⟩
       ·exact z_135
      ·exact z_151
     ·refine z_27 ?_; refine cC (fun h7=>?_) fun h7=>?_
      ·refine z_276 ?_; refine cw_loopd hCC (fun i:Nat=>[(0,.ptr 0 0),(3,.ptr 1 0),(4,.ptr 2 0),(5,(sv (sp))),(76,(.list (fl.map Fi.cv) (gnn fl.length) none)),(77,(.val (.int .i64 ((fl.length:Int))))),(78,(.val (.int .i64 ((i:Int)))))]) (fun _=>[tapeC l nn (k+2),.box (revC fl (gnn fl.length)),.box (revC [] false)]) (fun i=>i<=fl.length) (fun i=>fl.length - i) 0 (n_3 _) tu_ (extra0:=[]) rfl q_276 uz_ ?_; intro i hi; refine z_30 ?_; refine cC (fun h8=>?_) fun h8=>?_
       ·have hlt:i < fl.length:=by simp at h8; omega
        obtain ⟨y,hb,hym⟩:=get_ex hlt;have hyb:=hm.byt y hym;refine z_268 ?_; refine z_190 ?_; refine cC (fun h9=>?_) fun h9=>?_
        ·have hb3:=tapeN_lt (l:=l) (k:=k+2) (n:=100) om_;obtain ⟨m,hmm⟩:∃ m:Nat,tapeN l (k+2) 100=(m:Int):=⟨(tapeN l (k+2) 100).toNat,om_⟩;have hm3:m < 100:=by omega
         have hdl:=digS_len 1 m om_;refine cw_seq ?_; refine cw_float [0,1,2,7,8,3,4,5,6,9,10,11,12] 5 [0,0,0,4,12,28,60,0,128,508,1022,2047,4095] [[0,1,3,4],[0,1,3,4],[0,1,3,4],[0,1,3,4],[0,1],[0],[],[]] (hd1l:=[0,1,2,7,8]) (tll:=[(3,[0,1,3,4]),(4,[0,1,3,4]),(5,[0,1,3,4]),(6,[0,1,3,4]),(9,[0,1]),(10,[0]),(11,[]),(12,[])]) q_291 q_291 rfl rfl rfl ?_; refine z_120 ?_; refine chf rfl q_208 ?_; refine z_177 ?_; refine chf_nil ?_;refine ctl_d rfl rfl (d_callv rfl t_20 q_294 (tape_next l nn (k+2) _ 0 rfl om_ hl 100 om_) rfl ?_);intro _ _;rw [hmm];refine ⟨⟨q_100,q_184,q_93,q_175,tt⟩,?_⟩;refine ctl_h rfl (hop_y rfl q_181) ⟨⟨q_100,q_184,q_93,q_175,tt⟩,?_⟩;refine ctl_h rfl (hop_y rfl q_164) ⟨⟨q_100,q_184,q_93,q_175,tt⟩,?_⟩;refine ctl_h rfl q_119 ⟨⟨q_100,q_184,q_93,q_175,tt⟩,?_⟩;refine z_264 ?_;refine ctl_h rfl (hop_y rfl (y_callf rfl t_61 q_297 (mk_insert fl _ ⟨sp,[35,32]++digS m++[10,32,32]++y.b⟩ om_ _) rfl)) ⟨tt,?_⟩;refine z_253 ?_;exact ⟨_,res_one rfl q_112,⟨(insF fl ⟨sp,[35,32]++digS m++[10,32,32]++y.b⟩,k+3),fin1 rfl q_283 (.old (pure_rev _ _).old),(hm.mono om_).ins (hspa) q_73,do_,do_⟩⟩
        ·exact z_135
       ·exact z_151
      ·refine z_27 ?_; refine cC (fun h10=>?_) fun h10=>?_
       ·refine z_276 ?_; refine cw_loopd hCC (fun i:Nat=>[(0,.ptr 0 0),(3,.ptr 1 0),(4,.ptr 2 0),(5,(sv (sp))),(102,(.list (fl.map Fi.cv) (gnn fl.length) none)),(103,(.val (.int .i64 ((fl.length:Int))))),(104,(.val (.int .i64 ((i:Int)))))]) (fun _=>[tapeC l nn (k+2),.box (revC fl (gnn fl.length)),.box (revC [] false)]) (fun i=>i<=fl.length) (fun i=>fl.length - i) 0 (n_3 _) tu_ (extra0:=[]) rfl q_276 uz_ ?_; intro i hi; refine z_30 ?_; refine cC (fun h11=>?_) fun h11=>?_
        ·have hlt:i < fl.length:=by simp at h11; omega
         obtain ⟨y,hb,hym⟩:=get_ex hlt;have hyb:=hm.byt y hym;refine z_268 ?_; refine z_190 ?_; refine cC (fun h12=>?_) fun h12=>?_
         ·refine z_79 ?_; refine cY q_247 ?_; refine z_54 ?_; refine cY q_162 ?_; refine cY (y_build' #[(0,1),(1,1)] rfl q_297 t_51 t_25 rfl ⟨_,rfl⟩ (fun w=>by kernel_rfl) rfl rfl) ?_; refine cY (y_callf rfl t_61 q_297 (mk_insert fl _ ⟨sp,y.b++[102,117,110,99]⟩ om_ _) rfl) ?_; refine z_29 ?_; refine cw_ret ?_;exact ⟨_,res_one rfl q_112,⟨(insF fl ⟨sp,y.b++[102,117,110,99]⟩,k+2),fin1 rfl q_283 (.old (pure_rev _ _).old),(hm.mono om_).ins (hspa) q_73,do_,do_⟩⟩
         ·exact z_135
        ·exact z_151
       ·refine cw_skip ?_;exact ⟨(k+2),_,rfl,tu_,rfl⟩
 ·intro p hp; subst hp; refine cw_cutd hCC (α:=Nat) (fun _=>[(0,.ptr 0 0),(3,.ptr 1 0),(4,.ptr 2 0),(5,(sv (sp)))]) (fun p=>[tapeC l nn (p),.box (revC fl (gnn fl.length)),.box (revC [] false)]) (fun p=>p=k+2) q_276 uz_ ?_ ?_
  ·
   refine z_276 ?_; refine cw_loopd hCC (fun i:Nat=>[(0,.ptr 0 0),(3,.ptr 1 0),(4,.ptr 2 0),(5,(sv (sp))),(121,(.list (fl.map Fi.cv) (gnn fl.length) none)),(122,(.val (.int .i64 ((fl.length:Int))))),(123,(.val (.int .i64 ((i:Int)))))]) (fun _=>[tapeC l nn (k+2),.box (revC fl (gnn fl.length)),.box (revC [] false)]) (fun i=>i<=fl.length) (fun i=>fl.length - i) 0 (n_3 _) tu_ (extra0:=[]) rfl q_276 uz_ ?_; intro i hi; refine z_30 ?_; refine cC (fun h13=>?_) fun h13=>?_
   ·have hlt:i < fl.length:=by simp at h13; omega
    obtain ⟨y,hb,hym⟩:=get_ex hlt;have hyb:=hm.byt y hym;refine z_268 ?_; refine z_190 ?_; refine cC (fun h14=>?_) fun h14=>?_
    ·refine cw_seq ?_; refine cw_float [0,1,2,3,4,5,6,7,8,9] 5 [0,0,0,4,0,16,60,126,255,511] [[0,1,2,3],[0,1],[0],[],[]] (hd1l:=[0,1,2,3,4]) (tll:=[(5,[0,1,2,3]),(6,[0,1]),(7,[0]),(8,[]),(9,[])]) q_291 q_291 rfl rfl rfl ?_; refine z_120 ?_; refine z_177 ?_; refine z_126 ?_;refine ctl_d rfl rfl (d_callv rfl Tryz.call73 ⟨tt,tt⟩ (mk_Decl l nn (k+2) om_ hl _ 0 rfl) rfl ?_);intro ⟨s,p4⟩ ⟨hs,hq1,hq2⟩;dsimp only at hs hq1 hq2 ⊢;refine ⟨⟨q_100,q_184,q_93,q_175,tt⟩,?_⟩;refine z_264 ?_;refine ctl_h rfl (hop_y rfl (y_callf rfl t_61 q_297 (mk_insert fl _ ⟨sp,y.b++s⟩ om_ _) rfl)) ⟨tt,?_⟩;refine z_253 ?_;exact ⟨_,res_one rfl q_112,⟨(insF fl ⟨sp,y.b++s⟩,p4),fin1 rfl q_283 (.old (pure_rev _ _).old),(hm.mono om_).ins (hspa) q_73,do_,do_⟩⟩
    ·exact z_135
   ·exact z_151
  ·intro p hp; subst hp; refine cw_seq ?_; refine z_43 ?_; refine chf rfl q_208 ?_; refine chf rfl q_208 ?_; refine chf rfl q_208 ?_; refine chf rfl q_130 ?_; refine z_201 ?_; intro v hv;have hv8:v.length<=8:=len_made (.inl hv);refine z_178 ?_; intro ⟨s,p4⟩ ⟨hs,hq1,hq2⟩;dsimp only at hs hq1 hq2 ⊢;refine z_215 ?_; refine z_139 ?_;exact z_137
theorem mk_Edit (l:List Int) (nn:Bool) (k:Nat) (hat:k<=500000000) (hl:l.length<=maxLen) (B:Nat) (hB:6300<=B/\B<=1000000) (fl:List Fi) (hm:MadeR B fl) (σ:List CObj) (q:Nat) (hq:σ[q]? = some (tapeC l nn k)):CCalls CC 28 [.ptr q 0,(.agg (revC fl (gnn fl.length)))] σ fun r τ=>∃ a:List Fi × Nat,r = .ret (.agg (revC a.1 (gnn a.1.length)))/\τ=σ.set q (tapeC l nn a.2)/\(MadeR (B+1240) a.1/\k<=a.2/\a.2<=k+1080) :=
 call1 (c:=fun a:List Fi × Nat=>(.agg (revC a.1 (gnn a.1.length)))) (S:=fun a=>tapeC l nn a.2) hCC (fun a h=>by simp at h; subst h; exact pure_rev _ _) (fun _=>pure_rev _ _) (fun _=>pure_tape _ _ _) (pure_tape _ _ _) rfl (mk_Edit0 l nn k hat hl B hB fl hm) σ q hq
def madeEnv:List Str:=[[109],[110]]
structure MadeE (ev:List Va):Prop where
 sub:(ev.map Va.n).Sublist madeEnv
 rng:∀ v∈ev,-9007199254740992<=v.v/\v.v<=9007199254740992
theorem MadeE.len (h:MadeE ev):ev.length<=2:=by
 have:=h.sub.length_le;rw [n_17] at this;exact this
def aw16 (c:UInt8):List Fi:=[⟨[97,46,115,114,99],[112,97,99,107,97,103,101,32,112,59,32,102,117,110,99,32,102,40,41,32,61,32]++[c]++[59]⟩]
theorem aw16_decl {n:Int} {c:UInt8} (h0:revE (aw16 c)=0) (hg:glk (newW (aw16 c)).2.1 [97,46,115,114,99]=some ⟨[112],[],[⟨1,[102],[],[⟨1,n,0,[],[]⟩]⟩]⟩) (hx:findE true (newW (aw16 c)).2.2 1 [112] [102]=⟨[112],[102],1,[97,46,115,114,99],0,1⟩):conF (aw16 c) [] ⟨1,[112],[102]⟩=[61]++textT ⟨[112],[],[⟨1,[102],[],[⟨1,n,0,[],[]⟩]⟩]⟩ ⟨1,[102],[],[⟨1,n,0,[],[]⟩]⟩/\bodyT ⟨1,[102],[],[⟨1,n,0,[],[]⟩]⟩=(Tr.n 1 n 0 [] []).txt [] 0:=by
 have hok:=newW_ok h0;have hd:=(hok.src _ _ hg).dec _ n_104;refine ⟨?_,body_num hd rfl⟩;unfold conF contF;rw [if_pos rfl,hx];show declF _ _=_;unfold declF;rw [if_neg de_,if_pos rfl];unfold declT;rw [hg];rfl
theorem aw16_func:conF (aw16 49) [] ⟨1,[112],[102]⟩≠conF (aw16 50) [] ⟨1,[112],[102]⟩:=by
 obtain ⟨h1,h2⟩:=aw16_decl (n:=1) (c:=49) q_291 q_291 q_291;obtain ⟨h3,h4⟩:=aw16_decl (n:=2) (c:=50) q_291 q_291 q_291;have e1:(Tr.n 1 1 0 [] []).txt [] 0=[49]:=by kernel_rfl
 have e2:(Tr.n 1 2 0 [] []).txt [] 0=[50]:=by kernel_rfl
 rw [h1,h3];unfold textT;rw [h2,h4,e1,e2];intro h;exact absurd h (by decide +kernel)
def L16:List Ky:=[⟨1,[112],[102]⟩,⟨4,[97,46,115,114,99],[]⟩,⟨6,[112],[]⟩,⟨7,[112],[]⟩]
theorem aw16_u:setK (KU (aw16 49)++KU (aw16 50)++(([]:List Va).map varK++([]:List Va).map varK))=L16:=by kernel_rfl
theorem aw16_files:decide (conF (aw16 49) [] ⟨6,[112],[]⟩=conF (aw16 50) [] ⟨6,[112],[]⟩)=false:=by kernel_rfl
theorem aw16_data:decide (conF (aw16 49) [] ⟨4,[97,46,115,114,99],[]⟩=conF (aw16 50) [] ⟨4,[97,46,115,114,99],[]⟩)=false:=by kernel_rfl
theorem aw16_ch:chS (aw16 49) (aw16 50)=some L16:=by
 rw [chS,allS_some q_291 q_291 rfl rfl,chL,aw16_u]
 congr 1
 refine n_121.2 fun k hk=>n_68 ?_;simp only [L16,n_13,n_79,or_false] at hk
 rcases hk with rfl | rfl | rfl | rfl
 ·exact aw16_func
 ·exact of_decide_eq_false aw16_data
 ·exact of_decide_eq_false aw16_files
 ·exact fun h=>of_decide_eq_false aw16_files (coarse_tree h)
theorem aw16_no:chS (aw16 49) (aw16 49)=some []:=by
 rw [chS,allS_some q_291 q_291 rfl rfl,chL]
 congr 1
 refine List.filter_eq_nil_iff.2 fun k _=>by simp
theorem aw16_ok (c:UInt8) (h:revE (aw16 c)=0):KUok (aw16 c):=KUok.of h
theorem aw16_c1 (σ:List CObj):CCalls CC 38 [.agg (revC (aw16 49) true),.agg (revC (aw16 50) true)] σ fun r τ=>r = .ret (.tup [.list (L16.map Ky.cv) true none,.val (.int .i64 0)])/\τ=σ:=by
 have h:=ed_Changed_s (aw16 49) true (aw16 50) true (aw16_ok 49 q_291) (aw16_ok 50 q_291) σ;rw [aw16_ch] at h; exact h
theorem aw16_c2 (σ:List CObj):CCalls CC 45 [.agg (revC (aw16 49) true),.agg (revC (aw16 50) true)] σ fun r τ=>r = .ret (.tup [.list ([([112]:Str)].map scv) true none,.val (.int .i64 0)])/\τ=σ:=by
 have h:=ed_Packages (aw16 49) true (aw16 50) true (aw16_ok 49 q_291) (aw16_ok 50 q_291) (fun l hl=>by rw [aw16_ch] at hl; injection hl with hl; subst hl; decide) σ;rw [aw16_ch] at h; exact h
theorem aw16_c3 (σ:List CObj):CCalls CC 38 [.agg (revC (aw16 49) true),.agg (revC (aw16 49) true)] σ fun r τ=>r = .ret (.tup [.list (([]:List Ky).map Ky.cv) false none,.val (.int .i64 0)])/\τ=σ:=by
 have h:=ed_Changed_s (aw16 49) true (aw16 49) true (aw16_ok 49 q_291) (aw16_ok 49 q_291) σ;rw [aw16_no] at h; exact h
theorem l6_awake_s  (σ:List CObj):CCalls CC 37 [] σ fun r σ'=>r = .ret (.val (.bool (true)))/\σ'=σ:=by
 refine CCalls.anyw hCC (by repeat' (first|exact .val _|exact pure_ints _ _|exact pure_strs _ _|exact pure_fis _ _|exact pure_vas _ _|exact pure_keys _ _|exact tt | refine pure_agg ?_ | refine pure_tup ?_ | refine ⟨?_,?_⟩)) (by repeat' (first|exact .val _|exact pure_ints _ _|exact pure_strs _ _|exact pure_fis _ _|exact pure_vas _ _|exact pure_keys _ _|exact tt | refine pure_agg ?_ | refine pure_tup ?_ | refine ⟨?_,?_⟩)) ?_ σ;refine ccalls_val (ccalls_of Tryz.func37 rfl rfl ?_);refine z_164 ?_; refine cY q_53 ?_; refine cY (y_lit ((aw16 49).map Fi.cv) rfl ⟨tt,tt⟩ t_30 t_19 t_25 rfl rfl rfl rfl rfl rfl rfl rfl rfl) ?_; refine cY q_63 ?_; refine z_150 ?_; refine z_0 ?_; refine cY q_53 ?_; refine cY (y_lit ((aw16 50).map Fi.cv) rfl ⟨tt,tt⟩ t_30 t_19 t_25 rfl rfl rfl rfl rfl rfl rfl rfl rfl) ?_; refine cY q_63 ?_; refine z_150 ?_; refine z_171 ?_; refine cY (y_callf rfl t_60 q_297 (by exact aw16_c1 _) rfl) ?_; refine z_93 ?_; refine z_1 ?_; refine z_171 ?_; refine cY (y_callf rfl Tryz.call45 q_297 (by exact aw16_c2 _) rfl) ?_; refine z_93 ?_; refine z_1 ?_; refine z_171 ?_; refine cY (y_callf rfl t_60 q_297 (by exact aw16_c3 _) rfl) ?_; refine z_93 ?_; refine z_39 ?_; refine z_149 ?_; refine z_32 ?_; refine z_23 ?_; refine z_32 ?_; refine z_23 ?_; refine cG (fun hg=>y_len rfl hg rfl t_4 q_251 rfl) ?_; refine z_32 ?_; refine z_23 ?_; refine cG (fun hg=>y_index rfl hg rfl rfl rfl t_4 t_2 q_241 (rows_get (f:=Ky.cv) (show L16[0]? = some ⟨1,[112],[102]⟩ from rfl)) rfl) ?_; refine cG q_131 ?_; refine cG (fun hg=>y_build' #[(0,1),(1,1),(2,1)] rfl ⟨rfl,rfl,rfl,tt⟩ t_62 t_7 rfl ⟨_,rfl⟩ (fun w=>by kernel_rfl) rfl rfl) ?_; refine cG (fun hg=>y_eqs rfl hg hg (xs:=[.int .i64 1,.string (str [112]),.string (str [102])]) (ys:=[.int .i64 1,.string (str [112]),.string (str [102])]) rfl rfl t_53 (eq_ky ⟨1,[112],[102]⟩ ⟨1,[112],[102]⟩)) ?_; refine z_111 ?_; refine cG (fun hg=>y_len rfl hg rfl t_1 q_251 rfl) ?_; refine z_32 ?_; refine z_23 ?_; refine cG (fun hg=>y_index rfl hg rfl rfl rfl t_1 t_0 q_241 (rows_get (f:=scv) (show ([[112]]:List Str)[0]? = some [112] from rfl)) rfl) ?_; refine cG (fun hg=>y_load_c1 rfl hg rfl t_9 rfl) ?_; refine cG q_204 ?_; refine z_111 ?_; refine cG (fun hg=>y_len rfl hg rfl t_4 q_251 rfl) ?_;refine z_32 ?_; refine z_4 ?_;exact ⟨_,res1 rfl tt q_272,_,_,rfl,rfl,cls_bool (by rfl)⟩
theorem pure_r2 (fl fs:List Fi):Pure (.tup [.agg (revC fl (gnn fl.length)),.agg (revC fs (gnn fs.length))]):=pure_tup (cs:=[_,_]) ⟨pure_rev _ _,pure_rev _ _,tt⟩
theorem l6_two0 (l:List Int) (nn:Bool) (k:Nat) (hat:k<=400000000) (hl:l.length<=maxLen):CCalls CC 32 [.ptr 0 0] [tapeC l nn k] fun r τ=>∃ a:(List Fi × List Fi) × Nat,FinR 1 τ r (.ret (.tup [.agg (revC a.1.1 (gnn a.1.1.length)),.agg (revC a.1.2 (gnn a.1.2.length))])) [tapeC l nn a.2]/\(MadeR 6300 a.1.1/\MadeR 10020 a.1.2/\k<=a.2/\a.2<=k+8000):=by
 refine (ccalls_of Tryz.func32 rfl rfl ?_);refine z_0 ?_;refine cD (d_alloc rfl t_41 rfl q_290 ?_);refine cD (d_alloc rfl t_41 rfl q_290 ?_);refine z_31 ?_;refine cD (d_callv rfl Tryz.call27 ⟨tt,tt⟩ (mk_Revision l nn k om_ hl _ 0 rfl) rfl ?_);intro ⟨fl,p⟩ ⟨hm,hp1,hp2⟩;dsimp only at hm hp1 hp2 ⊢;refine z_150 ?_; refine z_79 ?_; refine z_206 ?_; refine z_186 ?_;refine cD (d_callv rfl t_20 q_294 (tape_next l nn p _ 0 rfl om_ hl 4 om_) rfl ?_);intro _ _;obtain ⟨hn0,hn4⟩:=tapeN_lt (l:=l) (k:=p) (n:=4) om_;obtain ⟨n,hn⟩:∃ n:Nat,tapeN l p 4=n:=⟨(tapeN l p 4).toNat,om_⟩;rw [hn];have hn3:n<=3:=by omega
 refine co_norm [tapeC l nn (p+1),.box [.list [] false none],.box [.list [] false none],.box (revC fl (gnn fl.length)),.box (revC fl (gnn fl.length))] rfl ?_; refine z_1 ?_; refine cw_block ?_; refine cw_loop' (α:=List Fi × Nat × Nat) (fun x=>[(0,.ptr 0 0),(2,.ptr 1 0),(3,.ptr 2 0),(4,.ptr 3 0),(5,.ptr 4 0),(6,(.val (.int .i64 ((x.2.2:Int)))))]) (fun x=>[tapeC l nn x.2.1,.box [.list [] false none],.box [.list [] false none],.box (revC fl (gnn fl.length)),.box (revC x.1 (gnn x.1.length))]) (fun x=>x.2.2<=3/\MadeR (10020 - 1240*x.2.2) x.1/\k<=x.2.1/\x.2.1+1080*x.2.2<=k+8000) (fun x=>x.2.2) (fl,p+1,n) ⟨hn3,hm.mono do_,do_,do_⟩ tu_ rfl ?_; intro ⟨bl,q,i⟩ _ ⟨hi,hb,hq1,hq2⟩;dsimp only at hi hb hq1 hq2 ⊢;refine z_209 ?_; refine cC (fun h1=>?_) fun h1=>?_
 ·have hi1:1<=i:=by simp at h1; omega
  refine z_19 ?_; refine z_7 ?_; refine cY q_183 ?_;refine cD (d_callv rfl Tryz.call28 q_297 (mk_Edit l nn q om_ hl (10020 - 1240*i) ⟨om_,om_⟩ bl hb _ 0 rfl) rfl ?_);intro ⟨bl2,q2⟩ ⟨hb2,hr1,hr2⟩;dsimp only at hb2 hr1 hr2 ⊢;refine z_29 ?_; refine z_7 ?_; refine z_129 ?_;exact ⟨(bl2,q2,i - 1),do_,⟨do_,hb2.mono do_,do_,do_⟩,⟨q_298,q_298,q_298,q_298,q_298,⟨tt,(by show CV.val (.int .i64 ((i:Int) - 1))=CV.val (.int .i64 ((i - 1:Nat):Int)); congr 2; omega)⟩,tt⟩,rfl⟩
 ·refine cw_exit (cw_seq ?_);refine cw_float [0,1,2,3] 2 [0,0,1,7] [[1],[]] (hd1l:=[0,1]) (tll:=[(2,[1]),(3,[])]) q_291 q_291 rfl rfl rfl ?_; refine chf rfl q_127 ?_; refine chf rfl q_127 ?_; refine chf_nil ?_;refine ctl_d rfl rfl (d_store rfl tt tt rfl q_272 t_42 q_290 rfl rfl (nb rfl) ?_);refine ⟨⟨q_100,tt⟩,?_⟩;refine z_253 ?_;exact ⟨_,res_all (rs:=[.cell 2 32,.cell 3 32]) (cs:=[_,_]) rfl ⟨q_112,q_112,tt⟩ (n_2 rfl),⟨((fl,bl),q),fin1 rfl q_283 (.old (pure_r2 _ _).old),hm,hb.mono om_,do_,do_⟩⟩
theorem l6_two (l:List Int) (nn:Bool) (k:Nat) (hat:k<=400000000) (hl:l.length<=maxLen) (σ:List CObj) (q:Nat) (hq:σ[q]? = some (tapeC l nn k)):CCalls CC 32 [.ptr q 0] σ fun r τ=>∃ a:(List Fi × List Fi) × Nat,r = .ret (.tup [.agg (revC a.1.1 (gnn a.1.1.length)),.agg (revC a.1.2 (gnn a.1.2.length))])/\τ=σ.set q (tapeC l nn a.2)/\(MadeR 6300 a.1.1/\MadeR 10020 a.1.2/\k<=a.2/\a.2<=k+8000) :=
 call1 (c:=fun a:(List Fi × List Fi) × Nat=>(.tup [.agg (revC a.1.1 (gnn a.1.1.length)),.agg (revC a.1.2 (gnn a.1.2.length))])) (S:=fun a=>tapeC l nn a.2) hCC (fun a h=>by simp at h) (fun _=>pure_r2 _ _) (fun _=>pure_tape _ _ _) (pure_tape _ _ _) rfl (l6_two0 l nn k hat hl) σ q hq
theorem ed_Ch (nn ns:Bool) (h1:revE fl=0) (h2:revE fs=0) (σ:List CObj):CCalls CC 38 [.agg (revC fl nn),.agg (revC fs ns)] σ fun r τ=>r = .ret (.tup [.list ((chL fl [] fs []).map Ky.cv) (gnn (chL fl [] fs []).length) none,.val (.int .i64 0)])/\τ=σ:=by
 have h:=ed_Changed_s fl nn fs ns (KUok.of h1) (KUok.of h2) σ;rw [chS,allS_some h1 h2 rfl rfl] at h; exact h
theorem chL_le (h1:revE fl=0) (h2:revE fs=0):(chL fl [] fs []).length<=100000:=chL_len (revE_all h1).1 (revE_all h2).1 (n_3 _) (n_3 _)
theorem l6_EntitydiffSides0 (l:List Int) (nn:Bool) (hl:l.length<=maxLen):CCalls CC 7 [.list (l.map icv) nn none] [] fun r τ=>∃ _:Unit,ClsR 0 τ r (.ret (.val (.bool true)))/\True:=by
 refine (ccalls_of t_111 rfl rfl ?_);refine z_80 ?_; refine cY (y_build' #[(0,1),(1,1)] rfl ⟨tt,tt⟩ t_158 Tryz.zeroValue29 rfl ⟨_,rfl⟩ (fun w=>by kernel_rfl) rfl rfl) ?_;refine cD (d_box rfl tt q_272 q_290 ?_);refine z_39 ?_;refine cD (d_callv rfl Tryz.call32 ⟨tt,tt⟩ (l6_two l nn 0 om_ hl _ 0 rfl) rfl ?_);intro ⟨⟨fl,fs⟩,p⟩ ⟨hm1,hm2,hp1,hp2⟩;dsimp only at hm1 hm2 hp1 hp2 ⊢;refine z_55 ?_;refine cD (d_alloc rfl t_41 rfl q_290 ?_);refine z_206 ?_; refine z_29 ?_; refine z_2 ?_; refine cY q_183 ?_;refine cD (d_callv rfl Tryz.call28 q_297 (mk_Edit l nn p om_ hl 10020 ⟨om_,om_⟩ fs hm2 _ 0 rfl) rfl ?_);intro ⟨fu,p2⟩ ⟨hm3,hr1,hr2⟩;dsimp only at hm3 hr1 hr2 ⊢;have v1:=hm1.valid om_;have v2:=hm2.valid om_;have v3:=hm3.valid om_;have n1:=chL_le v1 v2;have n2:=chL_le v2 v3;have n3:=chL_le v1 v3;have n4:=setK_len ((chL fl [] fs [])++(chL fs [] fu []));rw [n_5] at n4;refine z_150 ?_; refine z_171 ?_; refine cY (y_callf rfl t_60 q_297 (ed_Ch _ _ v1 v2 _) rfl) ?_; refine z_93 ?_; refine z_1 ?_; refine z_171 ?_; refine cY (y_callf rfl t_60 q_297 (ed_Ch _ _ v2 v1 _) rfl) ?_; refine z_93 ?_; refine z_1 ?_; refine z_171 ?_; refine cY (y_callf rfl t_60 q_297 (ed_Ch _ _ v2 v3 _) rfl) ?_; refine z_93 ?_; refine z_1 ?_; refine z_171 ?_; refine cY (y_callf rfl t_60 q_297 (ed_Ch _ _ v1 v3 _) rfl) ?_; refine z_93 ?_; refine z_64 ?_; refine z_149 ?_; refine cG q_240 ?_; refine cY q_200 ?_; refine z_23 ?_; refine cG q_240 ?_; refine cY q_200 ?_; refine z_23 ?_; refine cG q_240 ?_; refine cY q_200 ?_; refine z_109 ?_; refine cG (fun hg=>y_callf rfl Tryz.call31 ⟨hg,hg,tt⟩ (r11_Same_s (chL fl [] fs []) (chL fs [] fl []) _ _ (by unfold maxLen; omega) _) rfl) ?_; refine cG q_267 ?_; refine z_65 ?_; refine cC (fun h1=>?_) fun h1=>?_
 ·exfalso;simp [chL_swap v1 v2 (ev:=[]) (ew:=[]) rfl rfl] at h1
 ·refine z_61 ?_;refine cD (d_appu0 rfl rfl tt rfl q_18 t_4 t_2 t_16 t_7 rfl q_78 q_227 (chL fl [] fs []).length si_ ?_);refine cY q_247 ?_;refine cD (d_appu rfl tt tt rfl si_ q_18 t_4 t_2 t_16 t_7 rfl (.inr rfl) q_20 q_78 q_227 (((chL fl [] fs [])++(chL fs [] fu [])).map Ky.cv) ((chL fl [] fs [])++(chL fs [] fu [])).length (by rw [n_45]) si_ ?_);refine cY (y_callf rfl Tryz.call39 ⟨tt,tt⟩ (r11_Set ((chL fl [] fs [])++(chL fs [] fu [])) _ (by rw [n_5]; omega) _) rfl) ?_; refine z_39 ?_;refine cD (d_appu0 rfl rfl tt rfl q_18 t_4 t_2 t_16 t_7 rfl q_78 q_227 (setK ((chL fl [] fs [])++(chL fs [] fu []))).length si_ ?_);refine cY q_247 ?_;refine cD (d_appu rfl tt tt rfl si_ q_18 t_4 t_2 t_16 t_7 rfl (.inr rfl) q_20 q_78 q_227 (((setK ((chL fl [] fs [])++(chL fs [] fu [])))++(chL fl [] fu [])).map Ky.cv) ((setK ((chL fl [] fs [])++(chL fs [] fu [])))++(chL fl [] fu [])).length (by rw [n_45]) si_ ?_);refine cY (y_callf rfl Tryz.call39 ⟨tt,tt⟩ (r11_Set ((setK ((chL fl [] fs [])++(chL fs [] fu [])))++(chL fl [] fu [])) _ (by rw [n_5]; omega) _) rfl) ?_; refine cY q_103 ?_; refine cY q_247 ?_; refine cY q_103 ?_; refine cY q_261 ?_; refine cY q_247 ?_; refine cG (fun hg=>y_callf rfl Tryz.call37 trivial (l6_awake_s _) rfl) ?_; refine z_72 ?_;exact ⟨_,res1 rfl tt q_272,(by rw [chL_two v1 v2 v3]; exact ⟨(),.ret (show Cls _ _ (CV.val (.bool _)) _ from by rw [beq_self_eq_true]; exact .old (.val _)),tt⟩)⟩
theorem l6_EntitydiffSides (l:List Int) (nn:Bool) (hl:l.length<=maxLen) (σ:List CObj):CCalls CC 7 [.list (l.map icv) nn none] σ fun r τ=>r = .ret (.val (.bool true))/\τ=σ :=
 (ccalls_any (res:=fun _:Unit=>.ret (.val (.bool true))) (P:=fun _=>True) hCC (fun a h=>by simp at h; subst h; exact pure_ints _ _) (l6_EntitydiffSides0 l nn hl) (fun _ _=>.val _) σ).mono fun r τ ⟨_,h1,h2,_⟩=>⟨h1,h2⟩
end Go.Proofs.YtlppbmfecjabeaaGreatDoor
