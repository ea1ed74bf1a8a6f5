/- Part 4 of what the claim needs: values without addresses, and what the program's functions do with them. -/
import Derived.Shelf.LaysM
import Derived.Shelf.Strconv.Itoa3
import Derived.Test.YtlppbmfecjabeaaGreatDoorV3
set_option maxRecDepth 100000
set_option maxHeartbeats 4000000
namespace Go.Proofs.YtlppbmfecjabeaaGreatDoor
open Go Go.Cl
variable {T:TypeId} {rest:List CV} {i np d m j q s' z:Nat} {b:List Ex} {σ:List CObj} {α β:Type} {y:PX} {S:List Nat} {me:EM} {u o v:Int} {nm l:Str} {x:Src} {R:Nat->Nat->Prop} {fl:List Fi} {a:Bool}
def addDs (me:EM) (path pkg:Str):List De->Nat->EM
 | [],_=>me
 | d::ds,k=>addDs (addE me ⟨pkg,d.name,d.k,path,(k:Int),1⟩) path pkg ds (k+1)
abbrev WS:=List Str × SM × EM
def wStep (s:WS) (f:Fi):WS:=if srcPB f.p=true then (match parseS f.b with | none=>(s.1++[f.p],s.2.1,s.2.2) | some x=>(s.1,gput s.2.1 f.p x,addDs s.2.2 f.p x.pkg x.decls 0)) else s
def newF (fl:List Fi) (s:WS):WS:=fl.foldl wStep s
def newW (fl:List Fi):WS:=if revE fl=0 then newF fl ([],[],[]) else ([],[],[])
def CtB (n:Nat) (me:EM):Prop:=∀ k e,glk me k=some e->0<=e.ct/\e.ct<=(n:Int)
theorem CtB.add {n:Nat} (h:CtB n me) {x:En} (hx:x.ct=1):CtB (n+1) (addE me x):=fun k e he=>by
 rw [addE,glk_gput] at he;split at he
 ·injection he with he
  subst he;cases hg:glk me (keyNm x.k x.p x.o) with
  | none=>simp only; omega
  | some f=>have:=h _ _ hg; simp only; omega
 ·have:=h _ _ he;omega
theorem CtB.nil (n:Nat):CtB n []:=fun k e h=>by cases h
theorem CtB.mono {n:Nat} (h:CtB n me) (hnm:n<=m):CtB m me:=fun k e he=>by have:=h k e he; omega
theorem addDs_step {path pkg:Str} {l:List De} {k:Nat} {d:De} (h:l[k]? = some d):addDs me path pkg (l.drop k) k=addDs (addE me ⟨pkg,d.name,d.k,path,(k:Int),1⟩) path pkg (l.drop (k+1)) (k+1):=by
 obtain ⟨hlt,rfl⟩:=n_1.1 h;rw [n_25 hlt,addDs]
theorem newF_step {l:List Fi} {f:Fi} (h:l[i]? = some f) (s:WS):newF (l.drop i) s=newF (l.drop (i+1)) (wStep s f):=by
 obtain ⟨hlt,rfl⟩:=n_1.1 h;unfold newF;rw [n_25 hlt,n_116]
theorem rvE_all:∀ {pv:Option Fi} {l:List Fi},rvE pv l=0->∀ f∈l,pathB f.p=true/\f.b.length<=16384
 | _,[],_,f,h=>by cases h
 | pv,x::l,h0,f,h=>by
  rw [rvE] at h0;split at h0
  ·rename_i hs
   rcases n_13.1 h with rfl | h
   ·unfold rvStep at hs;split at hs
    ·cases hs
    ·rename_i hp;split at hs
     ·cases hs
     ·split at hs
      ·cases hs
      ·split at hs
       ·cases hs
       ·exact ⟨by simpa using hp,om_⟩
   ·exact rvE_all h0 f h
  ·rename_i hs;exact absurd h0 hs
theorem revE_all {l:List Fi} (h:revE l=0):l.length<=64/\∀ f∈l,pathB f.p=true/\f.b.length<=16384:=by
 unfold revE at h;split at h
 ·cases h
 ·exact ⟨om_,rvE_all h⟩
theorem pDecls_len:∀ (f:Nat) {T:List Tok} {n:Nat} {l:List De} {x:List De × Nat},pDecls f T n l=some x->x.1.length+1<=l.length+f
 | 0,T,n,l,x,h=>by cases h
 | f+1,T,n,l,x,h=>by
  rw [pDecls] at h;split at h
  ·injection h with h; subst h; simp only; omega
  ·cases hd:pDecl T l n with
   | none=>rw [hd] at h; cases h
   | some y =>
    rw [hd,n_6] at h;have:=pDecls_len f h;rw [n_4,n_111] at this;omega
theorem pFile_len {T:List Tok} (h:pFile T=some x):x.decls.length<=64:=by
 unfold pFile at h;cases h1:pIs T 0 1 [112,97,99,107,97,103,101] with
 | none=>rw [h1] at h; cases h
 | some n1 =>
  rw [h1,n_6] at h;cases h2:pName T n1 with
  | none=>rw [h2] at h; cases h
  | some w =>
   rw [h2,n_6] at h;cases h3:pIs T w.2 4 [59] with
   | none=>rw [h3] at h; cases h
   | some n2 =>
    rw [h3,n_6] at h;cases h4:pImps 9 T w.1.t n2 [] with
    | none=>rw [h4] at h; cases h
    | some y =>
     rw [h4,n_6] at h;cases h5:pDecls 65 T y.2 [] with
     | none=>rw [h5] at h; cases h
     | some z =>
      rw [h5,n_6] at h;injection h with h
      subst h;have:=pDecls_len _ h5;simp only [n_12] at this ⊢;omega
theorem parseS_len {s:Str} (h:parseS s=some x):x.decls.length<=64:=by
 unfold parseS at h;cases h1:lexS s with
 | none=>rw [h1] at h; cases h
 | some T=>rw [h1,n_6] at h; exact pFile_len h
theorem wo_count {nn va:Bool} {br:List Str} {ms:SM} {w q1 q2 t:Nat} (hσ:WAt σ w q1 q2 t fl nn va br ms me) (x:En) (hct:∀ k e,glk me k=some e->0<=e.ct/\e.ct<=1000000):CCalls CC 103 [.ptr w 0,.agg x.cells] σ fun r τ=>∃ _:Unit,r = .ret (.tup [])/\τ=setL σ [w,q1,q2,t] [wbx fl nn va br q1 q2 t,smO ms,emO (addE me x),gobj br.length]/\True :=
 ccalls_liftN (α:=Unit) (obs:=wst fl nn va br ms me) (res:=fun _=>.ret (.tup [])) (res':=fun _=>.ret (.tup [])) (S:=fun _=>wst fl nn va br ms (addE me x)) (S':=fun _=>[wbx fl nn va br q1 q2 t,smO ms,emO (addE me x),gobj br.length]) (P:=fun _=>True) [w,q1,q2,t] hCC rfl hσ.nd (fun i k ob h1 h2=>by
  obtain ⟨ob',_,h3,h4⟩:=w_rel hσ i k ob h1 h2;exact ⟨ob',h3,h4.symm fun _ _ h=>h⟩) (.cons (.ptr rfl) (renL_pure fun a ha=>by simp at ha; subst ha; exact En.pure x)) (ccalls_ren hCC ((wo_count0 fl nn va br ms me x hct).mono fun r τ h=>⟨_,_,h,(),rfl,rfl,tt⟩)) q_291 (fun _ i k y h1 h2=>by
  rcases i with _ | _ | _ | _ | i
  ·injection h2 with h2; subst h2; exact ⟨_,rfl,ren_wbx rfl rfl rfl⟩
  ·injection h2 with h2; subst h2; exact ⟨_,rfl,ren_gm pure_sv pure_vcS _⟩
  ·injection h2 with h2; subst h2; exact ⟨_,rfl,ren_gm Nm.pure En.pure _⟩
  ·injection h2 with h2; subst h2; exact ⟨_,rfl,ren_gobj _⟩
  ·cases h2) fun _=>.ret (.pure (pure_tup trivial))
theorem wo_New0 (fl:List Fi) (nn:Bool) (hl:∀ f∈fl,f.p.length<=1000000000):CCalls CC 56 [.agg (revC fl nn)] [] fun r τ=>FinR 0 τ r (.ret (.ptr 0 0)) (wst fl nn (revE fl == 0) (newW fl).1 (newW fl).2.1 (newW fl).2.2):=by
 refine (ccalls_of Tryz.func56 rfl rfl ?_);refine z_60 ?_; refine cw_seq ?_; refine cw_floatA [5] [] [0,1,2,3,4,5,6,7,8] 4 [0,0,2,6,0,0,63,127,255] [[0,1,2,3],[0,1,2,3],[],[],[]] (hd1l:=[0,1,2,3]) (tll:=[(4,[0,1,2,3]),(5,[0,1,2,3]),(6,[]),(7,[]),(8,[])]) q_289 q_289 q_289 ⟨⟨_,_,_,rfl,.inr ⟨_,rfl,rfl⟩,rfl,rfl⟩,tt⟩ rfl rfl rfl ?_; refine chf rfl q_128 ?_; refine chf rfl q_128 ?_; refine chf rfl (hop_y rfl q_157) ?_; refine chf rfl (hop_y rfl q_255) ?_; refine chf_nil ?_;refine cta_d rfl rfl rfl rfl (d_makeMap rfl ?_);refine ⟨⟨q_102,q_102,(by exact hop_y rfl q_157),(by exact hop_y rfl q_255),tt⟩,?_⟩;refine cta_m rfl rfl rfl rfl ?_;refine ⟨⟨q_102,q_102,(by exact hop_y rfl q_157),(by exact hop_y rfl q_255),tt⟩,?_⟩;refine cta_h rfl rfl rfl (hop_y rfl (y_build' #[(0,1),(1,1),(2,1),(3,1),(4,1)] rfl q_272 t_54 Tryz.zeroValue112 rfl ⟨_,rfl⟩ (fun w=>by kernel_rfl) rfl rfl)) ⟨tt,?_⟩;refine cta_d rfl rfl rfl rfl (d_box rfl tt q_269 q_288 ?_);refine ⟨tt,?_⟩;refine z_167 ?_; refine z_16 ?_; refine cY q_279 ?_; refine z_206 ?_; refine z_32 ?_; refine cC (fun h1=>?_) fun h1=>?_
 ·have hv:¬ revE fl=0:=by simpa using h1
  refine z_204 ?_;exact ⟨_,res1 rfl tt q_269,(by rw [newW,if_neg hv]; exact ⟨[3,1,2,9],rfl,rfl,.ret (.ptr rfl),.inr ⟨_,rfl,.box ⟨.old q_290,.old (.val _),.map rfl,.old (old_strs _ [] _),.map rfl,tt⟩⟩,.inr ⟨_,rfl,.same rfl q_294⟩,.inr ⟨_,rfl,.same rfl q_295⟩,.inl rfl,tt⟩)⟩
 ·have hv:revE fl=0:=by simpa using h1
  obtain ⟨hfl,hfa⟩:=revE_all hv;have hsp:newW fl=newF fl ([],[],[]):=by rw [newW,if_pos hv]
  refine z_230 ?_; refine z_139 ?_; refine cw_loopr hCC 4 rfl (α:=Nat × WS) (fun x=>[(3,.ptr 3 0),(26,(.list (fl.map Fi.cv) nn none)),(27,(.val (.int .i64 (fl.length:Int)))),(28,(.val (.int .i64 (x.1:Int))))]) (fun x=>[.box (revC fl nn),smO x.2.2.1,emO x.2.2.2,wbx fl nn (revE fl == 0) x.2.1 1 2 4,gobj x.2.1.length]) (fun x=>x.1<=fl.length/\x.2.1.length<=x.1/\CtB (64*x.1) x.2.2.2/\newW fl=newF (fl.drop x.1) x.2) (fun x=>fl.length - x.1) ⟨(0,[],[],[]),[0,1,2,3,9],⟨n_3 _,n_3 _,CtB.nil _,hsp⟩,⟨rfl,rfl⟩,q_9,⟨.inr ⟨_,rfl,.same rfl q_261⟩,.inr ⟨_,rfl,.same rfl q_294⟩,.inr ⟨_,rfl,.same rfl q_295⟩,.inr ⟨_,rfl,.box ⟨.old q_290,.old (.val _),.map rfl,.old (old_strs _ [] _),.map rfl,tt⟩⟩,.inl rfl,tt⟩⟩ ?_; intro ⟨i,br,ms,me⟩ ⟨hi,hbr,hct,hr⟩;dsimp only at hi hbr hct hr ⊢;refine z_28 ?_; refine cC (fun h2=>?_) fun h2=>?_
  ·have hlt:(i:Int) < fl.length:=by simpa using h2
   obtain ⟨y,hb⟩:∃ y,fl[i]? = some y:=⟨fl[i]'om_,si_⟩;have hy:=hfa y (n_0 hb);have hyl:=hl y (n_0 hb);rw [newF_step hb,wStep] at hr;refine z_174 ?_; refine z_67 ?_; refine z_44 ?_; refine cY (y_callf rfl Tryz.call101 ⟨tt,tt⟩ (rv_IsSource_s y.p hyl _) rfl) ?_; refine z_32 ?_; refine cC (fun h3=>?_) fun h3=>?_
   ·have u3:¬ srcPB y.p=true:=by simpa using h3
    rw [if_neg u3] at hr;refine z_207 ?_;exact ⟨(i+1,br,ms,me),[0,1,2,3,4],⟨do_,do_,do_,hct.mono om_,hr⟩,⟨rfl,rfl⟩,q_9,⟨.inr ⟨_,rfl,.same rfl q_261⟩,.inr ⟨_,rfl,.same rfl q_294⟩,.inr ⟨_,rfl,.same rfl q_295⟩,.inr ⟨_,rfl,.box ⟨.old q_290,.old (.val _),.map rfl,RenV.grow (f:=scv) (fun _=>⟨.val _,tt⟩) rfl,.map rfl,tt⟩⟩,.inr ⟨_,rfl,.same rfl q_292⟩,tt⟩⟩
   ·have u3:srcPB y.p=true:=by simpa using h3
    rw [if_pos u3] at hr;refine z_46 ?_; refine z_44 ?_;refine cD (d_callv rfl Tryz.call102 ⟨tt,tt⟩ (so_Parse y.b om_ _) rfl ?_);rintro ⟨x,at_,e⟩ hP;dsimp only at hP ⊢;refine z_58 ?_; refine cY q_266 ?_; refine z_101 ?_; refine cY q_236 ?_; refine z_118 ?_; refine cC (fun h4=>?_) fun h4=>?_
    ·have he:e≠0:=by simpa using h4
     have hps:parseS y.b=none:=by
      rcases hP with ⟨_,_,g⟩ | ⟨g,_⟩
      ·exact absurd g he
      ·exact g
     rw [hps] at hr;simp only at hr;have hls:=len_snoc br y.p;refine cw_seq ?_; refine cw_float [0,1,2,3,4,5,6,7,8,9,10,11] 8 [0,0,2,6,14,0,32,96,254,511,1023,2047] [[0],[],[],[]] (hd1l:=[0,1,2,3,4,5,6,7]) (tll:=[(8,[0]),(9,[]),(10,[]),(11,[])]) q_289 q_289 rfl rfl rfl ?_; refine chf rfl q_206 ?_; refine z_68 ?_; refine chf rfl (hop_y rfl (y_field rfl tt rfl t_54 rfl t_21 de_)) ?_; refine chf rfl (hop_y rfl q_228) ?_; refine chf rfl (hop_y rfl q_161) ?_; refine chf rfl (hop_y rfl q_237) ?_; refine chf rfl (hop_y rfl (y_lit [scv y.p] rfl ⟨tt,tt⟩ t_2 t_0 t_3 rfl rfl rfl rfl rfl rfl rfl rfl rfl)) ?_; refine chf_nil ?_;refine ctl_d rfl rfl (d_appu rfl tt tt rfl si_ q_19 t_2 t_0 t_24 t_3 rfl (.inr rfl) q_21 q_81 q_226 ((br++[y.p]).map scv) (br++[y.p]).length si_ si_ ?_);refine ⟨⟨q_181,tt⟩,?_⟩;refine ctl_h rfl q_256 ⟨tt,?_⟩;refine ctl_h rfl (hop_y rfl (y_field rfl tt rfl t_54 rfl t_21 de_)) ⟨tt,?_⟩;refine ctl_d rfl rfl (d_store rfl tt tt rfl q_269 t_21 (.inl rfl) rfl rfl (nb rfl) ?_);refine z_123 ?_; refine z_207 ?_;exact ⟨(i+1,br++[y.p],ms,me),[0,1,2,3,7],⟨do_,do_,do_,hct.mono om_,hr⟩,⟨rfl,rfl⟩,q_9,⟨.inr ⟨_,rfl,.same rfl q_261⟩,.inr ⟨_,rfl,.same rfl q_294⟩,.inr ⟨_,rfl,.same rfl q_295⟩,.inr ⟨_,rfl,.box ⟨.old q_290,.old (.val _),.map rfl,RenV.grow (f:=scv) (fun _=>⟨.val _,tt⟩) rfl,.map rfl,tt⟩⟩,.inr ⟨_,rfl,.same rfl q_292⟩,tt⟩⟩
    ·have he:e=0:=by simpa using h4
     have hps:parseS y.b=some x:=by
      rcases hP with ⟨g,_⟩ | ⟨_,_,g⟩
      ·exact g
      ·exact absurd he g
     rw [hps] at hr;simp only at hr;have hdl:=parseS_len hps;refine z_9 ?_; refine cw_draw 7 [0,1,3,7,0,16,0,127] q_289 q_289 rfl ?_; refine z_36 ?_; refine hY q_137 ?_; refine hY q_222 ?_; refine hY q_161 ?_; refine hY q_237 ?_; refine hY q_185 ?_; refine ch_nil ?_;refine cD (d_mapUpdate_g (vc:=vcS) (l:=ms) (a:=y.p) (b:=x) keyS (.inl rfl) tt tt trivial rfl rfl rfl t_82 rfl ?_);refine z_48 ?_; refine z_250 ?_; refine z_281 ?_; refine cw_loopr hCC 7 rfl (α:=Nat × EM) (fun z=>[(3,.ptr 3 0),(26,(.list (fl.map Fi.cv) nn none)),(27,(.val (.int .i64 (fl.length:Int)))),(28,(.val (.int .i64 (i:Int)))),(5,.ptr 5 0),(6,.ptr 6 0),(64,(.list (x.decls.map De.cv) (gnn x.decls.length) none)),(65,(.val (.int .i64 (x.decls.length:Int)))),(66,(.val (.int .i64 (z.1:Int))))]) (fun z=>[.box (revC fl nn),smO (gput ms y.p x),emO z.2,wbx fl nn (revE fl == 0) br 1 2 4,gobj br.length,.box y.cells,.box x.cells]) (fun z=>z.1<=x.decls.length/\CtB (64*i+z.1) z.2/\addDs me y.p x.pkg x.decls 0=addDs z.2 y.p x.pkg (x.decls.drop z.1) z.1) (fun z=>x.decls.length - z.1) ⟨(0,me),[0,1,2,3,4,5,6],⟨n_3 _,hct,rfl⟩,⟨rfl,rfl⟩,⟨q_36,q_36,q_36,q_36,q_36,q_36,q_36,q_36,q_36,tt⟩,⟨.inr ⟨_,rfl,.same rfl q_261⟩,.inr ⟨_,rfl,.same rfl q_294⟩,.inr ⟨_,rfl,.same rfl q_295⟩,.inr ⟨_,rfl,.box ⟨.old q_290,.old (.val _),.map rfl,RenV.grow (f:=scv) (fun _=>⟨.val _,tt⟩) rfl,.map rfl,tt⟩⟩,.inr ⟨_,rfl,.same rfl q_292⟩,.inr ⟨_,rfl,.same rfl q_257⟩,.inr ⟨_,rfl,.same rfl q_197⟩,tt⟩⟩ ?_; intro ⟨k,me2⟩ ⟨hk,hct2,hr2⟩;dsimp only at hk hct2 hr2 ⊢;refine z_28 ?_; refine cC (fun h5=>?_) fun h5=>?_
     ·have hkt:(k:Int) < x.decls.length:=by simpa using h5
      obtain ⟨d,hd⟩:∃ d,x.decls[k]? = some d:=⟨x.decls[k]'om_,si_⟩;rw [addDs_step hd] at hr2;refine z_113 ?_; refine cY q_90 ?_; refine cY q_184 ?_;refine cD (d_alloc rfl t_46 rfl q_288 ?_);refine cY q_236 ?_;refine cD (d_store rfl tt tt rfl q_269 t_23 q_288 rfl rfl (nb rfl) ?_);refine z_190 ?_; refine z_196 ?_; refine z_162 ?_; refine cY q_153 ?_; refine cY q_238 ?_; refine z_44 ?_; refine cY q_246 ?_; refine cY (y_build' #[(0,1),(1,1),(2,1),(3,1),(4,1),(5,1)] rfl ⟨tt,tt,tt,tt,tt,rfl,tt⟩ t_81 t_25 rfl ⟨_,rfl⟩ (fun w=>by kernel_rfl) rfl rfl) ?_;refine cD (d_callv rfl Tryz.call103 q_296 (wo_count (w:=3) (q1:=1) (q2:=2) (t:=4) ⟨rfl,rfl,rfl,rfl,nodup4 de_⟩ ⟨x.pkg,d.name,d.k,y.p,(k:Int),1⟩ (fun a b h=>by have:=hct2 a b h; omega)) rfl ?_);rintro _ _; refine co_norm [.box (revC fl nn),smO (gput ms y.p x),emO (addE me2 ⟨x.pkg,d.name,d.k,y.p,(k:Int),1⟩),wbx fl nn (revE fl == 0) br 1 2 4,gobj br.length,.box y.cells,.box x.cells,.box d.cells] rfl ?_; refine z_89 ?_;exact ⟨(k+1,addE me2 ⟨x.pkg,d.name,d.k,y.p,(k:Int),1⟩),[0,1,2,3,4,5,6],⟨do_,do_,(hct2.add rfl).mono om_,hr2⟩,⟨rfl,rfl⟩,⟨q_36,q_36,q_36,q_36,q_36,q_36,q_36,q_36,q_36,tt⟩,⟨.inr ⟨_,rfl,.same rfl q_261⟩,.inr ⟨_,rfl,.same rfl q_294⟩,.inr ⟨_,rfl,.same rfl q_295⟩,.inr ⟨_,rfl,.box ⟨.old q_290,.old (.val _),.map rfl,RenV.grow (f:=scv) (fun _=>⟨.val _,tt⟩) rfl,.map rfl,tt⟩⟩,.inr ⟨_,rfl,.same rfl q_292⟩,.inr ⟨_,rfl,.same rfl q_257⟩,.inr ⟨_,rfl,.same rfl q_197⟩,tt⟩⟩
     ·have hkt:x.decls.length<=k:=by simp at h5; omega
      rw [n_34 hkt,addDs] at hr2;refine z_207 ?_;exact ⟨(i+1,br,gput ms y.p x,me2),[0,1,2,3,4],⟨do_,do_,do_,hct2.mono om_,by rw [hr,hr2]⟩,⟨rfl,rfl⟩,q_9,⟨.inr ⟨_,rfl,.same rfl q_261⟩,.inr ⟨_,rfl,.same rfl q_294⟩,.inr ⟨_,rfl,.same rfl q_295⟩,.inr ⟨_,rfl,.box ⟨.old q_290,.old (.val _),.map rfl,RenV.grow (f:=scv) (fun _=>⟨.val _,tt⟩) rfl,.map rfl,tt⟩⟩,.inr ⟨_,rfl,.same rfl q_292⟩,tt⟩⟩
  ·have hge:fl.length<=i:=by simp at h2; omega
   rw [n_34 hge,newF,List.foldl_nil] at hr;refine z_170 ?_;exact ⟨_,res1 rfl tt q_269,(by rw [hr]; exact ⟨[3,1,2,4],rfl,rfl,.ret (.ptr rfl),.inr ⟨_,rfl,.box ⟨.old q_290,.old (.val _),.map rfl,RenV.grow (f:=scv) (fun _=>⟨.val _,tt⟩) rfl,.map rfl,tt⟩⟩,.inr ⟨_,rfl,.same rfl q_294⟩,.inr ⟨_,rfl,.same rfl q_295⟩,.inr ⟨_,rfl,.same rfl q_292⟩,tt⟩)⟩
abbrev wst' (fl:List Fi) (nn va:Bool) (br:List Str) (ms:SM) (me:EM) (n:Nat):List CObj:=[wbx fl nn va br (n+1) (n+2) (n+3),smO ms,emO me,gobj br.length]
theorem wo_New (fl:List Fi) (nn:Bool) (hl:∀ f∈fl,f.p.length<=1000000000) (σ:List CObj):CCalls CC 56 [.agg (revC fl nn)] σ fun r τ=>∃ _:Unit,r = .ret (.ptr σ.length 0)/\τ=σ++wst' fl nn (revE fl == 0) (newW fl).1 (newW fl).2.1 (newW fl).2.2 σ.length/\True :=
 ccalls_new (α:=Unit) hCC (fun a ha=>by simp at ha; subst ha; exact pure_agg ⟨pure_fis _ _,tt⟩) (res:=fun _=>.ret (.ptr 0 0)) (res':=fun _ n=>.ret (.ptr n 0)) (S:=fun _=>wst fl nn (revE fl == 0) (newW fl).1 (newW fl).2.1 (newW fl).2.2) (S':=fun _ n=>wst' fl nn (revE fl == 0) (newW fl).1 (newW fl).2.1 (newW fl).2.2 n) (P:=fun _=>True) (ccalls_ren hCC ((wo_New0 fl nn hl).mono fun r τ h=>⟨_,_,h,(),rfl,rfl,tt⟩)) (fun _ _=>rfl) (fun _ n i x h=>by
  rcases i with _ | _ | _ | _ | i
  ·injection h with h; subst h; exact ⟨_,rfl,ren_wbx rfl rfl rfl⟩
  ·injection h with h; subst h; exact ⟨_,rfl,ren_gm pure_sv pure_vcS _⟩
  ·injection h with h; subst h; exact ⟨_,rfl,ren_gm Nm.pure En.pure _⟩
  ·injection h with h; subst h; exact ⟨_,rfl,ren_gobj _⟩
  ·cases h) (fun _ n=>.ret (.ptr rfl)) σ
theorem en_pures (a:En):Pures a.cells:=⟨.val _,.val _,.val _,.val _,.val _,.val _,tt⟩
theorem ky_pures (a:Ky):Pures (Ky.cv a):=⟨.val _,.val _,.val _,tt⟩
theorem pure_enl (l:List En) (nn:Bool):Pure (.list (l.map En.cells) nn none):=pure_rows (f:=En.cells) en_pures l nn
theorem ren_glq {rows:List (List CV)} {s:Nat} (hp:∀ r∈rows,∀ c∈r,Pure c) (h:R s s'):RenR R (.list rows (gnn m) (gtok m s)) (.list rows (gnn m) (gtok m s')):=by
 refine .list rfl (fun i r r' h1 h2=>by rw [h1] at h2; injection h2 with h2; rw [h2]) (fun i j r r' c c' h1 h2 h3 h4=>?_) ?_
 ·rw [h1] at h2; injection h2 with h2; subst h2; rw [h3] at h4; injection h4 with h4; subst h4
  exact .pure (hp r (n_0 h1) c (n_0 h3))
 ·cases m with
  | zero=>exact .inl ⟨rfl,rfl⟩
  | succ m=>exact .inr ⟨s,s',rfl,rfl,h⟩
theorem ccalls_glist {f:FuncId} {args:List CV} {g:β->List CV} {L:α->List β} {P:α->Prop} (hargs:∀ a∈args,Pure a) (hp:∀ b,Pures (g b)) (h:CCalls CC f args [] fun r τ=>∃ a,FinR 0 τ r (.ret (.list ((L a).map g) (gnn (L a).length) (gtok (L a).length 0))) [gobj (L a).length]/\P a) (σ:List CObj) :
 CCalls CC f args σ fun r τ=>∃ a,r = .ret (.list ((L a).map g) (gnn (L a).length) (gtok (L a).length σ.length))/\τ=σ++[gobj (L a).length]/\P a :=
 ccalls_new (res:=fun a=>.ret (.list ((L a).map g) (gnn (L a).length) (gtok (L a).length 0))) (res':=fun a n=>.ret (.list ((L a).map g) (gnn (L a).length) (gtok (L a).length n))) (S:=fun a=>[gobj (L a).length]) (S':=fun a _=>[gobj (L a).length]) hCC hargs (ccalls_ren hCC (h.mono fun r τ ⟨a,h1,h2⟩=>⟨_,_,h1,a,rfl,rfl,h2⟩)) (fun _ _=>rfl) (fun a n i x hx=>by
  rcases i with _ | i
  ·injection hx with hx; subst hx; exact ⟨_,rfl,ren_gobj _⟩
  ·cases hx) (fun a n=>.ret (ren_glq (fun r hr c hc=>(rows_pure (f:=g) (fun b=>Pures.all (hp b)) _) r hr c hc) si_)) σ
theorem wo_Ent0 (fl:List Fi) (nn va:Bool) (br:List Str) (ms:SM) (me:EM) (hme:me.length<=1000000):CCalls CC 130 [.ptr 0 0] (wst fl nn va br ms me) fun r τ=>∃ l:List En,FinR 4 τ r (.ret (.list (l.map En.cells) (gnn l.length) none)) [wbx fl nn va br 1 2 3,smO ms,.dead,gobj br.length]/\l.Perm (me.map Prod.snd):=by
 refine (ccalls_of Tryz.func130 rfl rfl ?_);refine z_4 ?_; refine z_54 ?_; refine cY q_279 ?_; refine cY q_134 ?_; refine cY q_221 ?_;refine cD (d_range rfl tt rfl t_80 rfl ?_);refine z_13 ?_; refine cw_loopr hCC 5 rfl (α:=List (Nm × En) × List (Nm × En) × List En) (fun x=>[(3,(.list (x.2.2.map En.cells) (gnn x.2.2.length) (gtok x.2.2.length 5))),(10,.ptr 4 0)]) (fun x=>[wbx fl nn va br 1 2 3,smO ms,.dead,gobj br.length,.iter (gm Nm.kc vcE x.1) (gm Nm.kc vcE x.2.1),gobj x.2.2.length]) (fun x=>(x.2.2++x.2.1.map Prod.snd).Perm (me.map Prod.snd)) (fun x=>x.2.1.length) ⟨([],me,[]),[0,1,2,3,4,9],(List.Perm.refl _),⟨rfl,rfl⟩,q_16,⟨.inr ⟨_,rfl,.same rfl q_270⟩,.inr ⟨_,rfl,.same rfl q_294⟩,.inl rfl,.inr ⟨_,rfl,.same rfl q_292⟩,.inr ⟨_,rfl,.same rfl (old_iter Nm.pure En.pure _ _ _)⟩,.inl rfl,tt⟩⟩ ?_; intro ⟨cur,left,out⟩ hp;dsimp only at hp ⊢;have hpl:=hp.length_eq;rw [n_4,n_17,n_17] at hpl;refine z_0 ?_;refine cD (d_next rfl tt rfl rfl (fun hz=>?_) (fun i x hx=>?_))
 ·
  have hl0:left=[]:=by
   cases left with
   | nil=>rfl
   | cons y l=>cases hz
  subst hl0; refine z_177 ?_; refine cC (fun h1=>?_) fun h1=>?_
  ·cases h1
  ·rw [List.map_nil,n_32] at hp;refine z_170 ?_;exact ⟨_,res1 rfl tt q_269,⟨out,⟨[0,1,2,3],rfl,rfl,.ret (ren_lst (f:=En.cells) en_pures _),.inr ⟨_,rfl,.same rfl q_270⟩,.inr ⟨_,rfl,.same rfl q_294⟩,.inl rfl,.inr ⟨_,rfl,.same rfl q_292⟩,tt⟩,hp⟩⟩
 ·
  obtain ⟨⟨q,e⟩,hy,rfl⟩:=gm_get hx;rw [gm_erase];have hlt:=(n_1.1 hy).1;refine z_177 ?_; refine cC (fun h2=>?_) fun h2=>?_
  ·refine z_128 ?_; refine z_212 ?_; refine cY q_266 ?_;refine cD (d_alloc rfl t_25 rfl q_288 ?_);refine z_74 ?_; refine z_7 ?_; refine cY q_186 ?_; refine cY (y_lit [En.cells e] rfl ⟨tt,tt⟩ t_98 t_39 t_25 rfl rfl rfl rfl rfl rfl rfl rfl rfl) ?_;refine cD (d_appu rfl tt tt rfl si_ q_19 t_98 t_39 Tryz.typeInfo59 t_25 rfl (.inr rfl) q_21 (by have hb:Tryz.t59.bytes=72:=rfl; rw [hb]; first|omega|(simp; done)|(simp; omega)) q_226 ((out++[e]).map En.cells) (out++[e]).length si_ si_ ?_);refine z_1 ?_;exact ⟨([(q,e)],left.eraseIdx i,out++[e]),[0,1,2,3,4,7],⟨by dsimp only; rw [n_129 hlt]; omega,(perm_out hy).trans hp⟩,⟨rfl,rfl⟩,q_16,⟨.inr ⟨_,rfl,.same rfl q_270⟩,.inr ⟨_,rfl,.same rfl q_294⟩,.inl rfl,.inr ⟨_,rfl,.same rfl q_292⟩,.inr ⟨_,rfl,.same rfl (old_iter Nm.pure En.pure _ _ _)⟩,.inr ⟨_,rfl,.same rfl q_292⟩,tt⟩⟩
  ·cases h2
theorem wo_Entities {nn va:Bool} {br:List Str} {ms:SM} {w q1 q2 t:Nat} (hσ:WAt σ w q1 q2 t fl nn va br ms me) (hme:me.length<=1000000):CCalls CC 130 [.ptr w 0] σ fun r τ=>∃ l:List En,r = .ret (.list (l.map En.cells) (gnn l.length) none)/\τ=setL σ [w,q1,q2,t] [wbx fl nn va br q1 q2 t,smO ms,.dead,gobj br.length]/\l.Perm (me.map Prod.snd) :=
 ccalls_liftN (α:=List En) (obs:=wst fl nn va br ms me) (res:=fun l=>.ret (.list (l.map En.cells) (gnn l.length) none)) (res':=fun l=>.ret (.list (l.map En.cells) (gnn l.length) none)) (S:=fun _=>[wbx fl nn va br 1 2 3,smO ms,.dead,gobj br.length]) (S':=fun _=>[wbx fl nn va br q1 q2 t,smO ms,.dead,gobj br.length]) (P:=fun l=>l.Perm (me.map Prod.snd)) [w,q1,q2,t] hCC rfl hσ.nd (fun i k ob h1 h2=>by
  obtain ⟨ob',_,h3,h4⟩:=w_rel hσ i k ob h1 h2;exact ⟨ob',h3,h4.symm fun _ _ h=>h⟩) (.cons (.ptr rfl) .nil) (ccalls_ren hCC ((wo_Ent0 fl nn va br ms me hme).mono fun r τ ⟨l,h,hp⟩=>⟨_,_,h,l,rfl,rfl,hp⟩)) q_291 (fun _ i k y h1 h2=>by
  rcases i with _ | _ | _ | _ | i
  ·injection h2 with h2; subst h2; exact ⟨_,rfl,ren_wbx rfl rfl rfl⟩
  ·injection h2 with h2; subst h2; exact ⟨_,rfl,ren_gm pure_sv pure_vcS _⟩
  ·injection h2 with h2; subst h2; exact ⟨_,rfl,.dead⟩
  ·injection h2 with h2; subst h2; exact ⟨_,rfl,ren_gobj _⟩
  ·cases h2) fun l=>.ret (.pure (pure_enl l _))
def dataK (f:Fi):Ky:=⟨4,f.p,[]⟩
def enKy (e:En):Ky:=if e.k=1 then ⟨1,e.p,e.o⟩ else if e.k=2 then ⟨2,e.p,e.o⟩ else ⟨3,e.o,[]⟩
def key2 (s:Str):List Ky:=[⟨6,s,[]⟩,⟨7,s,[]⟩]
def srcK (x:Src):List Ky:=(x.pkg::x.imports).flatMap key2
def KU (fl:List Fi):List Ky:=fl.map dataK++((newW fl).2.2.map Prod.snd).map enKy++((newW fl).2.1.map Prod.snd).flatMap srcK
theorem ku_mem {es:List En} {ss:List Src} (he:es.Perm ((newW fl).2.2.map Prod.snd)) (hs:ss.Perm ((newW fl).2.1.map Prod.snd)) (k:Ky):k∈fl.map dataK++es.map enKy++ss.flatMap srcK↔k∈KU fl:=by
 unfold KU;rw [n_18,n_18,n_18,n_18,(he.map enKy).mem_iff,(hs.flatMap_right srcK).mem_iff]
theorem k2_step {l:List Str} {s:Str} (h:l[j]? = some s):(l.take (j+1)).flatMap key2=(l.take j).flatMap key2++key2 s:=by
 rw [n_50,h,List.flatMap_append]; simp
theorem map_step {l:List α} {s:α} (h:l[j]? = some s) (g:α->β):(l.take (j+1)).map g=(l.take j).map g++[g s]:=by
 rw [n_50,h,n_62]; rfl
theorem ed_keys0 (fl:List Fi) (nn:Bool) (hfl:∀ f∈fl,f.p.length<=1000000000) (hl:fl.length<=64) (hes:(newW fl).2.2.length<=10000) (hss:(newW fl).2.1.length<=64) (him:∀ x∈(newW fl).2.1,x.2.imports.length<=8):CCalls CC 78 [.agg (revC fl nn)] [] fun r τ=>∃ l:List Ky,FinR 0 τ r (.ret (.list (l.map Ky.cv) (gnn l.length) (gtok l.length 0))) [gobj l.length]/\((∀ k,k∈l↔k∈KU fl)/\l.length<=20000):=by
 refine (ccalls_of Tryz.func78 rfl rfl ?_);refine z_60 ?_; refine z_124 ?_;refine cD (d_callv rfl Tryz.call56 ⟨tt,tt⟩ (wo_New fl nn hfl _) rfl ?_);intro _ _; refine co_norm [.box (revC fl nn),wbx fl nn (revE fl == 0) (newW fl).1 2 3 4,smO (newW fl).2.1,emO (newW fl).2.2,gobj (newW fl).1.length] rfl ?_; refine z_1 ?_; refine z_54 ?_; refine cY q_279 ?_; refine cY q_143 ?_; refine z_139 ?_; refine cw_loopr hCC 5 rfl (α:=Nat × List Ky) (fun a=>[(3,.ptr 1 0),(4,(.list (a.2.map Ky.cv) (gnn a.2.length) (gtok a.2.length 5))),(19,(.list (fl.map Fi.cv) nn none)),(20,(.val (.int .i64 (fl.length:Int)))),(21,(.val (.int .i64 (a.1:Int))))]) (fun a=>[.box (revC fl nn),wbx fl nn (revE fl == 0) (newW fl).1 2 3 4,smO (newW fl).2.1,emO (newW fl).2.2,gobj (newW fl).1.length,gobj a.2.length]) (fun a=>a.1<=fl.length/\a.2=(fl.take a.1).map dataK) (fun a=>fl.length - a.1) ⟨(0,[]),[0,1,2,3,4,9],⟨n_3 _,rfl⟩,⟨rfl,rfl⟩,⟨q_47,q_47,q_47,q_47,q_47,tt⟩,⟨.inr ⟨_,rfl,.same rfl q_261⟩,.inr ⟨_,rfl,.same rfl q_270⟩,.inr ⟨_,rfl,.same rfl q_294⟩,.inr ⟨_,rfl,.same rfl q_295⟩,.inr ⟨_,rfl,.same rfl q_292⟩,.inl rfl,tt⟩⟩ ?_; intro ⟨i,out⟩ ⟨hi,ho⟩;dsimp only at hi ho ⊢;have hol:out.length<=i:=by rw [ho,n_17,n_46]; omega
 refine z_28 ?_; refine cC (fun h1=>?_) fun h1=>?_
 ·have hlt:i < fl.length:=by simp at h1; omega
  obtain ⟨y,hb⟩:∃ y,fl[i]? = some y:=⟨fl[i]'hlt,si_⟩;refine z_174 ?_; refine z_190 ?_; refine z_44 ?_; refine cY q_46 ?_; refine cY (y_lit [Ky.cv (dataK y)] rfl ⟨tt,tt⟩ t_5 t_4 t_11 rfl rfl rfl rfl rfl rfl rfl rfl rfl) ?_;refine cD (d_appu rfl tt tt rfl si_ q_19 t_5 t_4 t_30 t_11 rfl (.inr rfl) q_21 q_79 q_226 ((out++[dataK y]).map Ky.cv) (out++[dataK y]).length si_ si_ ?_);refine z_111 ?_;exact ⟨(i+1,out++[dataK y]),[0,1,2,3,4,7],⟨do_,do_,by dsimp only; rw [ho,map_step hb]⟩,⟨rfl,rfl⟩,q_0,⟨.inr ⟨_,rfl,.same rfl q_261⟩,.inr ⟨_,rfl,.same rfl q_270⟩,.inr ⟨_,rfl,.same rfl q_294⟩,.inr ⟨_,rfl,.same rfl q_295⟩,.inr ⟨_,rfl,.same rfl q_292⟩,.inr ⟨_,rfl,.same rfl q_292⟩,tt⟩⟩
 ·have hie:i=fl.length:=by simp at h1; omega
  rw [hie,n_28 (n_5 _)] at ho;subst ho;have hdl:(fl.map dataK).length=fl.length:=n_17 _;refine z_241 ?_;refine cD (d_callv rfl Tryz.call130 ⟨tt,tt⟩ (wo_Entities (w:=1) (q1:=2) (q2:=3) (t:=4) ⟨rfl,rfl,rfl,rfl,nodup4 ⟨de_,de_,de_,de_,de_,de_⟩⟩ om_) rfl ?_);intro es hp;have hel:=hp.length_eq;rw [n_17] at hel;refine co_norm [.box (revC fl nn),wbx fl nn (revE fl == 0) (newW fl).1 2 3 4,smO (newW fl).2.1,.dead,gobj (newW fl).1.length,gobj (fl.map dataK).length] rfl ?_; refine cY (y_len rfl tt rfl t_98 q_250 rfl) ?_; refine z_24 ?_; refine cw_looprS hCC 6 rfl 5 4 (.list ((fl.map dataK).map Ky.cv) (gnn (fl.map dataK).length) (gtok (fl.map dataK).length 6)) rfl tt shv_glist (α:=Nat × List Ky) (fun a=>[(3,.ptr 1 0),(4,(.list (a.2.map Ky.cv) (gnn a.2.length) (gtok a.2.length 6))),(33,(.list (es.map En.cells) (gnn es.length) none)),(34,(.val (.int .i64 (es.length:Int)))),(35,(.val (.int .i64 (a.1:Int))))]) (fun a=>[.box (revC fl nn),wbx fl nn (revE fl == 0) (newW fl).1 2 3 4,smO (newW fl).2.1,.dead,gobj (newW fl).1.length,.dead,gobj a.2.length]) (fun a=>a.1<=es.length/\a.2=fl.map dataK++(es.take a.1).map enKy) (fun a=>es.length - a.1) ⟨(0,fl.map dataK),[0,1,2,3,4,5,6],⟨n_3 _,si_⟩,⟨rfl,rfl⟩,q_0,⟨.inr ⟨_,rfl,.same rfl q_261⟩,.inr ⟨_,rfl,.same rfl q_270⟩,.inr ⟨_,rfl,.same rfl q_294⟩,.inl rfl,.inr ⟨_,rfl,.same rfl q_292⟩,.inl rfl,.inr ⟨_,rfl,.same rfl q_292⟩,tt⟩⟩ ?_; intro ⟨i,out⟩ ⟨hi,ho⟩;dsimp only at hi ho ⊢;have hol:out.length<=64+i:=by rw [ho,n_4,n_17,n_17,n_46]; omega
  refine z_28 ?_; refine cC (fun h2=>?_) fun h2=>?_
  ·have hlt:i < es.length:=by simp at h2; omega
   obtain ⟨y,hb⟩:∃ y,es[i]? = some y:=⟨es[i]'hlt,si_⟩;refine z_41 ?_; refine cY (y_index rfl tt tt rfl rfl t_98 t_39 om_ (rows_get hb) rfl) ?_; refine cY (y_load_c rfl tt rfl t_126 t_39 (nb rfl)) ?_;refine cD (d_alloc rfl t_25 rfl q_288 ?_);refine cD (d_store rfl tt tt rfl q_269 t_39 q_288 rfl rfl (nb rfl) ?_);refine z_48 ?_; refine cY q_167 ?_; refine z_269 ?_; refine cC (fun h3=>?_) fun h3=>?_
   ·have hk1:y.k=1:=by simpa using h3
    have hek:enKy y=⟨1,y.p,y.o⟩:=if_pos hk1;refine z_7 ?_; refine z_161 ?_; refine z_161 ?_; refine cY q_41 ?_; refine cY (y_lit [Ky.cv (⟨1,y.p,y.o⟩:Ky)] rfl ⟨tt,tt⟩ t_5 t_4 t_11 rfl rfl rfl rfl rfl rfl rfl rfl rfl) ?_;refine cD (d_appu rfl tt tt rfl si_ q_19 t_5 t_4 t_30 t_11 rfl (.inr rfl) q_21 q_79 q_226 ((out++[(⟨1,y.p,y.o⟩:Ky)]).map Ky.cv) (out++[((⟨1,y.p,y.o⟩:Ky):Ky)]).length si_ si_ ?_);refine z_111 ?_;exact ⟨(i+1,out++[(⟨1,y.p,y.o⟩:Ky)]),[0,1,2,3,4,5,8],⟨do_,do_,by dsimp only; rw [ho,map_step hb,hek,n_8]⟩,⟨rfl,rfl⟩,q_0,⟨.inr ⟨_,rfl,.same rfl q_261⟩,.inr ⟨_,rfl,.same rfl q_270⟩,.inr ⟨_,rfl,.same rfl q_294⟩,.inl rfl,.inr ⟨_,rfl,.same rfl q_292⟩,.inl rfl,.inr ⟨_,rfl,.same rfl q_292⟩,tt⟩⟩
   ·have hk1:¬ y.k=1:=by simpa using h3
    refine z_27 ?_; refine cC (fun h4=>?_) fun h4=>?_
    ·have hk2:y.k=2:=by simpa using h4
     have hek:enKy y=⟨2,y.p,y.o⟩:=(if_neg hk1).trans (if_pos hk2);refine z_7 ?_; refine z_161 ?_; refine z_161 ?_; refine cY q_41 ?_; refine cY (y_lit [Ky.cv (⟨2,y.p,y.o⟩:Ky)] rfl ⟨tt,tt⟩ t_5 t_4 t_11 rfl rfl rfl rfl rfl rfl rfl rfl rfl) ?_;refine cD (d_appu rfl tt tt rfl si_ q_19 t_5 t_4 t_30 t_11 rfl (.inr rfl) q_21 q_79 q_226 ((out++[(⟨2,y.p,y.o⟩:Ky)]).map Ky.cv) (out++[((⟨2,y.p,y.o⟩:Ky):Ky)]).length si_ si_ ?_);refine z_111 ?_;exact ⟨(i+1,out++[(⟨2,y.p,y.o⟩:Ky)]),[0,1,2,3,4,5,8],⟨do_,do_,by dsimp only; rw [ho,map_step hb,hek,n_8]⟩,⟨rfl,rfl⟩,q_0,⟨.inr ⟨_,rfl,.same rfl q_261⟩,.inr ⟨_,rfl,.same rfl q_270⟩,.inr ⟨_,rfl,.same rfl q_294⟩,.inl rfl,.inr ⟨_,rfl,.same rfl q_292⟩,.inl rfl,.inr ⟨_,rfl,.same rfl q_292⟩,tt⟩⟩
    ·have hk2:¬ y.k=2:=by simpa using h4
     have hek:enKy y=⟨3,y.o,[]⟩:=(if_neg hk1).trans (if_neg hk2);refine z_7 ?_; refine z_161 ?_; refine cY q_46 ?_; refine cY (y_lit [Ky.cv (⟨3,y.o,[]⟩:Ky)] rfl ⟨tt,tt⟩ t_5 t_4 t_11 rfl rfl rfl rfl rfl rfl rfl rfl rfl) ?_;refine cD (d_appu rfl tt tt rfl si_ q_19 t_5 t_4 t_30 t_11 rfl (.inr rfl) q_21 q_79 q_226 ((out++[(⟨3,y.o,[]⟩:Ky)]).map Ky.cv) (out++[((⟨3,y.o,[]⟩:Ky):Ky)]).length si_ si_ ?_);refine z_111 ?_;exact ⟨(i+1,out++[(⟨3,y.o,[]⟩:Ky)]),[0,1,2,3,4,5,8],⟨do_,do_,by dsimp only; rw [ho,map_step hb,hek,n_8]⟩,⟨rfl,rfl⟩,q_0,⟨.inr ⟨_,rfl,.same rfl q_261⟩,.inr ⟨_,rfl,.same rfl q_270⟩,.inr ⟨_,rfl,.same rfl q_294⟩,.inl rfl,.inr ⟨_,rfl,.same rfl q_292⟩,.inl rfl,.inr ⟨_,rfl,.same rfl q_292⟩,tt⟩⟩
  ·have hie:i=es.length:=by simp at h2; omega
   rw [hie,n_28 (n_5 _)] at ho;subst ho;have hal:(fl.map dataK++es.map enKy).length<=10064:=by rw [n_4,n_17,n_17]; omega
   refine z_241 ?_; refine cY q_279 ?_; refine cY q_137 ?_; refine cY q_222 ?_;refine cD (d_range rfl tt rfl t_82 rfl ?_);refine z_13 ?_; refine cw_looprS hCC 8 rfl 6 4 (.list ((fl.map dataK++es.map enKy).map Ky.cv) (gnn (fl.map dataK++es.map enKy).length) (gtok (fl.map dataK++es.map enKy).length 8)) rfl tt shv_glist (α:=List (Str × Src) × List (Str × Src) × List Src × List Ky) (fun a=>[(4,(.list (a.2.2.2.map Ky.cv) (gnn a.2.2.2.length) (gtok a.2.2.2.length 8))),(72,.ptr 7 0)]) (fun a=>[.box (revC fl nn),wbx fl nn (revE fl == 0) (newW fl).1 2 3 4,.dead,.dead,gobj (newW fl).1.length,.dead,.dead,.iter (gm sv vcS a.1) (gm sv vcS a.2.1),gobj a.2.2.2.length]) (fun a=>(a.2.2.1++a.2.1.map Prod.snd).Perm ((newW fl).2.1.map Prod.snd)/\a.2.2.2=(fl.map dataK++es.map enKy)++a.2.2.1.flatMap srcK/\a.2.2.2.length<=10064+18*a.2.2.1.length) (fun a=>a.2.1.length) ⟨([],(newW fl).2.1,[],(fl.map dataK++es.map enKy)),[0,1,2,3,4,5,6,7,8],⟨List.Perm.refl _,si_,by simpa using hal⟩,⟨rfl,rfl⟩,q_15,⟨.inr ⟨_,rfl,.same rfl q_261⟩,.inr ⟨_,rfl,.same rfl q_270⟩,.inl rfl,.inl rfl,.inr ⟨_,rfl,.same rfl q_292⟩,.inl rfl,.inl rfl,.inr ⟨_,rfl,.same rfl (old_iter pure_sv pure_vcS _ _ _)⟩,.inr ⟨_,rfl,.same rfl q_292⟩,tt⟩⟩ ?_; intro ⟨cur,left,done,out⟩ ⟨hq,ho,hol⟩;dsimp only at hq ho hol ⊢;have hql:=hq.length_eq;rw [n_4,n_17,n_17] at hql;refine z_0 ?_;refine cD (d_next rfl tt rfl rfl (fun hz=>?_) (fun i x hx=>?_))
   ·
    have hl0:left=[]:=by
     cases left with
     | nil=>rfl
     | cons y l=>cases hz
    subst hl0; refine z_177 ?_; refine cC (fun h5=>?_) fun h5=>?_
    ·cases h5
    ·rw [List.map_nil,n_32] at hq;refine z_170 ?_;exact ⟨_,res1 rfl tt q_269,⟨out,⟨[8],rfl,rfl,.ret (RenV.grow (f:=Ky.cv) (fun _=>⟨.val _,.val _,.val _,tt⟩) rfl),.inr ⟨_,rfl,.same rfl q_292⟩,tt⟩,fun k=>by rw [ho]; exact ku_mem hp hq k,om_⟩⟩
   ·
    obtain ⟨⟨q,x⟩,hy,rfl⟩:=gm_get hx;rw [gm_erase];have hlt:=(n_1.1 hy).1;have hxi:x.imports.length<=8:=by
     have h1:x∈done++left.map Prod.snd:=n_103 _ (n_9.2 ⟨_,n_0 hy,rfl⟩);obtain ⟨z,hz1,hz2⟩:=n_9.1 (hq.mem_iff.1 h1);exact hz2 ▸ him z hz1
    refine z_177 ?_; refine cC (fun h7=>?_) fun h7=>?_
    ·refine z_128 ?_; refine z_212 ?_; refine cY q_266 ?_; refine z_101 ?_; refine z_48 ?_; refine z_196 ?_;refine cD (d_lit1g rfl tt rfl rfl t_2 t_0 t_3 rfl ?_);refine z_160 ?_;refine cD (d_appu (m:=1) rfl tt tt rfl rfl q_19 t_2 t_0 t_24 t_3 rfl (.inr rfl) q_21 q_81 q_226 ((x.pkg::x.imports).map scv) (x.imports.length+1) rfl q_287 ?_);refine z_107 ?_; refine cw_looprS hCC 12 rfl 8 4 (.list (out.map Ky.cv) (gnn out.length) (gtok out.length 12)) rfl tt shv_glist (α:=Nat × List Ky) (fun a=>[(4,(.list (a.2.map Ky.cv) (gnn a.2.length) (gtok a.2.length 12))),(72,.ptr 7 0),(82,(.list ((x.pkg::x.imports).map scv) (gnn (x.imports.length+1)) none)),(83,(.val (.int .i64 ((x.pkg::x.imports).length:Int)))),(84,(.val (.int .i64 (a.1:Int))))]) (fun a=>[.box (revC fl nn),wbx fl nn (revE fl == 0) (newW fl).1 2 3 4,.dead,.dead,gobj (newW fl).1.length,.dead,.dead,.iter (gm sv vcS [(q,x)]) (gm sv vcS (left.eraseIdx i)),.dead,.box x.cells,.dead,.dead,gobj a.2.length]) (fun a=>a.1<=x.imports.length+1/\a.2=out++((x.pkg::x.imports).take a.1).flatMap key2/\a.2.length=out.length+2*a.1) (fun a=>x.imports.length+1 - a.1) ⟨(0,out),[0,1,2,3,4,5,6,7,8,9,10,11,12],⟨n_3 _,si_,rfl⟩,⟨rfl,rfl⟩,q_0,⟨.inr ⟨_,rfl,.same rfl q_261⟩,.inr ⟨_,rfl,.same rfl q_270⟩,.inl rfl,.inl rfl,.inr ⟨_,rfl,.same rfl q_292⟩,.inl rfl,.inl rfl,.inr ⟨_,rfl,.same rfl (old_iter pure_sv pure_vcS _ _ _)⟩,.inl rfl,.inr ⟨_,rfl,.same rfl q_197⟩,.inl rfl,.inl rfl,.inr ⟨_,rfl,.same rfl q_292⟩,tt⟩⟩ ?_; intro ⟨j,o2⟩ ⟨hj,ho2,hl2⟩;dsimp only at hj ho2 hl2 ⊢;refine z_28 ?_; refine cC (fun h8=>?_) fun h8=>?_
     ·have hjt:j < (x.pkg::x.imports).length:=by simp at h8 ⊢; omega
      obtain ⟨s,hs⟩:∃ s,(x.pkg::x.imports)[j]? = some s:=⟨(x.pkg::x.imports)[j]'hjt,si_⟩;have hjt2:j < x.imports.length+1:=hjt;refine z_41 ?_; refine z_236 ?_; refine z_257 ?_; refine cY q_46 ?_; refine cY q_246 ?_; refine cY q_46 ?_; refine cY (y_lit ((key2 s).map Ky.cv) rfl q_296 t_5 t_4 t_11 rfl rfl rfl rfl rfl rfl rfl rfl rfl) ?_;refine cD (d_appu rfl tt tt rfl si_ q_19 t_5 t_4 t_30 t_11 rfl (.inr rfl) q_21 (by have hb:Tryz.t39.bytes=40:=rfl; rw [hb]; (simp [key2]; omega)) (by simp [key2]; omega) ((o2++key2 s).map Ky.cv) (o2++key2 s).length (by rw [n_62]) (by rw [n_4]; simp) ?_);refine z_111 ?_;exact ⟨(j+1,o2++key2 s),[0,1,2,3,4,5,6,7,8,9,10,11,13],⟨do_,do_,by dsimp only; rw [k2_step hs,ho2,n_8],by dsimp only; rw [n_4]; simp [key2]; omega⟩,⟨rfl,rfl⟩,q_0,⟨.inr ⟨_,rfl,.same rfl q_261⟩,.inr ⟨_,rfl,.same rfl q_270⟩,.inl rfl,.inl rfl,.inr ⟨_,rfl,.same rfl q_292⟩,.inl rfl,.inl rfl,.inr ⟨_,rfl,.same rfl (old_iter pure_sv pure_vcS _ _ _)⟩,.inl rfl,.inr ⟨_,rfl,.same rfl q_197⟩,.inl rfl,.inl rfl,.inr ⟨_,rfl,.same rfl q_292⟩,tt⟩⟩
     ·have hje:j=(x.pkg::x.imports).length:=by simp at h8 ⊢; omega
      rw [hje,n_28 (n_5 _)] at ho2;have hje2:j=x.imports.length+1:=hje;refine cw_exit ?_;exact ⟨([(q,x)],left.eraseIdx i,done++[x],o2),[0,1,2,3,4,5,6,7,12],⟨by dsimp only; rw [n_129 hlt]; omega,(perm_out hy).trans hq,by dsimp only; rw [ho2,ho,List.flatMap_append,n_8]; simp [srcK],by dsimp only; rw [n_4]; simp; omega⟩,⟨rfl,rfl⟩,q_15,⟨.inr ⟨_,rfl,.same rfl q_261⟩,.inr ⟨_,rfl,.same rfl q_270⟩,.inl rfl,.inl rfl,.inr ⟨_,rfl,.same rfl q_292⟩,.inl rfl,.inl rfl,.inr ⟨_,rfl,.same rfl (old_iter pure_sv pure_vcS _ _ _)⟩,.inr ⟨_,rfl,.same rfl q_292⟩,tt⟩⟩
    ·cases h7
theorem ed_keys (fl:List Fi) (nn:Bool) (hfl:∀ f∈fl,f.p.length<=1000000000) (hl:fl.length<=64) (hes:(newW fl).2.2.length<=10000) (hss:(newW fl).2.1.length<=64) (him:∀ x∈(newW fl).2.1,x.2.imports.length<=8) (σ:List CObj):CCalls CC 78 [.agg (revC fl nn)] σ fun r τ=>∃ l:List Ky,r = .ret (.list (l.map Ky.cv) (gnn l.length) (gtok l.length σ.length))/\τ=σ++[gobj l.length]/\((∀ k,k∈l↔k∈KU fl)/\l.length<=20000) :=
 ccalls_glist (L:=fun l=>l) (fun a h=>by simp at h; subst h; exact pure_agg (cs:=revC _ _) ⟨pure_fis _ _,tt⟩) ky_pures (ed_keys0 fl nn hfl hl hes hss him) σ
def varK (v:Va):Ky:=⟨5,v.n,[]⟩
theorem pure_revq (fl:List Fi) (nn:Bool):Pure (.agg (revC fl nn)):=pure_agg (cs:=revC _ _) ⟨pure_fis _ _,tt⟩
theorem pure_envq (ev:List Va) (nn:Bool):Pure (.agg (envC ev nn)):=pure_agg (cs:=envC _ _) ⟨pure_vas _ _,tt⟩
structure KUok (fl:List Fi):Prop where
 pl:∀ f∈fl,f.p.length<=1000000000
 len:fl.length<=64
 es:(newW fl).2.2.length<=10000
 ss:(newW fl).2.1.length<=64
 im:∀ x∈(newW fl).2.1,x.2.imports.length<=8
 ky:∀ k∈KU fl,k.a.length<=1000000000/\k.b.length<=1000000000
theorem ed_variables0 (ev:List Va) (en:Bool) (hev:ev.length<=1000000):CCalls CC 80 [.agg (envC ev en)] [] fun r τ=>∃ _:Unit,FinR 0 τ r (.ret (.list ((ev.map varK).map Ky.cv) (gnn (ev.map varK).length) (gtok (ev.map varK).length 0))) [gobj (ev.map varK).length]/\True:=by
 refine (ccalls_of Tryz.func80 rfl rfl ?_);refine z_60 ?_; refine z_4 ?_; refine z_42 ?_; refine cY q_155 ?_; refine cY q_235 ?_; refine cY q_106 ?_; refine z_24 ?_; refine cw_loopr hCC 1 rfl (α:=Nat × List Ky) (fun a=>[(3,(.list (a.2.map Ky.cv) (gnn a.2.length) (gtok a.2.length 1))),(7,(.list (ev.map Va.cv) en none)),(8,(.val (.int .i64 (ev.length:Int)))),(9,(.val (.int .i64 (a.1:Int))))]) (fun a=>[.box (envC ev en),gobj a.2.length]) (fun a=>a.1<=ev.length/\a.2=(ev.take a.1).map varK) (fun a=>ev.length - a.1) ⟨(0,[]),[0,9],⟨n_3 _,rfl⟩,⟨rfl,rfl⟩,⟨q_47,q_47,q_47,q_47,tt⟩,⟨.inr ⟨_,rfl,.same rfl q_262⟩,.inl rfl,tt⟩⟩ ?_; intro ⟨i,out⟩ ⟨hi,ho⟩;dsimp only at hi ho ⊢;have hol:out.length<=i:=by rw [ho,n_17,n_46]; omega
 refine z_28 ?_; refine cC (fun h1=>?_) fun h1=>?_
 ·have hlt:i < ev.length:=by simp at h1; omega
  obtain ⟨y,hb⟩:∃ y,ev[i]? = some y:=⟨ev[i]'hlt,si_⟩;refine z_41 ?_; refine cY q_92 ?_; refine cY q_189 ?_; refine z_199 ?_; refine z_190 ?_; refine cY q_158 ?_; refine cY q_237 ?_; refine cY q_46 ?_; refine cY (y_lit [Ky.cv (varK y)] rfl ⟨tt,tt⟩ t_5 t_4 t_11 rfl rfl rfl rfl rfl rfl rfl rfl rfl) ?_;refine cD (d_appu rfl tt tt rfl si_ q_19 t_5 t_4 t_30 t_11 rfl (.inr rfl) q_21 q_79 q_226 ((out++[varK y]).map Ky.cv) (out++[varK y]).length si_ si_ ?_);refine z_111 ?_;exact ⟨(i+1,out++[varK y]),[0,3],⟨do_,do_,by dsimp only; rw [ho,map_step hb]⟩,⟨rfl,rfl⟩,⟨q_26,q_26,q_26,q_26,tt⟩,⟨.inr ⟨_,rfl,.same rfl q_262⟩,.inr ⟨_,rfl,.same rfl q_292⟩,tt⟩⟩
 ·have hie:i=ev.length:=by simp at h1; omega
  rw [hie,n_28 (n_5 _)] at ho;subst ho; refine z_170 ?_;exact ⟨_,res1 rfl tt q_269,⟨(),⟨[1],rfl,rfl,.ret (RenV.grow (f:=Ky.cv) (fun _=>⟨.val _,.val _,.val _,tt⟩) rfl),.inr ⟨_,rfl,.same rfl q_292⟩,tt⟩,tt⟩⟩
theorem ed_variables (ev:List Va) (en:Bool) (hev:ev.length<=1000000) (σ:List CObj):CCalls CC 80 [.agg (envC ev en)] σ fun r τ=>∃ _:Unit,r = .ret (.list ((ev.map varK).map Ky.cv) (gnn (ev.map varK).length) (gtok (ev.map varK).length σ.length))/\τ=σ++[gobj (ev.map varK).length]/\True :=
 ccalls_glist (L:=fun _:Unit=>ev.map varK) (fun a h=>by simp at h; subst h; exact pure_envq _ _) ky_pures (ed_variables0 ev en hev) σ
theorem ed_unionK0 (fl:List Fi) (nn:Bool) (h1:KUok fl) (fs:List Fi) (ns:Bool) (h2:KUok fs):CCalls CC 77 [.agg (revC fl nn),.agg (revC fs ns),.val (.func (.func 78) #[] #[])] [] fun r τ=>∃ l:List Ky,FinR 0 τ r (.ret (.list (l.map Ky.cv) (gnn l.length) (gtok l.length 0))) [gobj l.length]/\((∀ k,k∈l↔k∈KU fl++KU fs)/\l.length<=40000):=by
 refine (ccalls_of Tryz.func77 rfl rfl ?_);refine z_63 ?_; refine z_3 ?_; refine cw_seq ?_; refine z_119 ?_; refine chf rfl q_128 ?_; refine chf rfl q_206 ?_; refine chf rfl q_128 ?_; refine chf_nil ?_;refine ctl_d rfl rfl (d_callfov rfl tt rfl Tryz.call78 ⟨tt,tt⟩ (ed_keys fl nn h1.pl h1.len h1.es h1.ss h1.im _) rfl ?_);intro l1 ⟨hm1,hl1⟩;refine ⟨⟨q_181,q_102,tt⟩,?_⟩;refine ctl_d rfl rfl (d_callfov rfl tt rfl Tryz.call78 ⟨tt,tt⟩ (ed_keys fs ns h2.pl h2.len h2.es h2.ss h2.im _) rfl ?_);intro l2 ⟨hm2,hl2⟩;refine ⟨tt,?_⟩;refine ctl_d rfl rfl (d_appu rfl tt tt rfl si_ q_19 t_5 t_4 t_30 t_11 rfl (.inr rfl) q_21 q_79 q_226 ((l1++l2).map Ky.cv) (l1++l2).length (by rw [n_62]) si_ ?_);refine ⟨tt,?_⟩;refine z_75 ?_; refine cw_ret ?_;exact ⟨_,res1 rfl tt rfl,⟨l1++l2,⟨[4],rfl,rfl,.ret (RenV.grow (f:=Ky.cv) (fun _=>⟨.val _,.val _,.val _,tt⟩) rfl),.inr ⟨_,rfl,.same rfl q_292⟩,tt⟩,fun k=>by rw [n_18,n_18,hm1,hm2],by rw [n_4]; omega⟩⟩
theorem ed_unionK (fl:List Fi) (nn:Bool) (h1:KUok fl) (fs:List Fi) (ns:Bool) (h2:KUok fs) (σ:List CObj):CCalls CC 77 [.agg (revC fl nn),.agg (revC fs ns),.val (.func (.func 78) #[] #[])] σ fun r τ=>∃ l:List Ky,r = .ret (.list (l.map Ky.cv) (gnn l.length) (gtok l.length σ.length))/\τ=σ++[gobj l.length]/\((∀ k,k∈l↔k∈KU fl++KU fs)/\l.length<=40000) :=
 ccalls_glist (L:=fun l=>l) (fun a h=>by simp at h; rcases h with rfl | rfl | rfl; exact pure_revq _ _; exact pure_revq _ _; exact .val _) ky_pures (ed_unionK0 fl nn h1 fs ns h2) σ
theorem ed_unionV0 (ev:List Va) (en:Bool) (h1:ev.length<=1000000) (ew:List Va) (ne:Bool) (h2:ew.length<=1000000):CCalls CC 79 [.agg (envC ev en),.agg (envC ew ne),.val (.func (.func 80) #[] #[])] [] fun r τ=>∃ _:Unit,FinR 0 τ r (.ret (.list ((ev.map varK++ew.map varK).map Ky.cv) (gnn (ev.map varK++ew.map varK).length) (gtok (ev.map varK++ew.map varK).length 0))) [gobj (ev.map varK++ew.map varK).length]/\True:=by
 refine (ccalls_of Tryz.func79 rfl rfl ?_);refine z_63 ?_; refine z_3 ?_; refine cw_seq ?_; refine z_119 ?_; refine chf rfl q_129 ?_; refine chf rfl q_206 ?_; refine chf rfl q_129 ?_; refine chf_nil ?_;refine ctl_d rfl rfl (d_callfov rfl tt rfl Tryz.call80 ⟨tt,tt⟩ (ed_variables ev en h1 _) rfl ?_);intro _ _;refine ⟨⟨q_181,q_108,tt⟩,?_⟩;refine ctl_d rfl rfl (d_callfov rfl tt rfl Tryz.call80 ⟨tt,tt⟩ (ed_variables ew ne h2 _) rfl ?_);intro _ _;refine ⟨tt,?_⟩;refine ctl_d rfl rfl (d_appu rfl tt tt rfl si_ q_19 t_5 t_4 t_30 t_11 rfl (.inr rfl) q_21 q_79 q_226 ((ev.map varK++ew.map varK).map Ky.cv) (ev.map varK++ew.map varK).length (by rw [n_62]) si_ ?_);refine ⟨tt,?_⟩;refine z_75 ?_; refine cw_ret ?_;exact ⟨_,res1 rfl tt rfl,⟨(),⟨[4],rfl,rfl,.ret (RenV.grow (f:=Ky.cv) (fun _=>⟨.val _,.val _,.val _,tt⟩) rfl),.inr ⟨_,rfl,.same rfl q_292⟩,tt⟩,tt⟩⟩
theorem ed_unionV (ev:List Va) (en:Bool) (h1:ev.length<=1000000) (ew:List Va) (ne:Bool) (h2:ew.length<=1000000) (σ:List CObj):CCalls CC 79 [.agg (envC ev en),.agg (envC ew ne),.val (.func (.func 80) #[] #[])] σ fun r τ=>∃ _:Unit,r = .ret (.list ((ev.map varK++ew.map varK).map Ky.cv) (gnn (ev.map varK++ew.map varK).length) (gtok (ev.map varK++ew.map varK).length σ.length))/\τ=σ++[gobj (ev.map varK++ew.map varK).length]/\True :=
 ccalls_glist (L:=fun _:Unit=>ev.map varK++ew.map varK) (fun a h=>by simp at h; rcases h with rfl | rfl | rfl; exact pure_envq _ _; exact pure_envq _ _; exact .val _) ky_pures (ed_unionV0 ev en h1 ew ne h2) σ
inductive Tr where
 | n (k u o:Int) (nm:Str) (ch:List Tr)
variable {n:Nat}
mutual
def Tr.size:Tr->Nat
 | .n _ _ _ _ ch=>sizeL ch+1
def sizeL:List Tr->Nat
 | []=>0
 | t::l=>t.size+sizeL l
end
def rootsL:List Tr->Nat->List Int
 | [],_=>[]
 | t::l,s=>((s+t.size - 1:Nat):Int)::rootsL l (s+t.size)
mutual
def Tr.flat:Tr->Nat->List Ex
 | .n k u o nm ch,s=>flatL ch s++[⟨k,u,o,nm,rootsL ch s⟩]
def flatL:List Tr->Nat->List Ex
 | [],_=>[]
 | t::l,s=>t.flat s++flatL l (s+t.size)
end
structure NodeOk (np:Nat) (k u o:Int) (nm:Str) (c:Nat):Prop where
 kind:1<=k/\k<=10
 num:k≠1->k≠2->k≠10->u=0
 op:k≠4->o=0
 name:k=1\/k=2\/k=4\/k=5\/k=10->nm=[]
 cnt:c=if k=4 then 2 else if k=5 then 3 else if k=6 then 1 else if k=3 then c else 0
 k1:k=1->-9007199254740992<=u/\u<=9007199254740992
 k2:k=2->0<=u/\u < np
 k3:k=3->nameB nm=true/\resB nm=false
 k4:k=4->1<=o/\o<=7
 k678:k=6\/k=7\/k=8->pathB nm=true
 k9:k=9->nameB nm=true
 k10:k=10->0<=u/\u < 64
mutual
def Tr.wf (np:Nat):Nat->Tr->Prop
 | d,.n k u o nm ch=>d<=32/\NodeOk np k u o nm ch.length/\wfL np (if k=4 then d else d+1) ch
def wfL (np:Nat):Nat->List Tr->Prop
 | _,[]=>True
 | d,t::l=>t.wf np d/\wfL np d l
end
theorem Tr.size_pos (t:Tr):1<=t.size:=by cases t; rw [Tr.size]; omega
mutual
theorem Tr.flat_len:∀ (t:Tr) (s:Nat),(t.flat s).length=t.size
 | .n k u o nm ch,s=>by rw [Tr.flat,Tr.size,n_4,flatL_len ch s]; rfl
theorem flatL_len:∀ (l:List Tr) (s:Nat),(flatL l s).length=sizeL l
 | [],_=>rfl
 | t::l,s=>by rw [flatL,sizeL,n_4,Tr.flat_len t s,flatL_len l _]
end
theorem flatL_snoc:∀ (l:List Tr) (t:Tr) (s:Nat),flatL (l++[t]) s=flatL l s++t.flat (s+sizeL l)
 | [],t,s=>by simp [flatL,sizeL]
 | x::l,t,s=>by rw [n_48,flatL,flatL,flatL_snoc l t,sizeL,n_8,n_66]
theorem rootsL_snoc:∀ (l:List Tr) (t:Tr) (s:Nat),rootsL (l++[t]) s=rootsL l s++[((s+sizeL l+t.size - 1:Nat):Int)]
 | [],t,s=>by simp [rootsL,sizeL]
 | x::l,t,s=>by rw [n_48,rootsL,rootsL,rootsL_snoc l t,sizeL,n_48,n_66 s]
theorem wfL_snoc {np d:Nat}:∀ {l:List Tr} {t:Tr},wfL np d l->t.wf np d->wfL np d (l++[t])
 | [],t,_,h=>by simp only [n_33,wfL]; exact ⟨h,tt⟩
 | x::l,t,h,h2=>by
  rw [wfL] at h;rw [n_48,wfL];exact ⟨h.1,wfL_snoc h.2 h2⟩
mutual
theorem Tr.wf_mono {np:Nat}:∀ (t:Tr) {d e:Nat},e<=d->t.wf np d->t.wf np e
 | .n k u o nm ch,d,e,he,h=>by
  rw [Tr.wf] at h ⊢;refine ⟨om_,h.2.1,wfL_mono ch (d:=if k=4 then d else d+1) ?_ h.2.2⟩
  split <;> omega
theorem wfL_mono {np:Nat}:∀ (l:List Tr) {d e:Nat},e<=d->wfL np d l->wfL np e l
 | [],_,_,_,_=>by rw [wfL]; trivial
 | t::l,d,e,he,h=>by
  rw [wfL] at h ⊢;exact ⟨Tr.wf_mono t he h.1,wfL_mono l he h.2⟩
end
def Got (np d:Nat) (b:List Ex) (x:PX):Prop:=∃ t:Tr,x.2.2=b++t.flat b.length/\x.1+1=x.2.2.length/\t.wf np d
theorem got_node {b1:List Ex} {ch:List Tr} {k:Int} {args:List Int} {b2:List Ex} (h1:b1=b++flatL ch b.length) (h2:args=rootsL ch b.length) (h3:pNode b1 ⟨k,u,o,nm,args⟩=some (i,b2)) (hd:d<=32) (hn:NodeOk np k u o nm ch.length) (hw:wfL np (if k=4 then d else d+1) ch) (m:Nat):Got np d b (i,m,b2):=by
 unfold pNode at h3;split at h3
 ·cases h3
 ·injection h3 with h3
  injection h3 with h3 h4
  subst h1 h2 h3 h4;refine ⟨.n k u o nm ch,by rw [Tr.flat,n_8],by simp; omega,?_⟩;rw [Tr.wf];exact ⟨hd,hn,hw⟩
def TG (T:List Tok):Prop:=∀ i,((tk T i).k=1->nameB (tk T i).t=true)/\0<=(tk T i).n/\(tk T i).n<=9007199254740992
theorem opS_rng {t:Tok} {lv:Int} (h:¬ opS t lv=0):1<=opS t lv/\opS t lv<=7:=by
 unfold opS at h ⊢;cases hf:S0.find? (opM t lv) with
 | none=>rw [hf] at h; exact absurd rfl h
 | some y =>
  have h2:=n_123 hf;simp only [n_71,n_44];revert h2;revert y;intro y _ hy;have:∀ y∈S0,1<=y.1/\y.1<=7:=by decide
  exact this y hy
theorem pEnd_some {x:Ex} (h:pEnd b x m=some y):pNode b x=some (y.1,y.2.2)/\y.2.1=m:=by
 unfold pEnd at h;cases hp:pNode b x with
 | none=>rw [hp] at h; cases h
 | some w =>
  rw [hp,n_6] at h;injection h with h
  subst h;exact ⟨rfl,rfl⟩
theorem got_leaf {k:Int} (h:pEnd b ⟨k,u,o,nm,[]⟩ m=some y) (hd:d<=32) (hn:NodeOk np k u o nm 0):Got np d b y:=by
 obtain ⟨h1,h2⟩:=pEnd_some h;have:=got_node (np:=np) (d:=d) (b:=b) (ch:=[]) (args:=[]) (by rw [flatL,n_32]) rfl h1 hd hn (by rw [wfL]; trivial) y.2.1;exact this
theorem got_one {e:Nat} {x:PX} {k:Int} (hx:Got np e b x) (h:pEnd x.2.2 ⟨k,u,o,nm,[(x.1:Int)]⟩ m=some y) (hd:d<=32) (hn:NodeOk np k u o nm 1) (he:e=if k=4 then d else d+1):Got np d b y:=by
 obtain ⟨t,t1,t2,t3⟩:=hx;obtain ⟨h1,h2⟩:=pEnd_some h;have hl:=t.flat_len b.length;rw [t1,n_4,hl] at t2;have:=got_node (np:=np) (d:=d) (b:=b) (ch:=[t]) (args:=[(x.1:Int)]) (by rw [t1,flatL,flatL,n_32]) (by rw [rootsL,rootsL]; congr 1; omega) h1 hd hn (by rw [wfL,wfL,<- he]; exact ⟨t3,tt⟩) y.2.1;exact this
theorem bind_some' {o:Option α} {f:α->Option β} {y:β} (h:o.bind f=some y):∃ x,o=some x/\f x=some y:=by
 cases o with
 | none=>cases h
 | some x=>exact ⟨x,rfl,h⟩
theorem pPath_ok {T:List Tok} {x:Tok × Nat} (h:pPath T n=some x):pathB x.1.t=true:=by
 obtain ⟨y,_,h2⟩:=bind_some' h;split at h2
 ·rename_i hp;injection h2 with h2
  subst h2;exact hp
 ·cases h2
theorem pTake_kind {T:List Tok} {k:Int} {x:Tok × Nat} (h:pTake T n k=some x):x.1=tk T n/\(tk T n).k=k:=by
 unfold pTake at h;split at h
 ·rename_i hk;injection h with h
  subst h;exact ⟨rfl,hk⟩
 ·cases h
theorem got_built {T:List Tok} {F:PF} (hF:∀ d n b x,F.ex d n b=some x->Got np d b x) (hT:TG T) {u:Str} (hd:d<=32) (h:pBuilt T F u d n b=some y):Got np d b y:=by
 unfold pBuilt at h;obtain ⟨n1,_,h⟩:=bind_some' h;split at h
 ·obtain ⟨s,h1,h⟩:=bind_some' h;obtain ⟨n2,_,h⟩:=bind_some' h;obtain ⟨x,h3,h⟩:=bind_some' h;obtain ⟨m,_,h⟩:=bind_some' h;exact got_one (hF _ _ _ _ h3) h hd ⟨de_,fun _ _ _=>rfl,fun _=>rfl,fun h=>absurd h de_,rfl,fun h=>absurd h de_,fun h=>absurd h de_,fun h=>absurd h de_,fun h=>absurd h de_,fun _=>pPath_ok h1,fun h=>absurd h de_,fun h=>absurd h de_⟩ rfl
 ·split at h
  ·obtain ⟨s,h1,h⟩:=bind_some' h;obtain ⟨m,_,h⟩:=bind_some' h;exact got_leaf h hd ⟨de_,fun _ _ _=>rfl,fun _=>rfl,fun h=>absurd h de_,rfl,fun h=>absurd h de_,fun h=>absurd h de_,fun h=>absurd h de_,fun h=>absurd h de_,fun _=>pPath_ok h1,fun h=>absurd h de_,fun h=>absurd h de_⟩
  ·split at h
   ·obtain ⟨s,h1,h⟩:=bind_some' h;obtain ⟨m,_,h⟩:=bind_some' h;exact got_leaf h hd ⟨de_,fun _ _ _=>rfl,fun _=>rfl,fun h=>absurd h de_,rfl,fun h=>absurd h de_,fun h=>absurd h de_,fun h=>absurd h de_,fun h=>absurd h de_,fun _=>pPath_ok h1,fun h=>absurd h de_,fun h=>absurd h de_⟩
   ·split at h
    ·obtain ⟨s,h1,h⟩:=bind_some' h;split at h
     ·rename_i hnm;obtain ⟨m,_,h⟩:=bind_some' h;exact got_leaf h hd ⟨de_,fun _ _ _=>rfl,fun _=>rfl,fun h=>absurd h de_,rfl,fun h=>absurd h de_,fun h=>absurd h de_,fun h=>absurd h de_,fun h=>absurd h de_,fun h=>absurd h de_,fun _=>hnm,fun h=>absurd h de_⟩
     ·cases h
    ·obtain ⟨s,h1,h⟩:=bind_some' h;split at h
     ·cases h
     ·rename_i hlt;obtain ⟨m,_,h⟩:=bind_some' h;have hk:=pTake_kind h1;have hg:=(hT n1).2;rw [<- hk.1] at hg;exact got_leaf h hd ⟨de_,fun _ _ h=>absurd rfl h,fun _=>rfl,fun _=>rfl,rfl,fun h=>absurd h de_,fun h=>absurd h de_,fun h=>absurd h de_,fun h=>absurd h de_,fun h=>absurd h de_,fun h=>absurd h de_,fun _=>⟨hg.1,om_⟩⟩
theorem got_all {T:List Tok} {ps:List Str} (hT:TG T):∀ f:Nat,
 (∀ d n b x,(pAll T ps f).ex d n b=some x->Got ps.length d b x) /\
 (∀ lv d n b x,d<=32->(pAll T ps f).bin lv d n b=some x->Got ps.length d b x) /\
 (∀ lv d n b x,d<=32->(pAll T ps f).fac d n b=some x->lv=0->Got ps.length d b x) /\
 (∀ lv d n b0 b (tx:Tr) (i:Nat) x,d<=32->b=b0++tx.flat b0.length->i+1=b.length->tx.wf ps.length d->(pAll T ps f).lp lv d i n b=some x->Got ps.length d b0 x) /\
 (∀ d n b0 b (ch:List Tr) acc y,d<=32->b=b0++flatL ch b0.length->acc=rootsL ch b0.length->wfL ps.length (d+1) ch->(pAll T ps f).ag d n b acc=some y->∃ ch',y.2.2=b0++flatL ch' b0.length/\y.1=rootsL ch' b0.length/\wfL ps.length (d+1) ch')
 | 0=>by
  refine ⟨fun d n b x h=>?_,fun lv d n b x _ h=>?_,fun lv d n b x _ h=>?_,fun lv d n b0 b tx i x _ _ _ _ h=>?_,fun d n b0 b ch acc y _ _ _ _ h=>?_⟩ <;> cases h
 | f+1=>by
  obtain ⟨hE,hB,hF,hL,hA⟩:=got_all hT f;refine ⟨fun d n b x h=>?_,fun lv d n b x hd h=>?_,fun lv d n b y hd h _=>?_,fun lv d n b0 b tx i x hd hb hi hw h=>?_,fun d n b0 b ch acc y hd hb ha hw h=>?_⟩
  ·change (pStep T ps (pAll T ps f)).ex d n b=some x at h;simp only [pStep] at h;split at h
   ·cases h
   ·rename_i hd;split at h
    ·obtain ⟨x1,h1,h⟩:=bind_some' h;obtain ⟨n2,_,h⟩:=bind_some' h;obtain ⟨x2,h2,h⟩:=bind_some' h;obtain ⟨n3,_,h⟩:=bind_some' h;obtain ⟨x3,h3,h⟩:=bind_some' h;obtain ⟨t1,a1,a2,a3⟩:=hE _ _ _ _ h1;obtain ⟨t2,b1,b2,b3⟩:=hE _ _ _ _ h2;obtain ⟨t3,c1,c2,c3⟩:=hE _ _ _ _ h3;have l1:=t1.flat_len b.length;have e1:x1.2.2.length=b.length+t1.size:=by rw [a1,n_4,l1]
     have e2:x2.2.2.length=b.length+t1.size+t2.size:=by rw [b1,n_4,t2.flat_len,e1]
     have e3:x3.2.2.length=b.length+t1.size+t2.size+t3.size:=by rw [c1,n_4,t3.flat_len,e2]
     obtain ⟨g1,g2⟩:=pEnd_some h;have:=got_node (np:=ps.length) (d:=d) (b:=b) (ch:=[t1,t2,t3]) (args:=[(x1.1:Int),(x2.1:Int),(x3.1:Int)]) (by rw [c1,b1,a1]; simp only [flatL,n_32,n_8,n_4,Tr.flat_len,n_66]) (by simp only [rootsL]; congr 1; omega; congr 1; omega; congr 1; omega) g1 om_ ⟨de_,fun _ _ _=>rfl,fun _=>rfl,fun _=>rfl,rfl,fun h=>absurd h de_,fun h=>absurd h de_,fun h=>absurd h de_,fun h=>absurd h de_,fun h=>absurd h de_,fun h=>absurd h de_,fun h=>absurd h de_⟩ (by simp only [wfL]; exact ⟨a3,b3,c3,tt⟩) x.2.1;exact this
    ·exact hB 1 d n b x om_ h
  ·change (pStep T ps (pAll T ps f)).bin lv d n b=some x at h;simp only [pStep] at h;split at h
   ·exact hF 0 d n b x hd h rfl
   ·obtain ⟨x1,h1,h⟩:=bind_some' h;obtain ⟨t,a1,a2,a3⟩:=hB _ _ _ _ _ hd h1;exact hL lv d x1.2.1 b x1.2.2 t x1.1 x hd a1 a2 a3 h
  ·change (pStep T ps (pAll T ps f)).fac d n b=some y at h;simp only [pStep] at h;have hg:=hT n;split at h
   ·exact got_leaf h hd ⟨de_,fun h=>absurd rfl h,fun _=>rfl,fun _=>rfl,rfl,fun _=>⟨om_,hg.2.2⟩,fun h=>absurd h de_,fun h=>absurd h de_,fun h=>absurd h de_,fun h=>absurd h de_,fun h=>absurd h de_,fun h=>absurd h de_⟩
   ·split at h
    ·obtain ⟨s,h1,h⟩:=bind_some' h;have hk:=pTake_kind h1;have hg:=(hT (n+1)).2;rw [<- hk.1] at hg;exact got_leaf h hd ⟨de_,fun h=>absurd rfl h,fun _=>rfl,fun _=>rfl,rfl,fun _=>⟨om_,om_⟩,fun h=>absurd h de_,fun h=>absurd h de_,fun h=>absurd h de_,fun h=>absurd h de_,fun h=>absurd h de_,fun h=>absurd h de_⟩
    ·split at h
     ·obtain ⟨x1,h1,h⟩:=bind_some' h;obtain ⟨m,_,h⟩:=bind_some' h;injection h with h
      subst h;obtain ⟨t,a1,a2,a3⟩:=hE _ _ _ _ h1;exact ⟨t,a1,a2,t.wf_mono (Nat.le_succ d) a3⟩
     ·split at h
      ·cases h
      ·rename_i hk1;split at h
       ·exact got_built hE hT hd h
       ·split at h
        ·cases h
        ·rename_i hrs;split at h
         ·obtain ⟨a,h1,h⟩:=bind_some' h;unfold pArgs at h1;obtain ⟨n1,_,h1⟩:=bind_some' h1;have hch:∃ ch',a.2.2=b++flatL ch' b.length/\a.1=rootsL ch' b.length/\wfL ps.length (d+1) ch':=by
           split at h1
           ·injection h1 with h1
            subst h1;exact ⟨[],by simp [flatL],rfl,by rw [wfL]; trivial⟩
           ·exact hA d n1 b b [] [] a hd (by simp [flatL]) rfl (by rw [wfL]; trivial) h1
          obtain ⟨ch,c1,c2,c3⟩:=hch;obtain ⟨g1,g2⟩:=pEnd_some h;have hnm:nameB (tk T n).t=true:=hg.1 (by simpa using hk1);have:=got_node (np:=ps.length) (d:=d) (b:=b) (ch:=ch) c1 c2 g1 hd ⟨de_,fun _ _ _=>rfl,fun _=>rfl,fun h=>absurd h de_,rfl,fun h=>absurd h de_,fun h=>absurd h de_,fun _=>⟨hnm,by simpa using hrs⟩,fun h=>absurd h de_,fun h=>absurd h de_,fun h=>absurd h de_,fun h=>absurd h de_⟩ c3 y.2.1;exact this
         ·split at h
          ·cases h
          ·rename_i hix;refine got_leaf h hd ⟨de_,fun _ h=>absurd rfl h,fun _=>rfl,fun _=>rfl,rfl,fun h=>absurd h de_,fun _=>⟨om_,?_⟩,fun h=>absurd h de_,fun h=>absurd h de_,fun h=>absurd h de_,fun h=>absurd h de_,fun h=>absurd h de_⟩
           rcases ixS_range (tk T n).t ps 0 with ⟨_,g⟩ | ⟨_,_,g⟩
           ·omega
           ·simpa using g
  ·change (pStep T ps (pAll T ps f)).lp lv d i n b=some x at h;simp only [pStep] at h;split at h
   ·injection h with h
    subst h;exact ⟨tx,hb,hi,hw⟩
   ·rename_i hop;obtain ⟨y,h1,h⟩:=bind_some' h;obtain ⟨w,h2,h⟩:=bind_some' h;obtain ⟨ty,a1,a2,a3⟩:=hB _ _ _ _ _ hd h1;have e0:b.length=b0.length+tx.size:=by rw [hb,n_4,tx.flat_len]
    have e1:y.2.2.length=b0.length+tx.size+ty.size:=by rw [a1,n_4,ty.flat_len,e0]
    have hnode:Got ps.length d b0 (w.1,y.2.1,w.2):=got_node (np:=ps.length) (d:=d) (b:=b0) (ch:=[tx,ty]) (args:=[(i:Int),(y.1:Int)]) (by rw [a1,hb]; simp only [flatL,n_32,n_8,n_4,Tr.flat_len]) (by simp only [rootsL]; congr 1; omega; congr 1; omega) h2 hd ⟨de_,fun _ _ _=>rfl,fun h=>absurd rfl h,fun _=>rfl,rfl,fun h=>absurd h de_,fun h=>absurd h de_,fun h=>absurd h de_,fun _=>opS_rng hop,fun h=>absurd h de_,fun h=>absurd h de_,fun h=>absurd h de_⟩ (by simp only [wfL]; exact ⟨hw,a3,tt⟩) y.2.1;split at h
    ·injection h with h
     subst h;exact hnode
    ·obtain ⟨t,c1,c2,c3⟩:=hnode;exact hL lv d y.2.1 b0 w.2 t w.1 x hd c1 c2 c3 h
  ·change (pStep T ps (pAll T ps f)).ag d n b acc=some y at h;simp only [pStep] at h;obtain ⟨x1,h1,h⟩:=bind_some' h;obtain ⟨t,a1,a2,a3⟩:=hE _ _ _ _ h1;have e0:b.length=b0.length+sizeL ch:=by rw [hb,n_4,flatL_len]
   have e1:x1.2.2.length=b0.length+sizeL ch+t.size:=by rw [a1,n_4,t.flat_len,e0]
   have c1:x1.2.2=b0++flatL (ch++[t]) b0.length:=by rw [a1,hb,flatL_snoc,n_8]; simp only [n_4,flatL_len]
   have c2:acc++[(x1.1:Int)]=rootsL (ch++[t]) b0.length:=by rw [ha,rootsL_snoc]; congr 2; omega
   have c3:=wfL_snoc hw a3;split at h
   ·exact hA d _ b0 _ (ch++[t]) _ y hd c1 c2 c3 h
   ·obtain ⟨m,_,h⟩:=bind_some' h;injection h with h
    subst h;exact ⟨ch++[t],c1,c2,c3⟩
theorem so_named_s (s:Str) (hs:s.length<=1000000000000) (σ:List CObj):CCalls CC 280 [(sv s)] σ fun r σ'=>r = .ret (.val (.bool (nameB s && !resB s)))/\σ'=σ:=by
 refine CCalls.anyw hCC pu_ pu_ ?_ σ;refine ccalls_val (ccalls_of Tryz.func280 rfl rfl ?_);refine z_66 ?_; refine cY (y_callf rfl t_59 ⟨tt,tt⟩ (lx_Name_s s hs _) rfl) ?_; refine z_22 ?_; refine cG (fun hg=>y_callf rfl Tryz.call236 ⟨hg,tt⟩ (so_reserved_s s _) rfl) ?_; refine cG (fun hg=>y_not rfl hg rfl) ?_;exact z_260
theorem NodeOk.cnt0 {k:Int} {c:Nat} (h:NodeOk np k u o nm c) (h3:k≠3) (h4:k≠4) (h5:k≠5) (h6:k≠6):c=0:=by
 have:=h.cnt;rw [if_neg h4,if_neg h5,if_neg h6,if_neg h3] at this;exact this
theorem so_nodeC_s (x:Ex) (np:Nat) (h:NodeOk np x.k x.num x.op x.name x.args.length) (hnm:x.name.length<=1000000) (_hal:x.args.length<=1000000) (σ:List CObj):CCalls CC 303 [.agg x.cells,(.val (.int .i64 (np:Int)))] σ fun r σ'=>r = .ret (.val (.bool true))/\σ'=σ:=by
 refine CCalls.anyw hCC pu_ pu_ ?_ σ;refine ccalls_val (ccalls_of Tryz.func303 rfl rfl ?_);refine z_60 ?_; refine cw_seq ?_; refine cw_draw 8 [0,1,3,0,8,24,7,127] q_289 q_289 rfl ?_; refine hY q_139 ?_; refine hY q_230 ?_; refine hY q_103 ?_; refine z_251 ?_; refine hY q_255 ?_; refine hY q_236 ?_; refine z_263 ?_; refine z_8 ?_; refine cw_draw 8 [0,1,3,0,8,24,7,127] q_289 q_289 rfl ?_; refine hY q_156 ?_; refine hY q_237 ?_; refine hY q_218 ?_; refine z_251 ?_; refine hY q_255 ?_; refine hY q_236 ?_; refine z_263 ?_; refine z_67 ?_; refine cY q_148 ?_; refine z_269 ?_; refine cC (fun h1=>?_) fun h1=>?_
 ·have u1:x.k=1:=by simpa using h1
  have e1:=h.op om_;have e2:=h.name (.inl u1);have e3:=h.cnt0 om_ om_ om_ om_;have e4:=h.k1 u1;refine z_185 ?_; refine z_186 ?_; refine z_186 ?_; refine z_217 ?_;exact ⟨_,res1 rfl tt q_269,_,_,rfl,rfl,cls_bool (by simp [e1,e2,e3]; omega)⟩
 ·have u1:¬ x.k=1:=by simpa using h1
  refine z_27 ?_; refine cC (fun h2=>?_) fun h2=>?_
  ·have u2:x.k=2:=by simpa using h2
   have e1:=h.op om_;have e2:=h.name (.inr (.inl u2));have e3:=h.cnt0 om_ om_ om_ om_;have e4:=h.k2 u2;refine z_185 ?_; refine z_186 ?_; refine z_186 ?_; refine cG q_212 ?_; refine cG q_244 ?_; refine z_72 ?_;exact ⟨_,res1 rfl tt q_269,_,_,rfl,rfl,cls_bool (by simp [e1,e2,e3]; omega)⟩
  ·have u2:¬ x.k=2:=by simpa using h2
   refine z_27 ?_; refine cC (fun h3=>?_) fun h3=>?_
   ·have u3:x.k=3:=by simpa using h3
    have e1:=h.op om_;have e2:=h.num om_ om_ om_;have e4:=h.k3 u3;refine z_150 ?_; refine cY q_196 ?_; refine cY q_246 ?_; refine cG q_122 ?_; refine cG q_207 ?_; refine cG (fun hg=>y_callf rfl t_83 ⟨hg,tt⟩ (so_named_s x.name om_ _) rfl) ?_; refine z_72 ?_;exact ⟨_,res1 rfl tt q_269,_,_,rfl,rfl,cls_bool (by simp [e1,e2,e4])⟩
   ·have u3:¬ x.k=3:=by simpa using h3
    refine z_27 ?_; refine cC (fun h4=>?_) fun h4=>?_
    ·have u4:x.k=4:=by simpa using h4
     have e1:=h.num om_ om_ om_;have e2:=h.name (.inr (.inr (.inl u4)));have e3:x.args.length=2:=by rw [h.cnt,if_pos u4]
     have e4:=h.k4 u4;refine z_185 ?_; refine z_186 ?_; refine z_186 ?_; refine z_217 ?_;exact ⟨_,res1 rfl tt q_269,_,_,rfl,rfl,cls_bool (by simp [e1,e2,e3]; omega)⟩
    ·have u4:¬ x.k=4:=by simpa using h4
     refine z_27 ?_; refine cC (fun h5=>?_) fun h5=>?_
     ·have u5:x.k=5:=by simpa using h5
      have e1:=h.op om_;have e5:=h.num om_ om_ om_;have e2:=h.name (.inr (.inr (.inr (.inl u5))));have e3:x.args.length=3:=by rw [h.cnt,if_neg om_,if_pos u5]
      refine z_185 ?_; refine z_108 ?_; refine z_217 ?_;exact ⟨_,res1 rfl tt q_269,_,_,rfl,rfl,cls_bool (by simp [e1,e2,e3,e5])⟩
     ·have u5:¬ x.k=5:=by simpa using h5
      refine z_27 ?_; refine cC (fun h6=>?_) fun h6=>?_
      ·have u6:x.k=6:=by simpa using h6
       have e1:=h.op om_;have e2:=h.num om_ om_ om_;have e3:x.args.length=1:=by rw [h.cnt,if_neg om_,if_neg om_,if_pos u6]
       have e4:=h.k678 (.inl u6);refine z_185 ?_; refine z_114 ?_; refine cG q_122 ?_; refine cG q_207 ?_;exact z_202
      ·have u6:¬ x.k=6:=by simpa using h6
       refine cw_cutd hCC (α:=Bool) (fun b=>[(2,.ptr 0 0),(5,(.val (.int .i64 (x.args.length:Int)))),(6,(.val (.bool (x.num == 0)))),(7,(.val (.bool (decide (x.name=[]))))),(8,(.val (.bool (x.op == 0)))),(22,(.val (.int .i64 x.k))),(123,(.val (.bool b)))]) (fun _=>[.box x.cells]) (fun b=>b=(x.k == 7 || x.k == 8)) q_273 uz_ ?_ ?_
       ·
        refine z_27 ?_; refine cC (fun h7=>?_) fun h7=>?_
        ·refine cw_skip ?_;exact ⟨(x.k == 7),_,(by simp_all),tu_,rfl⟩
        ·refine z_126 ?_;exact ⟨(x.k == 8),_,(by simp_all),tu_,rfl⟩
       ·intro b hb; refine cC (fun h8=>?_) fun h8=>?_
        ·have u8:x.k=7\/x.k=8:=by subst hb; simpa using h8
         have e1:=h.op om_;have e2:=h.num om_ om_ om_;have e3:=h.cnt0 om_ om_ om_ om_;have e4:=h.k678 (.inr u8);refine z_185 ?_; refine z_114 ?_; refine cG q_122 ?_; refine cG q_207 ?_;exact z_202
        ·have u8:¬ (x.k=7\/x.k=8):=by subst hb; simpa using h8
         refine z_27 ?_; refine cC (fun h9=>?_) fun h9=>?_
         ·have u9:x.k=9:=by simpa using h9
          have e1:=h.op om_;have e2:=h.num om_ om_ om_;have e3:=h.cnt0 om_ om_ om_ om_;have e4:=h.k9 u9;refine z_185 ?_; refine z_114 ?_; refine cG q_122 ?_; refine cG q_207 ?_; refine cG (fun hg=>y_callf rfl t_59 ⟨hg,tt⟩ (lx_Name_s x.name om_ _) rfl) ?_;exact z_115
         ·have u9:¬ x.k=9:=by simpa using h9
          refine z_27 ?_; refine cC (fun h10=>?_) fun h10=>?_
          ·have u10:x.k=10:=by simpa using h10
           have e1:=h.op om_;have e2:=h.name (.inr (.inr (.inr (.inr u10))));have e3:=h.cnt0 om_ om_ om_ om_;have e4:=h.k10 u10;refine z_185 ?_; refine z_186 ?_; refine z_186 ?_; refine z_217 ?_;exact ⟨_,res1 rfl tt q_269,_,_,rfl,rfl,cls_bool (by simp [e1,e2,e3]; omega)⟩
          ·have u10:¬ x.k=10:=by simpa using h10
           have:=h.kind;exfalso;omega
mutual
def Tr.sts:Tr->Nat->List Nat
 | .n _ _ _ _ ch,s=>stsL ch s++[s]
def stsL:List Tr->Nat->List Nat
 | [],_=>[]
 | t::l,s=>t.sts s++stsL l (s+t.size)
end
mutual
theorem Tr.sts_len:∀ (t:Tr) (s:Nat),(t.sts s).length=t.size
 | .n k u o nm ch,s=>by rw [Tr.sts,Tr.size,n_4,stsL_len ch s]; rfl
theorem stsL_len:∀ (l:List Tr) (s:Nat),(stsL l s).length=sizeL l
 | [],_=>rfl
 | t::l,s=>by rw [stsL,sizeL,n_4,Tr.sts_len t s,stsL_len l _]
end
theorem rootsL_len:∀ (l:List Tr) (s:Nat),(rootsL l s).length=l.length
 | [],_=>rfl
 | t::l,s=>by rw [rootsL,n_7,n_7,rootsL_len l]
theorem Tr.sts_last (t:Tr) (s:Nat):(t.sts s)[t.size - 1]? = some s:=by
 cases t with
 | n k u o nm ch =>
  rw [Tr.sts,Tr.size,Nat.add_sub_cancel,n_27 (by rw [stsL_len]; exact n_5 _),stsL_len];simp
def ChS (S:List Nat):List Tr->Nat->Prop
 | [],_=>True
 | c::l,s=>S[s+c.size - 1]? = some s/\ChS S l (s+c.size)
structure NdAt (E:List Ex) (S:List Nat) (np j:Nat) (x:Ex) (z:Nat) (ch:List Tr):Prop where
 e:E[j]? = some x
 s:S[j]? = some z
 args:x.args=rootsL ch z
 size:z+sizeL ch=j
 chs:ChS S ch z
 ok:NodeOk np x.k x.num x.op x.name x.args.length
theorem chS_all:∀ (l:List Tr) (s:Nat) (S0 S1:List Nat),S0.length=s->ChS (S0++stsL l s++S1) l s
 | [],_,_,_,_=>trivial
 | t::l,s,S0,S1,h=>by
  have hp:=t.size_pos;refine ⟨?_,?_⟩
  ·rw [stsL,n_8,n_8,n_27 om_,h,show s+t.size - 1 - s=t.size - 1 by omega,n_15 (by rw [t.sts_len]; omega)];exact t.sts_last s
  ·have:=chS_all l (s+t.size) (S0++t.sts s) S1 (by rw [n_4,t.sts_len,h]);rw [stsL,<- n_8 S0];exact this
mutual
theorem nd_all {np:Nat}:∀ (t:Tr) {d:Nat} (s:Nat) (E0 E1:List Ex) (S0 S1:List Nat),E0.length=s->S0.length=s->t.wf np d->∀ j,s<=j->j < s+t.size->∃ x z ch,NdAt (E0++t.flat s++E1) (S0++t.sts s++S1) np j x z ch
 | .n k u o nm ch,d,s,E0,E1,S0,S1,hE,hS,hw,j,h1,h2=>by
  rw [Tr.wf] at hw;rw [Tr.size] at h2;rw [Tr.flat,Tr.sts];by_cases hj:j < s+sizeL ch
  ·have:=nd_allL ch s E0 (⟨k,u,o,nm,rootsL ch s⟩::E1) S0 (s::S1) hE hS hw.2.2 j h1 hj;simpa [n_8] using this
  ·have hj:j=s+sizeL ch:=by omega
   refine ⟨⟨k,u,o,nm,rootsL ch s⟩,s,ch,?_,?_,rfl,om_,?_,by rw [rootsL_len]; exact hw.2.1⟩
   ·rw [<- n_8,n_8,n_27 (by rw [n_4,flatL_len]; omega),n_4,flatL_len,hE,hj,n_94];rfl
   ·rw [<- n_8,n_8,n_27 (by rw [n_4,stsL_len]; omega),n_4,stsL_len,hS,hj,n_94];rfl
   ·have:=chS_all ch s S0 (s::S1) hS;simpa [n_8] using this
theorem nd_allL {np:Nat}:∀ (l:List Tr) {d:Nat} (s:Nat) (E0 E1:List Ex) (S0 S1:List Nat),E0.length=s->S0.length=s->wfL np d l->∀ j,s<=j->j < s+sizeL l->∃ x z ch,NdAt (E0++flatL l s++E1) (S0++stsL l s++S1) np j x z ch
 | [],_,s,_,_,_,_,_,_,_,j,h1,h2=>by rw [sizeL] at h2; omega
 | t::l,d,s,E0,E1,S0,S1,hE,hS,hw,j,h1,h2=>by
  rw [wfL] at hw;rw [sizeL] at h2;rw [flatL,stsL];by_cases hj:j < s+t.size
  ·have:=nd_all t s E0 (flatL l (s+t.size)++E1) S0 (stsL l (s+t.size)++S1) hE hS hw.1 j h1 hj;simpa [n_8] using this
  ·have:=nd_allL l (s+t.size) (E0++t.flat s) E1 (S0++t.sts s) S1 (by rw [n_4,t.flat_len,hE]) (by rw [n_4,t.sts_len,hS]) hw.2 j om_ om_;simpa [n_8] using this
end
theorem nd_tree {t:Tr} (hw:t.wf np d) (h:j < t.size):∃ x z ch,NdAt (t.flat 0) (t.sts 0) np j x z ch:=by
 have:=nd_all t 0 [] [] [] [] rfl rfl hw j (n_3 _) om_;simpa using this
theorem sizeL_take:∀ {l:List Tr} {m:Nat} {c:Tr},l[m]? = some c->sizeL (l.take (m+1))=sizeL (l.take m)+c.size
 | [],m,c,h=>by simp at h
 | x::l,0,c,h=>by simp at h; subst h; simp [sizeL]
 | x::l,m+1,c,h=>by
  have:=sizeL_take (l:=l) (m:=m) (c:=c) q_282;rw [n_58,n_58,sizeL,sizeL,this];omega
theorem rootsL_get:∀ {l:List Tr} {m s:Nat} {c:Tr},l[m]? = some c->(rootsL l s)[m]? = some ((s+sizeL (l.take m)+c.size - 1:Nat):Int)
 | [],m,s,c,h=>by simp at h
 | x::l,0,s,c,h=>by simp at h; subst h; simp [rootsL,sizeL]
 | x::l,m+1,s,c,h=>by
  rw [rootsL,n_118,rootsL_get (l:=l) (m:=m) (c:=c) q_282,n_58,sizeL,n_66 s]
theorem chS_get {S:List Nat}:∀ {l:List Tr} {m s:Nat} {c:Tr},ChS S l s->l[m]? = some c->S[s+sizeL (l.take m)+c.size - 1]? = some (s+sizeL (l.take m))
 | [],m,s,c,_,h=>by simp at h
 | x::l,0,s,c,h,hc=>by simp at hc; subst hc; simpa [sizeL] using h.1
 | x::l,m+1,s,c,h,hc=>by
  have:=chS_get (l:=l) (m:=m) (c:=c) h.2 (by simpa using hc);rw [n_58,sizeL,<- n_66 s];exact this
def arrI (S:List Nat) (n i:Nat):List Int:=(S.take i).map (fun z:Nat=>(z:Int))++List.replicate (n - i) 0
theorem arrI_len (hS:S.length=n) (hi:i<=n):(arrI S n i).length=n:=by
 unfold arrI;rw [n_4,n_17,n_46,List.length_replicate];omega
theorem arrI_lt (hj:j < i) (hz:S[j]? = some z):((arrI S n i).set i v)[j]? = some (z:Int):=by
 rw [n_42 om_];unfold arrI;have hl:=(n_1.1 hz).1;rw [n_15 q_209,n_14,n_31,if_pos hj,hz];rfl
theorem arrI_at (hS:S.length=n) (hi:i < n):((arrI S n i).set i v)[i]? = some v:=by
 rw [n_76 (by rw [arrI_len hS om_]; exact hi)]
theorem arrI_next (hS:S.length=n) (hz:S[i]? = some z):(arrI S n i).set i (z:Int)=arrI S n (i+1):=by
 have hi:i < n:=by rw [<- hS]; exact (n_1.1 hz).1
 unfold arrI;have e:n - i=(n - (i+1))+1:=by omega
 rw [e,List.replicate_succ,List.set_append_right _ _ q_209,n_17,n_46,Nat.min_eq_left om_,n_94,List.set_cons_zero,n_50,hz];simp
theorem arrI_last (hj:i < n) (hz:S[i]? = some z):(arrI S n n)[i]? = some (z:Int):=by
 unfold arrI;have hl:=(n_1.1 hz).1;rw [n_15 q_209,n_14,n_31,if_pos hj,hz];rfl
structure DeG (d:De):Prop where
 kind:d.k=1\/d.k=2\/d.k=3
 name:d.k≠3->nameB d.name=true/\resB d.name=false
 path:d.k=3->pathB d.name=true
 pars:d.k≠1->d.params=[]
 par:∀ s∈d.params,nameB s=true/\resB s=false
 parl:d.params.length<=8
 nod:d.params.Nodup
 tree:∃ t:Tr,d.body=t.flat 0/\t.wf d.params.length 1
 blen:d.body.length<=256
theorem nameB_len {s:Str} (h:nameB s=true):s.length<=24:=by
 unfold nameB at h;cases s with
 | nil=>cases h
 | cons b s =>
  simp only [n_29,n_51] at h;exact h.1.1
theorem pathB_len {s:Str} (h:pathB s=true):s.length<=80:=by
 unfold pathB at h;simp only [n_29,n_51] at h;exact h.1.1
theorem NodeOk.len {k:Int} {c:Nat} (h:NodeOk np k u o nm c):nm.length<=80:=by
 have hk:=h.kind;by_cases h3:k=3
 ·have:=nameB_len (h.k3 h3).1; omega
 ·by_cases h9:k=9
  ·have:=nameB_len (h.k9 h9); omega
  ·by_cases h6:k=6\/k=7\/k=8
   ·exact pathB_len (h.k678 h6)
   ·rw [h.name om_]; simp
theorem sizeL_len:∀ (l:List Tr),l.length<=sizeL l
 | []=>n_5 _
 | t::l=>by have:=t.size_pos; have:=sizeL_len l; rw [sizeL,n_7]; omega
theorem sizeL_take_le:∀ (l:List Tr) (m:Nat),sizeL (l.take m)<=sizeL l
 | [],m=>by simp
 | t::l,0=>by simp [sizeL]
 | t::l,m+1=>by have:=sizeL_take_le l m; rw [n_58,sizeL,sizeL]; omega
theorem arrI_cur (hS:S.length=n) (hi:i < n):(arrI S n i)[i]? = some 0:=by
 unfold arrI;rw [n_27 q_209,n_17,n_46,Nat.min_eq_left om_,n_94,n_133,if_pos om_]
theorem De.old (x:De) (n:Nat):OldObj n (.box x.cells):=old_box ⟨.val _,.val _,old_strs _ _ _,old_exs _ _ _,tt⟩
theorem Ex.old (x:Ex) (n:Nat):OldObj n (.box x.cells):=old_box ⟨.val _,.val _,.val _,.val _,old_ints _ _ _,tt⟩
theorem old_ivec (n:Nat) (l:List Int):OldObj n (.vec 1 (l.map icv)):=fun r hr c hc=>by
 obtain ⟨a,_,rfl⟩:=n_9.1 hr;simp [icv] at hc;subst hc;exact .val _
theorem icv_set (l:List Int) (i:Nat) (v:Int):(l.map icv).set i [.val (.int .i64 v)]=(l.set i v).map icv:=by rw [List.map_set]; rfl
theorem so_declared_s (d:De) (h:DeG d) (σ:List CObj):CCalls CC 281 [.agg d.cells] σ fun r σ'=>r = .ret (.val (.bool true))/\σ'=σ:=by
 refine CCalls.anyw hCC pu_ pu_ ?_ σ;refine ccalls_val (ccalls_of Tryz.func281 rfl rfl ?_);refine z_60 ?_; refine cw_cutd hCC (α:=Unit) (fun _=>[(1,.ptr 0 0)]) (fun _=>[.box d.cells]) (fun _=>True) q_273 uz_ ?_ ?_
 ·
  refine z_0 ?_; refine cY q_153 ?_; refine z_165 ?_; refine cw_seq ?_; refine z_27 ?_; refine cC (fun h1=>?_) fun h1=>?_
  ·have u1:d.k=1:=by simpa using h1
   have hnm:=h.name om_;refine cw_skip ?_; refine cC (fun h2=>?_) fun h2=>?_
   ·refine z_0 ?_; refine z_162 ?_; refine cY q_77 ?_; refine z_32 ?_; refine cC (fun h3=>?_) fun h3=>?_
    ·exfalso;simp [hnm] at h3
    ·exact z_225
   ·exfalso;simp [u1] at h2
  ·have u1:¬ d.k=1:=by simpa using h1
   refine z_126 ?_; refine cC (fun h4=>?_) fun h4=>?_
   ·have u4:d.k=2:=by simpa using h4
    have hnm:=h.name om_;refine z_0 ?_; refine z_162 ?_; refine cY q_77 ?_; refine z_32 ?_; refine cC (fun h5=>?_) fun h5=>?_
    ·exfalso;simp [hnm] at h5
    ·exact z_225
   ·have u4:¬ d.k=2:=by simpa using h4
    refine z_27 ?_; refine cC (fun h6=>?_) fun h6=>?_
    ·have u6:d.k=3:=by simpa using h6
     have hnm:=h.path u6;refine z_0 ?_; refine z_162 ?_; refine cY (y_callf rfl t_60 ⟨tt,tt⟩ (lx_Path_s d.name (by have:=pathB_len hnm; omega) _) rfl) ?_; refine z_32 ?_; refine cC (fun h7=>?_) fun h7=>?_
     ·exfalso;simp [hnm] at h7
     ·exact z_225
    ·exfalso;have:=h.kind;simp at h6;omega
 ·intro _ _; refine z_42 ?_; refine z_195 ?_; refine z_107 ?_; refine cw_loopd hCC (α:=Nat) (fun i=>[(1,.ptr 0 0),(25,(.list (d.params.map scv) (gnn d.params.length) none)),(26,(.val (.int .i64 (d.params.length:Int)))),(27,(.val (.int .i64 (i:Int))))]) (fun _=>[.box d.cells]) (fun i=>i<=d.params.length) (fun i=>d.params.length - i) 0 (n_3 _) tu_ (extra0:=[]) rfl q_273 uz_ ?_; intro i hi;have hpl:=h.parl;refine z_28 ?_; refine cC (fun h8=>?_) fun h8=>?_
  ·have hlt:(i:Int) < d.params.length:=by simpa using h8
   obtain ⟨y,hb⟩:∃ y,d.params[i]? = some y:=⟨d.params[i]'om_,si_⟩;have hnm:=h.par y (n_0 hb);have hk1:d.k=1:=by
    rcases Classical.em (d.k=1) with e | e
    ·exact e
    ·have:=h.pars e;rw [this] at hb;simp at hb
   refine z_41 ?_; refine z_172 ?_; refine z_1 ?_; refine z_0 ?_; refine cY q_153 ?_; refine cY q_238 ?_; refine z_130 ?_; refine cG (fun hg=>y_callf rfl t_83 ⟨hg,tt⟩ (so_named_s y (by have:=nameB_len hnm.1; omega) _) rfl) ?_; refine cG (fun hg=>y_not rfl hg rfl) ?_; refine z_61 ?_; refine cC (fun h9=>?_) fun h9=>?_
   ·exfalso;simp [hnm,hk1] at h9
   ·exact z_99
  ·obtain ⟨t,hbody,hwf⟩:=h.tree;have hbl:d.body.length=t.size:=by rw [hbody,t.flat_len]
   have hsl:(t.sts 0).length=d.body.length:=by rw [t.sts_len,hbl]
   have hb256:=h.blen;have htp:=t.size_pos;refine z_90 ?_; refine z_283 ?_;refine cD (d_make rfl tt tt rfl rfl (n:=d.body.length) (c:=d.body.length) rfl rfl t_7 t_1 t_119 t_9 rfl (oneB_or rfl) rfl om_ om_ (by have hb:Tryz.t3.bytes=8:=rfl; rw [hb]; omega) ?_);refine z_1 ?_; refine cw_norm [.box d.cells,.vec 1 ((arrI (t.sts 0) d.body.length 0).map icv)] (by unfold arrI; simp [List.map_replicate]; exact .inr rfl) ?_; refine z_42 ?_; refine z_283 ?_; refine z_24 ?_; refine cw_loopd hCC (α:=Nat) (fun i=>[(1,.ptr 0 0),(5,.vec 1 0 d.body.length),(45,(.list (d.body.map Ex.cv) (gnn d.body.length) none)),(46,(.val (.int .i64 (d.body.length:Int)))),(47,(.val (.int .i64 (i:Int))))]) (fun i=>[.box d.cells,.vec 1 ((arrI (t.sts 0) d.body.length i).map icv)]) (fun i=>i<=d.body.length) (fun i=>d.body.length - i) 0 (n_3 _) tu_ (extra0:=[]) rfl q_273 uz_ ?_; intro i hi; refine z_28 ?_; refine cC (fun h10=>?_) fun h10=>?_
   ·have hlt:(i:Int) < d.body.length:=by simpa using h10
    obtain ⟨x,z,ch,hnd⟩:=nd_tree hwf (j:=i) om_;have hal:x.args.length=ch.length:=by rw [hnd.args,rootsL_len]
    have hcl:=sizeL_len ch;have hsz:=hnd.size;have hzi:z+sizeL (ch.take ch.length)=i:=by rw [n_55]; exact hsz
    refine z_113 ?_; refine cY (y_index rfl tt tt rfl rfl t_43 t_37 om_ (rows_get (by rw [hbody]; exact hnd.e)) rfl) ?_; refine z_201 ?_; refine cY q_236 ?_; refine z_143 ?_; refine cY q_174 ?_; refine z_195 ?_; refine cY q_100 ?_; refine cY (y_callf rfl Tryz.call303 q_296 (so_nodeC_s x d.params.length hnd.ok (by have:=hnd.ok.len; omega) om_ _) rfl) ?_; refine z_32 ?_; refine cC (fun h11=>?_) fun h11=>?_
    ·exfalso;simp at h11
    ·have hcur:=arrI_cur (S:=t.sts 0) (i:=i) hsl om_;refine z_149 ?_; refine cY q_112 ?_;refine cD (d_store_e' (((arrI (t.sts 0) d.body.length i).set i ((z+sizeL (ch.take ch.length):Nat):Int)).map icv) rfl tt tt rfl q_269 t_1 (.inl rfl) rfl (by simpa using rows_get (f:=icv) hcur) rfl (nb rfl) (by rw [hzi]; simp only [n_10,n_63]; exact icv_set _ _ _) rfl ?_);refine z_48 ?_; refine z_125 ?_; refine cY q_103 ?_; refine z_131 ?_; refine cw_block ?_; refine cw_loopd hCC (α:=Nat) (fun m=>[(1,.ptr 0 0),(5,.vec 1 0 d.body.length),(6,(.val (.int .i64 (i:Int)))),(7,.ptr 2 0),(8,(.val (.int .i64 ((m:Int) - 1)))),(45,(.list (d.body.map Ex.cv) (gnn d.body.length) none)),(46,(.val (.int .i64 (d.body.length:Int)))),(47,(.val (.int .i64 (i:Int))))]) (fun m=>[.box d.cells,.vec 1 (((arrI (t.sts 0) d.body.length i).set i ((z+sizeL (ch.take m):Nat):Int)).map icv),.box x.cells]) (fun m=>m<=ch.length) (fun m=>m) ch.length (n_5 _) ⟨q_297,q_297,q_297,q_297,⟨tt,(congrArg (fun z:Nat=>(CV.val (.int .i64 ((z:Int) - 1)))) hal)⟩,q_297,q_297,q_297,tt⟩ (extra0:=[]) rfl q_273 uz_ ?_; intro m hm; refine z_183 ?_; refine cC (fun h12=>?_) fun h12=>?_
     ·have hmp:(0:Int)<=(m:Int) - 1:=by simpa using h12
      obtain ⟨m,rfl⟩:∃ m',m=m'+1:=⟨m - 1,om_⟩;obtain ⟨c,hc⟩:∃ c,ch[m]? = some c:=⟨ch[m]'om_,si_⟩;have hst:=sizeL_take hc;have hcp:=c.size_pos;have hle:=sizeL_take_le ch (m+1);refine z_20 ?_;refine cw_seq (cw_seq ?_);refine cw_draw 19 [0,1,0,7,15,0,0,96,224,480,1023,2047,4095,8191,4095,32767,65535,131071,262143] q_289 q_289 rfl ?_; refine hY q_139 ?_; refine hY q_230 ?_; refine hY q_246 ?_; refine hY q_25 ?_; refine hY q_248 ?_; refine z_163 ?_; refine hY q_112 ?_; refine hY (y_load_e1 rfl tt rfl t_14 rfl (by simpa using rows_get (f:=icv) (arrI_at hsl om_)) rfl) ?_; refine hY q_253 ?_; refine hY q_260 ?_; refine hY q_246 ?_; refine ch_g rfl rfl tt rfl (fun hg=>y_field rfl tt rfl t_33 rfl t_74 de_) ?_; refine ch_g rfl rfl tt rfl (fun hg=>y_load1 rfl hg rfl t_99 rfl rfl) ?_; refine ch_g rfl rfl tt rfl q_212 ?_; refine ch_g rfl rfl tt rfl (fun hg=>y_index rfl hg hg rfl rfl t_7 t_1 q_240 (rows_get (by rw [show (((m+1:Nat):Int) - 1).toNat=m by omega,hnd.args]; exact rootsL_get hc)) rfl) ?_; refine ch_g rfl rfl tt rfl (fun hg=>y_load_c1 rfl hg rfl t_14 rfl) ?_; refine ch_g rfl rfl tt rfl q_239 ?_; refine hY q_199 ?_; refine z_79 ?_; refine cC (fun h13=>?_) fun h13=>?_
      ·exfalso;simp at h13;omega
      ·refine cw_skip ?_; refine z_45 ?_; refine cY q_246 ?_; refine z_125 ?_; refine cY q_246 ?_; refine cY q_25 ?_; refine cY q_248 ?_; refine cY q_112 ?_; refine cY (y_load_e1 rfl tt rfl t_14 rfl (by simpa using rows_get (f:=icv) (arrI_lt (n:=d.body.length) (i:=i) (v:=((z+sizeL (ch.take (m+1)):Nat):Int)) om_ (chS_get hnd.chs hc))) rfl) ?_; refine cY q_112 ?_;refine cD (d_store_e' (((arrI (t.sts 0) d.body.length i).set i ((z+sizeL (ch.take m):Nat):Int)).map icv) rfl tt tt rfl q_269 t_1 (.inl rfl) rfl (by simpa using rows_get (f:=icv) (arrI_at hsl om_)) rfl (nb rfl) (by simp only [n_10,n_63]; refine (icv_set _ _ _).trans ?_; rw [List.set_set,Int.natCast_add]) rfl ?_);refine z_190 ?_; refine z_131 ?_;exact ⟨m,_,⟨om_,om_⟩,⟨q_297,q_297,q_297,q_297,⟨tt,(congrArg (fun z:Int=>(CV.val (.int .i64 z))) om_)⟩,q_297,q_297,q_297,tt⟩,rfl⟩
     ·have hm0:m=0:=by simp at h12; omega
      subst hm0; refine cw_norm [.box d.cells,.vec 1 ((arrI (t.sts 0) d.body.length (i+1)).map icv),.box x.cells] (by rw [<- arrI_next hsl hnd.s]; rfl) ?_;exact z_285
   ·have hin:i=d.body.length:=by simp at h10; omega
    have hroot:(t.sts 0)[d.body.length - 1]? = some 0:=by rw [hbl]; exact t.sts_last 0
    refine z_90 ?_; refine z_283 ?_; refine z_130 ?_; refine z_176 ?_; refine cG (fun hg=>y_len rfl hg rfl t_43 q_250 rfl) ?_; refine cG q_58 ?_; refine cG (fun hg=>y_index_v rfl hg hg rfl rfl t_7 t_1 rfl q_240 q_240) ?_; refine cG (fun hg=>y_load_e1 rfl hg rfl t_14 rfl (by rw [hin,show 0+((d.body.length:Int) - 1).toNat=d.body.length - 1 by omega]; exact rows_get (f:=icv) (arrI_last om_ hroot)) rfl) ?_; refine z_217 ?_;exact ⟨_,res1 rfl tt q_269,_,_,rfl,rfl,cls_bool q_287⟩
structure SrcG (x:Src):Prop where
 pkg:nameB x.pkg=true/\resB x.pkg=false
 imp:∀ s∈x.imports,nameB s=true/\resB s=false
 impl:x.imports.length<=8
 impn:x.imports.Nodup
 impp:x.pkg∉x.imports
 dec:∀ d∈x.decls,DeG d
 decl:x.decls.length<=64
 decn:(x.decls.map fun d=>(d.k,d.name)).Nodup
structure Sn where
 k:Int
 s:Str
deriving DecidableEq
variable {s:Str} {k:Int}
abbrev Sn.cells (x:Sn):List CV:=[.val (.int .i64 x.k),sv x.s]
def Sn.cv (x:Sn):List CV:=x.cells
theorem pure_sns (l:List Sn) (nn:Bool):Pure (.list (l.map Sn.cv) nn none):=pure_rows (f:=Sn.cv) (fun _=>⟨.val _,.val _,tt⟩) l nn
theorem old_sns (n:Nat) (l:List Sn) (nn:Bool):Old n (.list (l.map Sn.cv) nn none):=(pure_sns l nn).old
theorem eq_sn (x y:Sn):∀ w,(Op.equal 305 (.agg [.int .i64 x.k,.string (str x.s)].toArray) (.agg [.int .i64 y.k,.string (str y.s)].toArray)).run CC.P w = .ok (decide (x=y)) w:=fun w=>by
 show (Op.equal _ _ _).run Tryz.prog w=_;simp [Op.equal,Op.maxDepth,go_sem,str_toList];obtain ⟨a,b⟩:=x;obtain ⟨a',b'⟩:=y;by_cases h1:a=a' <;> by_cases h2:b=b' <;> simp [h1,h2]
theorem nodup_take {l:List α} {y:α} (h:l.Nodup) (hy:l[i]? = some y):y∉l.take i:=fun hm=>by
 obtain ⟨j,hj⟩:=n_11.1 hm;rw [n_31] at hj;split at hj
 ·rename_i hlt;obtain ⟨h1,e1⟩:=n_1.1 hy;obtain ⟨h2,e2⟩:=n_1.1 hj;exact (List.pairwise_iff_getElem.1 h) j i h2 h1 hlt (e2.trans e1.symm)
 ·cases hj
def ixG {α:Type} [DecidableEq α]:List α->α->Nat->Int
 | [],_,_=>-1
 | y::l,x,i=>if x=y then i else ixG l x (i+1)
theorem ixG_step [DecidableEq α] {l:List α} {y:α} (h:l[i]? = some y) (x:α):ixG (l.drop i) x i=if x=y then (i:Int) else ixG (l.drop (i+1)) x (i+1):=by
 obtain ⟨hlt,he⟩:=n_1.1 h;rw [n_25 hlt,he]; rfl
theorem ixG_mem {α:Type} [DecidableEq α] {x:α}:∀ {l:List α} {i:Nat},0<=ixG l x i↔x∈l
 | [],i=>by simp [ixG]
 | y::l,i=>by
  rw [ixG];by_cases h:x=y
  ·subst h; simp
  ·rw [if_neg h,ixG_mem (l:=l) (i:=i+1)]; simp [h]
theorem str_Contains_take (l:List Str) (nn:Bool) (i:Nat) (x:Str) (hl:l.length<=1000000000) (σ:List CObj):CCalls CC 160 [.list (((l.map scv).take i).drop 0) nn none,sv x] σ fun r σ'=>r = .ret (.val (.bool (decide (x∈l.take i))))/\σ'=σ:=by
 have:=str_Contains_s (l.take i) nn x (by rw [n_46]; omega) σ;rw [n_70,<- List.map_take];exact this
theorem str_again_s (l:List Str) (nn:Bool) (hl:l.length<=1000000) (hn:l.Nodup) (σ:List CObj):CCalls CC 282 [(.list (l.map scv) nn none)] σ fun r σ'=>r = .ret (.val (.bool false))/\σ'=σ:=by
 refine CCalls.anyw hCC pu_ pu_ ?_ σ;refine ccalls_val (ccalls_of Tryz.func282 rfl rfl ?_);refine z_54 ?_; refine z_107 ?_; refine cw_loopd hCC (α:=Nat) (fun i=>[(0,(.list (l.map scv) nn none)),(5,(.list (l.map scv) nn none)),(6,(.val (.int .i64 (l.length:Int)))),(7,(.val (.int .i64 (i:Int))))]) (fun _=>[]) (fun i=>i<=l.length) (fun i=>l.length - i) 0 (n_3 _) tu_ (extra0:=[]) rfl q_273 uz_ ?_; intro i hi; refine z_28 ?_; refine cC (fun h1=>?_) fun h1=>?_
 ·have hlt:(i:Int) < l.length:=by simpa using h1
  obtain ⟨y,hb⟩:∃ y,l[i]? = some y:=⟨l[i]'om_,si_⟩;refine z_113 ?_; refine z_172 ?_; refine cY q_236 ?_; refine z_1 ?_; refine z_6 ?_; refine cY (y_slice (h:=i) rfl tt rfl t_2 t_0 q_179 rfl q_267 q_211 (by rw [n_17]; omega)) ?_; refine cY q_246 ?_; refine cY (y_callf rfl t_72 q_296 (str_Contains_take l _ i y om_ _) rfl) ?_; refine co_nil ?_; refine cC (fun h2=>?_) fun h2=>?_
  ·exfalso;exact nodup_take hn hb q_275
  ·exact z_99
 ·exact z_271
theorem sn_Index_s (l:List Sn) (nn:Bool) (x:Sn) (hl:l.length<=1000000) (σ:List CObj):CCalls CC 320 [(.list (l.map Sn.cv) nn none),.agg x.cells] σ fun r σ'=>r = .ret (.val (.int .i64 (ixG l x 0)))/\σ'=σ:=by
 refine CCalls.anyw hCC pu_ pu_ ?_ σ;refine ccalls_val (ccalls_of Tryz.func320 rfl rfl ?_);refine z_60 ?_; refine z_16 ?_; refine cY (y_len rfl tt rfl t_55 q_250 rfl) ?_; refine z_24 ?_; refine cw_loopd hCC (α:=Nat) (fun i=>[(0,(.list (l.map Sn.cv) nn none)),(3,.ptr 0 0),(7,(.val (.int .i64 (l.length:Int)))),(8,(.val (.int .i64 (i:Int))))]) (fun _=>[.box x.cells]) (fun i=>i<=l.length/\ixG l x 0=ixG (l.drop i) x i) (fun i=>l.length - i) 0 ⟨n_3 _,rfl⟩ tu_ (extra0:=[]) rfl q_273 uz_ ?_; intro i ⟨hi,hr⟩; refine z_28 ?_; refine cC (fun h1=>?_) fun h1=>?_
 ·have hlt:(i:Int) < l.length:=by simpa using h1
  obtain ⟨y,hb⟩:∃ y,l[i]? = some y:=⟨l[i]'om_,si_⟩;rw [ixG_step hb] at hr;refine z_113 ?_; refine z_1 ?_; refine cw_seq ?_; refine cw_draw 6 [0,0,0,6,14,31] q_289 q_289 rfl ?_; refine hY q_177 ?_; refine z_163 ?_; refine hY (y_index rfl tt tt rfl rfl t_55 t_40 om_ (rows_get hb) rfl) ?_; refine hY (y_load_c rfl tt rfl t_127 t_40 (nb rfl)) ?_; refine hY (y_eqs rfl tt tt (xs:=[.int .i64 x.k,.string (str x.s)]) (ys:=[.int .i64 y.k,.string (str y.s)]) rfl rfl Tryz.eqGuardType305 (eq_sn x y)) ?_; refine z_79 ?_; refine cC (fun h2=>?_) fun h2=>?_
  ·have u2:x=y:=by simpa using h2
   rw [if_pos u2] at hr;exact z_254
  ·have u2:¬ x=y:=by simpa using h2
   rw [if_neg u2] at hr;exact z_53
 ·have hge:l.length<=i:=by simp at h1; omega
  rw [n_34 hge] at hr;refine cw_exit ?_;exact z_37
theorem sn_Contains_s (l:List Sn) (nn:Bool) (x:Sn) (hl:l.length<=1000000) (σ:List CObj):CCalls CC 304 [(.list (l.map Sn.cv) nn none),.agg x.cells] σ fun r σ'=>r = .ret (.val (.bool (decide (x∈l))))/\σ'=σ:=by
 refine CCalls.anyw hCC pu_ pu_ ?_ σ;refine ccalls_val (ccalls_of Tryz.func304 rfl rfl ?_);refine z_60 ?_; refine z_2 ?_; refine cY q_177 ?_; refine cY (y_callf rfl Tryz.call320 q_296 (sn_Index_s l nn x hl _) rfl) ?_; refine cY q_255 ?_; refine z_5 ?_;exact ⟨_,res1 rfl tt q_269,_,_,rfl,rfl,cls_bool (decide_eq_decide.2 ixG_mem)⟩
theorem sn_Contains_take (l:List Sn) (nn:Bool) (i:Nat) (x:Sn) (hl:l.length<=1000000) (σ:List CObj):CCalls CC 304 [.list (((l.map Sn.cv).take i).drop 0) nn none,.agg x.cells] σ fun r σ'=>r = .ret (.val (.bool (decide (x∈l.take i))))/\σ'=σ:=by
 have:=sn_Contains_s (l.take i) nn x (by rw [n_46]; omega) σ;rw [n_70,<- List.map_take];exact this
theorem sn_again_s (l:List Sn) (nn:Bool) (hl:l.length<=1000000) (hn:l.Nodup) (σ:List CObj):CCalls CC 283 [(.list (l.map Sn.cv) nn none)] σ fun r σ'=>r = .ret (.val (.bool false))/\σ'=σ:=by
 refine CCalls.anyw hCC pu_ pu_ ?_ σ;refine ccalls_val (ccalls_of Tryz.func283 rfl rfl ?_);refine z_54 ?_; refine cY (y_len rfl tt rfl t_55 q_250 rfl) ?_; refine z_24 ?_; refine cw_loopd hCC (α:=Nat) (fun i=>[(0,(.list (l.map Sn.cv) nn none)),(5,(.list (l.map Sn.cv) nn none)),(6,(.val (.int .i64 (l.length:Int)))),(7,(.val (.int .i64 (i:Int))))]) (fun _=>[]) (fun i=>i<=l.length) (fun i=>l.length - i) 0 (n_3 _) tu_ (extra0:=[]) rfl q_273 uz_ ?_; intro i hi; refine z_28 ?_; refine cC (fun h1=>?_) fun h1=>?_
 ·have hlt:(i:Int) < l.length:=by simpa using h1
  obtain ⟨y,hb⟩:∃ y,l[i]? = some y:=⟨l[i]'om_,si_⟩;refine z_113 ?_; refine cY (y_index rfl tt tt rfl rfl t_55 t_40 om_ (rows_get hb) rfl) ?_; refine cY (y_load_c rfl tt rfl t_127 t_40 (nb rfl)) ?_;refine cD (d_alloc rfl t_100 rfl q_288 ?_);refine cY q_236 ?_;refine cD (d_store rfl tt tt rfl q_269 t_40 q_288 rfl rfl (nb rfl) ?_);refine z_8 ?_; refine cw_draw 5 [0,0,3,0,15] q_289 q_289 rfl ?_; refine z_163 ?_; refine hY (y_slice (h:=i) rfl tt rfl t_55 t_40 q_179 rfl q_267 q_211 (by rw [n_17]; omega)) ?_; refine hY q_177 ?_; refine hY (y_callf rfl Tryz.call304 q_296 (sn_Contains_take l _ i y om_ _) rfl) ?_; refine z_79 ?_; refine cC (fun h2=>?_) fun h2=>?_
  ·exfalso;exact nodup_take hn hb q_275
  ·exact z_99
 ·exact z_271
theorem so_syntax_s (x:Src) (h:SrcG x) (σ:List CObj):CCalls CC 242 [.agg x.cells] σ fun r σ'=>r = .ret (.val (.bool true))/\σ'=σ:=by
 refine CCalls.anyw hCC pu_ pu_ ?_ σ;refine ccalls_val (ccalls_of Tryz.func242 rfl rfl ?_);refine z_209 ?_; refine z_196 ?_; refine cY (y_callf rfl t_83 ⟨tt,tt⟩ (so_named_s x.pkg (by have:=nameB_len h.pkg.1; omega) _) rfl) ?_; refine z_32 ?_; refine cC (fun h1=>?_) fun h1=>?_
 ·exfalso;simp [h.pkg] at h1
 ·have hil:=h.impl;have hdl:=h.decl;refine z_230 ?_; refine z_160 ?_; refine z_107 ?_; refine cw_loopd hCC (α:=Nat) (fun i=>[(1,.ptr 0 0),(12,(.list (x.imports.map scv) (gnn x.imports.length) none)),(13,(.val (.int .i64 (x.imports.length:Int)))),(14,(.val (.int .i64 (i:Int))))]) (fun _=>[.box x.cells]) (fun i=>i<=x.imports.length) (fun i=>x.imports.length - i) 0 (n_3 _) tu_ (extra0:=[]) rfl q_273 uz_ ?_; intro i hi; refine z_28 ?_; refine cC (fun h2=>?_) fun h2=>?_
  ·have hlt:(i:Int) < x.imports.length:=by simpa using h2
   obtain ⟨y,hb⟩:∃ y,x.imports[i]? = some y:=⟨x.imports[i]'om_,si_⟩;have hnm:=h.imp y (n_0 hb);refine z_41 ?_; refine z_172 ?_; refine z_38 ?_; refine cY (y_callf rfl t_83 ⟨tt,tt⟩ (so_named_s y (by have:=nameB_len hnm.1; omega) _) rfl) ?_; refine z_32 ?_; refine cC (fun h3=>?_) fun h3=>?_
   ·exfalso;simp [hnm] at h3
   ·exact z_99
  ·refine cw_exit ?_; refine z_42 ?_; refine z_250 ?_; refine z_281 ?_; refine cw_loopd hCC (α:=Nat) (fun i=>[(23,(.list (x.decls.map De.cv) (gnn x.decls.length) none)),(24,(.val (.int .i64 (x.decls.length:Int)))),(25,(.val (.int .i64 (i:Int))))]) (fun _=>[.box x.cells]) (fun i=>i<=x.decls.length) (fun i=>x.decls.length - i) 0 (n_3 _) tu_ (extra0:=[]) rfl q_273 uz_ ?_; intro i hi; refine z_28 ?_; refine cC (fun h4=>?_) fun h4=>?_
   ·have hlt:(i:Int) < x.decls.length:=by simpa using h4
    obtain ⟨d,hd⟩:∃ d,x.decls[i]? = some d:=⟨x.decls[i]'om_,si_⟩;have hg:=h.dec d (n_0 hd);refine z_41 ?_; refine cY q_90 ?_; refine cY q_184 ?_; refine z_50 ?_; refine z_48 ?_; refine cY (y_load rfl tt rfl t_95 t_23 rfl (nb rfl)) ?_; refine cY (y_callf rfl Tryz.call281 ⟨tt,tt⟩ (so_declared_s d hg _) rfl) ?_; refine z_32 ?_; refine cC (fun h5=>?_) fun h5=>?_
    ·exfalso;simp at h5
    ·exact z_99
   ·exact z_271
mutual
def Tr.deps:Nat->Tr->List Nat
 | d,.n k _ _ _ ch=>depsL (if k=4 then d else d+1) ch++[d]
def depsL:Nat->List Tr->List Nat
 | _,[]=>[]
 | d,t::l=>t.deps d++depsL d l
end
mutual
theorem Tr.deps_len:∀ (t:Tr) (d:Nat),(t.deps d).length=t.size
 | .n k u o nm ch,d=>by rw [Tr.deps,Tr.size,n_4,depsL_len ch]; rfl
theorem depsL_len:∀ (l:List Tr) (d:Nat),(depsL d l).length=sizeL l
 | [],_=>rfl
 | t::l,d=>by rw [depsL,sizeL,n_4,Tr.deps_len t d,depsL_len l _]
end
theorem Tr.deps_last (t:Tr) (d:Nat):(t.deps d)[t.size - 1]? = some d:=by
 cases t with
 | n k u o nm ch =>
  rw [Tr.deps,Tr.size,Nat.add_sub_cancel,n_27 (by rw [depsL_len]; exact n_5 _),depsL_len];simp
structure DpAt (E:List Ex) (D:List Nat) (d j:Nat) (x:Ex) (e:Nat):Prop where
 he:E[j]? = some x
 hd:D[j]? = some e
 lo:d<=e
 hi:e<=32
 ch:∀ a∈x.args,∃ r:Nat,a=r/\D[r]? = some (if x.k=4 then e else e+1)
theorem roots_dep {d:Nat}:∀ (l:List Tr) (s:Nat) (D0 D1:List Nat),D0.length=s->∀ a∈rootsL l s,∃ r:Nat,a=r/\(D0++depsL d l++D1)[r]? = some d
 | [],_,_,_,_,a,h=>by cases h
 | t::l,s,D0,D1,hD,a,h=>by
  rw [rootsL] at h;have hp:=t.size_pos
  rcases n_13.1 h with rfl | h
  ·refine ⟨s+t.size - 1,rfl,?_⟩;rw [depsL,n_8,n_8,n_27 om_,hD,show s+t.size - 1 - s=t.size - 1 by omega,n_15 (by rw [t.deps_len]; omega)];exact t.deps_last d
  ·have:=roots_dep (d:=d) l (s+t.size) (D0++t.deps d) D1 (by rw [n_4,t.deps_len,hD]) a h;rw [depsL,<- n_8 D0];exact this
mutual
theorem dp_all {np:Nat}:∀ (t:Tr) {d:Nat} (s:Nat) (E0 E1:List Ex) (D0 D1:List Nat),E0.length=s->D0.length=s->t.wf np d->∀ j,s<=j->j < s+t.size->∃ x e,DpAt (E0++t.flat s++E1) (D0++t.deps d++D1) d j x e
 | .n k u o nm ch,d,s,E0,E1,D0,D1,hE,hD,hw,j,h1,h2=>by
  rw [Tr.wf] at hw;rw [Tr.size] at h2;rw [Tr.flat,Tr.deps];by_cases hj:j < s+sizeL ch
  ·obtain ⟨x,e,g⟩:=dp_allL ch s E0 (⟨k,u,o,nm,rootsL ch s⟩::E1) D0 (d::D1) hE hD hw.2.2 j h1 hj;refine ⟨x,e,⟨by simpa [n_8] using g.he,by simpa [n_8] using g.hd,?_,g.hi,fun a ha=>by simpa [n_8] using g.ch a ha⟩⟩;have:=g.lo;split at this <;> omega
  ·have hj:j=s+sizeL ch:=by omega
   refine ⟨⟨k,u,o,nm,rootsL ch s⟩,d,?_,?_,n_5 _,hw.1,fun a ha=>?_⟩
   ·rw [<- n_8,n_8,n_27 (by rw [n_4,flatL_len]; omega),n_4,flatL_len,hE,hj,n_94];rfl
   ·rw [<- n_8,n_8,n_27 (by rw [n_4,depsL_len]; omega),n_4,depsL_len,hD,hj,n_94];rfl
   ·have:=roots_dep (d:=if k=4 then d else d+1) ch s D0 (d::D1) hD a ha;simpa [n_8] using this
theorem dp_allL {np:Nat}:∀ (l:List Tr) {d:Nat} (s:Nat) (E0 E1:List Ex) (D0 D1:List Nat),E0.length=s->D0.length=s->wfL np d l->∀ j,s<=j->j < s+sizeL l->∃ x e,DpAt (E0++flatL l s++E1) (D0++depsL d l++D1) d j x e
 | [],_,s,_,_,_,_,_,_,_,j,h1,h2=>by rw [sizeL] at h2; omega
 | t::l,d,s,E0,E1,D0,D1,hE,hD,hw,j,h1,h2=>by
  rw [wfL] at hw;rw [sizeL] at h2;rw [flatL,depsL];by_cases hj:j < s+t.size
  ·have:=dp_all t s E0 (flatL l (s+t.size)++E1) D0 (depsL d l++D1) hE hD hw.1 j h1 hj;simpa [n_8] using this
  ·have:=dp_allL l (s+t.size) (E0++t.flat s) E1 (D0++t.deps d) D1 (by rw [n_4,t.flat_len,hE]) (by rw [n_4,t.deps_len,hD]) hw.2 j om_ om_;simpa [n_8] using this
end
theorem dp_tree {t:Tr} (hw:t.wf np d) (h:j < t.size):∃ x e,DpAt (t.flat 0) (t.deps d) d j x e:=by
 have:=dp_all t 0 [] [] [] [] rfl rfl hw j (n_3 _) om_;simpa using this
structure Bnd (arr:List Int) (D:List Nat):Prop where
 len:arr.length=D.length
 le:∀ (j e:Nat),D[j]? = some e->∃ v:Int,arr[j]? = some v/\0<=v/\v<=e
theorem Bnd.set {arr:List Int} {D:List Nat} (h:Bnd arr D) {r e:Nat} (hr:D[r]? = some e) (h0:0<=v) (h1:v<=e):Bnd (arr.set r v) D:=by
 refine ⟨by rw [List.length_set]; exact h.len,fun j e' hj=>?_⟩;by_cases hjr:r=j
 ·subst hjr;rw [hr] at hj;injection hj with hj
  subst hj;have hl:=(n_1.1 hr).1;exact ⟨v,by rw [n_76 (by rw [h.len]; exact hl)],h0,h1⟩
 ·obtain ⟨u,g1,g2⟩:=h.le j e' hj;exact ⟨u,by rw [n_42 hjr]; exact g1,g2⟩
theorem Bnd.zero (D:List Nat):Bnd (List.replicate D.length 0) D:=by
 refine ⟨List.length_replicate,fun j e hj=>⟨0,?_,n_99 _,om_⟩⟩;have hl:=(n_1.1 hj).1;rw [n_133,if_pos hl]
theorem Src.old (x:Src) (n:Nat):OldObj n (.box x.cells):=old_box ⟨.val _,old_strs _ _ _,old_des _ _ _,tt⟩
def snOf (d:De):Sn:=⟨d.k,d.name⟩
theorem sn_nodup {l:List De} (h:(l.map fun d=>(d.k,d.name)).Nodup):(l.map snOf).Nodup:=by
 have e:l.map snOf=(l.map fun d=>(d.k,d.name)).map fun p=>(⟨p.1,p.2⟩:Sn):=by rw [List.map_map]; rfl
 rw [e];refine List.Pairwise.map _ (fun a b hab he=>?_) h;injection he with h1 h2
 exact hab (Prod.ext h1 h2)
theorem so_many_s (x:Src) (h:SrcG x) (σ:List CObj):CCalls CC 244 [.agg x.cells] σ fun r σ'=>r = .ret (.val (.bool false))/\σ'=σ:=by
 refine CCalls.anyw hCC pu_ pu_ ?_ σ;refine ccalls_val (ccalls_of Tryz.func244 rfl rfl ?_);refine z_209 ?_; refine z_160 ?_; refine cY q_100 ?_; refine z_159 ?_; refine z_180 ?_; refine cG (fun hg=>y_len rfl hg rfl t_38 q_250 rfl) ?_; refine z_189 ?_; refine cC (fun h1=>?_) fun h1=>?_
 ·exfalso;have:=h.impl;have:=h.decl;simp at h1;omega
 ·have hil:=h.impl;have hdl:=h.decl;refine z_230 ?_; refine z_250 ?_; refine z_281 ?_; refine cw_loopd hCC (α:=Nat) (fun i=>[(20,(.list (x.decls.map De.cv) (gnn x.decls.length) none)),(21,(.val (.int .i64 (x.decls.length:Int)))),(22,(.val (.int .i64 (i:Int))))]) (fun _=>[.box x.cells]) (fun i=>i<=x.decls.length) (fun i=>x.decls.length - i) 0 (n_3 _) tu_ (extra0:=[]) rfl q_273 uz_ ?_; intro i hi; refine z_28 ?_; refine cC (fun h2=>?_) fun h2=>?_
  ·have hlt:(i:Int) < x.decls.length:=by simpa using h2
   obtain ⟨d,hd⟩:∃ d,x.decls[i]? = some d:=⟨x.decls[i]'om_,si_⟩;have hg:=h.dec d (n_0 hd);have hpl:=hg.parl;have hb256:=hg.blen;obtain ⟨t,hbody,hwf⟩:=hg.tree;have hbl:d.body.length=t.size:=by rw [hbody,t.flat_len]
   have hdp:(t.deps 1).length=d.body.length:=by rw [t.deps_len,hbl]
   have htp:=t.size_pos;refine z_41 ?_; refine cY q_90 ?_; refine cY q_184 ?_; refine z_50 ?_; refine z_67 ?_; refine z_195 ?_; refine cY q_100 ?_; refine z_159 ?_; refine z_176 ?_; refine cG (fun hg=>y_len rfl hg rfl t_43 q_250 rfl) ?_; refine z_189 ?_; refine cC (fun h3=>?_) fun h3=>?_
   ·exfalso;simp at h3;omega
   ·refine z_46 ?_; refine z_283 ?_;refine cD (d_make rfl tt tt rfl rfl (n:=d.body.length) (c:=d.body.length) rfl rfl t_7 t_1 t_119 t_9 rfl (oneB_or rfl) rfl om_ om_ (by have hb:Tryz.t3.bytes=8:=rfl; rw [hb]; omega) ?_);refine z_1 ?_; refine cw_norm [.box x.cells,.box d.cells,.vec 1 ((List.replicate d.body.length 0).map icv)] (by simp [List.map_replicate]; exact ⟨rfl,.inr rfl⟩) ?_; refine z_0 ?_; refine z_283 ?_; refine z_131 ?_; refine cw_block ?_; refine cw_loopd hCC (α:=Nat × List Int) (fun y=>[(4,.ptr 1 0),(5,.vec 2 0 d.body.length),(6,(.val (.int .i64 ((y.1:Int) - 1)))),(20,(.list (x.decls.map De.cv) (gnn x.decls.length) none)),(21,(.val (.int .i64 (x.decls.length:Int)))),(22,(.val (.int .i64 (i:Int))))]) (fun y=>[.box x.cells,.box d.cells,.vec 1 (y.2.map icv)]) (fun y=>y.1<=d.body.length/\Bnd y.2 (t.deps 1)) (fun y=>y.1) (d.body.length,List.replicate d.body.length 0) ⟨n_5 _,by rw [<- hdp]; exact Bnd.zero _⟩ tu_ (extra0:=[]) rfl q_273 uz_ ?_; intro ⟨m,arr⟩ ⟨hm,hbd⟩;dsimp only at hm hbd ⊢;refine z_183 ?_; refine cC (fun h4=>?_) fun h4=>?_
    ·have hmp:(0:Int)<=(m:Int) - 1:=by simpa using h4
     obtain ⟨m,rfl⟩:∃ m',m=m'+1:=⟨m - 1,om_⟩;have hmi:((m+1:Nat):Int) - 1=(m:Int):=by omega
     obtain ⟨y,e,hdp2⟩:=dp_tree hwf (j:=m) om_;obtain ⟨x',z',ch',hnd⟩:=nd_tree hwf (j:=m) om_;have hyx:x'=y:=Option.some.inj (hnd.e.symm.trans hdp2.he);have hargs:y.args.length<=256:=by
      rw [<- hyx,hnd.args,rootsL_len];have:=sizeL_len ch';have:=hnd.size;omega
     have he1:=hdp2.lo;have he32:=hdp2.hi;obtain ⟨v,hv,hv0,hv1⟩:=hbd.le _ _ hdp2.hd;have hal:=hbd.len;refine z_20 ?_; refine cw_cutd hCC (α:=List Int) (fun a=>[(4,.ptr 1 0),(5,.vec 2 0 d.body.length),(6,(.val (.int .i64 (((m+1:Nat):Int) - 1)))),(20,(.list (x.decls.map De.cv) (gnn x.decls.length) none)),(21,(.val (.int .i64 (x.decls.length:Int)))),(22,(.val (.int .i64 (i:Int))))]) (fun a=>[.box x.cells,.box d.cells,.vec 1 (a.map icv)]) (fun a=>Bnd a (t.deps 1)) q_273 uz_ ?_ ?_
     ·
      refine z_6 ?_; refine cY q_112 ?_; refine cY q_85 ?_; refine z_12 ?_; refine cC (fun h5=>?_) fun h5=>?_
      ·refine z_45 ?_; refine cY q_112 ?_;refine cD (d_store_e' ((arr.set m 1).map icv) rfl tt rfl rfl q_269 t_1 (.inl rfl) rfl (by rw [hmi]; simpa using rows_get (f:=icv) hv) rfl (nb rfl) (by rw [hmi]; simp only [n_10,n_63]; exact icv_set _ _ _) rfl ?_);refine co_nil ?_;exact ⟨(arr.set m 1),_,(hbd.set hdp2.hd de_ om_),tu_,rfl⟩
      ·refine cw_skip ?_;exact ⟨arr,_,hbd,tu_,rfl⟩
     ·intro arr hbd;obtain ⟨v,hv,hv0,hv1⟩:=hbd.le _ _ hdp2.hd;have hal:=hbd.len;refine z_77 ?_; refine cY q_112 ?_; refine cY q_85 ?_; refine z_12 ?_; refine cC (fun h6=>?_) fun h6=>?_
      ·exfalso;simp at h6;omega
      ·refine z_46 ?_; refine z_137 ?_; refine cY q_246 ?_; refine cY q_55 ?_; refine cY (y_field_c rfl tt rfl t_33 rfl t_74 de_) ?_; refine cY (y_load_c1 rfl tt rfl t_99 rfl) ?_; refine cY q_103 ?_; refine z_24 ?_; refine cw_loopd hCC (α:=Nat × List Int) (fun z=>[(4,.ptr 1 0),(5,.vec 2 0 d.body.length),(6,(.val (.int .i64 (((m+1:Nat):Int) - 1)))),(20,(.list (x.decls.map De.cv) (gnn x.decls.length) none)),(21,(.val (.int .i64 (x.decls.length:Int)))),(22,(.val (.int .i64 (i:Int)))),(66,(.list (y.args.map icv) (gnn y.args.length) none)),(67,(.val (.int .i64 (y.args.length:Int)))),(68,(.val (.int .i64 (z.1:Int))))]) (fun z=>[.box x.cells,.box d.cells,.vec 1 (z.2.map icv)]) (fun z=>z.1<=y.args.length/\Bnd z.2 (t.deps 1)) (fun z=>y.args.length - z.1) (0,arr) ⟨n_3 _,hbd⟩ tu_ (extra0:=[]) rfl q_273 uz_ ?_; intro ⟨p,arr⟩ ⟨hp,hbd⟩;dsimp only at hp hbd ⊢;refine z_28 ?_; refine cC (fun h7=>?_) fun h7=>?_
       ·have hpt:(p:Int) < y.args.length:=by simpa using h7
        obtain ⟨a,ha⟩:∃ a,y.args[p]? = some a:=⟨y.args[p]'om_,si_⟩;obtain ⟨r,rfl,hr⟩:=hdp2.ch a (n_0 ha);obtain ⟨v,hv,hv0,hv1⟩:=hbd.le _ _ hdp2.hd;have hal:=hbd.len;have hrl:=(n_1.1 hr).1;obtain ⟨v2,hv2,_⟩:=hbd.le _ _ hr;have hve:v<=((if y.k=4 then e else e+1:Nat):Int):=by split <;> omega
        have hb1:=hbd.set hr hv0 hve;have hget:(arr.set r v)[r]? = some v:=by rw [n_76 om_]
        refine z_41 ?_; refine cY (y_index rfl tt tt rfl rfl t_7 t_1 om_ (rows_get ha) rfl) ?_; refine cY q_248 ?_; refine z_1 ?_; refine z_49 ?_; refine cY q_246 ?_; refine cY q_112 ?_; refine cY q_85 ?_; refine cY q_112 ?_;refine cD (d_store_e' ((arr.set r v).map icv) rfl tt tt rfl q_269 t_1 (.inl rfl) rfl (by simpa using rows_get (f:=icv) hv2) rfl (nb rfl) (by simp only [n_10,n_63]; exact icv_set _ _ _) rfl ?_);refine z_48 ?_; refine z_137 ?_; refine cY q_246 ?_; refine cY q_55 ?_; refine cY (y_field_c rfl tt rfl t_33 rfl t_1 de_) ?_; refine cY q_248 ?_; refine z_12 ?_; refine cC (fun h8=>?_) fun h8=>?_
        ·have u8:¬ y.k=4:=by simpa using h8
         rw [if_neg u8] at hr;refine z_45 ?_; refine cY q_112 ?_; refine cY (y_load_e1 rfl tt rfl t_14 rfl (by simpa using rows_get (f:=icv) hget) rfl) ?_; refine cY q_251 ?_; refine cY q_112 ?_;refine cD (d_store_e' ((arr.set r (v+1)).map icv) rfl tt tt rfl q_269 t_1 (.inl rfl) rfl (by simpa using rows_get (f:=icv) hget) rfl (nb rfl) (by simp only [n_10,n_63]; refine (icv_set _ _ _).trans ?_; rw [List.set_set]) rfl ?_);refine z_89 ?_;exact ⟨(p+1,arr.set r (v+1)),_,⟨do_,do_,hbd.set hr om_ om_⟩,tu_,rfl⟩
        ·refine z_51 ?_;exact ⟨(p+1,arr.set r v),_,⟨do_,do_,hb1⟩,tu_,rfl⟩
       ·refine cw_exit ?_; refine z_7 ?_; refine z_131 ?_;exact ⟨(m,arr),_,⟨do_,do_,hbd⟩,⟨q_297,q_297,⟨tt,(congrArg (fun z:Int=>(CV.val (.int .i64 z))) do_)⟩,q_297,q_297,q_297,tt⟩,rfl⟩
    ·exact z_285
  ·exact z_271
theorem so_twice_s (x:Src) (h:SrcG x) (σ:List CObj):CCalls CC 243 [.agg x.cells] σ fun r σ'=>r = .ret (.val (.bool false))/\σ'=σ:=by
 refine CCalls.anyw hCC pu_ pu_ ?_ σ;refine ccalls_val (ccalls_of Tryz.func243 rfl rfl ?_);refine z_60 ?_; refine z_4 ?_; refine z_42 ?_; refine z_250 ?_; refine z_281 ?_; refine cw_loopr hCC 1 rfl (α:=Nat × List Sn) (fun y=>[(1,.ptr 0 0),(3,(.list (y.2.map Sn.cv) (gnn y.2.length) (gtok y.2.length 1))),(7,(.list (x.decls.map De.cv) (gnn x.decls.length) none)),(8,(.val (.int .i64 (x.decls.length:Int)))),(9,(.val (.int .i64 (y.1:Int))))]) (fun y=>[.box x.cells,gobj y.2.length]) (fun y=>y.1<=x.decls.length/\y.2=(x.decls.take y.1).map snOf) (fun y=>x.decls.length - y.1) ⟨(0,[]),[0,9],⟨n_3 _,rfl⟩,⟨rfl,rfl⟩,q_4,⟨.inr ⟨_,rfl,.same rfl (Src.old _ _)⟩,.inl rfl,tt⟩⟩ ?_; intro ⟨i,l⟩ ⟨hi,hl⟩;dsimp only at hi hl ⊢;have hdl:=h.decl;have hll:l.length=i:=by rw [hl,n_17,n_46]; omega
 refine z_28 ?_; refine cC (fun h1=>?_) fun h1=>?_
 ·have hlt:(i:Int) < x.decls.length:=by simpa using h1
  obtain ⟨d,hd⟩:∃ d,x.decls[i]? = some d:=⟨x.decls[i]'om_,si_⟩;have hg:=h.dec d (n_0 hd);have hls:=len_snoc l (snOf d);refine z_41 ?_; refine cY q_90 ?_; refine cY q_184 ?_; refine z_50 ?_; refine z_67 ?_; refine z_195 ?_; refine cY (y_callf rfl Tryz.call282 ⟨tt,tt⟩ (str_again_s d.params _ (by have:=hg.parl; omega) hg.nod _) rfl) ?_; refine co_nil ?_; refine cC (fun h2=>?_) fun h2=>?_
  ·cases h2
  ·refine z_259 ?_; refine cY q_153 ?_; refine cY q_238 ?_; refine z_162 ?_; refine cY (y_build' #[(0,1),(1,1)] rfl q_296 Tryz.runUnderlying305 t_100 rfl ⟨_,rfl⟩ (fun w=>by kernel_rfl) rfl rfl) ?_; refine cY (y_lit [Sn.cv (snOf d)] rfl ⟨tt,tt⟩ t_55 t_40 t_100 rfl rfl rfl rfl rfl rfl rfl rfl rfl) ?_;refine cD (d_appu rfl tt tt rfl si_ q_19 t_55 t_40 Tryz.typeInfo305 t_100 rfl (.inr rfl) q_21 (by have hb:Tryz.t305.bytes=24:=rfl; rw [hb]; first|omega|(simp; done)|(simp; omega)) q_226 ((l++[snOf d]).map Sn.cv) (l++[snOf d]).length si_ si_ ?_);refine z_111 ?_;exact ⟨(i+1,l++[snOf d]),[0,3],⟨do_,do_,by rw [hl,n_50,hd,n_62]; rfl⟩,⟨rfl,rfl⟩,q_4,⟨.inr ⟨_,rfl,.same rfl (Src.old _ _)⟩,.inr ⟨_,rfl,.same rfl q_292⟩,tt⟩⟩
 ·have hin:i=x.decls.length:=by simp at h1; omega
  rw [hin,n_55] at hl;have hil:=h.impl;refine z_90 ?_; refine z_160 ?_; refine z_196 ?_; refine cY (y_callf rfl t_72 q_296 (str_Contains_s x.imports _ x.pkg om_ _) rfl) ?_; refine cY q_246 ?_; refine z_179 ?_; refine cG (fun hg=>y_callf rfl Tryz.call282 ⟨hg,tt⟩ (str_again_s x.imports _ om_ h.impn _) rfl) ?_; refine cY q_199 ?_; refine z_22 ?_; refine cG (fun hg=>y_callf rfl Tryz.call283 ⟨hg,tt⟩ (sn_again_s l _ om_ (by rw [hl]; exact sn_nodup h.decn) _) rfl) ?_; refine cY q_199 ?_; refine z_5 ?_;exact ⟨_,res1 rfl tt q_269,_,_,rfl,rfl,cls_bool (by simp [h.impp])⟩
theorem so_Check_s (x:Src) (h:SrcG x) (σ:List CObj):CCalls CC 198 [.agg x.cells] σ fun r σ'=>r = .ret (.val (.int .i64 (0)))/\σ'=σ:=by
 refine CCalls.anyw hCC pu_ pu_ ?_ σ;refine ccalls_val (ccalls_of Tryz.func198 rfl rfl ?_);refine z_60 ?_; refine z_148 ?_; refine z_0 ?_; refine cY q_185 ?_; refine cY (y_callf rfl Tryz.call242 ⟨tt,tt⟩ (so_syntax_s x h _) rfl) ?_; refine cY q_280 ?_; refine z_1 ?_; refine cC (fun h1=>?_) fun h1=>?_
 ·cases h1
 ·refine z_0 ?_; refine cY q_185 ?_; refine cY (y_callf rfl Tryz.call243 ⟨tt,tt⟩ (so_twice_s x h _) rfl) ?_; refine z_1 ?_; refine cC (fun h2=>?_) fun h2=>?_
  ·cases h2
  ·refine z_0 ?_; refine cY q_185 ?_; refine cY (y_callf rfl Tryz.call244 ⟨tt,tt⟩ (so_many_s x h _) rfl) ?_; refine z_1 ?_; refine cC (fun h3=>?_) fun h3=>?_
   ·cases h3
   ·refine z_245 ?_;exact ⟨_,res1 rfl tt q_269,_,_,rfl,rfl,cls_int rfl⟩
theorem sub_span (s:Str) (a:Nat) (ks:List Int):sub s a (spanS s a ks)=(s.drop a).takeWhile (inK ks):=by
 unfold sub spanS;rw [List.drop_take,n_137];have h:=List.takeWhile_prefix (inK ks) (l:=s.drop a);exact (List.prefix_iff_eq_take.1 h).symm
theorem name_span {a:Nat} {b:UInt8} (hb:s[a]? = some b) (hk:kindOf b.toNat=1) (hl:¬ 24 < spanS s a [1,2,3] - a):nameB (sub s a (spanS s a [1,2,3]))=true:=by
 have hlen:(sub s a (spanS s a [1,2,3])).length=spanS s a [1,2,3] - a:=by
  rw [sub_span]; unfold spanS; omega
 rw [sub_span] at hlen ⊢;obtain ⟨hlt,rfl⟩:=n_1.1 hb;have hall:((s.drop a).takeWhile (inK [1,2,3])).all (inK [1,2,3])=true:=n_22.2 fun c hc=>take_while_mem hc;rw [n_25 hlt,n_79,if_pos (by simp [inK,hk])] at hlen hall ⊢;unfold nameB;simp only [n_29,n_51];exact ⟨⟨om_,hk⟩,hall⟩
theorem tokX_TG {a:Nat} {b:UInt8} (hb:s[a]? = some b):((tokX s a b).1.k=1->nameB (tokX s a b).1.t=true)/\(tokX s a b).1.n<=9007199254740992:=by
 have z:((⟨0,[],0,0⟩:Tok).k=1->nameB (⟨0,[],0,0⟩:Tok).t=true)/\(⟨0,[],0,0⟩:Tok).n<=9007199254740992:=⟨fun h=>absurd h de_,de_⟩;unfold tokX
 split
 ·rename_i hk
  split
  ·exact z
  ·rename_i hl;exact ⟨fun _=>name_span hb hk hl,show (0:Int)<=9007199254740992 by decide⟩
 ·split
  ·split
   ·exact z
   ·rename_i hl;exact ⟨fun h=>absurd h (show ¬ (2:Int)=1 by decide),show numS _<=9007199254740992 by omega⟩
  ·split
   ·split
    ·exact z
    ·exact ⟨fun h=>absurd h (show ¬ (3:Int)=1 by decide),show (0:Int)<=9007199254740992 by decide⟩
   ·split
    ·split
     ·exact ⟨fun h=>absurd h (show ¬ (4:Int)=1 by decide),show (0:Int)<=9007199254740992 by decide⟩
     ·exact ⟨fun h=>absurd h (show ¬ (4:Int)=1 by decide),show (0:Int)<=9007199254740992 by decide⟩
    ·exact z
theorem lexF_TG (s:Str):∀ (f i:Nat) (T:List Tok),lexF f s i=some T->∀ t∈T,(t.k=1->nameB t.t=true)/\t.n<=9007199254740992
 | 0,i,T,h=>by cases h
 | f+1,i,T,h=>by
  rw [lexF] at h;cases hb:s[spanS s i [5]]? with
  | none =>
   rw [hb] at h;injection h with h
   subst h; intro t ht;simp at ht;subst ht;exact ⟨fun h=>absurd h (show ¬ (5:Int)=1 by decide),show (0:Int)<=9007199254740992 by decide⟩
  | some b =>
   rw [hb] at h;simp only at h;split at h
   ·exact lexF_TG s f _ T h
   ·split at h
    ·cases h
    ·cases hq:lexF f s (tokX s (spanS s i [5]) b).2.1.toNat with
     | none=>rw [hq] at h; cases h
     | some T' =>
      rw [hq] at h;simp only [n_71,Option.some.injEq] at h;subst h; intro t ht
      rcases n_13.1 ht with rfl | ht
      ·exact tokX_TG hb
      ·exact lexF_TG s f _ T' hq t ht
theorem lexS_TG {T:List Tok} (h:lexS s=some T):TG T:=fun i=>by
 have hc:=(lexS_ctx h).1.nn i;unfold lexS at h;split at h
 ·cases h
 ·rcases tk_mem (T:=T) i with h1 | h1
  ·have:=lexF_TG s _ _ T h _ h1;exact ⟨this.1,hc.1,this.2⟩
  ·rw [h1];exact ⟨fun h=>absurd h de_,de_,de_⟩
theorem pNode_len {x:Ex} {w:Nat × List Ex} (h:pNode b x=some w) (hb:b.length<=256):w.2.length<=256:=by
 unfold pNode at h;split at h
 ·cases h
 ·injection h with h
  subst h;simp only [n_4,n_111];omega
theorem pEnd_len {x:Ex} (h:pEnd b x m=some y) (hb:b.length<=256):y.2.2.length<=256:=pNode_len (w:=(y.1,y.2.2)) (pEnd_some h).1 hb
theorem built_len {T:List Tok} {F:PF} (hF:∀ d n b x,b.length<=256->F.ex d n b=some x->x.2.2.length<=256) {u:Str} (hb:b.length<=256) (h:pBuilt T F u d n b=some y):y.2.2.length<=256:=by
 unfold pBuilt at h;obtain ⟨n1,_,h⟩:=bind_some' h;split at h
 ·obtain ⟨s,h1,h⟩:=bind_some' h;obtain ⟨n2,_,h⟩:=bind_some' h;obtain ⟨x,h3,h⟩:=bind_some' h;obtain ⟨m,_,h⟩:=bind_some' h;exact pEnd_len h (hF _ _ _ _ hb h3)
 ·split at h
  ·obtain ⟨s,h1,h⟩:=bind_some' h;obtain ⟨m,_,h⟩:=bind_some' h;exact pEnd_len h hb
  ·split at h
   ·obtain ⟨s,h1,h⟩:=bind_some' h;obtain ⟨m,_,h⟩:=bind_some' h;exact pEnd_len h hb
   ·split at h
    ·obtain ⟨s,h1,h⟩:=bind_some' h;split at h
     ·obtain ⟨m,_,h⟩:=bind_some' h;exact pEnd_len h hb
     ·cases h
    ·obtain ⟨s,h1,h⟩:=bind_some' h;split at h
     ·cases h
     ·obtain ⟨m,_,h⟩:=bind_some' h;exact pEnd_len h hb
theorem len_all {T:List Tok} {ps:List Str}:∀ f:Nat,
 (∀ d n b x,b.length<=256->(pAll T ps f).ex d n b=some x->x.2.2.length<=256) /\
 (∀ lv d n b x,b.length<=256->(pAll T ps f).bin lv d n b=some x->x.2.2.length<=256) /\
 (∀ d n b x,b.length<=256->(pAll T ps f).fac d n b=some x->x.2.2.length<=256) /\
 (∀ lv d i n b x,b.length<=256->(pAll T ps f).lp lv d i n b=some x->x.2.2.length<=256) /\
 (∀ d n b acc y,b.length<=256->(pAll T ps f).ag d n b acc=some y->y.2.2.length<=256)
 | 0=>by
  refine ⟨fun d n b x _ h=>?_,fun lv d n b x _ h=>?_,fun d n b x _ h=>?_,fun lv d i n b x _ h=>?_,fun d n b acc y _ h=>?_⟩ <;> cases h
 | f+1=>by
  obtain ⟨hE,hB,hF,hL,hA⟩:=len_all (T:=T) (ps:=ps) f;refine ⟨fun d n b x hb h=>?_,fun lv d n b x hb h=>?_,fun d n b y hb h=>?_,fun lv d i n b x hb h=>?_,fun d n b acc y hb h=>?_⟩
  ·change (pStep T ps (pAll T ps f)).ex d n b=some x at h;simp only [pStep] at h;split at h
   ·cases h
   ·split at h
    ·obtain ⟨x1,h1,h⟩:=bind_some' h;obtain ⟨n2,_,h⟩:=bind_some' h;obtain ⟨x2,h2,h⟩:=bind_some' h;obtain ⟨n3,_,h⟩:=bind_some' h;obtain ⟨x3,h3,h⟩:=bind_some' h;exact pEnd_len h (hE _ _ _ _ (hE _ _ _ _ (hE _ _ _ _ hb h1) h2) h3)
    ·exact hB _ _ _ _ _ hb h
  ·change (pStep T ps (pAll T ps f)).bin lv d n b=some x at h;simp only [pStep] at h;split at h
   ·exact hF _ _ _ _ hb h
   ·obtain ⟨x1,h1,h⟩:=bind_some' h;exact hL _ _ _ _ _ _ (hB _ _ _ _ _ hb h1) h
  ·change (pStep T ps (pAll T ps f)).fac d n b=some y at h;simp only [pStep] at h;split at h
   ·exact pEnd_len h hb
   ·split at h
    ·obtain ⟨s,h1,h⟩:=bind_some' h;exact pEnd_len h hb
    ·split at h
     ·obtain ⟨x1,h1,h⟩:=bind_some' h;obtain ⟨m,_,h⟩:=bind_some' h;injection h with h
      subst h;exact hE _ _ _ x1 hb h1
     ·split at h
      ·cases h
      ·split at h
       ·exact built_len hE hb h
       ·split at h
        ·cases h
        ·split at h
         ·obtain ⟨a,h1,h⟩:=bind_some' h;unfold pArgs at h1;obtain ⟨n1,_,h1⟩:=bind_some' h1;refine pEnd_len h ?_;split at h1
          ·injection h1 with h1
           subst h1;exact hb
          ·exact hA _ _ _ _ _ hb h1
         ·split at h
          ·cases h
          ·exact pEnd_len h hb
  ·change (pStep T ps (pAll T ps f)).lp lv d i n b=some x at h;simp only [pStep] at h;split at h
   ·injection h with h
    subst h;exact hb
   ·obtain ⟨y,h1,h⟩:=bind_some' h;obtain ⟨w,h2,h⟩:=bind_some' h;have hw:=pNode_len h2 (hB _ _ _ _ _ hb h1);split at h
    ·injection h with h
     subst h;exact hw
    ·exact hL _ _ _ _ _ _ hw h
  ·change (pStep T ps (pAll T ps f)).ag d n b acc=some y at h;simp only [pStep] at h;obtain ⟨x1,h1,h⟩:=bind_some' h;have hx:=hE _ _ _ _ hb h1;split at h
   ·exact hA _ _ _ _ _ hx h
   ·obtain ⟨m,_,h⟩:=bind_some' h;injection h with h
    subst h;exact hx
theorem pName_ok {T:List Tok} (hT:TG T) {x:Tok × Nat} (h:pName T n=some x):nameB x.1.t=true/\resB x.1.t=false:=by
 obtain ⟨y,h1,h2⟩:=bind_some' h;obtain ⟨e1,e2⟩:=pTake_kind h1;split at h2
 ·cases h2
 ·rename_i hr;injection h2 with h2
  subst h2;refine ⟨?_,by simpa using hr⟩;rw [e1];exact (hT n).1 e2
structure ParG8 (l:List Str):Prop where
 ok:∀ s∈l,nameB s=true/\resB s=false
 len:l.length<=8
 nod:l.Nodup
theorem nodup_snoc {l:List α} {x:α} (h:l.Nodup) (hx:x∉l):(l++[x]).Nodup:=by
 rw [List.nodup_append];exact ⟨h,si_,fun a ha b hb=>by simp at hb; subst hb; exact fun e=>hx (e ▸ ha)⟩
theorem ParG8.snoc {l:List Str} {x:Str} (h:ParG8 l) (hx:nameB x=true/\resB x=false) (h8:¬ l.length=8) (hn:¬ x∈l):ParG8 (l++[x]):=⟨fun s hs=>by
 rcases n_18.1 hs with hs | hs
 ·exact h.ok s hs
 ·simp at hs; subst hs; exact hx,by have:=h.len; rw [n_4,n_111]; omega,nodup_snoc h.nod hn⟩
theorem pParL_ok {T:List Tok} (hT:TG T):∀ (f n:Nat) (l:List Str) (y:List Str × Nat),ParG8 l->pParL f T n l=some y->ParG8 y.1
 | 0,n,l,y,_,h=>by cases h
 | f+1,n,l,y,hl,h=>by
  rw [pParL] at h;obtain ⟨x,h1,h⟩:=bind_some' h;have hx:=pName_ok hT h1;split at h
  ·cases h
  ·rename_i h8;split at h
   ·cases h
   ·rename_i hn;have hs:=hl.snoc hx h8 hn;split at h
    ·exact pParL_ok hT f _ _ y hs h
    ·obtain ⟨m,_,h⟩:=bind_some' h;injection h with h
     subst h;exact hs
theorem parG8_nil:ParG8 []:=⟨fun s h=>(by cases h),n_3 _,List.nodup_nil⟩
theorem pPars_ok {T:List Tok} (hT:TG T) {kd:Int} {y:List Str × Nat} (h:pPars T kd n=some y):ParG8 y.1/\(kd≠1->y.1=[]):=by
 unfold pPars at h;split at h
 ·rename_i hk;unfold pParams at h;obtain ⟨m,_,h⟩:=bind_some' h;refine ⟨?_,fun h=>absurd hk h⟩;split at h
  ·injection h with h
   subst h;exact parG8_nil
  ·exact pParL_ok hT _ _ _ y parG8_nil h
 ·injection h with h
  subst h;exact ⟨parG8_nil,fun _=>rfl⟩
theorem dkind_rng (s:Str):dkind s=0\/dkind s=1\/dkind s=2\/dkind s=3:=by
 unfold dkind dkL;rw [glk_gput,glk_gput,glk_gput]
 split
 ·exact .inr (.inr (.inr rfl))
 ·split
  ·exact .inr (.inr (.inl rfl))
  ·split
   ·exact .inr (.inl rfl)
   ·exact .inl rfl
theorem pDecl_ok {T:List Tok} (hT:TG T) {bs:List De} {y:De × Nat} (h:pDecl T bs n=some y):DeG y.1/\(bs.any fun d=>(d.k == y.1.k) && decide (d.name=y.1.name))=false:=by
 unfold pDecl at h;split at h
 ·cases h
 ·rename_i h0;split at h
  ·cases h
  ·obtain ⟨x,h1,h⟩:=bind_some' h;split at h
   ·cases h
   ·rename_i hany;obtain ⟨q,h2,h⟩:=bind_some' h;obtain ⟨m,_,h⟩:=bind_some' h;obtain ⟨e,h3,h⟩:=bind_some' h;obtain ⟨m2,_,h⟩:=bind_some' h;injection h with h
    subst h;obtain ⟨p1,p2⟩:=pPars_ok hT h2;obtain ⟨t,t1,_,t3⟩:=(got_all hT (8*T.length+6)).1 _ _ _ _ h3;have hlen:=(len_all (8*T.length+6)).1 _ _ _ _ (n_3 _) h3;refine ⟨⟨?_,fun hk=>?_,fun hk=>?_,p2,p1.ok,p1.len,p1.nod,⟨t,by rw [t1]; rfl,t3⟩,hlen⟩,by simpa using hany⟩
    ·have:=dkind_rng (tk T n).t
     rcases this with g | g | g | g
     ·exact absurd (.inr g) h0
     ·exact .inl g
     ·exact .inr (.inl g)
     ·exact .inr (.inr g)
    ·unfold pHead at h1;rw [if_neg hk] at h1;exact pName_ok hT h1
    ·unfold pHead at h1;rw [if_pos hk] at h1;exact pPath_ok h1
structure DecsG (l:List De):Prop where
 ok:∀ d∈l,DeG d
 nod:(l.map fun d=>(d.k,d.name)).Nodup
theorem pDecls_ok {T:List Tok} (hT:TG T):∀ (f n:Nat) (l:List De) (y:List De × Nat),DecsG l->pDecls f T n l=some y->DecsG y.1
 | 0,n,l,y,_,h=>by cases h
 | f+1,n,l,y,hl,h=>by
  rw [pDecls] at h;split at h
  ·injection h with h
   subst h;exact hl
  ·obtain ⟨x,h1,h⟩:=bind_some' h;obtain ⟨g1,g2⟩:=pDecl_ok hT h1;refine pDecls_ok hT f _ _ y ⟨fun d hd=>?_,?_⟩ h
   ·rcases n_18.1 hd with hd | hd
    ·exact hl.ok d hd
    ·simp at hd; subst hd; exact g1
   ·rw [n_62];refine nodup_snoc hl.nod fun hm=>?_;obtain ⟨d,hd,he⟩:=n_9.1 hm;injection he with e1 e2
    have:=List.any_eq_false.1 g2 d hd;simp [e1,e2] at this
structure ImpG (pkg:Str) (l:List Str):Prop where
 g:ParG8 l
 p:pkg∉l
theorem pImps_ok {T:List Tok} (hT:TG T) {pkg:Str}:∀ (f n:Nat) (l:List Str) (y:List Str × Nat),ImpG pkg l->pImps f T pkg n l=some y->ImpG pkg y.1
 | 0,n,l,y,_,h=>by cases h
 | f+1,n,l,y,hl,h=>by
  rw [pImps] at h;split at h
  ·split at h
   ·cases h
   ·rename_i h8;obtain ⟨x,h1,h⟩:=bind_some' h;split at h
    ·cases h
    ·rename_i hno;obtain ⟨m,_,h⟩:=bind_some' h;refine pImps_ok hT f _ _ y ⟨hl.g.snoc (pName_ok hT h1) h8 fun hm=>hno (.inr hm),fun hm=>?_⟩ h
     rcases n_18.1 hm with hm | hm
     ·exact hl.p hm
     ·simp at hm; exact hno (.inl hm.symm)
  ·injection h with h
   subst h;exact hl
theorem pFile_ok {T:List Tok} (hT:TG T) (h:pFile T=some x):SrcG x:=by
 have hlen:=pFile_len h;unfold pFile at h;obtain ⟨n1,_,h⟩:=bind_some' h;obtain ⟨w,h1,h⟩:=bind_some' h;obtain ⟨n2,_,h⟩:=bind_some' h;obtain ⟨y,h2,h⟩:=bind_some' h;obtain ⟨z,h3,h⟩:=bind_some' h;injection h with h
 subst h;have hi:=pImps_ok hT _ _ _ _ ⟨parG8_nil,fun h=>(by cases h)⟩ h2;have hd:=pDecls_ok hT _ _ _ _ (⟨fun d h=>(by cases h),List.nodup_nil⟩:DecsG []) h3;exact ⟨pName_ok hT h1,hi.g.ok,hi.g.len,hi.g.nod,hi.p,hd.ok,hlen,hd.nod⟩
theorem parseS_ok (h:parseS s=some x):SrcG x:=by
 unfold parseS at h;obtain ⟨T,h1,h2⟩:=bind_some' h;exact pFile_ok (lexS_TG h1) h2
abbrev tU8:Nat:=5
def LiesB (T:TypeId) (n:Nat):Prop:=liesAt CC.P CC.P.depth T (n / CC.P.cellsOf T) 0 244 1=true
def addrC (q:Nat):Bool->CV
 | true=>.ptr q 0
 | false=>.val (.pointer none)
def bBox (T:TypeId) (q s:Nat) (a:Bool) (l:Str) (rest:List CV):CObj:=.boxT (some T) (addrC q a::bufC l s::rest)
def bSt (T:TypeId) (a:Bool) (l:Str) (rest:List CV):List CObj:=[bBox T 0 1 a l rest,gobjT tU8 l.length]
def bSt2 (T:TypeId) (l:Str) (rest:List CV):List CObj:=[bBox T 0 2 true l rest,.dead,gobjT tU8 l.length]
theorem bu_copy0 (hT:LiesB T (rest.length+2)) (l:Str):CCalls CC 246 [.ptr 0 0] (bSt T false l rest) fun r τ=>r = .ret (.tup [])/\τ=bSt T true l rest:=by
 refine z_266 ?_; refine z_252 ?_; refine cY (y_eqlnil0 rfl tt rfl t_128) ?_; refine co_nil ?_; refine cC (fun h1=>?_) fun h1=>?_
 ·refine z_45 ?_; refine cY (y_toUnsafe rfl tt rfl rfl (Nat.succ_pos _) 244 q_289 q_289 q_289) ?_; refine cY (y_ext1 (e:=Extern.AbiNoEscape.same) rfl Tryz.func285 rfl rfl rfl rfl tt rfl (fun v w=>rfl)) ?_; refine cY (y_fromUnsafe rfl tt rfl rfl 244 q_289 q_289 q_289 hT) ?_; refine cY q_279 ?_; refine cY q_135 ?_;refine cD (d_store rfl tt tt rfl q_269 Tryz.sizeOf242 (.inl rfl) rfl rfl (nb rfl) ?_);refine co_nil ?_;exact ⟨_,res_all (rs:=[]) (cs:=[]) rfl tt (n_2 rfl),⟨rfl,rfl⟩⟩
 ·cases h1
theorem bu_copy1 (l:Str):CCalls CC 246 [.ptr 0 0] (bSt T true l rest) fun r τ=>r = .ret (.tup [])/\τ=bSt T true l rest:=by
 refine z_266 ?_; refine z_252 ?_; refine cY (y_eqlnil rfl tt rfl t_128) ?_; refine co_nil ?_; refine cC (fun h1=>?_) fun h1=>?_
 ·cases h1
 ·refine z_132 ?_; refine z_252 ?_; refine cY q_246 ?_; refine cY (y_neqself rfl tt tt rfl rfl 244 q_289 q_289) ?_; refine co_nil ?_; refine cC (fun h2=>?_) fun h2=>?_
  ·cases h2
  ·refine cw_skip ?_;exact ⟨_,res_all (rs:=[]) (cs:=[]) rfl tt (n_2 rfl),⟨rfl,rfl⟩⟩
theorem bu_copy (hT:LiesB T (rest.length+2)) (a:Bool) (l:Str):CCalls CC 246 [.ptr 0 0] (bSt T a l rest) fun r τ=>∃ _:Unit,r = .ret (.tup [])/\τ=bSt T true l rest/\True:=by
 cases a
 ·exact (bu_copy0 hT l).mono fun r τ h=>⟨(),h.1,h.2,tt⟩
 ·exact (bu_copy1 l).mono fun r τ h=>⟨(),h.1,h.2,tt⟩
theorem bu_WriteByte0 (hT:LiesB T (rest.length+2)) (a:Bool) (l:Str) (c:UInt8) (hl:l.length < 140737488355328):CCalls CC 306 [.ptr 0 0,.val (.int .u8 c.toNat)] (bSt T a l rest) fun r τ=>∃ _:Unit,r = .ret (.val .nilIface)/\τ=bSt2 T (l++[c]) rest/\True:=by
 refine (ccalls_of Tryz.func306 rfl rfl ?_);refine z_66 ?_;refine cD (d_callv rfl t_101 ⟨tt,tt⟩ (bu_copy hT a l) rfl ?_);intro _ _; refine z_146 ?_; refine cY q_279 ?_; refine cY q_132 ?_; refine cY q_220 ?_; refine cY q_246 ?_; refine cY q_64 ?_;refine cD (d_appB (l:=l) (new:=[c]) (p:=1) rfl tt tt rfl (fun M w v hr h=>(src_list (rows:=[bcv c]) rfl (by intro r hr; simp at hr; subst hr; rfl) M w v hr h).any) t_8 t_15 t_48 t_22 rfl (.inl t_8) rfl rfl q_252 ?_);refine cY q_279 ?_; refine z_85 ?_; refine co_nil ?_; refine z_19 ?_;exact ⟨_,res1 rfl tt q_269,⟨(),rfl,rfl,tt⟩⟩
theorem bu_WriteString0 (hT:LiesB T (rest.length+2)) (a:Bool) (l:Str) (s:Str) (hl:l.length+s.length<=140737488355328):CCalls CC 200 [.ptr 0 0,sv s] (bSt T a l rest) fun r τ=>∃ _:Unit,r = .ret (.tup [.val (.int .i64 s.length),.val .nilIface])/\τ=bSt2 T (l++s) rest/\True:=by
 refine (ccalls_of Tryz.func200 rfl rfl ?_);refine z_0 ?_; refine z_83 ?_; refine z_2 ?_;refine cD (d_callv rfl t_101 ⟨tt,tt⟩ (bu_copy hT a l) rfl ?_);intro _ _; refine z_146 ?_; refine cY q_279 ?_; refine cY q_132 ?_; refine cY q_220 ?_; refine cY q_246 ?_;refine cD (d_appB (l:=l) (new:=s) (p:=1) rfl tt tt rfl (src_sv rfl) t_8 t_15 t_48 t_22 rfl (.inr t_6) rfl rfl q_252 ?_);refine cY q_279 ?_; refine z_85 ?_; refine z_33 ?_; refine cY q_242 ?_;exact z_153
theorem bu_String1 (a:Bool) (c:UInt8) (l:Str):CCalls CC 202 [.ptr 0 0] (bSt T a (c::l) rest) fun r τ=>r = .ret (sv (c::l))/\τ=[bBox T 0 1 a (c::l) rest,.dead]:=by
 refine (ccalls_of Tryz.func202 rfl rfl ?_);refine z_4 ?_; refine z_267 ?_; refine z_270 ?_; refine hY (y_sliceData rfl tt rfl si_) ?_; refine z_270 ?_; refine hY q_99 ?_; refine ch_nil ?_;refine cD ((d_unsafeString (q:=1) (k:=0) (i:=1) (l:=c::l)) rfl tt tt rfl rfl rfl rfl rfl si_ q_289 q_289 ?_);refine z_5 ?_;exact ⟨_,res1 rfl tt q_269,⟨rfl,rfl⟩⟩
theorem bu_String2 (a:Bool):CCalls CC 202 [.ptr 0 0] (bSt T a [] rest) fun r τ=>r = .ret (sv [])/\τ=[bBox T 0 1 a [] rest,.dead]:=by
 refine (ccalls_of Tryz.func202 rfl rfl ?_);refine z_4 ?_; refine z_267 ?_; refine z_270 ?_; refine hY (y_sliceData0 rfl tt rfl) ?_; refine z_270 ?_; refine hY q_99 ?_; refine ch_nil ?_;refine cD (d_unsafeString0 rfl tt tt rfl rfl ?_);refine z_5 ?_;exact ⟨_,res1 rfl tt q_269,⟨rfl,rfl⟩⟩
def BAt (σ:List CObj) (q s:Nat) (T:TypeId) (a:Bool) (l:Str) (rest:List CV):Prop:=σ[q]? = some (bBox T q s a l rest)/\σ[s]? = some (gobjT tU8 l.length)/\q≠s
theorem pures_bcv (l:Str):∀ r∈l.map bcv,∀ c∈r,Pure c:=fun r hr c hc=>by
 obtain ⟨b,_,rfl⟩:=n_9.1 hr;simp [bcv] at hc;subst hc;exact .val _
theorem ren_bufC {s:Nat} (h:R s s'):RenR R (bufC l s) (bufC l s'):=by
 refine .list rfl (fun i r r' h1 h2=>by rw [h1] at h2; injection h2 with h2; rw [h2]) (fun i j r r' c c' h1 h2 h3 h4=>?_) ?_
 ·rw [h1] at h2; injection h2 with h2; subst h2; rw [h3] at h4; injection h4 with h4; subst h4
  exact .pure (pures_bcv l r (n_0 h1) c (n_0 h3))
 ·cases hb:l.length with
  | zero=>exact .inl ⟨rfl,rfl⟩
  | succ m=>exact .inr ⟨s,s',rfl,rfl,h⟩
theorem ren_bBox {q' s:Nat} (hq:R q q') (h:R s s') (hr:∀ c∈rest,Pure c):RenRO R (bBox T q s a l rest) (bBox T q' s' a l rest):=by
 refine .box (.cons ?_ (.cons (ren_bufC h) (renL_pure hr)));cases a
 ·exact .pure (.val _)
 ·exact .ptr hq
theorem ren_gobjT (t:TypeId) (m:Nat):RenRO R (gobjT t m) (gobjT t m):=by
 cases m with
 | zero=>exact .dead
 | succ m=>exact .tip _
theorem b_lift {f:FuncId} {args:List CV} {c:α->CV} {l':α->Str} {rest':α->List CV} {P:α->Prop} (hargs:∀ a∈args,Pure a) (hc:∀ x,P x->Pure (c x)) (hr:∀ c∈rest,Pure c) (hr':∀ x,P x->∀ c∈rest' x,Pure c)
 (h:CCalls CC f (.ptr 0 0::args) (bSt T a l rest) fun r τ=>∃ x,r = .ret (c x)/\τ=bSt2 T (l' x) (rest' x)/\P x) {σ:List CObj} {q s:Nat} (hσ:BAt σ q s T a l rest) :
 CCalls CC f (.ptr q 0::args) σ fun r τ=>∃ x,r = .ret (c x)/\τ=(σ.set q (bBox T q σ.length true (l' x) (rest' x))).set s .dead++[gobjT tU8 (l' x).length]/\P x:=by
 obtain ⟨h1,h2,h3⟩:=hσ;have hq:=(n_1.1 h1).1;have hs:=(n_1.1 h2).1;refine ccalls_frameR [q,s] hCC rfl (fun i j k g1 g2=>?_) (fun i k ob g1 g2=>?_) (.cons (.ptr rfl) (renL_pure hargs)) h fun r τ hk=>?_
 ·rcases i with _ | _ | i <;> rcases j with _ | _ | j <;> simp at g1 g2 <;> first|rfl|(exfalso; exact h3 (g1.trans g2.symm))|(exfalso; exact h3 (g2.trans g1.symm))
 ·rcases i with _ | _ | i
  ·simp [bSt] at g1 g2;subst g1 g2;exact ⟨_,h1,ren_bBox rfl rfl hr⟩
  ·simp [bSt] at g1 g2;subst g1 g2;exact ⟨_,h2,ren_gobjT _ _⟩
  ·simp at g1
 ·obtain ⟨x,rfl,rfl,hp⟩:=hk;refine ⟨by simp [bSt,bSt2],.ret (c x),(σ.set q (bBox T q σ.length true (l' x) (rest' x))).set s .dead++[gobjT tU8 (l' x).length],(.ret (.pure (hc x hp))),by simp [bSt,bSt2],fun k hk hks=>?_,fun i k y ha hx=>?_,x,rfl,rfl,hp⟩
  ·have n1:q≠k:=fun e=>hks (by simp [e]);have n2:s≠k:=fun e=>hks (by simp [e]);rw [n_15 q_277];simp [n1,n2]
  ·rcases ha with ha | ⟨ha,rfl⟩
   ·rcases i with _ | _ | i
    ·simp [bSt2] at ha hx;subst ha hx;refine ⟨bBox T q σ.length true (l' x) (rest' x),?_,ren_bBox (.inl rfl) (.inr ⟨si_,si_⟩) (hr' x hp)⟩;rw [n_15 (by simpa using hq),n_42 h3.symm];simp [hq]
    ·simp [bSt2] at ha hx;subst ha hx;refine ⟨.dead,?_,.dead⟩;rw [n_15 (by simpa using hs)];simp [hs]
    ·simp at ha
   ·rcases i with _ | _ | _ | i
    ·simp at ha
    ·simp at ha
    ·simp [bSt2] at hx;subst hx;refine ⟨gobjT tU8 (l' x).length,?_,ren_gobjT _ _⟩;rw [n_27 si_];simp
    ·simp [bSt2] at hx
theorem bu_WriteByte (hT:LiesB T (rest.length+2)) (a:Bool) (l:Str) (hr:∀ c∈rest,Pure c) (c:UInt8) (hl:l.length < 140737488355328) {s:Nat} (hσ:BAt σ q s T a l rest) :
 CCalls CC 306 [.ptr q 0,.val (.int .u8 c.toNat)] σ fun r τ=>∃ _:Unit,r = .ret (.val .nilIface)/\τ=(σ.set q (bBox T q σ.length true (l++[c]) rest)).set s .dead++[gobjT tU8 (l++[c]).length]/\True :=
 b_lift (c:=fun _=>.val .nilIface) (l':=fun _=>l++[c]) (rest':=fun _=>rest) (fun a h=>by simp at h; subst h; exact .val _) (fun _ _=>.val _) hr (fun _ _=>hr) (bu_WriteByte0 hT a l c hl) hσ
theorem bu_WriteString (hT:LiesB T (rest.length+2)) (a:Bool) (l:Str) (hr:∀ c∈rest,Pure c) (s:Str) (hl:l.length+s.length<=140737488355328) {k:Nat} (hσ:BAt σ q k T a l rest) :
 CCalls CC 200 [.ptr q 0,sv s] σ fun r τ=>∃ _:Unit,r = .ret (.tup [.val (.int .i64 s.length),.val .nilIface])/\τ=(σ.set q (bBox T q σ.length true (l++s) rest)).set k .dead++[gobjT tU8 (l++s).length]/\True :=
 b_lift (c:=fun _=>.tup [.val (.int .i64 s.length),.val .nilIface]) (l':=fun _=>l++s) (rest':=fun _=>rest) (fun a h=>by simp at h; subst h; exact .val _) (fun _ _=>pure_tup ⟨.val _,.val _,tt⟩) hr (fun _ _=>hr) (bu_WriteString0 hT a l s hl) hσ
theorem bu_String0 (a:Bool) (l:Str):CCalls CC 202 [.ptr 0 0] (bSt T a l rest) fun r τ=>∃ _:Unit,r = .ret (sv l)/\τ=[bBox T 0 1 a l rest,.dead]/\True:=by
 cases l with
 | nil=>exact (bu_String2 a).mono fun r τ h=>⟨(),h.1,h.2,tt⟩
 | cons c l=>exact (bu_String1 a c l).mono fun r τ h=>⟨(),h.1,h.2,tt⟩
theorem bu_String (hr:∀ c∈rest,Pure c) (a:Bool) (l:Str) {k:Nat} (hσ:BAt σ q k T a l rest):CCalls CC 202 [.ptr q 0] σ fun r τ=>∃ _:Unit,r = .ret (sv l)/\τ=σ.set k .dead/\True:=by
 obtain ⟨h1,h2,h3⟩:=hσ;have hq:=(n_1.1 h1).1;have hs:=(n_1.1 h2).1;refine ccalls_frameR [q,k] hCC rfl (fun i j k g1 g2=>?_) (fun i k ob g1 g2=>?_) (.cons (.ptr rfl) .nil) (bu_String0 (T:=T) (rest:=rest) a l) fun r τ hk=>?_
 ·rcases i with _ | _ | i <;> rcases j with _ | _ | j <;> simp at g1 g2 <;> first|rfl|(exfalso; exact h3 (g1.trans g2.symm))|(exfalso; exact h3 (g2.trans g1.symm))
 ·rcases i with _ | _ | i
  ·simp [bSt] at g1 g2;subst g1 g2;exact ⟨_,h1,ren_bBox rfl rfl hr⟩
  ·simp [bSt] at g1 g2;subst g1 g2;exact ⟨_,h2,ren_gobjT _ _⟩
  ·simp at g1
 ·obtain ⟨x,rfl,rfl,hp⟩:=hk;refine ⟨by simp [bSt],.ret (sv l),σ.set k .dead,.ret (.pure (.val _)),by simp [bSt],fun j hj hjs=>?_,fun i j y ha hx=>?_,x,rfl,rfl,hp⟩
  ·have n2:k≠j:=fun e=>hjs (by simp [e]);simp [n2]
  ·rcases ha with ha | ⟨ha,rfl⟩
   ·rcases i with _ | _ | i
    ·simp at ha hx;subst ha hx;exact ⟨_,by rw [n_42 h3.symm]; exact h1,ren_bBox (.inl rfl) (.inl rfl) hr⟩
    ·simp at ha hx;subst ha hx;exact ⟨.dead,by simp [hs],.dead⟩
    ·simp at ha
   ·rcases i with _ | _ | i <;> simp at ha hx
theorem fin_b {τ:List CObj} {k:Nat} {c:CV} (h0:τ[0]? = some (bBox T 0 k true l rest)) (hk:τ[k]? = some (gobjT tU8 l.length)) (h2:2<=k) (hr:∀ c∈rest,Pure c) (hc:Old 2 c):FinR 2 τ (.ret c) (.ret c) (bSt2 T l rest):=by
 have k1:keepB 2 [0,1,k]=true:=rfl;have k2:nodupB [0,1,k]=true:=by
  have e0:(k == 0)=false:=by simp; omega
  have e1:(k == 1)=false:=by simp; omega
  have e2:(0 == k)=false:=by simp; omega
  have e3:(1 == k)=false:=by simp; omega
  simp [nodupB];omega
 refine ⟨[0,1,k],k1,k2,.ret (.old hc),.inr ⟨_,h0,.box ⟨.old (.ptr de_),.list (fun r hr c hc=>(pures_bcv l r hr c hc).old) ?_,?_⟩⟩,.inl rfl,.inr ⟨_,hk,.same rfl (old_gobjT _ _ _)⟩,tt⟩
 ·intro j hj;cases hb:l.length with
  | zero=>rw [hb] at hj; cases hj
  | succ m=>rw [hb] at hj; injection hj with hj; subst hj; exact ⟨k,rfl,rfl⟩
 ·have:∀ l:List CV,(∀ c∈l,Pure c)->OldL 2 l:=fun l=>by
   induction l with
   | nil=>intro _; trivial
   | cons x l ih=>intro h; exact ⟨(h x si_).old,ih fun c hc=>h c (by simp [hc])⟩
  exact renL_old (this rest hr)
theorem b_move {C:Ctx} {M:Plan} {w:World} {s:Nat} (hr:Rel C M σ w) (hσ:BAt σ q s T a l rest):∃ M',Ext M w M' w/\Rel C M' ((σ.set q (bBox T q σ.length a l rest)).set s .dead++[gobjT tU8 l.length]) w:=by
 obtain ⟨h1,h2,h3⟩:=hσ;have hq:=(n_1.1 h1).1;have hs:=(n_1.1 h2).1;cases l with
 | nil =>
  rw [show σ.set q (bBox T q σ.length a [] rest)=σ from set_self h1,show σ.set s CObj.dead=σ from set_self h2];obtain ⟨hr1,hx1⟩:=hr.addDead ⟨0,0,0⟩;exact ⟨_,hx1,hr1⟩
 | cons x l =>
  obtain ⟨ps,hps⟩:∃ p,M.pl[s]? = some p:=⟨_,n_35 (by rw [hr.len]; exact hs)⟩;obtain ⟨pq,hpq⟩:∃ p,M.pl[q]? = some p:=⟨_,n_35 (by rw [hr.len]; exact hq)⟩;obtain ⟨⟨hcap,_⟩,_⟩:=hr.obj s ps _ hps h2;obtain ⟨hx1,hr1⟩:=hr.tipNew (m:=(x::l).length) hps h2 (n_5 _) hcap;have hpq':(M.add ps).pl[q]? = some pq:=hx1.get hpq;have hps':(M.add ps).pl[s]? = some ps:=hx1.get hps;have hpn:(M.add ps).pl[σ.length]? = some ps:=by simp [Plan.add,<- hr.len]
  have hbq:(σ.set s CObj.dead++[CObj.tipT (some tU8) (x::l).length])[q]? = some (bBox T q s a (x::l) rest):=by
   rw [n_15 (by simpa using hq),n_42 h3.symm,h1]
  obtain ⟨⟨arr,ty,e1,e2,e3,e4⟩,hf,hcl⟩:=hr1.obj q pq _ hpq' hbq;have hcell:∀ (i:Nat) (c:CV),(addrC q a::bufC (x::l) σ.length::rest)[i]? = some c->RV (M.add ps) w c (arr.getD i undef):=fun i c hi=>by
   rcases i with _ | _ | i
   ·exact e4 0 c hi
   ·injection hi with hi
    subst hi;have hl:=e4 1 _ rfl;obtain ⟨a',cap',b',off',s'',vals',hv',q1,q2,q3,q4,q5,q6,q7,q8,q9,q10⟩:=hl.list_inv;rw [hv'];refine RV.list' (L:=((x::l).map bcv).length) rfl vals' q1 q2 (by rw [q3]) (fun h=>by cases h) q5 q6 q7 q8 q9 (fun k' hk'=>?_);obtain ⟨s3,g1,g2,g3,g4⟩:=q10 s rfl;injection hk' with hk'
    subst hk';refine ⟨s3,?_,g2,g3,g4⟩;rw [hps'] at g1;rw [hpn,g1]
   ·exact e4 (i+2) c hi
  have hro:ObjRel (M.add ps) w pq (bBox T q σ.length a (x::l) rest):=⟨arr,ty,e1,e2,fun c hc=>by
   rcases n_13.1 hc with rfl | hc
   ·cases a <;> rfl
   ·rcases n_13.1 hc with rfl | hc
    ·rfl
    ·exact e3 c (n_59 _ (n_59 _ hc)),hcell⟩
  have hfin:=hr1.putObj (ob:=bBox T q σ.length a (x::l) rest) hpq' hbq rfl hf hcl (.cells arr ((some T).getD ty) (0,0)) (by rw [World.putObj_self w e1]; exact hro);rw [World.putObj_self w e1] at hfin;refine ⟨_,hx1,?_⟩;have hst:(σ.set s CObj.dead++[CObj.tipT (some tU8) (x::l).length]).set q (bBox T q σ.length a (x::l) rest)=(σ.set q (bBox T q σ.length a (x::l) rest)).set s .dead++[gobjT tU8 (x::l).length]:=by
   rw [List.set_append_left _ _ (by simpa using hq),List.set_comm _ _ h3.symm];rfl
  rw [<- hst];exact hfin
theorem cw_move {C:Ctx} {c:Code} {Q:CExit->Env->List CObj->Prop} {E:Env} (T:TypeId) (q s:Nat) (a:Bool) (l:Str) (rest:List CV) (hσ:BAt σ q s T a l rest) (h:CWp C n c Q E ((σ.set q (bBox T q σ.length a l rest)).set s .dead++[gobjT tU8 l.length])):CWp C n c Q E σ:=fun M w ac hr hf=>by
 obtain ⟨M',h1,h2⟩:=b_move hr hσ;exact wp_mono (h _ w ac h2 (hf.mono h1)) fun _ _ _=>Lift.later h1
end Go.Proofs.YtlppbmfecjabeaaGreatDoor
namespace Go.Proofs
open Go.Shelf
def Tryz.laysM171_ren:Go.Shelf.Ren:=⟨fun | 171=>113 | 243=>157 | 246=>203 | 283=>248 | 284=>249 | 285=>250 | 286=>251 | 129=>217 | 317=>287 | 318=>288 | 319=>289 | 320=>290 | 337=>309 | 338=>310 | n=>n,fun | 3=>3 | 9=>9 | 2=>2 | 4=>4 | 171=>282 | 0=>0 | 53=>86 | 37=>149 | 5=>5 | 173=>284 | 212=>313 | 51=>262 | 20=>20 | 213=>314 | 46=>141 | 232=>331 | 233=>332 | n=>n,fun | 17=>1 | 18=>2 | 19=>3 | n=>n⟩
theorem Tryz.laysM171:Go.Proofs.LaysM.n171 Tryz.prog Tryz.laysM171_ren:={
 mixed:=by kernel_rfl
 f129:=t_129.trans (congrArg some q_289)
 f171:=Tryz.func113.trans (congrArg some q_289)
 f243:=Tryz.func157.trans (congrArg some q_289)
 f246:=Tryz.func203.trans (congrArg some q_289)
 f283:=Tryz.func248.trans (congrArg some q_289)
 f284:=Tryz.func249.trans (congrArg some q_289)
 f285:=Tryz.func250.trans (congrArg some q_289)
 f286:=Tryz.func251.trans (congrArg some q_289)
 f317:=Tryz.func287.trans (congrArg some q_289)
 f318:=Tryz.func288.trans (congrArg some q_289)
 f319:=Tryz.func289.trans (congrArg some q_289)
 f320:=Tryz.func290.trans (congrArg some q_289)
 f337:=Tryz.func309.trans (congrArg some q_289)
 f338:=Tryz.func310.trans (congrArg some q_289)
 t0:=t_130
 a0:=t_131
 z0:=t_132
 v0:=t_133
 t2:=Tryz.underlying2
 a2:=Tryz.isAgg2
 z2:=Tryz.sizeOf2
 v2:=Tryz.zeroValue2
 t3:=t_102
 a3:=t_14
 z3:=t_1
 v3:=t_9
 t4:=t_134
 a4:=t_103
 z4:=t_104
 v4:=t_135
 t5:=t_136
 a5:=t_66
 z5:=t_15
 v5:=t_22
 t9:=t_137
 a9:=t_10
 z9:=t_0
 v9:=t_3
 t20:=Tryz.underlying20
 a20:=Tryz.isAgg20
 z20:=Tryz.sizeOf20
 v20:=Tryz.zeroValue20
 t37:=Tryz.underlying149
 a37:=Tryz.isAgg149
 z37:=t_138
 v37:=Tryz.zeroValue149
 t46:=t_139
 a46:=t_140
 z46:=t_141
 v46:=t_142
 t51:=t_143
 a51:=t_144
 z51:=t_145
 v51:=t_146
 t53:=t_147
 a53:=t_148
 z53:=t_149
 v53:=t_150
 t171:=Tryz.underlying282
 a171:=Tryz.isAgg282
 z171:=Tryz.sizeOf282
 v171:=Tryz.zeroValue282
 t173:=Tryz.underlying284
 a173:=Tryz.isAgg284
 z173:=Tryz.sizeOf284
 v173:=Tryz.zeroValue284
 t212:=Tryz.underlying313
 a212:=Tryz.isAgg313
 z212:=Tryz.sizeOf313
 v212:=Tryz.zeroValue313
 t213:=Tryz.underlying314
 a213:=Tryz.isAgg314
 z213:=Tryz.sizeOf314
 t232:=Tryz.underlying331
 a232:=Tryz.isAgg331
 z232:=Tryz.sizeOf331
 v232:=Tryz.zeroValue331
 t233:=Tryz.underlying332
 a233:=Tryz.isAgg332
 z233:=Tryz.sizeOf332
 v233:=Tryz.zeroValue332
 g17:=by kernel_rfl
 g18:=by kernel_rfl
 g19:=by kernel_rfl
 i0:=by kernel_rfl
 i2:=by kernel_rfl
 i3:=by kernel_rfl
 i4:=by kernel_rfl
 i5:=by kernel_rfl
 i9:=by kernel_rfl
 i20:=by kernel_rfl
 i37:=by kernel_rfl
 i46:=by kernel_rfl
 i51:=by kernel_rfl
 i53:=by kernel_rfl
 i171:=by kernel_rfl
 i173:=by kernel_rfl
 i212:=by kernel_rfl
 i232:=by kernel_rfl
 i233:=by kernel_rfl
 m17:=by kernel_rfl
 m18:=by kernel_rfl
 m19:=by kernel_rfl}
end Go.Proofs
namespace Go.Proofs.YtlppbmfecjabeaaGreatDoor
open Go Go.Cl
variable {fl:List Fi} {ms:SM} {n m s w q1 q2 t L i:Nat} {E:List Ex} {l nm l':Str} {ps br:List Str} {T:TypeId} {rest:List CV} {d:De} {σ:List CObj} {nn va en pn a:Bool} {k u o:Int} {me:EM} {ch:List Tr} {sel:List Nat}
theorem Itoa_s (n:Int) (h0 : -9223372036854775808<=n) (h1:n<=9223372036854775807) (σ:List CObj):CCalls CC 113 [.val (.int .i64 n)] σ fun r σ'=>r = .ret (sv (Lib.itoa n))/\σ'=σ :=
 ccalls_of_grow (fun M σ w vs hr hn hx=>by
  have hv:vs = #[.int .i64 n]:=by
   refine n_78 fun i=>?_
   rcases i with _ | i
   ·have h:=rv_val (hx 0 _ rfl);have hs:0 < vs.size:=by rw [hn]; exact Nat.succ_pos _
    simp only [n_21,n_24 hs,n_44] at h;rw [n_24 hs,h];rfl
   ·have hs:vs.size<=i+1:=by rw [hn]; show 1<=i+1; omega
    rw [n_43 hs];rfl
  subst hv;have ht:Lib.pow10Tab=[1,10,100,1000,10000,100000,1000000,10000000,100000000,1000000000,10000000000,100000000000,1000000000000,10000000000000,100000000000000,1000000000000000,10000000000000000,100000000000000000,1000000000000000000,10000000000000000000]:=by decide
  refine Any.strconv_Itoa Tryz.laysM171 n h0 h1 w ?_;rw [ht];exact GV.tab (C:=CC) (hr.glob 1 tabP rfl) q_289) σ
theorem dec_len' {u:Nat} (hn:0 < n) (h:u < 10^n):(Lib.decDigits u).length<=n:=by
 induction n generalizing u with
 | zero=>omega
 | succ n ih =>
  rw [Lib.decDigits]
  split
  ·simp
  ·rcases n_92 n with rfl | hn
   ·omega
   ·have:=ih (u:=u / 10) hn (by rw [Nat.pow_succ] at h; omega);simp; omega
theorem itoa_len {n:Int} (h0 : -9223372036854775808<=n) (h1:n<=9223372036854775807):(Lib.itoa n).length<=20:=by
 unfold Lib.itoa
 split
 ·have:=dec_len' (u:=n.natAbs) (n:=19) om_ om_;simp; omega
 ·have:=dec_len' (u:=n.toNat) (n:=19) om_ om_;omega
def lvlX (k o:Int):Int:=if k=5 then 0 else if k=4 then lvOf o else 4
theorem so_level_s (x:Ex) (σ:List CObj):CCalls CC 305 [.agg x.cells] σ fun r σ'=>r = .ret (.val (.int .i64 (lvlX x.k x.op)))/\σ'=σ:=by
 refine CCalls.anyw hCC pu_ pu_ ?_ σ;refine ccalls_val (ccalls_of Tryz.func305 rfl rfl ?_);refine z_209 ?_; refine cY q_148 ?_; refine z_269 ?_; refine cC (fun h1=>?_) fun h1=>?_
 ·have u1:x.k=5:=by simpa using h1
  refine z_19 ?_;exact ⟨_,res1 rfl tt q_269,_,_,rfl,rfl,cls_int (by rw [lvlX,if_pos u1])⟩
 ·have u1:¬ x.k=5:=by simpa using h1
  refine z_27 ?_; refine cC (fun h2=>?_) fun h2=>?_
  ·have u2:x.k=4:=by simpa using h2
   refine z_0 ?_; refine cY q_148 ?_; refine cY q_238 ?_; refine cY (y_callf rfl Tryz.call319 ⟨tt,tt⟩ (so_levelOf_s x.op _) rfl) ?_; refine z_5 ?_;exact ⟨_,res1 rfl tt q_269,_,_,rfl,rfl,cls_int (by rw [lvlX,if_neg u1,if_pos u2])⟩
  ·have u2:¬ x.k=4:=by simpa using h2
   refine z_245 ?_;exact ⟨_,res1 rfl tt q_269,_,_,rfl,rfl,cls_int (by rw [lvlX,if_neg u1,if_neg u2])⟩
def sgn (o:Int):Str:=(glk S0 o).getD []
def wordK (k:Int):Str:=if k=7 then [115,105,122,101] else if k=8 then [104,97,115] else if k=9 then [101,110,118] else []
def joinS (sep:Str):List Str->Str
 | []=>[]
 | [x]=>x
 | x::y::l=>x++sep++joinS sep (y::l)
def ndT (ps:List Str) (k u o:Int) (nm:Str) (cs:List Str):Str :=
 if k=1 then Lib.itoa u else if k=2 then ps.getD u.toNat [] else if k=4 then cs.getD 0 []++([32]++sgn o++[32])++cs.getD 1 [] else if k=5 then [105,102,32]++cs.getD 0 []++[32,116,104,101,110,32]++cs.getD 1 []++[32,101,108,115,101,32]++cs.getD 2 []
 else if k=3 then nm++[40]++joinS [44,32] cs++[41] else if k=6 then [114,101,97,100,40,34]++nm++[34,44,32]++cs.getD 0 []++[41] else if k=10 then [102,108,105,112,40]++Lib.itoa u++[41] else wordK k++([40,34]++nm++[34,41])
def plcs (k o:Int):List Int:=if k=4 then [if lvOf o=1 then lvOf o+1 else lvOf o,lvOf o+1] else []
mutual
def Tr.txt (ps:List Str):Tr->Int->Str
 | .n k u o nm ch,pl=>if lvlX k o < pl then [40]++ndT ps k u o nm (txtL ps ch (plcs k o))++[41] else ndT ps k u o nm (txtL ps ch (plcs k o))
def txtL (ps:List Str):List Tr->List Int->List Str
 | [],_=>[]
 | t::l,pls=>t.txt ps (pls.headD 0)::txtL ps l pls.tail
end
theorem txtL_len (ps:List Str):∀ (l:List Tr) (pls:List Int),(txtL ps l pls).length=l.length
 | [],_=>rfl
 | t::l,pls=>by rw [txtL,n_7,txtL_len ps l,n_7]
theorem txtL_get (ps:List Str):∀ (l:List Tr) (pls:List Int) (m:Nat) (c:Tr),l[m]? = some c->(txtL ps l pls)[m]? = some (c.txt ps (pls.getD m 0))
 | [],_,_,_,h=>by simp at h
 | t::l,pls,0,c,h=>by
  injection h with h
  subst h;rw [txtL];cases pls <;> rfl
 | t::l,pls,m+1,c,h=>by
  rw [txtL,n_118,txtL_get ps l pls.tail m c h];cases pls <;> rfl
def TrAt (E:List Ex) (t:Tr) (s:Nat):Prop:=∃ E0 E1,E=E0++t.flat s++E1/\E0.length=s
theorem TrAt.node (h:TrAt E (.n k u o nm ch) s):E[s+sizeL ch]? = some ⟨k,u,o,nm,rootsL ch s⟩:=by
 obtain ⟨E0,E1,rfl,rfl⟩:=h;rw [Tr.flat,n_8,n_27 om_,n_8,n_27 (by rw [flatL_len]; omega),flatL_len];rw [show E0.length+sizeL ch - E0.length - sizeL ch=0 by omega];rfl
theorem flatL_split:∀ (l:List Tr) (m s:Nat) (c:Tr),l[m]? = some c->∃ X,flatL l s=flatL (l.take m) s++c.flat (s+sizeL (l.take m))++X
 | [],_,_,_,h=>by simp at h
 | t::l,0,s,c,h=>by
  injection h with h
  subst h;exact ⟨_,rfl⟩
 | t::l,m+1,s,c,h=>by
  obtain ⟨X,hX⟩:=flatL_split l m (s+t.size) c h;refine ⟨X,?_⟩;rw [flatL,hX,n_58,flatL,sizeL,n_66];simp only [n_8]
theorem TrAt.child {c:Tr} (h:TrAt E (.n k u o nm ch) s) (hc:ch[m]? = some c):TrAt E c (s+sizeL (ch.take m)):=by
 obtain ⟨E0,E1,rfl,rfl⟩:=h;obtain ⟨X,hX⟩:=flatL_split ch m E0.length c hc;refine ⟨E0++flatL (ch.take m) E0.length,X++[⟨k,u,o,nm,rootsL ch E0.length⟩]++E1,?_,?_⟩
 ·rw [Tr.flat,hX]; simp only [n_8]
 ·rw [n_4,flatL_len]
theorem size_mem {l:List Tr} {c:Tr} (h:l[m]? = some c):c.size<=sizeL l:=by
 induction l generalizing m with
 | nil=>simp at h
 | cons t l ih =>
  rw [sizeL]
  rcases m with _ | m
  ·injection h with h; subst h; omega
  ·have:=ih h; omega
abbrev TW:Nat:=309
theorem liesW:LiesB TW 5:=by unfold LiesB; kernel_rfl
def WR (E:List Ex) (ps:List Str) (en pn:Bool) (d:Int):List CV:=[.list (E.map Ex.cv) en none,.list (ps.map scv) pn none,.val (.int .i64 d)]
theorem pure_WR (E:List Ex) (ps:List Str) (en pn:Bool) (d:Int):∀ c∈WR E ps en pn d,Pure c:=fun c hc=>by
 simp only [WR,n_13,n_80,or_false] at hc
 rcases hc with rfl | rfl | rfl
 ·exact pure_exs _ _
 ·exact pure_strs _ _
 ·exact .val _
def WEG (E:List Ex) (ps:List Str) (en pn:Bool) (t:Tr) (s:Nat) (ok:Int->Prop):Prop:=∀ (pl dp:Int) (a:Bool) (b:Str) (d:Int),ok pl->0<=dp->dp+2*t.size+1<=1000000000->b.length+(t.txt ps pl).length<=100000000000000->∀ (σ:List CObj) (q k:Nat),BAt σ q k TW a b (WR E ps en pn d) ->
 CCalls CC 284 [.ptr q 0,.val (.int .i64 ((s+t.size - 1:Nat):Int)),.val (.int .i64 pl),.val (.int .i64 dp)] σ fun r τ=>∃ d':Int,r = .ret (.tup [])/\τ=(σ.set q (bBox TW q σ.length true (b++t.txt ps pl) (WR E ps en pn d'))).set k .dead++[gobjT tU8 (b++t.txt ps pl).length]/\True
theorem weg_lift {pl dp:Int} {T:Str} {b:Str} {d:Int} (h:CCalls CC 284 [.ptr 0 0,.val (.int .i64 (i:Int)),.val (.int .i64 pl),.val (.int .i64 dp)] (bSt TW a b (WR E ps en pn d)) fun r τ=>∃ d':Int,FinR 2 τ r (.ret (.tup [])) (bSt2 TW (b++T) (WR E ps en pn d'))/\True)
 (σ:List CObj) (q k:Nat) (hσ:BAt σ q k TW a b (WR E ps en pn d)):CCalls CC 284 [.ptr q 0,.val (.int .i64 (i:Int)),.val (.int .i64 pl),.val (.int .i64 dp)] σ fun r τ=>∃ d':Int,r = .ret (.tup [])/\τ=(σ.set q (bBox TW q σ.length true (b++T) (WR E ps en pn d'))).set k .dead++[gobjT tU8 (b++T).length]/\True :=
 b_lift (c:=fun _:Int=>.tup []) (l':=fun _=>b++T) (rest':=fun d'=>WR E ps en pn d') (P:=fun _=>True) (fun a h=>by simp at h; rcases h with rfl | rfl | rfl <;> exact .val _) (fun _ _=>pure_tup trivial) (pure_WR _ _ _ _ _) (fun _ _=>pure_WR _ _ _ _ _)
  (ccalls_ren hCC (h.mono fun r τ hh=>by
   obtain ⟨d',h1,h2⟩:=hh;exact ⟨_,_,h1,d',rfl,rfl,tt⟩)) hσ
def W3:List Str:=[[105,102,32],[32,116,104,101,110,32],[32,101,108,115,101,32]]
def ifP:List Str->Nat->Str
 | _,0=>[]
 | cs,m+1=>ifP cs m++W3.getD m []++cs.getD m []
def joinP (sep:Str) (cs:List Str) (m:Nat):Str:=joinS sep (cs.take m)
theorem joinP_step {sep:Str} {cs:List Str} {c:Str} (h:cs[m]? = some c):joinP sep cs (m+1)=joinP sep cs m++(if m=0 then [] else sep)++c:=by
 unfold joinP;have:∀ (cs:List Str) (m:Nat) (c:Str),cs[m]? = some c->joinS sep (cs.take (m+1))=joinS sep (cs.take m)++(if m=0 then [] else sep)++c:=by
  intro cs
  induction cs with
  | nil=>intro m c h; simp at h
  | cons x l ih =>
   intro m c h
   rcases m with _ | m
   ·simp at h; subst h; simp [joinS]
   ·rw [n_58,n_58];have:=ih m c q_282
    rcases l with _ | ⟨y,l⟩
    ·simp at h
    ·rcases m with _ | m
     ·simp only [n_58,List.take_zero,joinS] at this ⊢;simp at this ⊢;simpa using h
     ·simp only [n_58,joinS] at this ⊢;rw [this];simp
 exact this cs m c h
theorem glk_mem {β:Type} {k:Int} {y:β}:∀ {l:List (Int × β)},glk l k=some y->(k,y)∈l
 | [],h=>by cases h
 | (b,c)::l,h=>by
  rw [glk] at h;split at h
  ·rename_i e;injection h with h
   subst h e;simp
  ·exact n_59 _ (glk_mem h)
theorem W3_get (h:m < 3):∃ w,W3[m]? = some w:=by
 match m,h with
 | 0,_=>exact ⟨_,rfl⟩
 | 1,_=>exact ⟨_,rfl⟩
 | 2,_=>exact ⟨_,rfl⟩
theorem len_size:∀ l:List Tr,l.length<=sizeL l
 | []=>n_5 _
 | t::l=>by rw [sizeL,n_7]; have:=len_size l; have:=t.size_pos; omega
def kp (ph:Bool):Nat:=match ph with | false=>3 | true=>4
def op1 (ph:Bool) (m:Nat):CObj:=match ph with | false=>gobjT tU8 m | true=>.dead
def op2 (ph:Bool) (m:Nat):CObj:=match ph with | false=>.dead | true=>gobjT tU8 m
theorem renO_b {s':Nat} (hL:0 < L) (hs:sel[s']? = some s) (hr:∀ c∈rest,Pure c) (he:l=l'):RenO L sel (bBox T 0 s a l rest) (bBox T 0 s' a l' rest):=by
 subst he;refine .box ⟨?_,.list (fun r hr c hc=>(pures_bcv l r hr c hc).old) (fun j hj=>?_),?_⟩
 ·cases a
  ·exact .old (.val _)
  ·exact .old (.ptr hL)
 ·cases hb:l.length with
  | zero=>rw [hb] at hj; cases hj
  | succ m=>rw [hb] at hj; injection hj with hj; subst hj; exact ⟨s,rfl,hs⟩
 ·have:∀ l:List CV,(∀ c∈l,Pure c)->OldL L l:=fun l=>by
   induction l with
   | nil=>intro _; trivial
   | cons x l ih=>intro h; exact ⟨(h x si_).old,ih fun c hc=>h c (by simp [hc])⟩
  exact renL_old (this rest hr)
theorem gobjT_len (he:l=l'):RenO L sel (gobjT tU8 l.length) (gobjT tU8 l'.length):=he ▸ .same rfl (old_gobjT _ _ _)
theorem old_tup0:Old 2 (.tup []):=(pure_tup (cs:=[]) tt).old
def W0:List (Int × Str):=[(7,[115,105,122,101]),(8,[104,97,115]),(9,[101,110,118])]
theorem wordK_eq (k:Int):(glk W0 k).getD []=wordK k:=by
 unfold wordK
 split
 ·subst_vars; rfl
 ·split
  ·subst_vars; rfl
  ·split
   ·subst_vars; rfl
   ·rename_i h1 h2 h3;have e:∀ x∈W0,x.1≠k:=fun x hx=>by
     simp only [W0,n_13,n_80,or_false] at hx
     rcases hx with rfl | rfl | rfl <;> simp only <;> omega
    cases hg:glk W0 k with
    | none=>rfl
    | some y =>
     exact absurd rfl (e _ (glk_mem hg))
theorem sgn_len (o:Int):(sgn o).length<=100:=by
 unfold sgn;cases hg:glk S0 o with
 | none=>exact n_3 _
 | some y =>
  have:∀ x∈S0,x.2.length<=100:=by decide
  exact this _ (glk_mem hg)
theorem lvOf_rng (o:Int):1<=lvOf o/\lvOf o<=3:=by unfold lvOf; split; omega; split <;> omega
theorem len_app (a b:Str):(a++b).length=a.length+b.length:=n_4
theorem cnt_get {l:List Tr} (h:l.length=n) (hm:m < n):∃ c,l[m]? = some c:=⟨l[m]'om_,si_⟩
theorem ifP_len (cs:List Str):∀ m,m<=3->(ifP cs m).length<=(ifP cs 3).length:=by
 intro m hm;have h1:∀ n,(ifP cs n).length<=(ifP cs (n+1)).length:=fun n=>by rw [ifP]; simp only [n_4]; omega
 have e0:=h1 0;have e1:=h1 1;have e2:=h1 2
 rcases m with _ | _ | _ | _ | m <;> simp only [n_10,Nat.reduceAdd] at*<;> omega
theorem joinP_len (sep:Str) (cs:List Str) (m:Nat):(joinP sep cs m).length<=(joinS sep cs).length:=by
 unfold joinP
 induction cs generalizing m with
 | nil=>simp
 | cons x l ih =>
  rcases m with _ | m
  ·simp [joinS]
  ·rw [n_58]
   rcases l with _ | ⟨y,l⟩
   ·simp
   ·rcases m with _ | m
    ·simp [joinS]
    ·have:=ih (m+1);rw [n_58] at this ⊢;simp only [joinS,n_4] at this ⊢;omega
theorem wordK_len (k:Int):(wordK k).length<=4:=by
 unfold wordK
 split; decide
 split; decide
 split <;> decide
theorem so_wexpr0 (hAt:TrAt E (.n k u o nm ch) s) (hn:NodeOk ps.length k u o nm ch.length) (_:E.length<=1000000) (hI:∀ m c,ch[m]? = some c->WEG E ps en pn c (s+sizeL (ch.take m)) (fun _=>True)) (T:Str) (hT:T=ndT ps k u o nm (txtL ps ch (plcs k o))) (pl dp:Int) (hpl:¬ lvlX k o < pl) (hd0:0<=dp) (hd:dp+2*((sizeL ch+1:Nat):Int)<=1000000000) (a:Bool) (b:Str) (d:Int) (hb:b.length+T.length<=100000000000000):CCalls CC 284 [.ptr 0 0,(.val (.int .i64 ((s+sizeL ch:Nat):Int))),(.val (.int .i64 pl)),(.val (.int .i64 dp))] (bSt TW a b (WR E ps en pn d)) fun r τ=>∃ d':Int,FinR 2 τ r (.ret (.tup [])) (bSt2 TW (b++T) (WR E ps en pn d'))/\True:=by
 refine (ccalls_of Tryz.func284 rfl rfl ?_);refine z_132 ?_; refine z_280 ?_; refine z_218 ?_; refine z_201 ?_; refine z_143 ?_; refine z_223 ?_; refine cY q_246 ?_; refine z_64 ?_; refine cC (fun h1=>?_) fun h1=>?_
 ·exact absurd q_276 hpl
 ·have hnk:=hn.kind;refine cw_skip ?_; refine z_6 ?_; refine cY q_279 ?_; refine cY q_154 ?_; refine cY q_238 ?_; refine cY q_246 ?_; refine cY (y_max rfl tt tt rfl rfl) ?_; refine cY q_279 ?_; refine cY q_154 ?_; refine z_25 ?_; refine z_0 ?_; refine cY q_148 ?_; refine z_269 ?_; refine cC (fun h2=>?_) fun h2=>?_
  ·refine cw_norm [bBox TW 0 1 a b (WR E ps en pn (max d dp)),gobjT tU8 b.length,.box (Ex.cells ⟨k,u,o,nm,rootsL ch s⟩)] rfl ?_;have u2:k=1:=by simpa using h2
   have hr2:=hn.k1 u2;have eT:T=Lib.itoa u:=by rw [hT,ndT,if_pos u2]
   rw [eT] at hb;refine cw_draw 6 [0,1,3,0,8,24,63] q_289 q_289 rfl ?_; refine z_231 ?_; refine z_251 ?_; refine hY (y_callf rfl t_151 ⟨tt,tt⟩ (Itoa_s u om_ om_ _) rfl) ?_; refine ch_nil ?_;refine cD (d_callv rfl t_13 q_296 (bu_WriteString liesW _ (b) (pure_WR _ _ _ _ _) (Lib.itoa u) q_28 ⟨rfl,rfl,n_2 rfl⟩) rfl ?_);intro _ _;exact z_91
  ·have u2:¬ k=1:=by simpa using h2
   refine z_27 ?_; refine cC (fun h3=>?_) fun h3=>?_
   ·refine cw_norm [bBox TW 0 1 a b (WR E ps en pn (max d dp)),gobjT tU8 b.length,.box (Ex.cells ⟨k,u,o,nm,rootsL ch s⟩)] rfl ?_;have u3:k=2:=by simpa using h3
    have hr3:=hn.k2 u3;have hnum:0<=(Ex.mk k u o nm (rootsL ch s)).num:=hr3.1;have eT:T=ps.getD u.toNat []:=by rw [hT,ndT,if_neg om_,if_pos u3]
    rw [eT] at hb;have g0:ps[u.toNat]? = some (ps.getD u.toNat []):=by
     have hlt:u.toNat < ps.length:=by omega
     simp [List.getD,hlt]
    refine cw_draw 11 [0,1,3,0,8,24,56,0,128,504,1016,2047] q_289 q_289 rfl ?_; refine z_231 ?_; refine z_36 ?_; refine hY (y_field rfl tt rfl t_56 rfl t_21 de_) ?_; refine hY q_228 ?_; refine z_251 ?_; refine hY (y_index rfl tt tt rfl rfl t_2 t_0 om_ (rows_get g0) rfl) ?_; refine hY q_247 ?_; refine ch_nil ?_;refine cD (d_callv rfl t_13 q_296 (bu_WriteString liesW _ (b) (pure_WR _ _ _ _ _) (ps.getD u.toNat []) q_28 ⟨rfl,rfl,n_2 rfl⟩) rfl ?_);intro _ _;exact z_91
   ·have u3:¬ k=2:=by simpa using h3
    refine z_27 ?_; refine cC (fun h4=>?_) fun h4=>?_
    ·refine cw_norm [bBox TW 0 1 a b (WR E ps en pn (max d dp)),gobjT tU8 b.length,.box (Ex.cells ⟨k,u,o,nm,rootsL ch s⟩)] rfl ?_;have u4:k=4:=by simpa using h4
     have hch:ch.length=2:=by have:=hn.cnt; rw [if_pos u4] at this; exact this
     obtain ⟨c0,g0⟩:=cnt_get (m:=0) hch de_;obtain ⟨c1,g1⟩:=cnt_get (m:=1) hch de_;have hz0:=size_mem g0;have hz1:=size_mem g1;have hlv:=lvOf_rng o;have hsl:=sgn_len o;have elv:lvlX k o=lvOf o:=by rw [lvlX,if_neg om_,if_pos u4]
     refine z_0 ?_; refine cY q_174 ?_; refine cY (y_callf rfl Tryz.call305 ⟨tt,tt⟩ ((elv ▸ so_level_s ⟨k,u,o,nm,rootsL ch s⟩ _)) rfl) ?_; refine z_38 ?_; refine z_118 ?_; refine cC (fun h5=>?_) fun h5=>?_
     ·have u5:lvOf o=1:=by simpa using h5
      have eT:T=c0.txt ps (lvOf o+1)++([32]++sgn o++[32])++c1.txt ps (lvOf o+1):=by rw [hT,ndT,if_neg om_,if_neg om_,if_pos u4]; simp only [n_37,txtL_get ps ch _ 0 c0 g0,txtL_get ps ch _ 1 c1 g1,n_44]; simp [plcs,u4,u5]
      rw [eT] at hb;refine z_76 ?_; refine z_38 ?_; refine z_125 ?_; refine cY q_75 ?_; refine cY q_248 ?_; refine z_86 ?_;refine cD (d_callv rfl t_34 q_272 (hI 0 c0 g0 (lvOf o+1) (dp) _ (b) _ trivial om_ om_ q_28 _ _ _ ⟨rfl,rfl,n_2 rfl⟩) rfl ?_);rintro d1 _;dsimp only;refine co_norm [bBox TW 0 3 true (b++c0.txt ps (lvOf o+1)) (WR E ps en pn d1),.dead,.box (Ex.cells ⟨k,u,o,nm,rootsL ch s⟩),gobjT tU8 (b++c0.txt ps (lvOf o+1)).length] rfl ?_; refine z_8 ?_; refine z_82 ?_; refine chf rfl q_110 ?_; refine chf rfl (hop_y rfl q_148) ?_; refine chf rfl q_202 ?_; refine chf_nil ?_;refine ctl_d rfl rfl (d_callv rfl t_116 trivial (so_signs _) rfl ?_);intro _ _; refine ft_norm [bBox TW 0 3 true (b++c0.txt ps (lvOf o+1)) (WR E ps en pn d1),.dead,.box (Ex.cells ⟨k,u,o,nm,rootsL ch s⟩),gobjT tU8 (b++c0.txt ps (lvOf o+1)).length,.map (gm kv sv S0)] rfl ?_;refine ⟨⟨q_181,q_243,q_88,(by exact hop_y rfl q_148),q_176,tt⟩,?_⟩;refine ctl_h rfl q_33 ⟨⟨q_181,q_243,q_88,tt⟩,?_⟩;refine ctl_h rfl (hop_y rfl (y_scat rfl rfl tt rfl rfl (by show 1+(sgn o).length<=_; omega))) ⟨⟨q_181,q_243,q_88,tt⟩,?_⟩;refine ctl_h rfl q_65 ⟨⟨q_181,q_243,q_88,tt⟩,?_⟩;refine ctl_d rfl rfl (d_callv rfl t_13 q_296 (bu_WriteString liesW _ (b++c0.txt ps (lvOf o+1)) (pure_WR _ _ _ _ _) ([32]++sgn o++[32]) q_28 ⟨rfl,rfl,n_2 rfl⟩) rfl ?_);intro _ _; refine ft_norm [bBox TW 0 5 true (b++c0.txt ps (lvOf o+1)++([32]++sgn o++[32])) (WR E ps en pn d1),.dead,.box (Ex.cells ⟨k,u,o,nm,rootsL ch s⟩),.dead,.map (gm kv sv S0),gobjT tU8 (b++c0.txt ps (lvOf o+1)++([32]++sgn o++[32])).length] rfl ?_; refine z_123 ?_; refine z_7 ?_; refine z_125 ?_; refine z_213 ?_; refine cY q_246 ?_; refine z_11 ?_;refine cD (d_callv rfl t_34 q_272 (hI 1 c1 g1 (lvOf o+1) (dp) _ (b++c0.txt ps (lvOf o+1)++([32]++sgn o++[32])) _ trivial om_ om_ q_28 _ _ _ ⟨rfl,rfl,n_2 rfl⟩) rfl ?_);rintro d2 _;dsimp only;refine co_nil ?_;exact ⟨_,res_all (rs:=[]) (cs:=[]) rfl tt (n_2 rfl),⟨d2,q_69,tt⟩⟩
     ·have u5:¬ lvOf o=1:=by simpa using h5
      have eT:T=c0.txt ps (lvOf o)++([32]++sgn o++[32])++c1.txt ps (lvOf o+1):=by rw [hT,ndT,if_neg om_,if_neg om_,if_pos u4]; simp only [n_37,txtL_get ps ch _ 0 c0 g0,txtL_get ps ch _ 1 c1 g1,n_44]; simp [plcs,u4,u5]
      rw [eT] at hb;refine z_71 ?_; refine z_125 ?_; refine cY q_75 ?_; refine cY q_248 ?_; refine z_86 ?_;refine cD (d_callv rfl t_34 q_272 (hI 0 c0 g0 (lvOf o) (dp) _ (b) _ trivial om_ om_ q_28 _ _ _ ⟨rfl,rfl,n_2 rfl⟩) rfl ?_);rintro d1 _;dsimp only;refine co_norm [bBox TW 0 3 true (b++c0.txt ps (lvOf o)) (WR E ps en pn d1),.dead,.box (Ex.cells ⟨k,u,o,nm,rootsL ch s⟩),gobjT tU8 (b++c0.txt ps (lvOf o)).length] rfl ?_; refine z_8 ?_; refine z_82 ?_; refine chf rfl q_110 ?_; refine chf rfl (hop_y rfl q_148) ?_; refine chf rfl q_202 ?_; refine chf_nil ?_;refine ctl_d rfl rfl (d_callv rfl t_116 trivial (so_signs _) rfl ?_);intro _ _; refine ft_norm [bBox TW 0 3 true (b++c0.txt ps (lvOf o)) (WR E ps en pn d1),.dead,.box (Ex.cells ⟨k,u,o,nm,rootsL ch s⟩),gobjT tU8 (b++c0.txt ps (lvOf o)).length,.map (gm kv sv S0)] rfl ?_;refine ⟨⟨q_181,q_243,q_88,(by exact hop_y rfl q_148),q_176,tt⟩,?_⟩;refine ctl_h rfl q_33 ⟨⟨q_181,q_243,q_88,tt⟩,?_⟩;refine ctl_h rfl (hop_y rfl (y_scat rfl rfl tt rfl rfl (by show 1+(sgn o).length<=_; omega))) ⟨⟨q_181,q_243,q_88,tt⟩,?_⟩;refine ctl_h rfl q_65 ⟨⟨q_181,q_243,q_88,tt⟩,?_⟩;refine ctl_d rfl rfl (d_callv rfl t_13 q_296 (bu_WriteString liesW _ (b++c0.txt ps (lvOf o)) (pure_WR _ _ _ _ _) ([32]++sgn o++[32]) q_28 ⟨rfl,rfl,n_2 rfl⟩) rfl ?_);intro _ _; refine ft_norm [bBox TW 0 5 true (b++c0.txt ps (lvOf o)++([32]++sgn o++[32])) (WR E ps en pn d1),.dead,.box (Ex.cells ⟨k,u,o,nm,rootsL ch s⟩),.dead,.map (gm kv sv S0),gobjT tU8 (b++c0.txt ps (lvOf o)++([32]++sgn o++[32])).length] rfl ?_; refine z_123 ?_; refine z_7 ?_; refine z_125 ?_; refine z_213 ?_; refine cY q_246 ?_; refine z_11 ?_;refine cD (d_callv rfl t_34 q_272 (hI 1 c1 g1 (lvOf o+1) (dp) _ (b++c0.txt ps (lvOf o)++([32]++sgn o++[32])) _ trivial om_ om_ q_28 _ _ _ ⟨rfl,rfl,n_2 rfl⟩) rfl ?_);rintro d2 _;dsimp only;refine co_nil ?_;exact ⟨_,res_all (rs:=[]) (cs:=[]) rfl tt (n_2 rfl),⟨d2,q_69,tt⟩⟩
    ·have u4:¬ k=4:=by simpa using h4
     have ep:plcs k o=[]:=by rw [plcs,if_neg u4]
     refine z_27 ?_; refine cC (fun h6=>?_) fun h6=>?_
     ·have u6:k=5:=by simpa using h6
      have hch:ch.length=3:=by have:=hn.cnt; rw [if_neg u4,if_pos u6] at this; exact this
      have eT:T=ifP (txtL ps ch []) 3:=by
       rw [hT,ndT,if_neg om_,if_neg om_,if_neg om_,if_pos u6,ep]; simp [ifP,W3]
      have hpre:=ifP_len (txtL ps ch []);rw [eT] at hb;refine cw_norm [bBox TW 0 1 a b (WR E ps en pn (max d dp)),gobjT tU8 b.length,.box (Ex.cells ⟨k,u,o,nm,rootsL ch s⟩)] rfl ?_; refine cw_move TW 0 1 a b (WR E ps en pn (max d dp)) ⟨rfl,rfl,n_2 rfl⟩ ?_; refine cw_norm [bBox TW 0 3 a b (WR E ps en pn (max d dp)),.dead,.box (Ex.cells ⟨k,u,o,nm,rootsL ch s⟩),gobjT tU8 b.length] rfl ?_; refine z_0 ?_; refine cY (y_lit (W3.map scv) rfl ⟨rfl,rfl,rfl,tt⟩ t_2 t_0 t_3 rfl rfl rfl rfl rfl rfl rfl rfl rfl) ?_; refine z_107 ?_; refine cw_loopr hCC 4 rfl (α:=Nat × Bool × Bool × Int) (fun x=>[(0,.ptr 0 0),(3,(.val (.int .i64 dp))),(8,.ptr 2 0),(127,.list (W3.map scv) true none),(128,(.val (.int .i64 (3)))),(129,(.val (.int .i64 (x.1:Int))))]) (fun x=>[bBox TW 0 (kp x.2.1) x.2.2.1 (b++ifP (txtL ps ch []) x.1) (WR E ps en pn x.2.2.2),.dead,.box (Ex.cells ⟨k,u,o,nm,rootsL ch s⟩),op1 x.2.1 (b++ifP (txtL ps ch []) x.1).length,op2 x.2.1 (b++ifP (txtL ps ch []) x.1).length]) (fun x=>x.1<=3/\(0 < x.1->x.2.2.1=true)) (fun x=>3 - x.1) ⟨(0,false,a,max d dp),[0,1,2,3,7],⟨n_3 _,fun h=>absurd h (Nat.lt_irrefl _)⟩,⟨rfl,rfl⟩,q_12,⟨.inr ⟨_,rfl,renO_b de_ rfl (pure_WR _ _ _ _ _) (by simp [ifP])⟩,.inl rfl,.inr ⟨_,rfl,.same rfl q_169⟩,.inr ⟨_,rfl,gobjT_len (by simp [ifP])⟩,.inl rfl,tt⟩⟩ ?_; intro ⟨m,ph,a',d'⟩ ⟨hm,hma⟩;dsimp only at hm hma ⊢;refine z_28 ?_; refine cC (fun h7=>?_) fun h7=>?_
      ·have hlt:m < 3:=by simp at h7; omega
       obtain ⟨w,gw⟩:=W3_get hlt;obtain ⟨c,gm⟩:=cnt_get (m:=m) hch hlt;have hzm:=size_mem gm;have es:ifP (txtL ps ch []) (m+1)=ifP (txtL ps ch []) m++w++c.txt ps 0:=by
        rw [ifP]; simp only [n_37,gw,txtL_get ps ch _ m c gm,n_44]; simp
       have hbm:=hpre (m+1) om_;rw [es] at hbm;refine z_113 ?_; refine cY (y_index rfl tt tt rfl rfl t_2 t_0 om_ (rows_get gw) rfl) ?_; refine cY q_247 ?_; refine cY q_236 ?_; refine z_38 ?_; refine z_253 ?_; refine cY q_246 ?_;refine cD (d_callv rfl t_13 q_296 (bu_WriteString liesW _ (b++ifP (txtL ps ch []) m) (pure_WR _ _ _ _ _) (w) (by simp only [len_app] at hb hbm ⊢; omega) ⟨rfl,by cases ph <;> rfl,by cases ph <;> exact n_2 rfl⟩) rfl ?_);intro _ _; refine co_norm [bBox TW 0 5 true (b++ifP (txtL ps ch []) m++w) (WR E ps en pn d'),.dead,.box (Ex.cells ⟨k,u,o,nm,rootsL ch s⟩),.dead,.dead,gobjT tU8 (b++ifP (txtL ps ch []) m++w).length] q_271 ?_; refine z_190 ?_; refine z_125 ?_; refine cY q_246 ?_; refine z_214 ?_; refine z_248 ?_;refine cD (d_callv rfl t_34 ⟨tt,tt,rfl,tt,tt⟩ (hI m c gm 0 (dp+1) _ (b++ifP (txtL ps ch []) m++w) _ trivial om_ om_ (by simp only [len_app] at hb hbm ⊢; omega) _ _ _ ⟨rfl,rfl,n_2 rfl⟩) rfl ?_);rintro d3 _;dsimp only;refine co_norm [bBox TW 0 6 true (b++ifP (txtL ps ch []) m++w++c.txt ps 0) (WR E ps en pn d3),.dead,.box (Ex.cells ⟨k,u,o,nm,rootsL ch s⟩),.dead,.dead,.dead,gobjT tU8 (b++ifP (txtL ps ch []) m++w++c.txt ps 0).length] rfl ?_; refine z_89 ?_;exact ⟨(m+1,true,true,d3),[0,1,2,3,6],(show 3 - (m+1) < 3 - m/\m+1<=3/\(0 < m+1->true=true) from ⟨om_,om_,fun _=>rfl⟩),⟨rfl,rfl⟩,q_12,⟨.inr ⟨_,rfl,renO_b de_ rfl (pure_WR _ _ _ _ _) q_216⟩,.inl rfl,.inr ⟨_,rfl,.same rfl q_169⟩,.inl rfl,.inr ⟨_,rfl,gobjT_len q_216⟩,tt⟩⟩
      ·have h3m:m=3:=by simp at h7; omega
       subst h3m;obtain rfl:=hma de_;refine cw_exit ?_;exact ⟨_,res_all (rs:=[]) (cs:=[]) rfl tt (n_2 rfl),⟨d',(by rw [eT]; exact fin_b (k:=kp ph) rfl q_271 (by cases ph <;> decide) (pure_WR _ _ _ _ _) old_tup0),tt⟩⟩
     ·have u6:¬ k=5:=by simpa using h6
      refine z_27 ?_; refine cC (fun h8=>?_) fun h8=>?_
      ·refine cw_norm [bBox TW 0 1 a b (WR E ps en pn (max d dp)),gobjT tU8 b.length,.box (Ex.cells ⟨k,u,o,nm,rootsL ch s⟩)] rfl ?_;have u8:k=3:=by simpa using h8
       have eT:T=nm++[40]++joinS [44,32] (txtL ps ch [])++[41]:=by
        rw [hT,ndT,if_neg om_,if_neg om_,if_neg om_,if_neg om_,if_pos u8,ep]
       have hpre:=joinP_len [44,32] (txtL ps ch []);rw [eT] at hb;have hbn:=hb;simp only [len_app,n_7,n_12] at hbn;refine cw_seq ?_; refine cw_draw 6 [0,1,3,0,8,24,63] q_289 q_289 rfl ?_; refine z_231 ?_; refine hY q_156 ?_; refine hY q_237 ?_; refine hY (y_scat rfl tt rfl rfl rfl (by show nm.length+1<=_; omega)) ?_; refine ch_nil ?_;refine cD (d_callv rfl t_13 q_296 (bu_WriteString liesW _ (b) (pure_WR _ _ _ _ _) (nm++[40]) q_28 ⟨rfl,rfl,n_2 rfl⟩) rfl ?_);intro _ _; refine co_norm [bBox TW 0 3 true (b++(nm++[40])) (WR E ps en pn (max d dp)),.dead,.box (Ex.cells ⟨k,u,o,nm,rootsL ch s⟩),gobjT tU8 (b++(nm++[40])).length] rfl ?_; refine z_67 ?_; refine z_125 ?_; refine cY q_103 ?_; refine z_24 ?_; refine cw_loopr hCC 4 rfl (α:=Nat × Bool × Int) (fun x=>[(0,.ptr 0 0),(3,(.val (.int .i64 dp))),(159,.list ((rootsL ch s).map icv) (gnn (rootsL ch s).length) none),(160,(.val (.int .i64 ((rootsL ch s).length:Int)))),(161,(.val (.int .i64 (x.1:Int))))]) (fun x=>[bBox TW 0 (kp x.2.1) true (b++(nm++[40])++joinP [44,32] (txtL ps ch []) x.1) (WR E ps en pn x.2.2),.dead,.box (Ex.cells ⟨k,u,o,nm,rootsL ch s⟩),op1 x.2.1 (b++(nm++[40])++joinP [44,32] (txtL ps ch []) x.1).length,op2 x.2.1 (b++(nm++[40])++joinP [44,32] (txtL ps ch []) x.1).length]) (fun x=>x.1<=ch.length) (fun x=>ch.length - x.1) ⟨(0,false,max d dp),[0,1,2,3,7],(n_3 _),⟨rfl,rfl⟩,q_13,⟨.inr ⟨_,rfl,renO_b de_ rfl (pure_WR _ _ _ _ _) (by simp [joinP,joinS])⟩,.inl rfl,.inr ⟨_,rfl,.same rfl q_169⟩,.inr ⟨_,rfl,gobjT_len (by simp [joinP,joinS])⟩,.inl rfl,tt⟩⟩ ?_; intro ⟨m,ph,d'⟩ hm;dsimp only at hm ⊢;have hrl:=rootsL_len ch s;have hcl:=len_size ch;refine z_28 ?_; refine cC (fun h9=>?_) fun h9=>?_
       ·have hlt:m < ch.length:=by simp at h9; omega
        obtain ⟨c,gm⟩:=cnt_get (m:=m) rfl hlt;have hzm:=size_mem gm;have es:=joinP_step (sep:=[44,32]) (txtL_get ps ch [] m c gm);have hbm:=hpre (m+1);rw [es] at hbm;simp only [len_app,List.getD_nil] at hbm es;refine z_113 ?_; refine z_214 ?_; refine cY q_236 ?_; refine z_118 ?_; refine cC (fun h10=>?_) fun h10=>?_
        ·have u10:¬ m=0:=by simp at h10; omega
         rw [if_neg u10] at hbm es;refine z_7 ?_; refine z_253 ?_;refine cD (d_callv rfl t_13 q_293 (bu_WriteString liesW _ (b++(nm++[40])++joinP [44,32] (txtL ps ch []) m) (pure_WR _ _ _ _ _) ([44,32]) q_115 ⟨rfl,by cases ph <;> rfl,by cases ph <;> exact n_2 rfl⟩) rfl ?_);intro _ _; refine co_norm [bBox TW 0 5 true (b++(nm++[40])++joinP [44,32] (txtL ps ch []) m++[44,32]) (WR E ps en pn d'),.dead,.box (Ex.cells ⟨k,u,o,nm,rootsL ch s⟩),.dead,.dead,gobjT tU8 (b++(nm++[40])++joinP [44,32] (txtL ps ch []) m++[44,32]).length] q_271 ?_; refine co_nil ?_; refine z_45 ?_; refine z_248 ?_;refine cD (d_callv rfl t_34 ⟨tt,tt,rfl,tt,tt⟩ (hI m c gm 0 (dp+1) _ (b++(nm++[40])++joinP [44,32] (txtL ps ch []) m++[44,32]) _ trivial om_ om_ q_115 _ _ _ ⟨rfl,rfl,n_2 rfl⟩) rfl ?_);rintro d3 _;dsimp only;refine co_norm [bBox TW 0 6 true (b++(nm++[40])++joinP [44,32] (txtL ps ch []) m++[44,32]++c.txt ps 0) (WR E ps en pn d3),.dead,.box (Ex.cells ⟨k,u,o,nm,rootsL ch s⟩),.dead,.dead,.dead,gobjT tU8 (b++(nm++[40])++joinP [44,32] (txtL ps ch []) m++[44,32]++c.txt ps 0).length] rfl ?_; refine z_89 ?_;exact ⟨(m+1,true,d3),[0,1,2,3,6],do_,⟨rfl,rfl⟩,q_13,⟨.inr ⟨_,rfl,renO_b de_ rfl (pure_WR _ _ _ _ _) q_216⟩,.inl rfl,.inr ⟨_,rfl,.same rfl q_169⟩,.inl rfl,.inr ⟨_,rfl,gobjT_len q_216⟩,tt⟩⟩
        ·have u10:m=0:=by simp at h10; omega
         rw [if_pos u10] at hbm es;refine cw_skip ?_; refine z_45 ?_; refine z_248 ?_;refine cD (d_callv rfl t_34 ⟨tt,tt,rfl,tt,tt⟩ (hI m c gm 0 (dp+1) _ (b++(nm++[40])++joinP [44,32] (txtL ps ch []) m) _ trivial om_ om_ q_115 _ _ _ ⟨rfl,by cases ph <;> rfl,by cases ph <;> exact n_2 rfl⟩) rfl ?_);rintro d3 _;dsimp only;refine co_norm [bBox TW 0 5 true (b++(nm++[40])++joinP [44,32] (txtL ps ch []) m++c.txt ps 0) (WR E ps en pn d3),.dead,.box (Ex.cells ⟨k,u,o,nm,rootsL ch s⟩),.dead,.dead,gobjT tU8 (b++(nm++[40])++joinP [44,32] (txtL ps ch []) m++c.txt ps 0).length] q_271 ?_; refine z_89 ?_;exact ⟨(m+1,true,d3),[0,1,2,3,5],do_,⟨rfl,rfl⟩,q_13,⟨.inr ⟨_,rfl,renO_b de_ rfl (pure_WR _ _ _ _ _) (by rw [es]; simp only [n_8,n_33])⟩,.inl rfl,.inr ⟨_,rfl,.same rfl q_169⟩,.inl rfl,.inr ⟨_,rfl,gobjT_len (by rw [es]; simp only [n_8,n_33])⟩,tt⟩⟩
       ·have hme:m=ch.length:=by simp at h9; omega
        subst hme;have ej:joinP [44,32] (txtL ps ch []) ch.length=joinS [44,32] (txtL ps ch []):=by rw [joinP,n_28 (by rw [txtL_len]; exact n_5 _)]
        rw [ej];refine cw_exit ?_; refine z_7 ?_; refine z_253 ?_;refine cD (d_callv rfl t_105 q_293 (bu_WriteByte liesW _ (b++(nm++[40])++joinS [44,32] (txtL ps ch [])) (pure_WR _ _ _ _ _) 41 (by simp only [len_app,n_7,n_12] at hbn ⊢; omega) ⟨rfl,by cases ph <;> rfl,by cases ph <;> exact n_2 rfl⟩) rfl ?_);intro _ _; refine co_norm [bBox TW 0 5 true (b++(nm++[40])++joinS [44,32] (txtL ps ch [])++[41]) (WR E ps en pn d'),.dead,.box (Ex.cells ⟨k,u,o,nm,rootsL ch s⟩),.dead,.dead,gobjT tU8 (b++(nm++[40])++joinS [44,32] (txtL ps ch [])++[41]).length] q_271 ?_; refine co_nil ?_;exact ⟨_,res_all (rs:=[]) (cs:=[]) rfl tt (n_2 rfl),⟨d',q_70,tt⟩⟩
      ·have u8:¬ k=3:=by simpa using h8
       refine z_27 ?_; refine cC (fun h11=>?_) fun h11=>?_
       ·refine cw_norm [bBox TW 0 1 a b (WR E ps en pn (max d dp)),gobjT tU8 b.length,.box (Ex.cells ⟨k,u,o,nm,rootsL ch s⟩)] rfl ?_;have u11:k=6:=by simpa using h11
        have hch:ch.length=1:=by have:=hn.cnt; rw [if_neg u4,if_neg u6,if_pos u11] at this; exact this
        obtain ⟨c0,g0⟩:=cnt_get (m:=0) hch de_;have hz0:=size_mem g0;have eT:T=([114,101,97,100,40,34]++nm++[34,44,32])++c0.txt ps 0++[41]:=by
         rw [hT,ndT,if_neg om_,if_neg om_,if_neg om_,if_neg om_,if_neg om_,if_pos u11,ep]; simp only [n_37,txtL_get ps ch _ 0 c0 g0,n_44]; simp
        rw [eT] at hb;have hbn:=hb;simp only [len_app,n_7,n_12] at hbn;refine cw_seq ?_; refine cw_draw 7 [0,1,3,0,8,24,56,127] q_289 q_289 rfl ?_; refine z_231 ?_; refine hY q_156 ?_; refine hY q_237 ?_; refine hY (y_scat rfl rfl tt rfl rfl (by show 6+nm.length<=_; omega)) ?_; refine hY (y_scat rfl tt rfl rfl rfl (by show ([114,101,97,100,40,34]++nm:Str).length+3<=_; rw [len_app]; simp; omega)) ?_; refine ch_nil ?_;refine cD (d_callv rfl t_13 q_296 (bu_WriteString liesW _ (b) (pure_WR _ _ _ _ _) ([114,101,97,100,40,34]++nm++[34,44,32]) q_28 ⟨rfl,rfl,n_2 rfl⟩) rfl ?_);intro _ _; refine co_norm [bBox TW 0 3 true (b++([114,101,97,100,40,34]++nm++[34,44,32])) (WR E ps en pn (max d dp)),.dead,.box (Ex.cells ⟨k,u,o,nm,rootsL ch s⟩),gobjT tU8 (b++([114,101,97,100,40,34]++nm++[34,44,32])).length] rfl ?_; refine z_33 ?_; refine z_125 ?_; refine cY q_75 ?_; refine cY q_248 ?_; refine z_248 ?_;refine cD (d_callv rfl t_34 ⟨tt,tt,rfl,tt,tt⟩ (hI 0 c0 g0 (0) (dp+1) _ (b++([114,101,97,100,40,34]++nm++[34,44,32])) _ trivial om_ om_ q_28 _ _ _ ⟨rfl,rfl,n_2 rfl⟩) rfl ?_);rintro d3 _;dsimp only;refine co_norm [bBox TW 0 4 true (b++([114,101,97,100,40,34]++nm++[34,44,32])++c0.txt ps 0) (WR E ps en pn d3),.dead,.box (Ex.cells ⟨k,u,o,nm,rootsL ch s⟩),.dead,gobjT tU8 (b++([114,101,97,100,40,34]++nm++[34,44,32])++c0.txt ps 0).length] rfl ?_; refine z_190 ?_; refine z_253 ?_;refine cD (d_callv rfl t_105 q_293 (bu_WriteByte liesW _ (b++([114,101,97,100,40,34]++nm++[34,44,32])++c0.txt ps 0) (pure_WR _ _ _ _ _) 41 q_28 ⟨rfl,rfl,n_2 rfl⟩) rfl ?_);intro _ _; refine co_nil ?_;exact ⟨_,res_all (rs:=[]) (cs:=[]) rfl tt (n_2 rfl),⟨d3,q_70,tt⟩⟩
       ·have u11:¬ k=6:=by simpa using h11
        refine z_27 ?_; refine cC (fun h12=>?_) fun h12=>?_
        ·refine cw_norm [bBox TW 0 1 a b (WR E ps en pn (max d dp)),gobjT tU8 b.length,.box (Ex.cells ⟨k,u,o,nm,rootsL ch s⟩)] rfl ?_;have u12:k=10:=by simpa using h12
         have hr12:=hn.k10 u12;have eT:T=[102,108,105,112,40]++Lib.itoa u++[41]:=by
          rw [hT,ndT,if_neg om_,if_neg om_,if_neg om_,if_neg om_,if_neg om_,if_neg om_,if_pos u12]
         rw [eT] at hb;have hil:=itoa_len (n:=u) om_ om_;refine cw_draw 8 [0,1,3,0,8,24,56,120,255] q_289 q_289 rfl ?_; refine z_231 ?_; refine z_251 ?_; refine hY (y_callf rfl t_151 ⟨tt,tt⟩ (Itoa_s u om_ om_ _) rfl) ?_; refine hY (y_scat rfl rfl tt rfl rfl (by show 5+(Lib.itoa u).length<=_; omega)) ?_; refine hY (y_scat rfl tt rfl rfl rfl (by show ([102,108,105,112,40]++Lib.itoa u:Str).length+1<=_; rw [len_app]; simp; omega)) ?_; refine ch_nil ?_;refine cD (d_callv rfl t_13 q_296 (bu_WriteString liesW _ (b) (pure_WR _ _ _ _ _) ([102,108,105,112,40]++Lib.itoa u++[41]) q_28 ⟨rfl,rfl,n_2 rfl⟩) rfl ?_);intro _ _;exact z_91
        ·refine cw_norm [bBox TW 0 1 a b (WR E ps en pn (max d dp)),gobjT tU8 b.length,.box (Ex.cells ⟨k,u,o,nm,rootsL ch s⟩)] rfl ?_;have u12:¬ k=10:=by simpa using h12
         have eT:T=wordK k++[40,34]++nm++[34,41]:=by
          rw [hT,ndT,if_neg om_,if_neg om_,if_neg om_,if_neg om_,if_neg om_,if_neg om_,if_neg om_]; simp only [n_8]
         rw [eT] at hb;have hbn:=hb;simp only [len_app,n_7,n_12] at hbn;have hwl:=wordK_len k;refine z_0 ?_;refine cD (d_makeMap rfl ?_);refine cD (d_mapUpdate_g (vc:=sv) (l:=W0.take 0) (a:=7) (b:=[115,105,122,101]) keyI (.inr rfl) tt rfl rfl rfl rfl rfl t_12 rfl ?_);refine cD (d_mapUpdate_g (vc:=sv) (l:=W0.take 1) (a:=8) (b:=[104,97,115]) keyI (.inr rfl) tt rfl rfl rfl rfl rfl t_12 rfl ?_);refine cD (d_mapUpdate_g (vc:=sv) (l:=W0.take 2) (a:=9) (b:=[101,110,118]) keyI (.inr rfl) tt rfl rfl rfl rfl rfl t_12 rfl ?_);refine cY q_246 ?_; refine cY q_148 ?_; refine cY q_238 ?_; refine cY (y_lookup_g (vc:=sv) (l:=W0) (a:=k) keyI rfl tt tt rfl rfl t_12 t_3 rfl rfl ((lk_dflt ([]:Str) rfl _).trans (congrArg sv (wordK_eq k)))) ?_; refine z_1 ?_; refine cw_draw 9 [0,1,3,0,8,0,32,120,248,511] q_289 q_289 rfl ?_; refine z_231 ?_; refine hY q_246 ?_; refine hY (y_scat rfl tt rfl rfl rfl (by first|omega|(simp only [n_7,n_12]; omega))) ?_; refine hY q_156 ?_; refine hY q_237 ?_; refine hY (y_scat rfl tt tt rfl rfl (by first|omega|(simp only [len_app,n_7,n_12]; omega))) ?_; refine hY (y_scat rfl tt rfl rfl rfl (by first|omega|(simp only [len_app,n_7,n_12]; omega))) ?_; refine ch_nil ?_;refine cD (d_callv rfl t_13 q_296 (bu_WriteString liesW _ (b) (pure_WR _ _ _ _ _) (wordK k++[40,34]++nm++[34,41]) q_28 ⟨rfl,rfl,n_2 rfl⟩) rfl ?_);intro _ _; refine co_nil ?_;exact ⟨_,res_all (rs:=[]) (cs:=[]) rfl tt (n_2 rfl),⟨(max d dp),(by rw [eT]; exact fin_b (k:=4) rfl rfl de_ (pure_WR _ _ _ _ _) old_tup0),tt⟩⟩
theorem so_wexpr1 (hAt:TrAt E (.n k u o nm ch) s) (T:Str) (pl dp:Int) (hpl:lvlX k o < pl) (hd0:0<=dp) (hd:dp+2*((sizeL ch+1:Nat):Int)+1<=1000000000) (a:Bool) (b:Str) (d:Int) (hb:b.length+([40]++T++[41]:Str).length<=100000000000000)
 (hW:∀ (dp:Int) (a:Bool) (b:Str) (d:Int),0<=dp->dp+2*((sizeL ch+1:Nat):Int)<=1000000000->b.length+T.length<=100000000000000->∀ (σ:List CObj) (q k:Nat),BAt σ q k TW a b (WR E ps en pn d) ->
  CCalls CC 284 [.ptr q 0,.val (.int .i64 ((s+sizeL ch:Nat):Int)),.val (.int .i64 0),.val (.int .i64 dp)] σ fun r τ=>∃ d':Int,r = .ret (.tup [])/\τ=(σ.set q (bBox TW q σ.length true (b++T) (WR E ps en pn d'))).set k .dead++[gobjT tU8 (b++T).length]/\True) :
 CCalls CC 284 [.ptr 0 0,(.val (.int .i64 ((s+sizeL ch:Nat):Int))),(.val (.int .i64 pl)),(.val (.int .i64 dp))] (bSt TW a b (WR E ps en pn d)) fun r τ=>∃ d':Int,FinR 2 τ r (.ret (.tup [])) (bSt2 TW (b++([40]++T++[41])) (WR E ps en pn d'))/\True:=by
 refine (ccalls_of Tryz.func284 rfl rfl ?_);refine z_132 ?_; refine z_280 ?_; refine z_218 ?_; refine z_201 ?_; refine z_143 ?_; refine z_223 ?_; refine cY q_246 ?_; refine z_64 ?_; refine cC (fun h1=>?_) fun h1=>?_
 ·refine cw_norm [bBox TW 0 1 a b (WR E ps en pn d),gobjT tU8 b.length,.box (Ex.cells ⟨k,u,o,nm,rootsL ch s⟩)] rfl ?_; refine z_132 ?_; refine cY q_131 ?_;refine cD (d_callv rfl t_105 q_293 (bu_WriteByte liesW _ (b) (pure_WR _ _ _ _ _) 40 q_28 ⟨rfl,rfl,n_2 rfl⟩) rfl ?_);intro _ _; refine co_norm [bBox TW 0 3 true (b++[40]) (WR E ps en pn d),.dead,.box (Ex.cells ⟨k,u,o,nm,rootsL ch s⟩),gobjT tU8 (b++[40]).length] rfl ?_; refine co_nil ?_; refine z_49 ?_; refine cY q_251 ?_;refine cD (d_callv rfl t_34 ⟨tt,tt,rfl,tt,tt⟩ (hW (dp+1) true (b++[40]) d om_ om_ q_28 _ 0 3 ⟨rfl,rfl,n_2 rfl⟩) rfl ?_);rintro d1 _;dsimp only;refine co_norm [bBox TW 0 4 true (b++[40]++T) (WR E ps en pn d1),.dead,.box (Ex.cells ⟨k,u,o,nm,rootsL ch s⟩),.dead,gobjT tU8 (b++[40]++T).length] rfl ?_; refine z_33 ?_; refine z_253 ?_;refine cD (d_callv rfl t_105 q_293 (bu_WriteByte liesW _ (b++[40]++T) (pure_WR _ _ _ _ _) 41 q_28 ⟨rfl,rfl,n_2 rfl⟩) rfl ?_);intro _ _; refine z_282 ?_;exact ⟨_,res_all (rs:=[]) (cs:=[]) rfl tt (n_2 rfl),⟨d1,(by simp only [<- n_8]; exact fin_b (k:=5) rfl rfl de_ (pure_WR _ _ _ _ _) old_tup0),tt⟩⟩
 ·exact absurd hpl q_276
theorem wfL_get {np d:Nat}:∀ {l:List Tr} {m:Nat} {c:Tr},wfL np d l->l[m]? = some c->c.wf np d
 | [],_,_,_,h=>by simp at h
 | t::l,0,c,h,hc=>by rw [wfL] at h; injection hc with hc; subst hc; exact h.1
 | t::l,m+1,c,h,hc=>by rw [wfL] at h; exact wfL_get h.2 (by simpa using hc)
theorem lvlX_pos (k o:Int):0<=lvlX k o:=by
 unfold lvlX
 split; decide
 split
 ·have:=lvOf_rng o; omega
 ·decide
theorem so_wexpr {E:List Ex} {ps:List Str} {en pn:Bool} (hE:E.length<=1000000):∀ (n:Nat) (t:Tr) (s:Nat),t.size<=n->TrAt E t s->(∃ d,t.wf ps.length d)->WEG E ps en pn t s (fun _=>True)
 | 0,t,_,h,_,_=>by have:=t.size_pos; omega
 | n+1,.n k u o nm ch,s,hsz,hAt,⟨dd,hw⟩=>by
  rw [Tr.wf] at hw;obtain ⟨_,hn,hwl⟩:=hw;have hI:∀ m c,ch[m]? = some c->WEG E ps en pn c (s+sizeL (ch.take m)) (fun _=>True):=fun m c hc=>by
   have:=size_mem hc;rw [Tr.size] at hsz;exact so_wexpr hE n c _ om_ (hAt.child hc) ⟨_,wfL_get hwl hc⟩
  intro pl dp a b d _ hd0 hd hb σ q k' hσ;rw [Tr.size] at hd ⊢;rw [show s+(sizeL ch+1) - 1=s+sizeL ch by omega];rw [Tr.txt] at hb ⊢;by_cases hpl:lvlX k o < pl
  ·rw [if_pos hpl] at hb ⊢;refine weg_lift (so_wexpr1 hAt (ndT ps k u o nm (txtL ps ch (plcs k o))) pl dp hpl hd0 om_ a b d hb fun dp' a' b' d' h0 h1 h2 σ' q' k'' hσ'=>?_) σ q k' hσ;have hp0:=lvlX_pos k o;exact weg_lift (so_wexpr0 hAt hn hE hI _ rfl 0 dp' om_ h0 h1 a' b' d' h2) σ' q' k'' hσ'
  ·rw [if_neg hpl] at hb ⊢;exact weg_lift (so_wexpr0 hAt hn hE hI _ rfl pl dp hpl hd0 om_ a b d hb) σ q k' hσ
def sumS (cs:List Str):Nat:=(cs.map List.length).sum
theorem getD_sum (cs:List Str):(cs.getD 0 []).length+(cs.getD 1 []).length+(cs.getD 2 []).length<=sumS cs:=by
 rcases cs with _ | ⟨a,_ | ⟨b,_ | ⟨c,l⟩⟩⟩ <;> simp [sumS,List.getD] <;> omega
theorem joinS_len (sep:Str):∀ cs:List Str,(joinS sep cs).length<=sumS cs+sep.length*cs.length
 | []=>by simp [joinS]
 | [x]=>by simp [joinS,sumS]
 | x::y::l=>by
  have:=joinS_len sep (y::l);simp only [joinS,n_4,sumS,n_65,List.sum_cons,n_7,Nat.mul_add] at this ⊢;omega
theorem ndT_len (hp:∀ s∈ps,s.length<=80) {c:Nat} (hn:NodeOk ps.length k u o nm c) (cs:List Str):(ndT ps k u o nm cs).length<=sumS cs+2*cs.length+290:=by
 have hg:=getD_sum cs;have hj:=joinS_len [44,32] cs;have hs:=sgn_len o;have hw:=wordK_len k;have hnm:=hn.len;have e2:([44,32]:Str).length=2:=rfl;rw [e2] at hj;unfold ndT
 split
 ·rename_i h1;have:=hn.k1 h1;have:=itoa_len (n:=u) om_ om_;omega
 split
 ·have:(ps.getD u.toNat []).length<=80:=by
   rw [n_37];cases hh:ps[u.toNat]? with
   | none=>exact n_3 _
   | some x=>exact hp x (n_0 hh)
  omega
 split
 ·simp only [n_4,n_7,n_12]; omega
 split
 ·simp only [n_4,n_7,n_12]; omega
 split
 ·simp only [n_4,n_7,n_12]; omega
 split
 ·simp only [n_4,n_7,n_12]; omega
 split
 ·rename_i h10;have:=hn.k10 h10;have:=itoa_len (n:=u) om_ om_;simp only [n_4,n_7,n_12]; omega
 ·simp only [n_4,n_7,n_12]; omega
mutual
theorem Tr.txt_len {ps:List Str} (hp:∀ s∈ps,s.length<=80):∀ (t:Tr) (d:Nat) (pl:Int),t.wf ps.length d->(t.txt ps pl).length+2<=300*t.size
 | .n k u o nm ch,d,pl,h=>by
  rw [Tr.wf] at h;have h1:=ndT_len hp h.2.1 (txtL ps ch (plcs k o));have h2:=txtL_lens hp ch _ (plcs k o) h.2.2;rw [txtL_len] at h1;rw [Tr.txt,Tr.size];have:([40]++ndT ps k u o nm (txtL ps ch (plcs k o))++[41]:Str).length=(ndT ps k u o nm (txtL ps ch (plcs k o))).length+2:=by simp
  split
  ·rw [this]; omega
  ·omega
theorem txtL_lens {ps:List Str} (hp:∀ s∈ps,s.length<=80):∀ (l:List Tr) (d:Nat) (pls:List Int),wfL ps.length d l->sumS (txtL ps l pls)+2*l.length<=300*sizeL l
 | [],_,_,_=>by simp [txtL,sumS]
 | t::l,d,pls,h=>by
  rw [wfL] at h;have h1:=Tr.txt_len hp t d (pls.headD 0) h.1;have h2:=txtL_lens hp l d pls.tail h.2;rw [txtL,sizeL];simp only [sumS,n_65,List.sum_cons,n_7] at h2 ⊢;omega
end
theorem so_write0 (en pn:Bool) (hE:E.length<=1000000) (t:Tr) (ht:E=t.flat 0) (hw:∃ d,t.wf ps.length d) (hp:∀ s∈ps,s.length<=80):CCalls CC 245 [(.list (E.map Ex.cv) en none),(.list (ps.map scv) pn none)] [] fun r τ=>∃ d:Int,ClsR 0 τ r (.ret (.tup [sv (t.txt ps 0),.val (.int .i64 d)]))/\True:=by
 have hsz:E.length=t.size:=by rw [ht,Tr.flat_len]
 have hpos:=t.size_pos;have hAt:TrAt E t 0:=⟨[],[],by rw [ht]; simp,rfl⟩;obtain ⟨dd,hwd⟩:=hw;have htl:=t.txt_len hp dd 0 hwd;have hx:=so_wexpr (en:=en) (pn:=pn) hE t.size t 0 (n_5 _) hAt ⟨dd,hwd⟩ 0 1 false [] 0 trivial om_ om_ (by simp only [n_12]; omega) ([bBox TW 0 1 false [] (WR E ps en pn 0)]++[.dead]) 0 1 ⟨rfl,rfl,n_2 rfl⟩;replace hx:=ccalls_dead hx;rw [show ((0+t.size - 1:Nat):Int)=(E.length:Int) - 1 by omega] at hx;simp only [n_33] at hx;refine (ccalls_of Tryz.func245 rfl rfl ?_);refine z_0 ?_; refine z_83 ?_; refine z_6 ?_; refine cY (y_build' #[(0,2),(2,1),(3,1),(4,1)] rfl q_296 t_56 Tryz.zeroValue309 rfl ⟨_,rfl⟩ (fun w=>by kernel_rfl) rfl rfl) ?_;refine cD (d_boxT rfl tt q_269 q_288 ?_);refine z_1 ?_; refine z_6 ?_; refine cY q_98 ?_; refine cY q_253 ?_;refine cD (d_callv rfl t_34 ⟨tt,tt,rfl,rfl,tt⟩ (hx) rfl ?_);rintro d1 _;dsimp only;refine z_8 ?_; refine cw_float [0,1,2,4,5,6,7,3,8,9] 7 [0,1,3,7,0,16,48,112,15,511] [[3,4,5,6],[3,4,5,6],[]] (hd1l:=[0,1,2,4,5,6,7]) (tll:=[(3,[3,4,5,6]),(8,[3,4,5,6]),(9,[])]) q_289 q_289 rfl rfl rfl ?_; refine z_68 ?_; refine chf rfl q_110 ?_; refine z_68 ?_; refine chf rfl (hop_y rfl q_154) ?_; refine chf rfl q_202 ?_; refine chf_nil ?_;refine ctl_d rfl rfl (d_callv rfl t_84 ⟨tt,tt⟩ (bu_String (rest:=WR E ps en pn d1) (T:=TW) (pure_WR _ _ _ _ _) true _ (q:=0) (k:=2) ⟨rfl,rfl,n_2 rfl⟩) rfl ?_);intro _ _;refine ⟨⟨q_181,q_243,(by exact hop_y rfl q_154),q_176,tt⟩,?_⟩;refine ctl_h rfl q_200 ⟨⟨q_181,q_243,(by exact hop_y rfl q_154),q_176,tt⟩,?_⟩;refine z_75 ?_; refine cw_ret ?_;exact ⟨_,res_all (rs:=[.tmp 4,.tmp 5]) (cs:=[_,_]) rfl q_138 (n_2 rfl),⟨d1,.ret (.old (pure_tup (cs:=[sv (t.txt ps 0),.val (.int .i64 d1)]) ⟨.val _,.val _,tt⟩).old),tt⟩⟩
theorem so_write (en pn:Bool) (hE:E.length<=1000000) (t:Tr) (ht:E=t.flat 0) (hw:∃ d,t.wf ps.length d) (hp:∀ s∈ps,s.length<=80) (σ:List CObj):CCalls CC 245 [(.list (E.map Ex.cv) en none),(.list (ps.map scv) pn none)] σ fun r τ=>∃ d:Int,r = .ret (.tup [sv (t.txt ps 0),.val (.int .i64 d)])/\τ=σ/\True :=
 ccalls_any (res:=fun d:Int=>.ret (.tup [sv (t.txt ps 0),.val (.int .i64 d)])) (P:=fun _=>True) hCC (fun c hc=>by simp at hc; rcases hc with rfl | rfl; exact pure_exs _ _; exact pure_strs _ _) (so_write0 en pn hE t ht hw hp) (fun d _=>pure_tup ⟨.val _,.val _,tt⟩) σ
abbrev tSB:Nat:=244
theorem liesB:LiesB tSB 2:=by unfold LiesB; kernel_rfl
def bStG (T:TypeId) (rest:List CV):List CObj:=[.boxT (some T) (.ptr 0 0::.list [] true (some 2)::rest),.dead,.tipT (some tU8) 0]
theorem bu_copyA {c:CV} {obs:List CObj}:CCalls CC 246 [.ptr 0 0] (.boxT (some T) (.ptr 0 0::c::rest)::obs) fun r τ=>∃ _:Unit,r = .ret (.tup [])/\τ = .boxT (some T) (.ptr 0 0::c::rest)::obs/\True:=by
 refine z_266 ?_; refine z_252 ?_; refine cY (y_eqlnil rfl tt rfl t_128) ?_; refine co_nil ?_; refine cC (fun h1=>?_) fun h1=>?_
 ·cases h1
 ·refine z_132 ?_; refine z_252 ?_; refine cY q_246 ?_; refine cY (y_neqself rfl tt tt rfl rfl 244 q_289 q_289) ?_; refine co_nil ?_; refine cC (fun h2=>?_) fun h2=>?_
  ·cases h2
  ·refine cw_skip ?_;exact ⟨_,res_all (rs:=[]) (cs:=[]) rfl tt (n_2 rfl),⟨(),rfl,rfl,tt⟩⟩
theorem bu_grow (n:Nat) (h1:1<=n) (h2:n<=1000000000):CCalls CC 286 [.ptr 0 0,.val (.int .i64 (n:Int))] [.boxT (some T) (.ptr 0 0::.list [] false none::rest),.dead] fun r τ=>∃ _:Unit,r = .ret (.tup [])/\τ=bStG T rest/\True:=by
 refine (ccalls_of Tryz.func286 rfl rfl ?_);refine cw_seq ?_; refine cw_float [0,1,2,3,4,5,6,7,9,10,11,12,13,8,14,15] 13 [0,1,3,7,15,31,0,127,255,0,512,1536,3584,7680,16383,32767] [[8,9,10,11,12],[],[]] (hd1l:=[0,1,2,3,4,5,6,7,9,10,11,12,13]) (tll:=[(8,[8,9,10,11,12]),(14,[]),(15,[])]) q_289 q_289 rfl rfl rfl ?_; refine z_68 ?_; refine chf rfl (hop_y rfl q_132) ?_; refine chf rfl (hop_y rfl q_220) ?_; refine chf rfl (hop_y rfl (y_cap0 rfl tt rfl t_8)) ?_; refine chf rfl (hop_y rfl (y_mul rfl rfl tt rfl rfl om_ om_)) ?_; refine chf rfl q_206 ?_; refine chf rfl (hop_y rfl q_254) ?_; refine z_68 ?_; refine chf rfl (hop_y rfl q_132) ?_; refine chf rfl (hop_y rfl q_220) ?_; refine chf rfl (hop_y rfl q_99) ?_; refine chf_nil ?_;refine ctl_d rfl rfl (d_makeNoZero (t:=149) (e:=5) rfl Tryz.func308 rfl rfl rfl rfl q_289 tt (congrArg (fun z:Int=>CV.val (.int .i64 z)) (show (2*0+(n:Int))=n by omega)) om_ ?_);refine ⟨⟨q_181,q_243,(by exact hop_y rfl q_132),(by exact hop_y rfl q_220),(by exact hop_y rfl q_99),tt⟩,?_⟩;refine ctl_h rfl (hop_y rfl (y_slice_raw rfl tt tt rfl rfl h1 t_8 t_15)) ⟨tt,?_⟩;refine z_75 ?_; refine z_6 ?_; refine cY q_279 ?_; refine cY q_132 ?_; refine cY q_220 ?_;refine cD (d_copy0 rfl tt tt rfl rfl t_8 t_15 ?_);refine co_nil ?_; refine z_45 ?_; refine cY q_279 ?_; refine z_85 ?_;exact z_181
theorem bu_Grow (hT:LiesB T (rest.length+2)) (n:Nat) (hn1:1<=n) (hn2:n<=1000000000):CCalls CC 247 [.ptr 0 0,.val (.int .i64 (n:Int))] (bSt T false [] rest) fun r τ=>∃ _:Unit,r = .ret (.tup [])/\τ=bStG T rest/\True:=by
 refine (ccalls_of Tryz.func247 rfl rfl ?_);refine z_2 ?_;refine cD (d_callv rfl t_101 ⟨tt,tt⟩ (bu_copy hT false []) rfl ?_);intro _ _; refine z_158 ?_; refine z_12 ?_; refine cC (fun h1=>?_) fun h1=>?_
 ·exact absurd (of_decide_eq_true h1) om_
 ·refine z_9 ?_; refine cw_draw 13 [0,1,3,7,15,0,32,96,224,480,1023,0,4095] q_289 q_289 rfl ?_; refine z_270 ?_; refine hY (y_cap0 rfl tt rfl t_8) ?_; refine z_270 ?_; refine hY q_99 ?_; refine hY (y_sub rfl tt tt rfl rfl si_ si_) ?_; refine hY q_246 ?_; refine hY q_260 ?_; refine z_79 ?_; refine cC (fun h2=>?_) fun h2=>?_
  ·refine z_45 ?_;refine cD (d_callv rfl Tryz.call286 q_296 (bu_grow n hn1 hn2) rfl ?_);intro _ _;exact z_181
  ·exact absurd (of_decide_eq_false h2) (by show ¬ ¬ (0 - 0:Int) < n; omega)
theorem bu_WriteStringG (s:Str) (hs:s≠[]) (hl:s.length<=140737488355328):CCalls CC 200 [.ptr 0 0,sv s] (bStG T rest) fun r τ=>∃ _:Unit,r = .ret (.tup [.val (.int .i64 s.length),.val .nilIface])/\τ=[bBox T 0 3 true s rest,.dead,.dead,gobjT tU8 s.length]/\True:=by
 refine (ccalls_of Tryz.func200 rfl rfl ?_);refine z_0 ?_; refine z_83 ?_; refine z_2 ?_;refine cD (d_callv rfl t_101 ⟨tt,tt⟩ (bu_copyA) rfl ?_);intro _ _; refine z_146 ?_; refine cY q_279 ?_; refine cY q_132 ?_; refine cY q_220 ?_; refine cY q_246 ?_;refine cD (d_appBG (new:=s) (p:=2) rfl tt tt rfl (src_sv rfl) t_8 t_15 t_48 t_22 rfl (.inr t_6) rfl rfl hs q_252 ?_);refine cY q_279 ?_; refine z_85 ?_; refine z_33 ?_; refine cY q_242 ?_;exact z_153
theorem cq_divp {a b:Int} (hb:0 < b) (h1:0<=a) (h2:a<=9223372036854775807):cint .quo .i64 a b=some (.int .i64 (a.tdiv b)):=by
 have hne:b≠0:=by omega
 have h0:0<=a.tdiv b:=Int.tdiv_nonneg h1 om_;have h3:a.tdiv b<=a:=by rw [n_134 h1]; exact Int.ediv_le_self b h1
 simp only [cint,if_neg hne];rw [wr64 om_ om_]
theorem join_ovf {sep:Str} {n:Int} (hs2:sep.length=2) (h1:0 < n) (h2:n<=1000):¬ (9223372036854775807:Int).tdiv n<=(sep.length:Int):=by
 rw [hs2,n_134 de_];have:=Int.le_ediv_of_mul_le h1 (show 1000000*n<=9223372036854775807 by omega);omega
theorem List.take_one_eq {α:Type} {l:List α} {x:α} (h:l[0]? = some x):l.take (0+1)=[x]:=by
 cases l with
 | nil=>simp at h
 | cons a l=>simp at h; subst h; rfl
theorem joinP_len2 {sep:Str} {l:List Str} (hs:sep.length=2) (hl:∀ s∈l,1<=s.length/\s.length<=1000):∀ m,(joinP sep l m).length<=m*1002
 | 0=>by simp [joinP,joinS]
 | m+1=>by
  have ih:=joinP_len2 (sep:=sep) (l:=l) hs hl m;cases hg:l[m]? with
  | none =>
   have:l.length<=m:=by simpa using hg
   have e:joinP sep l (m+1)=joinP sep l m:=by unfold joinP; rw [n_28 (show l.length<=m+1 by omega),n_28 (show l.length<=m by omega)]
   rw [e]; exact n_89 ih (n_19 _ (Nat.le_succ m))
  | some y =>
   have:=(hl y (n_0 hg)).2;rw [joinP_step hg,n_4,n_4]
   split
   ·simp; omega
   ·omega
theorem strings_Join_s (l:List Str) (nn:Bool) (sep:Str) (hs2:sep.length=2) (hl:l.length<=1000) (hl2:∀ s∈l,1<=s.length/\s.length<=1000) (σ:List CObj):CCalls CC 201 [(.list (l.map scv) nn none),(sv sep)] σ fun r σ'=>r = .ret (sv (joinS sep l))/\σ'=σ:=by
 refine CCalls.anyw hCC pu_ pu_ ?_ σ;refine ccalls_val (ccalls_of Tryz.func201 rfl rfl ?_);refine z_54 ?_; refine cY q_100 ?_; refine z_13 ?_; refine z_27 ?_; refine cC (fun h1=>?_) fun h1=>?_
 ·have h0:l=[]:=by simpa using h1
  refine z_19 ?_;exact ⟨_,res1 rfl tt q_269,_,_,rfl,rfl,cls_str (by rw [h0]; rfl)⟩
 ·have h1':¬ l.length=0:=by simp at h1; simpa using h1
  refine z_27 ?_; refine cC (fun h2=>?_) fun h2=>?_
  ·have h1l:l.length=1:=by simp at h2; omega
   obtain ⟨e0,he0⟩:∃ e0,l=[e0]:=by
    rcases l with _ | ⟨a,_ | ⟨b,l⟩⟩
    ·simp at h1l
    ·exact ⟨a,rfl⟩
    ·simp at h1l
   have g0:l[0]? = some e0:=by rw [he0]; rfl
   refine z_2 ?_; refine z_233 ?_; refine z_5 ?_;exact ⟨_,res1 rfl tt q_269,_,_,rfl,rfl,cls_str (by rw [he0]; rfl)⟩
  ·have h2l:2<=l.length:=by
    have:¬ (l.length:Int)=1:=by simpa using h2
    omega
   refine cw_skip ?_; refine z_4 ?_; refine cw_cutd hCC (α:=Nat) (fun n=>[(0,(.list (l.map scv) nn none)),(1,(sv sep)),(5,(.val (.int .i64 (n:Int))))]) (fun _=>[]) (fun n=>1<=n/\n<=2000) q_273 uz_ ?_ ?_
   ·
    refine z_2 ?_; refine z_228 ?_; refine cC (fun h3=>?_) fun h3=>?_
    ·refine z_16 ?_; refine z_193 ?_; refine cY q_100 ?_; refine cY q_253 ?_; refine cY (y_int rfl rfl tt rfl rfl (cq_divp om_ om_ om_)) ?_; refine z_64 ?_; refine cC (fun h4=>?_) fun h4=>?_
     ·exact absurd (of_decide_eq_true h4) (join_ovf hs2 om_ om_)
     ·have hmm:(sep.length:Int)*((l.length:Int) - 1)=2*((l.length:Int) - 1):=by rw [hs2]; rfl
      refine cw_skip ?_; refine z_45 ?_; refine z_193 ?_; refine cY q_100 ?_; refine cY q_253 ?_; refine cY (y_mul rfl tt tt rfl rfl (by rw [hmm]; omega) (by rw [hmm]; omega)) ?_; refine cY q_254 ?_; refine z_1 ?_;exact ⟨(2*(l.length - 1)),_,⟨om_,om_⟩,⟨q_297,q_297,⟨tt,(congrArg (fun z:Int=>CV.val (.int .i64 z)) (show (0+(sep.length:Int)*((l.length:Int) - 1))=((2*(l.length - 1):Nat):Int) by rw [hmm]; omega))⟩,tt⟩,rfl⟩
    ·exact absurd (of_decide_eq_false h3) (by show ¬ ¬ (0:Int) < sep.length; rw [hs2]; decide)
   ·intro n ⟨hn1,hn2⟩; refine z_16 ?_; refine z_107 ?_; refine cw_loopd hCC (α:=Nat × Nat) (fun x=>[(0,(.list (l.map scv) nn none)),(1,(sv sep)),(5,(.val (.int .i64 (x.2:Int)))),(39,(.list (l.map scv) nn none)),(40,(.val (.int .i64 (l.length:Int)))),(41,(.val (.int .i64 (x.1:Int))))]) (fun _=>[]) (fun x=>x.1<=l.length/\1<=x.2/\x.2<=2000+1000*x.1) (fun x=>l.length - x.1) (0,n) ⟨n_3 _,hn1,om_⟩ tu_ (extra0:=[]) rfl q_273 uz_ ?_; intro ⟨i,n'⟩ ⟨hi,hn1',hn2'⟩;dsimp only at hi hn1' hn2' ⊢;refine z_28 ?_; refine cC (fun h5=>?_) fun h5=>?_
    ·have hlt:i < l.length:=by simp at h5; omega
     obtain ⟨y,hy⟩:∃ y,l[i]? = some y:=⟨l[i]'hlt,si_⟩;have hyl:=hl2 y (n_0 hy);refine z_41 ?_; refine cY q_96 ?_; refine cY q_247 ?_; refine z_62 ?_; refine z_193 ?_; refine cY (y_sub rfl rfl tt rfl rfl om_ om_) ?_; refine z_64 ?_; refine cC (fun h6=>?_) fun h6=>?_
     ·exact absurd (of_decide_eq_true h6) om_
     ·refine cw_skip ?_; refine z_45 ?_; refine cY q_242 ?_; refine cY q_254 ?_; refine z_111 ?_;exact ⟨(i+1,n'+y.length),_,⟨do_,do_,do_,do_⟩,tu_,rfl⟩
    ·have hie:i=l.length:=by simp at h5; omega
     obtain ⟨e0,g0⟩:∃ e0,l[0]? = some e0:=⟨l[0]'om_,si_⟩;have he0:=hl2 e0 (n_0 g0);refine z_90 ?_;refine cD (d_allocT rfl Tryz.zeroValue244 rfl q_288 ?_);refine z_33 ?_;refine cD (d_callv rfl Tryz.call247 q_296 ((ccalls_dead (bu_Grow liesB n' hn1' om_))) rfl ?_);intro _ _; refine z_33 ?_; refine z_233 ?_;refine cD (d_callv rfl t_13 q_296 (bu_WriteStringG e0 (by intro h; rw [h] at he0; simp at he0) om_) rfl ?_);intro _ _; refine z_158 ?_; refine cY (y_slice (l:=1) rfl tt rfl t_2 t_0 q_179 ⟨rfl,_,_,rfl,om_,om_⟩ rfl q_211 si_) ?_; refine z_107 ?_; refine cw_loopr hCC 4 rfl (α:=Nat × Bool) (fun x=>[(1,(sv sep)),(8,.ptr 0 0),(63,(.list ((l.drop 1).map scv) nn none)),(64,(.val (.int .i64 ((l.length - 1:Nat):Int)))),(65,(.val (.int .i64 (x.1:Int))))]) (fun x=>[bBox tSB 0 (kp x.2) true (joinP sep l (x.1+1)) [],.dead,.dead,op1 x.2 (joinP sep l (x.1+1)).length,op2 x.2 (joinP sep l (x.1+1)).length]) (fun x=>x.1+1<=l.length) (fun x=>l.length - x.1) ⟨(0,false),[0,1,2,3,7],(show 0+1<=l.length by omega),⟨rfl,rfl⟩,⟨q_87,q_87,⟨tt,(by first|exact .ptr rfl|exact .map rfl|exact .vec rfl|exact .same (show CV.list (((l.map scv).take (l.map scv).length).drop 1) nn none=_ from by rw [n_28 (n_5 _),List.map_drop]) uo_)⟩,⟨tt,(by first|exact .ptr rfl|exact .map rfl|exact .vec rfl|exact .same (show CV.val (.int .i64 ((((l.map scv).take (l.map scv).length).drop 1).length:Int))=_ from by simp) uo_)⟩,q_87,tt⟩,⟨.inr ⟨_,rfl,renO_b de_ rfl (fun c hc=>by cases hc) (by rw [joinP,List.take_one_eq g0]; rfl)⟩,.inl rfl,.inl rfl,.inr ⟨_,rfl,gobjT_len (by rw [joinP,List.take_one_eq g0]; rfl)⟩,.inl rfl,tt⟩⟩ ?_;intro ⟨m,ph⟩ hm;dsimp only at hm ⊢;refine z_28 ?_; refine cC (fun h7=>?_) fun h7=>?_
     ·have hlt:m+1 < l.length:=by simp at h7; omega
      obtain ⟨y,hy⟩:∃ y,l[m+1]? = some y:=⟨l[m+1]'hlt,si_⟩;have hyl:=hl2 y (n_0 hy);have hy':(l.drop 1)[m]? = some y:=by rw [n_49,n_102]; exact hy
      have es:=joinP_step (sep:=sep) hy;rw [if_neg om_] at es;have hjl:=joinP_len2 (sep:=sep) (l:=l) hs2 hl2 (m+1);have hjl2:(m+1)*1002<=1000*1002:=n_19 _ om_;refine z_41 ?_; refine cY (y_index rfl tt tt rfl rfl t_2 t_0 om_ (rows_get hy') rfl) ?_; refine cY q_247 ?_; refine z_38 ?_;refine cD (d_callv rfl t_13 q_296 (bu_WriteString liesB _ (joinP sep l (m+1)) (fun c hc=>by cases hc) sep om_ (σ:=_) (q:=0) (k:=kp ph) ⟨rfl,by cases ph <;> rfl,by cases ph <;> exact n_2 rfl⟩) rfl ?_);intro _ _; refine co_norm [bBox tSB 0 5 true (joinP sep l (m+1)++sep) [],.dead,.dead,.dead,.dead,gobjT tU8 (joinP sep l (m+1)++sep).length] q_271 ?_; refine z_190 ?_;refine cD (d_callv rfl t_13 q_296 (bu_WriteString liesB _ (joinP sep l (m+1)++sep) (fun c hc=>by cases hc) y (by rw [len_app]; omega) (q:=0) (k:=5) ⟨rfl,rfl,n_2 rfl⟩) rfl ?_);intro _ _; refine co_norm [bBox tSB 0 6 true (joinP sep l (m+1)++sep++y) [],.dead,.dead,.dead,.dead,.dead,gobjT tU8 (joinP sep l (m+1)++sep++y).length] rfl ?_; refine z_89 ?_;exact ⟨(m+1,true),[0,1,2,3,6],(show l.length - (m+1) < l.length - m/\m+1+1<=l.length from ⟨om_,om_⟩),⟨rfl,rfl⟩,q_13,⟨.inr ⟨_,rfl,renO_b de_ rfl (fun c hc=>by cases hc) es.symm⟩,.inl rfl,.inl rfl,.inl rfl,.inr ⟨_,rfl,gobjT_len es.symm⟩,tt⟩⟩
     ·have hme:m+1=l.length:=by simp at h7; omega
      refine z_90 ?_;refine cD (d_callv rfl t_84 ⟨tt,tt⟩ (bu_String (rest:=[]) (T:=tSB) (fun c hc=>by cases hc) true (joinP sep l (m+1)) (q:=0) (k:=kp ph) ⟨rfl,by cases ph <;> rfl,by cases ph <;> exact n_2 rfl⟩) rfl ?_);intro _ _; refine z_5 ?_;exact ⟨_,res1 rfl tt q_269,_,_,rfl,rfl,cls_str (by rw [hme,joinP,n_28 (n_5 _)])⟩
open Classical in
noncomputable def bodyT (d:De):Str:=if h:∃ t:Tr,d.body=t.flat 0/\t.wf d.params.length 1 then h.choose.txt d.params 0 else []
theorem bodyT_eq (h:DeG d):∃ t:Tr,d.body=t.flat 0/\t.wf d.params.length 1/\bodyT d=t.txt d.params 0:=by
 refine ⟨h.tree.choose,h.tree.choose_spec.1,h.tree.choose_spec.2,?_⟩;unfold bodyT;rw [dif_pos h.tree]
theorem par80 (h:DeG d):∀ s∈d.params,s.length<=80:=fun s hs=>by have:=nameB_len (h.par s hs).1; omega
theorem bodyT_len (h:DeG d):(bodyT d).length<=76800:=by
 obtain ⟨t,h1,h2,h3⟩:=bodyT_eq h;have:=t.txt_len (par80 h) 1 0 h2;have hb:=h.blen;rw [h1,Tr.flat_len] at hb;rw [h3];omega
def pSrc (d:De):Src:=⟨[112],[],[⟨1,[102],d.params,d.body⟩]⟩
theorem pSrc_ok (h:DeG d):SrcG (pSrc d) where
 pkg:=by show nameB [112]=true/\resB [112]=false; decide
 imp:=fun s hs=>by cases hs
 impl:=n_3 _
 impn:=List.nodup_nil
 impp:=fun h=>by cases h
 dec:=fun e he=>by
  simp only [pSrc,n_13,n_80,or_false] at he;subst he;exact { kind:=.inl rfl,name:=fun _=>by (show nameB [102]=true/\resB [102]=false); decide,path:=fun hk=>absurd (show (1:Int)=3 from hk) de_,pars:=fun hk=>absurd rfl hk,par:=h.par,parl:=h.parl,nod:=h.nod,tree:=h.tree,blen:=h.blen}
 decl:=by show 1<=64; decide
 decn:=by show (List.map _ [_]).Nodup; simp
theorem so_Body_s (d:De) (h:DeG d) (σ:List CObj):CCalls CC 199 [(.list (d.body.map Ex.cv) (gnn d.body.length) none),(.list (d.params.map scv) (gnn d.params.length) none)] σ fun r σ'=>r = .ret (.tup [sv (bodyT d),(.val (.int .i64 (0)))])/\σ'=σ:=by
 refine CCalls.anyw hCC pu_ pu_ ?_ σ;refine ccalls_val (ccalls_of Tryz.func199 rfl rfl ?_);refine z_0 ?_; refine z_83 ?_; refine z_77 ?_; refine cY (y_build' #[(0,1),(1,1),(2,1),(3,1)] rfl ⟨rfl,rfl,tt,tt,tt⟩ t_45 t_46 rfl ⟨_,rfl⟩ (fun w=>by kernel_rfl) rfl rfl) ?_; refine cY (y_lit ([(⟨1,[102],d.params,d.body⟩:De)].map De.cv) rfl ⟨tt,tt⟩ t_38 t_23 t_46 rfl rfl rfl rfl rfl rfl rfl rfl rfl) ?_; refine cY (y_build' #[(0,1),(1,1),(2,1)] rfl ⟨rfl,tt,tt⟩ t_29 t_32 rfl ⟨_,rfl⟩ (fun w=>by kernel_rfl) rfl rfl) ?_; refine cY (y_callf rfl Tryz.call198 ⟨tt,tt⟩ (so_Check_s (pSrc d) (pSrc_ok h) _) rfl) ?_; refine z_208 ?_; refine cC (fun h1=>?_) fun h1=>?_
 ·cases h1
 ·obtain ⟨t,ht1,ht2,ht3⟩:=bodyT_eq h;refine cw_skip ?_; refine z_6 ?_;refine cD (d_callv rfl Tryz.call245 q_296 (so_write (gnn d.body.length) (gnn d.params.length) (by have:=h.blen; omega) t ht1 ⟨1,ht2⟩ (par80 h) _) rfl ?_);rintro dd _;dsimp only;rw [<- ht3];refine z_96 ?_; refine z_38 ?_; refine z_109 ?_;exact ⟨_,res_all (rs:=[.tmp 4,.tmp 5]) (cs:=[_,_]) rfl q_138 (n_2 rfl),_,_,rfl,rfl,(.old (pure_tup (cs:=[sv (bodyT d),.val (.int .i64 0)]) ⟨.val _,.val _,tt⟩).old)⟩
def impT (l:List Str):Str:=(l.map fun s=>[105,109,112,111,114,116,32]++s++[59,10]).flatten
theorem impT_step {l:List Str} {s:Str} (h:l[m]? = some s):impT (l.take (m+1))=impT (l.take m)++([105,109,112,111,114,116,32]++s++[59,10]):=by
 unfold impT;rw [n_50,h];simp
def headT (d:De):Str:=if d.k=1 then [102,117,110,99,32]++d.name++[40]++joinS [44,32] d.params++[41,32,61,32] else if d.k=2 then [116,101,115,116,32]++d.name++[32,61,32] else [103,101,110,32,34]++d.name++[34,32,61,32]
noncomputable def textT (x:Src) (d:De):Str:=([112,97,99,107,97,103,101,32]++x.pkg++[59,10])++impT x.imports++headT d++(bodyT d++[59,10])
theorem impT_len {l:List Str} (h:∀ s∈l,s.length<=80):∀ m,(impT (l.take m)).length<=100*m
 | 0=>by simp [impT]
 | m+1=>by
  have ih:=impT_len h m;cases hg:l[m]? with
  | none =>
   have:l.length<=m:=by simpa using hg
   rw [n_28 (show l.length<=m+1 by omega)];rw [n_28 this] at ih;omega
  | some y =>
   have:=h y (n_0 hg);rw [impT_step hg];simp only [n_4,n_7,n_12];omega
theorem sumS_le {l:List Str} {k:Nat} (h:∀ s∈l,s.length<=k):sumS l<=k*l.length:=by
 induction l with
 | nil=>simp [sumS]
 | cons x l ih =>
  have h1:=h x si_;have h2:=ih fun s hs=>h s (by simp [hs]);simp only [sumS,n_65,List.sum_cons,n_7,Nat.mul_add] at h2 ⊢;omega
theorem De.name_len (h:DeG d):d.name.length<=80:=by
 by_cases h3:d.k=3
 ·exact pathB_len (h.path h3)
 ·have:=nameB_len (h.name h3).1; omega
def kpn (a:Nat) (ph:Bool):Nat:=match ph with | false=>a | true=>a+1
theorem renO_bq {q s':Nat} (hL:q < L) (hs:sel[s']? = some s) (hr:∀ c∈rest,Pure c) (he:l=l'):RenO L sel (bBox T q s a l rest) (bBox T q s' a l' rest):=by
 subst he;refine .box ⟨?_,.list (fun r hr c hc=>(pures_bcv l r hr c hc).old) (fun j hj=>?_),?_⟩
 ·cases a
  ·exact .old (.val _)
  ·exact .old (.ptr hL)
 ·cases hb:l.length with
  | zero=>rw [hb] at hj; cases hj
  | succ m=>rw [hb] at hj; injection hj with hj; subst hj; exact ⟨s,rfl,hs⟩
 ·have:∀ l:List CV,(∀ c∈l,Pure c)->OldL L l:=fun l=>by
   induction l with
   | nil=>intro _; trivial
   | cons x l ih=>intro h; exact ⟨(h x si_).old,ih fun c hc=>h c (by simp [hc])⟩
  exact renL_old (this rest hr)
theorem nameB_pos {s:Str} (h:nameB s=true):1<=s.length:=by
 cases s with
 | nil=>simp [nameB] at h
 | cons a l=>simp
theorem me_Text_s (x:Src) (h:SrcG x) (i:Nat) (d:De) (hx:x.decls[i]? = some d) (hd:DeG d) (hi:i < x.decls.length) (σ:List CObj):CCalls CC 156 [.agg x.cells,(.val (.int .i64 (i:Int)))] σ fun r σ'=>r = .ret (.tup [sv (textT x d),(.val (.int .i64 (0)))])/\σ'=σ:=by
 refine CCalls.anyw hCC pu_ pu_ ?_ σ;refine ccalls_val (ccalls_of Tryz.func156 rfl rfl ?_);refine z_10 ?_; refine z_83 ?_; refine z_42 ?_; refine cY q_185 ?_; refine cY (y_callf rfl Tryz.call198 ⟨tt,tt⟩ (so_Check_s x h _) rfl) ?_; refine z_208 ?_; refine cC (fun h1=>?_) fun h1=>?_
 ·cases h1
 ·refine z_145 ?_; refine z_130 ?_; refine z_180 ?_; refine cG (fun hg=>y_len rfl hg rfl t_38 q_250 rfl) ?_; refine cG q_244 ?_; refine z_61 ?_; refine cC (fun h2=>?_) fun h2=>?_
  ·exact absurd h2 q_287
  ·have hdl:=De.name_len hd;have hbl:=bodyT_len hd;have hpk:=nameB_len h.pkg.1;have himl:=h.impl;have him8:∀ s∈x.imports,s.length<=80:=fun s hs=>by have:=nameB_len (h.imp s hs).1; omega
   have hjl:=joinS_len [44,32] d.params;have hsl:=sumS_le (par80 hd);have hprl:=hd.parl;have e2:([44,32]:Str).length=2:=rfl;rw [e2] at hjl;refine z_46 ?_; refine z_250 ?_; refine cY q_246 ?_; refine cY (y_index rfl tt tt rfl rfl t_38 t_23 om_ (rows_get hx) rfl) ?_; refine cY q_184 ?_; refine z_50 ?_; refine z_48 ?_; refine z_137 ?_; refine z_195 ?_; refine cY (y_callf rfl Tryz.call199 q_296 (so_Body_s d hd _) rfl) ?_; refine z_96 ?_; refine z_118 ?_; refine cC (fun h3=>?_) fun h3=>?_
   ·cases h3
   ·refine z_46 ?_;refine cD (d_allocT rfl Tryz.zeroValue244 rfl q_288 ?_);refine z_48 ?_; refine z_196 ?_; refine cY q_89 ?_; refine cY q_83 ?_;refine cD (d_callv rfl t_13 q_296 ((ccalls_dead (bu_WriteString liesB false [] (fun c hc=>by cases hc) ([112,97,99,107,97,103,101,32]++x.pkg++[59,10]) q_130 (q:=2) (k:=3) ⟨rfl,rfl,n_2 rfl⟩))) rfl ?_);intro _ _; refine co_norm [.box x.cells,.box d.cells,bBox tSB 2 4 true (([112,97,99,107,97,103,101,32]++x.pkg++[59,10])) [],.dead,gobjT tU8 (([112,97,99,107,97,103,101,32]++x.pkg++[59,10])).length] rfl ?_; refine z_67 ?_; refine z_160 ?_; refine z_107 ?_; refine cw_loopr hCC 5 rfl (α:=Nat × Bool) (fun x'=>[(7,.ptr 1 0),(8,(sv (bodyT d))),(10,.ptr 2 0),(49,(.list (x.imports.map scv) (gnn x.imports.length) none)),(50,(.val (.int .i64 (x.imports.length:Int)))),(51,(.val (.int .i64 (x'.1:Int))))]) (fun x'=>[.box x.cells,.box d.cells,bBox tSB 2 (kpn 4 x'.2) true (([112,97,99,107,97,103,101,32]++x.pkg++[59,10])++impT (x.imports.take x'.1)) [],.dead,op1 x'.2 (([112,97,99,107,97,103,101,32]++x.pkg++[59,10])++impT (x.imports.take x'.1)).length,op2 x'.2 (([112,97,99,107,97,103,101,32]++x.pkg++[59,10])++impT (x.imports.take x'.1)).length]) (fun x'=>x'.1<=x.imports.length) (fun x'=>x.imports.length - x'.1) ⟨(0,false),[0,1,2,3,4,9],(n_3 _),⟨rfl,rfl⟩,q_12,⟨.inr ⟨_,rfl,.same rfl (Src.old x _)⟩,.inr ⟨_,rfl,.same rfl (De.old d _)⟩,.inr ⟨_,rfl,renO_bq de_ rfl (fun c hc=>by cases hc) (n_32 _).symm⟩,.inl rfl,.inr ⟨_,rfl,gobjT_len (n_32 _).symm⟩,.inl rfl,tt⟩⟩ ?_; intro ⟨m,ph⟩ hm;dsimp only at hm ⊢;have hil:=impT_len him8 m;refine z_28 ?_; refine cC (fun h4=>?_) fun h4=>?_
    ·have hlt:m < x.imports.length:=by simp at h4; omega
     obtain ⟨y,hy⟩:∃ y,x.imports[m]? = some y:=⟨x.imports[m]'hlt,si_⟩;have hyl:=him8 y (n_0 hy);have es:=impT_step hy;have ej:([112,97,99,107,97,103,101,32]++x.pkg++[59,10])++impT (x.imports.take m)++([105,109,112,111,114,116,32]++y++[59,10])=([112,97,99,107,97,103,101,32]++x.pkg++[59,10])++impT (x.imports.take (m+1)):=by rw [es]; simp only [n_8]
     refine z_41 ?_; refine cY q_96 ?_; refine cY q_247 ?_; refine z_227 ?_; refine cY q_89 ?_; refine cY q_83 ?_;refine cD (d_callv rfl t_13 q_296 (bu_WriteString liesB _ (([112,97,99,107,97,103,101,32]++x.pkg++[59,10])++impT (x.imports.take m)) (fun c hc=>by cases hc) ([105,109,112,111,114,116,32]++y++[59,10]) q_130 (q:=2) (k:=kpn 4 ph) ⟨rfl,by cases ph <;> rfl,by cases ph <;> exact n_2 rfl⟩) rfl ?_);intro _ _; refine co_norm [.box x.cells,.box d.cells,bBox tSB 2 6 true (([112,97,99,107,97,103,101,32]++x.pkg++[59,10])++impT (x.imports.take m)++([105,109,112,111,114,116,32]++y++[59,10])) [],.dead,.dead,.dead,gobjT tU8 (([112,97,99,107,97,103,101,32]++x.pkg++[59,10])++impT (x.imports.take m)++([105,109,112,111,114,116,32]++y++[59,10])).length] q_271 ?_; refine z_89 ?_;exact ⟨(m+1,true),[0,1,2,3,4,6],(show x.imports.length - (m+1) < x.imports.length - m/\m+1<=x.imports.length from ⟨om_,om_⟩),⟨rfl,rfl⟩,q_12,⟨.inr ⟨_,rfl,.same rfl (Src.old x _)⟩,.inr ⟨_,rfl,.same rfl (De.old d _)⟩,.inr ⟨_,rfl,renO_bq de_ rfl (fun c hc=>by cases hc) ej⟩,.inl rfl,.inl rfl,.inr ⟨_,rfl,gobjT_len ej⟩,tt⟩⟩
    ·have hme:m=x.imports.length:=by simp at h4; omega
     rw [hme] at hil;have etk:x.imports.take m=x.imports:=by rw [hme]; exact n_28 (n_5 _)
     rw [etk];rw [<- hme,etk] at hil;refine cw_exit ?_; refine z_42 ?_; refine cY q_153 ?_; refine z_269 ?_; refine cC (fun h5=>?_) fun h5=>?_
     ·have u5:d.k=1:=by simpa using h5
      refine cw_draw 9 [0,1,3,7,0,16,48,127,255,511] q_289 q_289 rfl ?_; refine hY q_152 ?_; refine hY q_237 ?_; refine hY q_89 ?_; refine hY q_83 ?_; refine hY q_140 ?_; refine hY q_228 ?_; refine hY (y_callf rfl Tryz.call201 q_293 (strings_Join_s d.params _ [44,32] rfl om_ (fun s hs=>⟨nameB_pos (hd.par s hs).1,by have:=par80 hd s hs; omega⟩) _) rfl) ?_; refine hY (y_scat rfl tt tt rfl rfl q_130) ?_; refine hY q_83 ?_; refine ch_nil ?_;refine cD (d_callv rfl t_13 q_296 (bu_WriteString liesB _ (([112,97,99,107,97,103,101,32]++x.pkg++[59,10])++impT x.imports) (fun c hc=>by cases hc) ([102,117,110,99,32]++d.name++[40]++joinS [44,32] d.params++[41,32,61,32]) q_130 (q:=2) (k:=kpn 4 ph) ⟨rfl,by cases ph <;> rfl,by cases ph <;> exact n_2 rfl⟩) rfl ?_);intro _ _; refine co_norm [.box x.cells,.box d.cells,bBox tSB 2 6 true (([112,97,99,107,97,103,101,32]++x.pkg++[59,10])++impT x.imports++([102,117,110,99,32]++d.name++[40]++joinS [44,32] d.params++[41,32,61,32])) [],.dead,.dead,.dead,gobjT tU8 (([112,97,99,107,97,103,101,32]++x.pkg++[59,10])++impT x.imports++([102,117,110,99,32]++d.name++[40]++joinS [44,32] d.params++[41,32,61,32])).length] q_271 ?_; refine z_33 ?_; refine cY q_91 ?_;refine cD (d_callv rfl t_13 q_296 (bu_WriteString liesB _ (([112,97,99,107,97,103,101,32]++x.pkg++[59,10])++impT x.imports++([102,117,110,99,32]++d.name++[40]++joinS [44,32] d.params++[41,32,61,32])) (fun c hc=>by cases hc) (bodyT d++[59,10]) q_130 (q:=2) (k:=6) ⟨rfl,rfl,n_2 rfl⟩) rfl ?_);intro _ _; refine co_norm [.box x.cells,.box d.cells,bBox tSB 2 7 true (([112,97,99,107,97,103,101,32]++x.pkg++[59,10])++impT x.imports++([102,117,110,99,32]++d.name++[40]++joinS [44,32] d.params++[41,32,61,32])++(bodyT d++[59,10])) [],.dead,.dead,.dead,.dead,gobjT tU8 (([112,97,99,107,97,103,101,32]++x.pkg++[59,10])++impT x.imports++([102,117,110,99,32]++d.name++[40]++joinS [44,32] d.params++[41,32,61,32])++(bodyT d++[59,10])).length] rfl ?_; refine z_48 ?_;refine cD (d_callv rfl t_84 ⟨tt,tt⟩ (bu_String (rest:=[]) (T:=tSB) (fun c hc=>by cases hc) true (([112,97,99,107,97,103,101,32]++x.pkg++[59,10])++impT x.imports++([102,117,110,99,32]++d.name++[40]++joinS [44,32] d.params++[41,32,61,32])++(bodyT d++[59,10])) (q:=2) (k:=7) ⟨rfl,rfl,n_2 rfl⟩) rfl ?_);intro _ _; refine z_109 ?_;exact ⟨_,res_all (rs:=[.tmp 4,.tmp 5]) (cs:=[_,_]) rfl q_138 (n_2 rfl),_,_,rfl,rfl,(by rw [textT]; rw [headT,if_pos u5]; exact .old (pure_tup (cs:=[sv _,.val (.int .i64 0)]) ⟨.val _,.val _,tt⟩).old)⟩
     ·have u5:¬ d.k=1:=by simpa using h5
      refine z_27 ?_; refine cC (fun h6=>?_) fun h6=>?_
      ·have u6:d.k=2:=by simpa using h6
       refine cw_region ?_; refine z_162 ?_; refine cY q_89 ?_; refine cY q_83 ?_;refine cD (d_callv rfl t_13 q_296 (bu_WriteString liesB _ (([112,97,99,107,97,103,101,32]++x.pkg++[59,10])++impT x.imports) (fun c hc=>by cases hc) ([116,101,115,116,32]++d.name++[32,61,32]) q_130 (q:=2) (k:=kpn 4 ph) ⟨rfl,by cases ph <;> rfl,by cases ph <;> exact n_2 rfl⟩) rfl ?_);intro _ _; refine co_norm [.box x.cells,.box d.cells,bBox tSB 2 6 true (([112,97,99,107,97,103,101,32]++x.pkg++[59,10])++impT x.imports++([116,101,115,116,32]++d.name++[32,61,32])) [],.dead,.dead,.dead,gobjT tU8 (([112,97,99,107,97,103,101,32]++x.pkg++[59,10])++impT x.imports++([116,101,115,116,32]++d.name++[32,61,32])).length] q_271 ?_; refine z_33 ?_; refine cY q_91 ?_;refine cD (d_callv rfl t_13 q_296 (bu_WriteString liesB _ (([112,97,99,107,97,103,101,32]++x.pkg++[59,10])++impT x.imports++([116,101,115,116,32]++d.name++[32,61,32])) (fun c hc=>by cases hc) (bodyT d++[59,10]) q_130 (q:=2) (k:=6) ⟨rfl,rfl,n_2 rfl⟩) rfl ?_);intro _ _; refine co_norm [.box x.cells,.box d.cells,bBox tSB 2 7 true (([112,97,99,107,97,103,101,32]++x.pkg++[59,10])++impT x.imports++([116,101,115,116,32]++d.name++[32,61,32])++(bodyT d++[59,10])) [],.dead,.dead,.dead,.dead,gobjT tU8 (([112,97,99,107,97,103,101,32]++x.pkg++[59,10])++impT x.imports++([116,101,115,116,32]++d.name++[32,61,32])++(bodyT d++[59,10])).length] rfl ?_; refine z_48 ?_;refine cD (d_callv rfl t_84 ⟨tt,tt⟩ (bu_String (rest:=[]) (T:=tSB) (fun c hc=>by cases hc) true (([112,97,99,107,97,103,101,32]++x.pkg++[59,10])++impT x.imports++([116,101,115,116,32]++d.name++[32,61,32])++(bodyT d++[59,10])) (q:=2) (k:=7) ⟨rfl,rfl,n_2 rfl⟩) rfl ?_);intro _ _; refine z_109 ?_;exact ⟨_,res_all (rs:=[.tmp 4,.tmp 5]) (cs:=[_,_]) rfl q_138 (n_2 rfl),_,_,rfl,rfl,(by rw [textT]; rw [headT,if_neg u5,if_pos u6]; exact .old (pure_tup (cs:=[sv _,.val (.int .i64 0)]) ⟨.val _,.val _,tt⟩).old)⟩
      ·have u6:¬ d.k=2:=by simpa using h6
       refine cw_region ?_; refine z_162 ?_; refine cY q_89 ?_; refine cY q_83 ?_;refine cD (d_callv rfl t_13 q_296 (bu_WriteString liesB _ (([112,97,99,107,97,103,101,32]++x.pkg++[59,10])++impT x.imports) (fun c hc=>by cases hc) ([103,101,110,32,34]++d.name++[34,32,61,32]) q_130 (q:=2) (k:=kpn 4 ph) ⟨rfl,by cases ph <;> rfl,by cases ph <;> exact n_2 rfl⟩) rfl ?_);intro _ _; refine co_norm [.box x.cells,.box d.cells,bBox tSB 2 6 true (([112,97,99,107,97,103,101,32]++x.pkg++[59,10])++impT x.imports++([103,101,110,32,34]++d.name++[34,32,61,32])) [],.dead,.dead,.dead,gobjT tU8 (([112,97,99,107,97,103,101,32]++x.pkg++[59,10])++impT x.imports++([103,101,110,32,34]++d.name++[34,32,61,32])).length] q_271 ?_; refine z_33 ?_; refine cY q_91 ?_;refine cD (d_callv rfl t_13 q_296 (bu_WriteString liesB _ (([112,97,99,107,97,103,101,32]++x.pkg++[59,10])++impT x.imports++([103,101,110,32,34]++d.name++[34,32,61,32])) (fun c hc=>by cases hc) (bodyT d++[59,10]) q_130 (q:=2) (k:=6) ⟨rfl,rfl,n_2 rfl⟩) rfl ?_);intro _ _; refine co_norm [.box x.cells,.box d.cells,bBox tSB 2 7 true (([112,97,99,107,97,103,101,32]++x.pkg++[59,10])++impT x.imports++([103,101,110,32,34]++d.name++[34,32,61,32])++(bodyT d++[59,10])) [],.dead,.dead,.dead,.dead,gobjT tU8 (([112,97,99,107,97,103,101,32]++x.pkg++[59,10])++impT x.imports++([103,101,110,32,34]++d.name++[34,32,61,32])++(bodyT d++[59,10])).length] rfl ?_; refine z_48 ?_;refine cD (d_callv rfl t_84 ⟨tt,tt⟩ (bu_String (rest:=[]) (T:=tSB) (fun c hc=>by cases hc) true (([112,97,99,107,97,103,101,32]++x.pkg++[59,10])++impT x.imports++([103,101,110,32,34]++d.name++[34,32,61,32])++(bodyT d++[59,10])) (q:=2) (k:=7) ⟨rfl,rfl,n_2 rfl⟩) rfl ?_);intro _ _; refine z_109 ?_;exact ⟨_,res_all (rs:=[.tmp 4,.tmp 5]) (cs:=[_,_]) rfl q_138 (n_2 rfl),_,_,rfl,rfl,(by rw [textT]; rw [headT,if_neg u5,if_neg u6]; exact .old (pure_tup (cs:=[sv _,.val (.int .i64 0)]) ⟨.val _,.val _,tt⟩).old)⟩
def putU (n:Nat):Str:=if h:n < 128 then [UInt8.ofNat n] else UInt8.ofNat (n%128+128)::putU (n / 128)
termination_by n
decreasing_by omega
theorem putU_step (n:Nat):putU n=if n < 128 then [UInt8.ofNat n] else UInt8.ofNat (n%128+128)::putU (n / 128):=by
 rw [putU]
 split <;> rfl
theorem putU_len {k:Nat} (h:n < 128^(k+1)):(putU n).length<=k+1:=by
 induction k generalizing n with
 | zero=>rw [putU_step,if_pos q_282]; exact n_5 _
 | succ k ih =>
  rw [putU_step]
  split
  ·simp
  ·have:=ih (n:=n / 128) (by rw [Nat.pow_succ] at h; exact Nat.div_lt_of_lt_mul (by rw [n_105]; exact h));simp; omega
def putT (l s:Str):Str:=l++putU s.length++s
theorem or128a:∀ x:Fin 256,(x.val ||| 128)=x.val%128+128:=by decide
theorem or128:(n%256) ||| 128=n%128+128:=by
 have h:∀ x:Fin 256,(x.val ||| 128)=x.val%128+128:=or128a;have:=h ⟨n%256,n_53 _ de_⟩;simp only at this;omega
theorem u8nat (h:n < 256):((UInt8.ofNat n).toNat:Int)=(n:Int):=by
 rw [UInt8.toNat_ofNat',n_104 q_282]
theorem wr8m (n:Nat):IntKind.u8.wrap (n:Int)=((n%256:Nat):Int):=by
 simp [IntKind.wrap,IntKind.signed,IntKind.bits]
theorem src_byte {C:Ctx} {E:Env} {y:Operand} {b:UInt8} {tok:Option Nat} (ey:E.val C y = .list [bcv b] nn tok):∀ M w v,Rel C M σ w->RV M w (E.val C y) v->SrcA C w M ([b].map bcv) 1 v:=fun M w v hr h=>(src_list ey (by intro r hr; simp at hr; subst hr; rfl) M w v hr h).any
theorem rv_bufC {k p:Nat} (hs:sel[p]? = some k):RenV L sel (bufC l k) (bufC l p):=by
 refine .list (fun r hr c hc=>(pures_bcv l r hr c hc).old) (fun j hj=>?_);cases hb:l.length with
 | zero=>rw [hb] at hj; cases hj
 | succ m=>rw [hb] at hj; injection hj with hj; subst hj; exact ⟨k,rfl,hs⟩
theorem orb_row (m:Nat):CV.list [[CV.val (.int .u8 ((m%256 ||| 128:Nat):Int))]] true none = .list [bcv (UInt8.ofNat (m%128+128))] true none:=by
 rw [or128,bcv,u8nat om_]
theorem byte_row (h:m < 128):CV.list [[CV.val (.int .u8 (m:Int))]] true none = .list [bcv (UInt8.ofNat m)] true none:=by
 rw [bcv,u8nat om_]
def garb (k:Nat) (g:CObj):List CObj:=List.replicate k .dead++[g]
theorem garb_len (k:Nat) (g:CObj):(garb k g).length=k+1:=by simp [garb]
theorem garb_get (k:Nat) (g:CObj):(garb k g)[k]? = some g:=by
 rw [garb,n_27 si_]; simp
theorem garb_set (k:Nat) (g g':CObj):(garb k g).set k .dead++[g']=garb (k+1) g':=by
 unfold garb
 congr 1
 rw [List.replicate_succ']
 induction k with
 | zero=>rfl
 | succ k ih=>rw [List.replicate_succ,n_48,List.set_cons_succ,ih]; rfl
theorem fin_garb {k:Nat} {g:CObj}:FinR 1 ((garb k g).set k .dead++[gobjT tU8 l.length]) (.ret (bufC l (garb k g).length)) (.ret (bufC l 1)) [.dead,gobjT tU8 l.length]:=by
 rw [garb_set,garb_len];refine ⟨[0,k+1],rfl,by simp [nodupB],.ret (rv_bufC rfl),.inl rfl,.inr ⟨_,garb_get _ _,gobjT_len rfl⟩,tt⟩
theorem wi_PutUint0 (l:Str) (nn:Bool) (n:Nat) (hl:l.length<=100000000000000) (hn:n < 18446744073709551616):CCalls CC 204 [(.list (l.map bcv) nn none),.val (.int .u64 (n:Int))] [.dead] fun r τ=>FinR 1 τ r (.ret (bufC (l++putU n) 1)) [.dead,gobjT tU8 (l++putU n).length]:=by
 refine (ccalls_of Tryz.func204 rfl rfl ?_);refine z_66 ?_;refine cD (d_appB (l:=[]) (new:=l) (p:=0) rfl rfl tt rfl (fun M w v hr h=>(src_list rfl (by intro r hr; obtain ⟨b,_,rfl⟩:=n_9.1 hr; rfl) M w v hr h).any) t_8 t_15 t_48 t_22 rfl (.inl t_8) rfl rfl q_252 ?_);refine z_1 ?_; refine z_148 ?_; refine cw_loop' (α:=Str × Nat × Nat) (fun x=>[(1,(.val (.int .u64 (x.2.1:Int)))),(5,(bufC x.1 x.2.2))]) (fun x=>garb x.2.2 (gobjT tU8 x.1.length)) (fun x=>l++putU n=x.1++putU x.2.1/\x.2.1<=n) (fun x=>x.2.1) (l,n,1) ⟨rfl,n_5 _⟩ tu_ rfl ?_; intro ⟨b,m,k⟩ _ ⟨hb,hmn⟩;dsimp only at hb hmn ⊢;have hlen:b.length<=l.length+10:=by
  have h1:=congrArg List.length hb;have h2:=putU_len (n:=n) (k:=9) om_;simp only [n_4] at h1;omega
 refine z_183 ?_; refine cC (fun h1=>?_) fun h1=>?_
 ·have h128:¬ m < 128:=by have:=of_decide_eq_true h1; omega
  rw [putU_step m,if_neg h128] at hb;refine z_128 ?_; refine z_6 ?_; refine cY (y_conv rfl tt rfl t_152 t_51 (wr8m m)) ?_; refine cY (y_or8 (a:=(m%256)) (b:=128) rfl tt rfl rfl rfl (n_53 _ de_) de_) ?_; refine cY (y_lit [[.val (.int .u8 ((m%256 ||| 128:Nat):Int))]] rfl ⟨tt,tt⟩ t_8 t_15 t_22 rfl rfl rfl rfl rfl rfl rfl rfl rfl) ?_;refine cD (d_appB (l:=b) (new:=[UInt8.ofNat (m%128+128)]) (p:=k) rfl tt tt rfl (src_byte (orb_row m)) t_8 t_15 t_48 t_22 rfl (.inl t_8) rfl (garb_get _ _) q_252 ?_);refine z_227 ?_; refine cY (y_shrN (m:=7) rfl tt rfl rfl rfl de_ (show (m:Int) / 2^7=((m / 128:Nat):Int) by omega)) ?_; refine z_1 ?_;exact ⟨(b++[UInt8.ofNat (m%128+128)],m / 128,k+1),(show m / 128 < m by omega),(show l++putU n=(b++[UInt8.ofNat (m%128+128)])++putU (m / 128)/\m / 128<=n from ⟨by rw [hb]; simp,om_⟩),⟨q_297,⟨tt,(congrArg (bufC _) (garb_len k _))⟩,tt⟩,(garb_set _ _ _)⟩
 ·have h128:m < 128:=by have:=of_decide_eq_false h1; omega
  rw [putU_step m,if_pos h128] at hb;refine cw_exit ?_; refine z_6 ?_; refine cY (y_conv rfl tt rfl t_152 t_51 ((wr8m m).trans (by rw [n_104 om_]))) ?_; refine cY (y_lit [[.val (.int .u8 (m:Int))]] rfl ⟨tt,tt⟩ t_8 t_15 t_22 rfl rfl rfl rfl rfl rfl rfl rfl rfl) ?_;refine cD (d_appB (l:=b) (new:=[UInt8.ofNat m]) (p:=k) rfl tt tt rfl (src_byte (byte_row h128)) t_8 t_15 t_48 t_22 rfl (.inl t_8) rfl (garb_get _ _) q_252 ?_);refine z_5 ?_;exact ⟨_,res1 rfl tt q_269,(by rw [hb]; exact fin_garb)⟩
theorem wru64 (h:n < 18446744073709551616):IntKind.u64.wrap (n:Int)=(n:Int):=by
 simp [IntKind.wrap,IntKind.signed,IntKind.bits];omega
theorem wi_PutUint (l:Str) (nn:Bool) (n:Nat) (hl:l.length<=100000000000000) (hn:n < 18446744073709551616) (σ:List CObj):CCalls CC 204 [(.list (l.map bcv) nn none),.val (.int .u64 (n:Int))] σ fun r τ=>∃ _:Unit,r = .ret (bufC (l++putU n) (σ.length+1))/\τ=σ++[.dead,gobjT tU8 (l++putU n).length]/\True :=
 ccalls_new (α:=Unit) hCC (fun a ha=>by simp at ha; rcases ha with rfl | rfl; exact pure_bytes _ _; exact .val _) (res:=fun _=>.ret (bufC (l++putU n) 1)) (res':=fun _ m=>.ret (bufC (l++putU n) (m+1))) (S:=fun _=>[.dead,gobjT tU8 (l++putU n).length]) (S':=fun _ _=>[.dead,gobjT tU8 (l++putU n).length]) (P:=fun _=>True)
  (ccalls_dead (ccalls_ren hCC ((wi_PutUint0 l nn n hl hn).mono fun r τ h=>⟨_,_,h,(),rfl,rfl,tt⟩))) (fun _ _=>rfl) (fun _ m i x h=>by
   rcases i with _ | _ | i
   ·injection h with h; subst h; exact ⟨_,rfl,.dead⟩
   ·injection h with h; subst h; exact ⟨_,rfl,ren_gobjT _ _⟩
   ·cases h) (fun _ m=>.ret (ren_bufC rfl)) σ
theorem cls_bytes {τ:List CObj} {k:Nat} (h:l=l'):Cls n τ (bufC l k) (.list (l'.map bcv) (gnn l'.length) none):=by
 subst h;refine .list rfl (fun i r r' h h'=>by rw [h] at h'; injection h' with h'; rw [h']) (fun i j r r' c c' h h' g g'=>?_);rw [h] at h'; injection h' with h'; subst h'
 rw [g] at g'; injection g' with g'; subst g'
 exact .old (pures_bcv l r (n_0 h) c (n_0 g)).old
theorem wi_PutText_s (l:Str) (nn:Bool) (s:Str) (hl:l.length<=100000000000) (hs:s.length<=100000000000) (σ:List CObj):CCalls CC 159 [(.list (l.map bcv) nn none),(sv s)] σ fun r σ'=>r = .ret (.list ((putT l s).map bcv) (gnn (putT l s).length) none)/\σ'=σ:=by
 refine CCalls.anyw hCC pu_ pu_ ?_ σ;refine ccalls_val (ccalls_of Tryz.func159 rfl rfl ?_);refine z_127 ?_; refine cY q_242 ?_; refine cY (y_conv rfl tt rfl t_114 t_152 (wru64 om_)) ?_;refine cD (d_callv rfl Tryz.call204 q_296 (wi_PutUint l nn s.length om_ om_ _) rfl ?_);have hpu:=putU_len (n:=s.length) (k:=9) om_;intro _ _; refine cY q_246 ?_;refine cD (d_appB (l:=(l++putU s.length)) (new:=s) (p:=1) rfl tt tt rfl (src_sv rfl) t_8 t_15 t_48 t_22 rfl (.inr t_6) rfl rfl (by simp only [n_4]; omega) ?_);refine z_5 ?_;exact ⟨_,res1 rfl tt q_269,_,_,rfl,rfl,(by exact cls_bytes (l:=l++putU s.length++s) (k:=2) rfl)⟩
theorem wo_Find (hσ:WAt σ w q1 q2 t fl nn va br ms me) (k:Int) (p o:Str):CCalls CC 90 [.ptr w 0,(.val (.int .i64 k)),(sv p),(sv o)] σ fun r τ=>r = .ret (.agg (findE va me k p o).cells)/\τ=σ :=
 w_ro1 (fun a h=>by simp at h; rcases h with rfl | rfl | rfl <;> exact .val _) (En.pure _) (wo_Find0 fl nn va br ms me k p o) hσ
theorem wo_Data (hσ:WAt σ w q1 q2 t fl nn va br ms me) (s:Str) (hfl:fl.length<=1000000):CCalls CC 110 [.ptr w 0,(sv s)] σ fun r τ=>r = .ret (.tup [sv ((dataF fl s).getD []),.val (.bool (dataF fl s).isSome)])/\τ=σ :=
 w_ro1 (fun a h=>by simp at h; subst h; exact .val _) (pure_tup (cs:=[sv _,.val _]) ⟨.val _,.val _,tt⟩) (wo_Data0 fl nn va br ms me s hfl) hσ
def filesF (ms:SM) (fl:List Fi) (pkg:Str):List Fi:=fl.filter fun f=>(glk ms f.p).isSome && decide (((glk ms f.p).getD Src.z).pkg=pkg)
theorem filesF_step {y:Fi} (h:fl[i]? = some y) (pkg:Str):filesF ms (fl.drop i) pkg=(if ((glk ms y.p).isSome && decide (((glk ms y.p).getD Src.z).pkg=pkg))=true then [y] else [])++filesF ms (fl.drop (i+1)) pkg:=by
 obtain ⟨hlt,rfl⟩:=n_1.1 h;rw [n_25 hlt];unfold filesF;rw [n_56]
 split <;> rfl
theorem wo_Files0 (fl:List Fi) (nn va:Bool) (br:List Str) (ms:SM) (me:EM) (pkg:Str) (hfl:fl.length<=1000000):CCalls CC 158 [.ptr 0 0,(sv pkg)] (wst fl nn va br ms me) fun r τ=>FinR 4 τ r (.ret (.list ((filesF ms fl pkg).map Fi.cv) (gnn (filesF ms fl pkg).length) none)) (wst fl nn va br ms me):=by
 refine (ccalls_of Tryz.func158 rfl rfl ?_);refine z_4 ?_; refine z_54 ?_; refine cY q_279 ?_; refine cY q_143 ?_; refine z_139 ?_; refine cw_loopr hCC 4 rfl (α:=Nat × List Fi) (fun x=>[(0,.ptr 0 0),(1,(sv pkg)),(5,(.list (x.2.map Fi.cv) (gnn x.2.length) (gtok x.2.length 4))),(14,(.list (fl.map Fi.cv) nn none)),(15,(.val (.int .i64 (fl.length:Int)))),(16,(.val (.int .i64 (x.1:Int))))]) (fun x=>[wbx fl nn va br 1 2 3,smO ms,emO me,gobj br.length,gobj x.2.length]) (fun x=>x.1<=fl.length/\x.2.length<=x.1/\filesF ms fl pkg=x.2++filesF ms (fl.drop x.1) pkg) (fun x=>fl.length - x.1) ⟨(0,[]),[0,1,2,3,9],⟨n_3 _,n_5 _,rfl⟩,⟨rfl,rfl⟩,q_1,⟨.inr ⟨_,rfl,.same rfl q_270⟩,.inr ⟨_,rfl,.same rfl q_294⟩,.inr ⟨_,rfl,.same rfl q_295⟩,.inr ⟨_,rfl,.same rfl q_292⟩,.inl rfl,tt⟩⟩ ?_; intro ⟨i,out⟩ ⟨hi,hol,hr⟩;dsimp only at hi hol hr ⊢;refine z_28 ?_; refine cC (fun h1=>?_) fun h1=>?_
 ·have hlt:(i:Int) < fl.length:=by simpa using h1
  obtain ⟨y,hb⟩:∃ y,fl[i]? = some y:=⟨fl[i]'om_,si_⟩;rw [filesF_step hb] at hr;refine z_174 ?_; refine z_8 ?_; refine cw_float [0,1,2,3,4,5,6,7,8,9,10,11,12] 10 [0,1,3,7,0,16,63,127,255,255,0,1535,4095] [[0,1,2,3,4,5,6,7,8,9],[9],[]] (hd1l:=[0,1,2,3,4,5,6,7,8,9]) (tll:=[(10,[0,1,2,3,4,5,6,7,8,9]),(11,[9]),(12,[])]) q_289 q_289 rfl rfl rfl ?_; refine z_68 ?_; refine chf rfl (hop_y rfl q_137) ?_; refine chf rfl (hop_y rfl q_222) ?_; refine chf rfl (hop_y rfl q_161) ?_; refine chf rfl (hop_y rfl q_237) ?_; refine chf rfl (hop_y rfl q_44) ?_; refine chf rfl q_206 ?_; refine chf rfl q_249 ?_; refine chf rfl q_249 ?_; refine chf_nil ?_;refine ctl_d rfl rfl (d_alloc rfl t_32 rfl q_288 ?_);refine ⟨⟨q_181,q_243,(by exact hop_y rfl q_137),(by exact hop_y rfl q_222),(by exact hop_y rfl q_161),(by exact hop_y rfl q_237),(by exact hop_y rfl q_44),q_181,q_214,q_214,tt⟩,?_⟩;refine ctl_d rfl rfl (d_store rfl tt tt rfl q_269 t_47 q_288 rfl rfl (nb rfl) ?_);refine ⟨⟨q_214,tt⟩,?_⟩;refine z_75 ?_; refine z_6 ?_; refine cG (fun hg=>y_field rfl tt rfl t_29 rfl t_0 de_) ?_; refine cG q_207 ?_; refine z_247 ?_; refine z_265 ?_; refine cC (fun h2=>?_) fun h2=>?_
  ·rw [if_pos q_275] at hr;refine z_7 ?_; refine cY q_183 ?_; refine cY q_57 ?_;refine cD (d_appu rfl tt tt rfl si_ q_19 t_19 t_16 t_87 t_17 rfl (.inr rfl) q_21 q_78 q_226 ((out++[y]).map Fi.cv) (out++[y]).length si_ si_ ?_);refine z_111 ?_;exact ⟨(i+1,out++[y]),[0,1,2,3,7],⟨do_,do_,by dsimp only; simp; omega,by dsimp only; rw [hr,n_8]⟩,⟨rfl,rfl⟩,q_1,⟨.inr ⟨_,rfl,.same rfl q_270⟩,.inr ⟨_,rfl,.same rfl q_294⟩,.inr ⟨_,rfl,.same rfl q_295⟩,.inr ⟨_,rfl,.same rfl q_292⟩,.inr ⟨_,rfl,.same rfl q_292⟩,tt⟩⟩
  ·rw [if_neg q_275,n_33] at hr;refine z_51 ?_;exact ⟨(i+1,out),[0,1,2,3,4],⟨do_,do_,do_,hr⟩,⟨rfl,rfl⟩,q_1,⟨.inr ⟨_,rfl,.same rfl q_270⟩,.inr ⟨_,rfl,.same rfl q_294⟩,.inr ⟨_,rfl,.same rfl q_295⟩,.inr ⟨_,rfl,.same rfl q_292⟩,.inr ⟨_,rfl,.same rfl q_292⟩,tt⟩⟩
 ·have hge:fl.length<=i:=by simp at h1; omega
  rw [n_34 hge] at hr;replace hr:filesF ms fl pkg=out:=by rw [hr]; exact n_32 _
  refine z_170 ?_;exact ⟨_,res1 rfl tt q_269,(by rw [hr]; exact fin_w rfl (ren_lst (f:=Fi.cv) (fun a=>⟨.val _,.val _,tt⟩) _))⟩
theorem wo_Files (hσ:WAt σ w q1 q2 t fl nn va br ms me) (pkg:Str) (hfl:fl.length<=1000000):CCalls CC 158 [.ptr w 0,(sv pkg)] σ fun r τ=>r = .ret (.list ((filesF ms fl pkg).map Fi.cv) (gnn (filesF ms fl pkg).length) none)/\τ=σ :=
 w_ro1 (fun a h=>by simp at h; subst h; exact .val _) (pure_fis _ _) (wo_Files0 fl nn va br ms me pkg hfl) hσ
noncomputable def declT (ms:SM) (x:En):Str:=((glk ms x.pl).bind fun s=>(s.decls[x.ix.toNat]?).map fun d=>textT s d).getD []
noncomputable def declF (ms:SM) (x:En):Str:=if x.ct=0 then [45] else if x.ct=1 then [61]++declT ms x else [63]
def EnOk (ms:SM) (x:En):Prop:=x.ct=1->∃ (s:Src) (d:De) (i:Nat),glk ms x.pl=some s/\SrcG s/\x.ix=(i:Int)/\s.decls[i]? = some d
theorem textT_len {x:Src} (h:SrcG x) (hd:DeG d):(textT x d).length<=100000:=by
 have hdl:=De.name_len hd;have hbl:=bodyT_len hd;have hpk:=nameB_len h.pkg.1;have himl:=h.impl;have him8:∀ s∈x.imports,s.length<=80:=fun s hs=>by have:=nameB_len (h.imp s hs).1; omega
 have hil:=impT_len him8 x.imports.length;rw [n_28 (n_5 _)] at hil;have hjl:=joinS_len [44,32] d.params;have hsl:=sumS_le (par80 hd);have hprl:=hd.parl;have e2:([44,32]:Str).length=2:=rfl;rw [e2] at hjl;have hh:(headT d).length<=1200:=by
  unfold headT
  split
  ·simp only [n_4,n_7,n_12]; omega
  ·split
   ·simp only [n_4,n_7,n_12]; omega
   ·simp only [n_4,n_7,n_12]; omega
 unfold textT;simp only [n_4,n_7,n_12];omega
theorem fa_declared0 (fl:List Fi) (nn va:Bool) (br:List Str) (ms:SM) (me:EM) (x:En) (hx:EnOk ms x):CCalls CC 106 [.ptr 0 0,.agg x.cells] (wst fl nn va br ms me) fun r τ=>FinR 4 τ r (.ret (sv (declF ms x))) (wst fl nn va br ms me):=by
 refine (ccalls_of Tryz.func106 rfl rfl ?_);refine z_209 ?_; refine cY q_167 ?_; refine z_269 ?_; refine cC (fun h1=>?_) fun h1=>?_
 ·have u1:x.ct=0:=by simpa using h1
  refine z_19 ?_;exact ⟨_,res1 rfl tt q_269,(by rw [declF,if_pos u1]; exact fin_w rfl (.old (.val _)))⟩
 ·have u1:¬ x.ct=0:=by simpa using h1
  refine z_27 ?_; refine cC (fun h2=>?_) fun h2=>?_
  ·have u2:x.ct=1:=by simpa using h2
   obtain ⟨src,d,i,hg,hsg,hix,hdi⟩:=hx u2;have hdg:=hsg.dec d (n_0 hdi);have hlen:=textT_len hsg hdg;have ed:declT ms x=textT src d:=by rw [declT,hg,n_6,hix,n_63,hdi]; rfl
   refine cw_seq ?_; refine cw_draw 15 [0,1,3,7,0,16,63,0,128,511,1023,2047,2047,4095,16383] q_289 q_289 rfl ?_; refine z_36 ?_; refine hY q_137 ?_; refine hY q_222 ?_; refine hY q_164 ?_; refine hY q_237 ?_; refine hY (y_lookup_g (vc:=vcS) (l:=ms) (a:=x.pl) keyS rfl tt tt rfl rfl t_82 t_32 rfl rfl (show ((glk ms x.pl).map vcS).getD _=vcS src by rw [hg]; rfl)) ?_; refine hY q_167 ?_; refine hY q_238 ?_; refine hY (y_callf rfl Tryz.call156 q_296 ((by have h:=me_Text_s src hsg i d hdi hdg (n_1.1 hdi).1 ((wst fl nn va br ms me)++[.box x.cells]); rw [<- hix] at h; exact h)) rfl) ?_; refine hY q_246 ?_; refine hY q_266 ?_; refine hY q_266 ?_; refine hY q_236 ?_; refine z_263 ?_; refine z_33 ?_; refine cY (y_scat rfl rfl tt rfl rfl (by show 1+(textT src d).length<=_; omega)) ?_; refine z_5 ?_;exact ⟨_,res1 rfl tt q_269,(by rw [declF,if_neg u1,if_pos u2,ed]; exact fin_w rfl (.old (.val _)))⟩
  ·have u2:¬ x.ct=1:=by simpa using h2
   refine z_245 ?_;exact ⟨_,res1 rfl tt q_269,(by rw [declF,if_neg u1,if_neg u2]; exact fin_w rfl (.old (.val _)))⟩
theorem fa_declared (hσ:WAt σ w q1 q2 t fl nn va br ms me) (x:En) (hx:EnOk ms x):CCalls CC 106 [.ptr w 0,.agg x.cells] σ fun r τ=>r = .ret (sv (declF ms x))/\τ=σ :=
 w_ro1 (fun a h=>by simp at h; subst h; exact En.pure _) (.val _) (fa_declared0 fl nn va br ms me x hx) hσ
def filT (l:Str) (fs:List Fi):Str:=fs.foldl (fun l f=>putT (putT l f.p) f.b) l
theorem filT_step {fs:List Fi} {y:Fi} (h:fs[i]? = some y) (l:Str):filT l (fs.drop i)=filT (putT (putT l y.p) y.b) (fs.drop (i+1)):=by
 obtain ⟨hlt,rfl⟩:=n_1.1 h;rw [n_25 hlt];rfl
theorem putT_len {s:Str} (hs:s.length<=100000000000):(putT l s).length<=l.length+s.length+10:=by
 have:=putU_len (n:=s.length) (k:=9) om_;unfold putT;simp only [n_4];omega
theorem filT_len {fs:List Fi} (h:∀ f∈fs,f.p.length<=100/\f.b.length<=100000) (l:Str):(filT l fs).length<=l.length+fs.length*101000:=by
 induction fs generalizing l with
 | nil=>simp [filT]
 | cons y fs ih =>
  have h1:=h y si_;have h2:=ih (fun f hf=>h f (by simp [hf])) (putT (putT l y.p) y.b);have h3:=putT_len (l:=putT l y.p) (s:=y.b) om_;have h4:=putT_len (l:=l) (s:=y.p) om_;rw [n_7,n_20];simp only [filT,n_116] at h2 ⊢;omega
def filesC (ms:SM) (fl:List Fi) (pkg:Str):Str:=[61]++filT [] (filesF ms fl pkg)
theorem filesF_mem {pkg:Str} {f:Fi} (h:f∈filesF ms fl pkg):f∈fl:=(n_108.1 h).1
theorem filesF_le (ms:SM) (fl:List Fi) (pkg:Str):(filesF ms fl pkg).length<=fl.length:=List.length_filter_le _ _
theorem filesC_len {pkg:Str} (hfl:fl.length<=1000) (hfb:∀ f∈fl,f.p.length<=100/\f.b.length<=100000):(filesC ms fl pkg).length<=102000000:=by
 have h1:=filT_len (fun f hf=>hfb f (filesF_mem hf)) (fs:=filesF ms fl pkg) [];have h2:=filesF_le ms fl pkg;have h3:(filesF ms fl pkg).length*101000<=1000*101000:=n_19 _ om_;unfold filesC;simp only [n_4,n_7,n_12] at h1 ⊢;omega
theorem wat_own (fl:List Fi) (nn va:Bool) (br:List Str) (ms:SM) (me:EM):WAt (wst fl nn va br ms me) 0 1 2 3 fl nn va br ms me:=⟨rfl,rfl,rfl,rfl,nodup4 ⟨de_,de_,de_,de_,de_,de_⟩⟩
theorem fa_files0 (fl:List Fi) (nn va:Bool) (br:List Str) (ms:SM) (me:EM) (pkg:Str) (hfl:fl.length<=1000) (hfb:∀ f∈fl,f.p.length<=100/\f.b.length<=100000):CCalls CC 115 [.ptr 0 0,(sv pkg)] (wst fl nn va br ms me) fun r τ=>FinR 4 τ r (.ret (sv (filesC ms fl pkg))) (wst fl nn va br ms me):=by
 have hffl:=filesF_le ms fl pkg;refine (ccalls_of Tryz.func115 rfl rfl ?_);refine z_4 ?_; refine z_4 ?_; refine z_77 ?_; refine cY (y_callf rfl Tryz.call158 q_296 (wo_Files (wat_own fl nn va br ms me) pkg om_) rfl) ?_; refine cY q_101 ?_; refine z_24 ?_; refine cw_loopd hCC (α:=Nat × Str) (fun x=>[(5,(.list (x.2.map bcv) (gnn x.2.length) none)),(10,(.list ((filesF ms fl pkg).map Fi.cv) (gnn (filesF ms fl pkg).length) none)),(11,(.val (.int .i64 ((filesF ms fl pkg).length:Int)))),(12,(.val (.int .i64 (x.1:Int))))]) (fun _=>(wst fl nn va br ms me)) (fun x=>x.1<=(filesF ms fl pkg).length/\x.2.length<=x.1*101000/\filT [] (filesF ms fl pkg)=filT x.2 ((filesF ms fl pkg).drop x.1)) (fun x=>(filesF ms fl pkg).length - x.1) (0,[]) ⟨n_3 _,n_3 _,rfl⟩ tu_ (extra0:=[]) rfl q_273 uz_ ?_; intro ⟨i,l⟩ ⟨hi,hl,hr⟩;dsimp only at hi hl hr ⊢;refine z_28 ?_; refine cC (fun h1=>?_) fun h1=>?_
 ·have hlt:(i:Int) < (filesF ms fl pkg).length:=by simpa using h1
  obtain ⟨y,hb⟩:∃ y,(filesF ms fl pkg)[i]? = some y:=⟨(filesF ms fl pkg)[i]'om_,si_⟩;rw [filT_step hb] at hr;obtain ⟨hyp,hyb⟩:=hfb y (filesF_mem (n_0 hb));have hp1:=putT_len (l:=l) (s:=y.p) om_;have hp2:=putT_len (l:=putT l y.p) (s:=y.b) om_;have hi2:i*101000<=1000*101000:=n_19 _ om_;refine z_174 ?_; refine co_nil ?_; refine cw_draw 8 [0,0,2,7,0,16,63,127] q_289 q_289 rfl ?_; refine hY q_246 ?_; refine hY q_161 ?_; refine hY q_237 ?_; refine hY (y_callf rfl t_106 q_296 (wi_PutText_s l _ y.p om_ om_ _) rfl) ?_; refine hY q_161 ?_; refine hY q_237 ?_; refine hY (y_callf rfl t_106 q_296 (wi_PutText_s (putT l y.p) _ y.b om_ om_ _) rfl) ?_; refine hY q_236 ?_; refine z_79 ?_; refine z_21 ?_;exact ⟨(i+1,putT (putT l y.p) y.b),_,⟨do_,do_,do_,hr⟩,tu_,rfl⟩
 ·have hge:(filesF ms fl pkg).length<=i:=by simp at h1; omega
  rw [n_34 hge] at hr;replace hr:filT [] (filesF ms fl pkg)=l:=hr;have hi2:i*101000<=1000*101000:=n_19 _ om_;refine z_65 ?_; refine cY q_107 ?_; refine cY (y_scat rfl rfl tt rfl rfl (by show 1+l.length<=_; omega)) ?_; refine z_5 ?_;exact ⟨_,res1 rfl tt q_269,(by rw [filesC,hr]; exact fin_w rfl (.old (.val _)))⟩
theorem fa_files (hσ:WAt σ w q1 q2 t fl nn va br ms me) (pkg:Str) (hfl:fl.length<=1000) (hfb:∀ f∈fl,f.p.length<=100/\f.b.length<=100000):CCalls CC 115 [.ptr w 0,(sv pkg)] σ fun r τ=>r = .ret (sv (filesC ms fl pkg))/\τ=σ :=
 w_ro1 (fun a h=>by simp at h; subst h; exact .val _) (.val _) (fa_files0 fl nn va br ms me pkg hfl hfb) hσ
end Go.Proofs.YtlppbmfecjabeaaGreatDoor
namespace Go.Proofs
open Go.Shelf
def Tryz.lays190_ren:Go.Shelf.Ren:=⟨fun | 190=>161 | 125=>166 | 258=>206 | 128=>216 | 129=>217 | 302=>252 | 303=>253 | 304=>254 | 305=>255 | 306=>256 | 307=>257 | 308=>258 | 309=>259 | 310=>260 | 333=>291 | 329=>265 | 330=>266 | 334=>292 | 335=>293 | 336=>294 | 344=>311 | n=>n,fun | 31=>26 | 9=>9 | 3=>3 | 46=>141 | 0=>0 | 51=>262 | 53=>86 | 4=>4 | 183=>256 | 182=>255 | 131=>139 | 5=>5 | 218=>292 | 222=>296 | 228=>320 | 229=>321 | n=>n,fun | n=>n⟩
theorem Tryz.lays190:Go.Proofs.Lays.n190 Tryz.prog Tryz.lays190_ren:={
 mixed:=by kernel_rfl
 f125:=Tryz.func166.trans (congrArg some q_289)
 f128:=Tryz.func216.trans (congrArg some q_289)
 f129:=t_129.trans (congrArg some q_289)
 f190:=Tryz.func161.trans (congrArg some q_289)
 f258:=Tryz.func206.trans (congrArg some q_289)
 f302:=Tryz.func252.trans (congrArg some q_289)
 f303:=Tryz.func253.trans (congrArg some q_289)
 f304:=Tryz.func254.trans (congrArg some q_289)
 f305:=Tryz.func255.trans (congrArg some q_289)
 f306:=Tryz.func256.trans (congrArg some q_289)
 f307:=Tryz.func257.trans (congrArg some q_289)
 f308:=Tryz.func258.trans (congrArg some q_289)
 f309:=Tryz.func259.trans (congrArg some q_289)
 f310:=Tryz.func260.trans (congrArg some q_289)
 f329:=Tryz.func265.trans (congrArg some q_289)
 f330:=Tryz.func266.trans (congrArg some q_289)
 f333:=Tryz.func291.trans (congrArg some q_289)
 f334:=Tryz.func292.trans (congrArg some q_289)
 f335:=Tryz.func293.trans (congrArg some q_289)
 f336:=Tryz.func294.trans (congrArg some q_289)
 f344:=Tryz.func311.trans (congrArg some q_289)
 t0:=t_130
 a0:=t_131
 z0:=t_132
 v0:=t_133
 t3:=t_102
 a3:=t_14
 z3:=t_1
 v3:=t_9
 t4:=t_134
 a4:=t_103
 z4:=t_104
 v4:=t_135
 t5:=t_136
 a5:=t_66
 z5:=t_15
 v5:=t_22
 t9:=t_137
 a9:=t_10
 z9:=t_0
 v9:=t_3
 t31:=Tryz.underlying26
 a31:=t_107
 z31:=t_21
 v31:=Tryz.zeroValue26
 t46:=t_139
 a46:=t_140
 z46:=t_141
 v46:=t_142
 t51:=t_143
 a51:=t_144
 z51:=t_145
 v51:=t_146
 t53:=t_147
 a53:=t_148
 z53:=t_149
 v53:=t_150
 t131:=Tryz.underlying139
 a131:=Tryz.isAgg139
 z131:=Tryz.sizeOf139
 v131:=Tryz.zeroValue139
 t182:=Tryz.underlying255
 a182:=Tryz.isAgg255
 z182:=Tryz.sizeOf255
 v182:=Tryz.zeroValue255
 t183:=Tryz.underlying256
 a183:=Tryz.isAgg256
 z183:=Tryz.sizeOf256
 v183:=Tryz.zeroValue256
 t218:=Tryz.underlying292
 a218:=Tryz.isAgg292
 z218:=Tryz.sizeOf292
 v218:=Tryz.zeroValue292
 t222:=Tryz.underlying296
 a222:=Tryz.isAgg296
 z222:=Tryz.sizeOf296
 v222:=Tryz.zeroValue296
 t228:=Tryz.underlying320
 a228:=Tryz.isAgg320
 z228:=Tryz.sizeOf320
 v228:=Tryz.zeroValue320
 t229:=Tryz.underlying321
 a229:=Tryz.isAgg321
 z229:=Tryz.sizeOf321
 v229:=Tryz.zeroValue321}
end Go.Proofs
namespace Go.Proofs.YtlppbmfecjabeaaGreatDoor
open Go Go.Cl
variable {fl:List Fi} {ms:SM} {σ G H W:List CObj} {me:EM} {nn:Bool} {w q1 q2 t i b:Nat} {br N:List Str} {v:CObj} {pkg s:Str} {f:Fi} {ev:List Va}
theorem str_Sort {k:Nat} {ss:List Str} (hne:ss≠[]) (hlen:ss.length<=1000000) (hk:σ[k]? = some (.vec 1 (ss.map scv))):CCalls CC 161 [.vec k 0 ss.length] σ fun r τ=>∃ _:Unit,r = .ret (.tup [])/\τ=σ.set k (.vec 1 ((srtS ss).map scv))/\True :=
 (sort_vec (f:=161) (fun blk off cap ss w h1 h2 h3=>strs_sorted Tryz.lays190 blk off cap ss w h1 h2 h3) hne om_ hk).mono fun r τ h=>⟨(),h.1,h.2,tt⟩
def imps (ms:SM) (f:Fi):List Str:=((glk ms f.p).getD Src.z).imports
inductive Reach (ms:SM) (fl:List Fi) (pkg:Str):Str->Prop where
 | base:Reach ms fl pkg pkg
 | step {n:Str} {f:Fi} {s:Str}:Reach ms fl pkg n->f∈filesF ms fl n->s∈imps ms f->Reach ms fl pkg s
def allI (ms:SM) (fl:List Fi):List Str:=fl.flatMap (imps ms)
theorem reach_in {n:Str} (h:Reach ms fl pkg n):n∈pkg::allI ms fl:=by
 cases h with
 | base=>simp
 | step _ hf hs=>exact n_59 _ (n_81.2 ⟨_,filesF_mem hf,hs⟩)
structure NmI (ms:SM) (fl:List Fi) (pkg:Str) (N:List Str):Prop where
 nd:N.Nodup
 rch:∀ n∈N,Reach ms fl pkg n
 pk:pkg∈N
theorem NmI.len (h:NmI ms fl pkg N):N.length<=1+(allI ms fl).length:=by
 have:=List.Nodup.length_le_of_subset h.nd (fun n hn=>reach_in (h.rch n hn));simpa [n_102] using this
theorem NmI.snoc {n:Str} (h:NmI ms fl pkg N) (hn:n∈N) (hf:f∈filesF ms fl n) (hs:s∈imps ms f) (hsN:s∉N):NmI ms fl pkg (N++[s]) where
 nd:=nodup_snoc h.nd hsN
 rch:=fun m hm=>by
  rcases n_18.1 hm with hm | hm
  ·exact h.rch m hm
  ·simp at hm; subst hm; exact .step (h.rch n hn) hf hs
 pk:=n_86 _ h.pk
theorem reach_closed (h:NmI ms fl pkg N) (hc:∀ n∈N,∀ f∈filesF ms fl n,∀ s∈imps ms f,s∈N) (n:Str):n∈N↔Reach ms fl pkg n :=
 ⟨h.rch n,fun hr=>by
  induction hr with
  | base=>exact h.pk
  | step _ hf hs ih=>exact hc _ ih _ hf _ hs⟩
theorem srtS_unique {A B:List Str} (hA:A.Nodup) (hB:B.Nodup) (h:∀ n,n∈A↔n∈B):srtS A=srtS B:=by
 have hp:A.Perm B:=(n_132 hA hB).2 h;have tr:∀ (a b c:Str),decide (a<=b)=true->decide (b<=c)=true->decide (a<=c)=true:=fun a b c h1 h2=>by
  simp only [n_51] at h1 h2 ⊢; exact List.le_trans h1 h2
 have to:∀ (a b:Str),(decide (a<=b) || decide (b<=a))=true:=fun a b=>by
  simp only [n_39,n_51]; exact List.le_total a b
 refine List.Perm.eq_of_pairwise (le:=fun a b=>decide (a<=b)=true) (fun a b _ _ h1 h2=>?_) (n_138 tr to A) (n_138 tr to B) ((n_124 A _).trans (hp.trans (n_124 B _).symm));simp only [n_51] at h1 h2;exact List.le_antisymm h1 h2
open Classical in
noncomputable def treeNs (ms:SM) (fl:List Fi) (pkg:Str):List Str:=if h:∃ N:List Str,N.Nodup/\∀ n,n∈N↔Reach ms fl pkg n then srtS h.choose else []
theorem treeNs_eq (hN:N.Nodup) (h:∀ n,n∈N↔Reach ms fl pkg n):treeNs ms fl pkg=srtS N:=by
 have hex:∃ N:List Str,N.Nodup/\∀ n,n∈N↔Reach ms fl pkg n:=⟨N,hN,h⟩;unfold treeNs;rw [dif_pos hex];exact srtS_unique hex.choose_spec.1 hN fun n=>(hex.choose_spec.2 n).trans (h n).symm
def treT (ms:SM) (fl:List Fi) (l:Str) (N:List Str):Str:=N.foldl (fun l s=>putT (putT l s) (filesC ms fl s)) l
theorem treT_step {y:Str} (h:N[i]? = some y) (l:Str):treT ms fl l (N.drop i)=treT ms fl (putT (putT l y) (filesC ms fl y)) (N.drop (i+1)):=by
 obtain ⟨hlt,rfl⟩:=n_1.1 h;rw [n_25 hlt];rfl
noncomputable def treeC (ms:SM) (fl:List Fi) (pkg:Str):Str:=[61]++treT ms fl [] (treeNs ms fl pkg)
def tst (W G:List CObj) (v:CObj) (H:List CObj):List CObj:=W++G++v::H
theorem tst_get (hW:W.length=4):(tst W G v H)[4+G.length]? = some v:=by
 rw [tst,n_27 (by simp [hW])]; simp [hW]
theorem tst_set {v':CObj} (hW:W.length=4):(tst W G v H).set (4+G.length) v'=tst W G v' H:=by
 rw [tst,List.set_append_right _ _ (by simp [hW])]; simp [hW,tst]
theorem tst_app {v':CObj} (hW:W.length=4):(tst W G v H).set (4+G.length) .dead++[v']=tst W (G++.dead::H) v' []:=by
 rw [tst_set hW]; simp [tst]
theorem tst_len (hW:W.length=4):(tst W G v H).length=4+(G++CObj.dead::H).length:=by
 simp [tst,hW]
theorem tst_box (a b:CObj):(tst W G v H++[a]).set (tst W G v H).length b=tst W G v (H++[b]):=by
 rw [List.set_append_right _ _ (n_5 _)]; simp [tst]
theorem str_ContainsV {k:Nat} (s:Str) (hk:σ[k]? = some (.vec 1 (N.map scv))) (hl:N.length<=1000000):CCalls CC 160 [.vec k 0 N.length,sv s] σ fun r σ'=>r = .ret (.val (.bool (decide (s∈N))))/\σ'=σ:=by
 have h:=str_Contains N true s om_;refine ccalls_borrow (len:=N.length) (rows:=N.map scv) hCC (fun a ha=>by simp at ha; subst ha; exact .val _) (fun r hr c hc=>?_) si_ hk ?_
 ·obtain ⟨x,_,rfl⟩:=n_9.1 hr;simp [scv] at hc;subst hc;exact .val _
 ·rw [show ((N.map scv).drop 0).take N.length=N.map scv from by rw [n_70,n_28 si_]];exact h
theorem wat_tst (fl:List Fi) (nn va:Bool) (br:List Str) (ms:SM) (me:EM):WAt (tst (wst fl nn va br ms me) G v H) 0 1 2 3 fl nn va br ms me:=⟨rfl,rfl,rfl,rfl,nodup4 ⟨de_,de_,de_,de_,de_,de_⟩⟩
theorem allI_mem (h:f∈fl):(imps ms f).length<=(allI ms fl).length:=by
 unfold allI
 induction fl with
 | nil=>cases h
 | cons x l ih =>
  rw [n_82,n_4]
  rcases n_13.1 h with rfl | h
  ·omega
  ·have:=ih h; omega
theorem fa_tree0 (fl:List Fi) (nn va:Bool) (br:List Str) (ms:SM) (me:EM) (pkg:Str) (hfl:fl.length<=64) (hfb:∀ f∈fl,f.p.length<=100/\f.b.length<=100000) (allI_len:(allI ms fl).length<=512) (reach_len:∀ {n:Str},Reach ms fl pkg n->n.length<=100000):CCalls CC 117 [.ptr 0 0,(sv pkg)] (wst fl nn va br ms me) fun r τ=>FinR 4 τ r (.ret (sv (treeC ms fl pkg))) (wst fl nn va br ms me):=by
 refine (ccalls_of Tryz.func117 rfl rfl ?_);refine z_66 ?_;refine cD (d_lit1v rfl tt rfl rfl t_2 t_0 t_3 rfl ?_);refine z_1 ?_; refine cw_seq ?_; refine z_203 ?_; refine cw_loop' (α:=Nat × List Str × List CObj × List CObj) (fun x=>[(0,.ptr 0 0),(5,.vec (4+x.2.2.1.length) 0 x.2.1.length),(6,(.val (.int .i64 (x.1:Int))))]) (fun x=>tst (wst fl nn va br ms me) x.2.2.1 (.vec 1 (x.2.1.map scv)) x.2.2.2) (fun x=>NmI ms fl pkg x.2.1/\x.1<=x.2.1.length/\∀ n∈x.2.1.take x.1,∀ f∈filesF ms fl n,∀ s∈imps ms f,s∈x.2.1) (fun x=>1+(allI ms fl).length - x.1) (0,[pkg],[],[]) ⟨⟨si_,fun n hn=>by simp at hn; subst hn; exact .base,si_⟩,n_3 _,fun n hn=>by simp at hn⟩ tu_ rfl ?_; intro ⟨i,N,G,H⟩ _ ⟨hN,hi,hc⟩;dsimp only at hN hi hc ⊢;have hNl:=hN.len;have hal:=allI_len;refine z_77 ?_; refine cY (y_len_vec rfl tt rfl t_2 rfl rfl) ?_; refine z_64 ?_; refine cC (fun h1=>?_) fun h1=>?_
 ·have hlt:i < N.length:=by simp at h1; omega
  obtain ⟨n,gn⟩:∃ n,N[i]? = some n:=⟨N[i]'hlt,si_⟩;have hffl:=filesF_le ms fl n;refine z_20 ?_; refine z_49 ?_; refine cY (y_index_v rfl tt tt rfl rfl t_2 t_0 (tst_get rfl) om_ om_) ?_; refine cY (y_load_e1 rfl tt rfl t_10 (tst_get rfl) (rows_get (by rw [n_10]; exact gn)) rfl) ?_; refine cY (y_callf rfl Tryz.call158 q_296 (wo_Files (wat_tst fl nn va br ms me) n om_) rfl) ?_; refine cY q_101 ?_; refine z_24 ?_; refine cw_loop' (α:=Nat × List Str × List CObj × List CObj) (fun x=>[(0,.ptr 0 0),(5,.vec (4+x.2.2.1.length) 0 x.2.1.length),(6,(.val (.int .i64 (i:Int)))),(27,(.list ((filesF ms fl n).map Fi.cv) (gnn (filesF ms fl n).length) none)),(28,(.val (.int .i64 ((filesF ms fl n).length:Int)))),(29,(.val (.int .i64 (x.1:Int))))]) (fun x=>tst (wst fl nn va br ms me) x.2.2.1 (.vec 1 (x.2.1.map scv)) x.2.2.2) (fun x=>NmI ms fl pkg x.2.1/\(∃ t,x.2.1=N++t)/\x.1<=(filesF ms fl n).length/\∀ f∈(filesF ms fl n).take x.1,∀ s∈imps ms f,s∈x.2.1) (fun x=>(filesF ms fl n).length - x.1) (0,N,G,H) ⟨hN,⟨[],si_⟩,n_3 _,fun f hf=>by simp at hf⟩ tu_ rfl ?_; intro ⟨q,N1,G1,H1⟩ _ ⟨hN1,hpre,hq,hc1⟩;dsimp only at hN1 hpre hq hc1 ⊢;have hNl1:=hN1.len;refine z_28 ?_; refine cC (fun h2=>?_) fun h2=>?_
  ·have hlq:q < (filesF ms fl n).length:=by simp at h2; omega
   obtain ⟨y,hy⟩:∃ y,(filesF ms fl n)[q]? = some y:=⟨(filesF ms fl n)[q]'hlq,si_⟩;have hym:=n_0 hy;refine z_41 ?_; refine z_234 ?_;refine cD (d_alloc rfl t_17 rfl q_288 ?_);refine cD (d_store rfl tt tt rfl q_269 t_16 q_288 n_77 rfl (nb rfl) ?_);refine z_8 ?_; refine cw_draw 10 [0,1,3,7,0,16,63,127,255,0] q_289 q_289 rfl ?_; refine z_36 ?_; refine hY q_137 ?_; refine hY q_222 ?_; refine hY q_161 ?_; refine hY (y_load1 rfl tt rfl t_10 (by rw [n_76 si_]) rfl) ?_; refine hY (y_lookup_g (vc:=vcS) (l:=ms) (a:=y.p) keyS rfl tt tt rfl rfl t_82 t_32 rfl rfl (lk_dflt Src.z rfl _)) ?_; refine hY (y_fieldv1 rfl tt rfl t_29 rfl t_107 rfl) ?_; refine hY q_100 ?_; refine hY q_241 ?_; refine ch_nil ?_; refine z_13 ?_; refine cw_loop' (α:=Nat × List Str × List CObj × List CObj) (fun x=>[(0,.ptr 0 0),(5,.vec (4+x.2.2.1.length) 0 x.2.1.length),(6,(.val (.int .i64 (i:Int)))),(27,(.list ((filesF ms fl n).map Fi.cv) (gnn (filesF ms fl n).length) none)),(28,(.val (.int .i64 ((filesF ms fl n).length:Int)))),(29,(.val (.int .i64 (q:Int)))),(40,(.list ((imps ms y).map scv) (gnn (imps ms y).length) none)),(41,(.val (.int .i64 ((imps ms y).length:Int)))),(42,(.val (.int .i64 (x.1:Int))))]) (fun x=>tst (wst fl nn va br ms me) x.2.2.1 (.vec 1 (x.2.1.map scv)) x.2.2.2) (fun x=>NmI ms fl pkg x.2.1/\(∃ t,x.2.1=N1++t)/\x.1<=(imps ms y).length/\∀ s∈(imps ms y).take x.1,s∈x.2.1) (fun x=>(imps ms y).length - x.1) (0,N1,G1,H1++[.box y.cells]) ⟨hN1,⟨[],si_⟩,n_3 _,fun f hf=>by simp at hf⟩ tu_ (tst_box _ _) ?_; intro ⟨r,N2,G2,H2⟩ _ ⟨hN2,hpre2,hr,hc2⟩;dsimp only at hN2 hpre2 hr hc2 ⊢;have hNl2:=hN2.len;have hil:(imps ms y).length<=(allI ms fl).length:=allI_mem (filesF_mem hym);refine z_28 ?_; refine cC (fun h3=>?_) fun h3=>?_
   ·have hlr:r < (imps ms y).length:=by simp at h3; omega
    obtain ⟨s,hs⟩:∃ s,(imps ms y)[r]? = some s:=⟨(imps ms y)[r]'hlr,si_⟩;have hsm:=n_0 hs;have htk:(imps ms y).take (r+1)=(imps ms y).take r++[s]:=by rw [n_50,hs]; rfl
    refine z_41 ?_; refine z_236 ?_; refine z_1 ?_; refine z_6 ?_; refine cY (y_callf rfl t_72 q_296 (str_ContainsV s (tst_get rfl) om_) rfl) ?_; refine z_32 ?_; refine cC (fun h4=>?_) fun h4=>?_
    ·have h4':s∉N2:=by simpa using h4
     obtain ⟨t1,ht1⟩:=hpre;obtain ⟨t2,ht2⟩:=hpre2;have hnN2:n∈N2:=by rw [ht2,ht1]; simp [n_0 gn]
     have hsn:=hN2.snoc hnN2 hym hsm h4';have hsnl:=hsn.len;rw [n_4,n_111] at hsnl;refine z_45 ?_; refine cY (y_lit [scv s] rfl ⟨tt,tt⟩ t_2 t_0 t_3 rfl rfl rfl rfl rfl rfl rfl rfl rfl) ?_;refine cD (d_append_v' ((N2++[s]).map scv) (N2++[s]).length rfl tt tt rfl q_19 t_2 t_0 t_24 t_3 rfl (tst_get rfl) q_226 si_ q_81 q_226 si_ si_ ?_);refine z_111 ?_;exact ⟨(r+1,N2++[s],G2++.dead::H2,[]),do_,⟨hsn,⟨t2++[s],by rw [ht2,n_8]⟩,do_,fun z hz=>by
      dsimp only at hz ⊢;rw [htk] at hz
      rcases n_18.1 hz with hz | hz
      ·exact n_86 _ (hc2 z hz)
      ·simp at hz; subst hz; simp⟩,⟨q_297,⟨tt,(congrArg (fun k=>CV.vec k 0 (N2++[s]).length) (tst_len rfl))⟩,q_297,q_297,q_297,q_297,q_297,q_297,q_297,tt⟩,(tst_app rfl)⟩
    ·have h4':s∈N2:=by simpa using h4
     refine z_51 ?_;exact ⟨(r+1,N2,G2,H2),do_,⟨hN2,hpre2,do_,fun z hz=>by
      dsimp only at hz ⊢;rw [htk] at hz
      rcases n_18.1 hz with hz | hz
      ·exact hc2 z hz
      ·simp at hz; subst hz; exact h4'⟩,tu_,rfl⟩
   ·have hre:r=(imps ms y).length:=by simp at h3; omega
    obtain ⟨t1,ht1⟩:=hpre;obtain ⟨t2,ht2⟩:=hpre2;have htk:(filesF ms fl n).take (q+1)=(filesF ms fl n).take q++[y]:=by rw [n_50,hy]; rfl
    refine z_207 ?_;exact ⟨(q+1,N2,G2,H2),do_,⟨hN2,⟨t1++t2,by rw [ht2,ht1,n_8]⟩,do_,fun z hz s hs=>by
     dsimp only at hz ⊢;rw [htk] at hz
     rcases n_18.1 hz with hz | hz
     ·rw [ht2]; exact n_86 _ (hc1 z hz s hs)
     ·simp at hz; subst hz; exact hc2 s (by rw [hre,n_28 (n_5 _)]; exact hs)⟩,tu_,rfl⟩
  ·have hqe:q=(filesF ms fl n).length:=by simp at h2; omega
   obtain ⟨t1,ht1⟩:=hpre;have htk:N1.take (i+1)=N.take i++[n]:=by
    rw [ht1,List.take_append_of_le_length om_,n_50,gn]; rfl
   refine cw_exit ?_; refine z_116 ?_;exact ⟨(i+1,N1,G1,H1),do_,⟨hN1,by dsimp only; rw [ht1,n_4]; omega,fun z hz f hf s hs=>by
    dsimp only at hz ⊢;rw [htk] at hz
    rcases n_18.1 hz with hz | hz
    ·rw [ht1]; exact n_86 _ (hc z hz f hf s hs)
    ·simp at hz; subst hz; exact hc1 f (by rw [hqe,n_28 (n_5 _)]; exact hf) s hs⟩,tu_,rfl⟩
 ·have hie:i=N.length:=by simp at h1; omega
  have hcl:=reach_closed hN (fun n hn=>hc n (by rw [hie,n_28 (n_5 _)]; exact hn));have hT:=treeNs_eq hN.nd hcl;have hpl:(srtS N).length=N.length:=n_119 _;have hne:N≠[]:=fun h=>by have:=hN.pk; rw [h] at this; cases this
  refine z_65 ?_;refine cD (d_callv rfl Tryz.call161 ⟨tt,tt⟩ (str_Sort hne om_ (tst_get rfl)) rfl ?_);intro _ _; refine co_norm (tst (wst fl nn va br ms me) G (.vec 1 ((srtS N).map scv)) H) (tst_set rfl) ?_; refine co_nil ?_; refine z_54 ?_; refine cY (y_len_vec rfl tt rfl t_2 rfl rfl) ?_; refine z_24 ?_; refine cw_loop' (α:=Nat × Str) (fun x=>[(0,.ptr 0 0),(11,(.list (x.2.map bcv) (gnn x.2.length) none)),(58,.vec (4+G.length) 0 N.length),(59,(.val (.int .i64 (N.length:Int)))),(60,(.val (.int .i64 (x.1:Int))))]) (fun _=>tst (wst fl nn va br ms me) G (.vec 1 ((srtS N).map scv)) H) (fun x=>x.1<=N.length/\x.2.length<=x.1*103000000/\treT ms fl [] (srtS N)=treT ms fl x.2 ((srtS N).drop x.1)) (fun x=>N.length - x.1) (0,[]) ⟨n_3 _,n_3 _,rfl⟩ tu_ rfl ?_; intro ⟨j,l⟩ _ ⟨hj,hl,hr⟩;dsimp only at hj hl hr ⊢;refine z_28 ?_; refine cC (fun h5=>?_) fun h5=>?_
  ·have hlj:j < N.length:=by simp at h5; omega
   obtain ⟨s,hs⟩:∃ s,(srtS N)[j]? = some s:=⟨(srtS N)[j]'om_,si_⟩;rw [treT_step hs] at hr;have hsl:=reach_len (hN.rch s ((n_124 N _).mem_iff.1 (n_0 hs)));have hfc:=filesC_len (ms:=ms) (pkg:=s) om_ hfb;have hp1:=putT_len (l:=l) (s:=s) om_;have hp2:=putT_len (l:=putT l s) (s:=filesC ms fl s) om_;have hj2:j*103000000<=600*103000000:=n_19 _ om_;refine z_41 ?_; refine cY (y_index_v rfl tt tt rfl rfl t_2 t_0 (tst_get rfl) om_ om_) ?_; refine cY (y_load_e1 rfl tt rfl t_10 (tst_get rfl) (rows_get (by rw [n_10]; exact hs)) rfl) ?_; refine z_257 ?_; refine cY (y_callf rfl t_106 q_296 (wi_PutText_s l _ s om_ om_ _) rfl) ?_; refine z_86 ?_; refine cY (y_callf rfl Tryz.call115 q_296 (fa_files (wat_tst fl nn va br ms me) s om_ hfb) rfl) ?_; refine cY (y_callf rfl t_106 q_296 (wi_PutText_s (putT l s) _ (filesC ms fl s) om_ om_ _) rfl) ?_; refine z_111 ?_;exact ⟨(j+1,putT (putT l s) (filesC ms fl s)),do_,⟨do_,do_,hr⟩,tu_,rfl⟩
  ·have hje:j=N.length:=by simp at h5; omega
   rw [hje,<- hpl,n_110] at hr;replace hr:treT ms fl [] (srtS N)=l:=hr;have hj2:j*103000000<=600*103000000:=n_19 _ om_;refine z_65 ?_; refine cY q_107 ?_; refine cY (y_scat rfl rfl tt rfl rfl (by show 1+l.length<=_; omega)) ?_; refine z_5 ?_;exact ⟨_,res1 rfl tt q_269,(by rw [treeC,hT,hr]; exact fin_w rfl (.old (.val _)))⟩
theorem fa_tree {va:Bool} (hσ:WAt σ w q1 q2 t fl nn va br ms me) (pkg:Str) (hfl:fl.length<=64) (hfb:∀ f∈fl,f.p.length<=100/\f.b.length<=100000) (allI_len:(allI ms fl).length<=512) (reach_len:∀ {n:Str},Reach ms fl pkg n->n.length<=100000):CCalls CC 117 [.ptr w 0,(sv pkg)] σ fun r τ=>r = .ret (sv (treeC ms fl pkg))/\τ=σ :=
 w_ro1 (fun a h=>by simp at h; subst h; exact .val _) (.val _) (fa_tree0 fl nn va br ms me pkg hfl hfb allI_len reach_len) hσ
theorem wat_app {va:Bool} (hσ:WAt σ w q1 q2 t fl nn va br ms me) (l:List CObj):WAt (σ++l) w q1 q2 t fl nn va br ms me:=⟨get_app hσ.hw l,get_app hσ.hs l,get_app hσ.he l,get_app hσ.ht l,hσ.nd⟩
structure WOk (fl:List Fi) (ms:SM) (me:EM):Prop where
 len:fl.length<=64
 fb:∀ f∈fl,f.p.length<=100/\f.b.length<=100000
 src:∀ p s,glk ms p=some s->SrcG s
 ent:∀ k e,glk me k=some e->EnOk ms e
theorem WOk.find (h:WOk fl ms me) (k:Int) (p o:Str):EnOk ms (findE true me k p o):=by
 unfold findE;rw [if_pos rfl]
 split
 ·rename_i x hx;exact h.ent _ _ hx
 ·intro h1; cases h1
theorem WOk.imp (h:WOk fl ms me) (f:Fi):(imps ms f).length<=8/\∀ s∈imps ms f,s.length<=24:=by
 unfold imps;cases hg:glk ms f.p with
 | none=>exact ⟨n_3 _,fun s hs=>by cases hs⟩
 | some x =>
  have:=h.src _ _ hg;exact ⟨this.impl,fun s hs=>nameB_len (this.imp s hs).1⟩
theorem WOk.allI {fl:List Fi} {ms:SM} {me:EM} (h:WOk fl ms me):(allI ms fl).length<=512:=by
 have:∀ l:List Fi,(Go.Proofs.YtlppbmfecjabeaaGreatDoor.allI ms l).length<=8*l.length:=fun l=>by
  induction l with
  | nil=>exact n_3 _
  | cons x l ih =>
   have:=(h.imp x).1;unfold Go.Proofs.YtlppbmfecjabeaaGreatDoor.allI at ih ⊢;rw [n_82,n_4,n_7];omega
 have h1:=this fl;have h2:=h.len;omega
theorem WOk.reach {fl:List Fi} {ms:SM} {me:EM} (h:WOk fl ms me) {pkg:Str} (hp:pkg.length<=100) {n:Str} (hr:Reach ms fl pkg n):n.length<=100000:=by
 cases hr with
 | base=>omega
 | @step _ f _ _ _ hs=>have:=(h.imp f).2 _ hs; omega
noncomputable def contF (fl:List Fi) (ms:SM) (me:EM) (ev:List Va) (k:Ky):Str :=
 if k.k=1 then declF ms (findE true me 1 k.a k.b) else if k.k=2 then declF ms (findE true me 2 k.a k.b) else if k.k=3 then declF ms (findE true me 3 [] k.a)
 else if k.k=4 then (if (dataF fl k.a).isSome then [61]++(dataF fl k.a).getD [] else [45]) else if k.k=5 then (if (varF ev k.a).isSome then [61]++Lib.itoa ((varF ev k.a).getD 0) else [45])
 else if k.k=6 then filesC ms fl k.a else treeC ms fl k.a
theorem dataF_mem {b:Str} (h:dataF fl s=some b):∃ f∈fl,f.b=b:=by
 unfold dataF at h;rw [n_26] at h;obtain ⟨f,hf,rfl⟩:=h;exact ⟨f,n_123 hf,rfl⟩
theorem varF_rng {v:Int} (hev:∀ v∈ev,-9223372036854775808<=v.v/\v.v<=9223372036854775807) (h:varF ev s=some v) : -9223372036854775808<=v/\v<=9223372036854775807:=by
 unfold varF at h;rw [n_26] at h;obtain ⟨x,hx,rfl⟩:=h;exact hev x (n_123 hx)
theorem fa_c1 (hσ:WAt σ w q1 q2 t fl nn true br ms me) (hok:WOk fl ms me) (k:Ky):CCalls CC 105 [.ptr w 0,.agg k.cells] σ fun r τ=>r = .ret (sv (declF ms (findE true me 1 k.a k.b)))/\τ=σ:=by
 refine ccalls_val (ccalls_of Tryz.func105 rfl rfl ?_);refine z_60 ?_; refine z_6 ?_; refine cY q_162 ?_; refine cY (y_load1 rfl tt rfl t_10 n_77 rfl) ?_; refine cY q_162 ?_; refine cY (y_load1 rfl tt rfl t_10 n_77 rfl) ?_; refine cY (y_callf rfl t_153 ⟨tt,rfl,tt,tt,tt⟩ (wo_Find (wat_app hσ _) 1 k.a k.b) rfl) ?_; refine cY q_86 ?_;exact z_80
theorem fa_c2 (hσ:WAt σ w q1 q2 t fl nn true br ms me) (hok:WOk fl ms me) (k:Ky):CCalls CC 107 [.ptr w 0,.agg k.cells] σ fun r τ=>r = .ret (sv (declF ms (findE true me 2 k.a k.b)))/\τ=σ:=by
 refine ccalls_val (ccalls_of Tryz.func107 rfl rfl ?_);refine z_60 ?_; refine z_6 ?_; refine cY q_162 ?_; refine cY (y_load1 rfl tt rfl t_10 n_77 rfl) ?_; refine cY q_162 ?_; refine cY (y_load1 rfl tt rfl t_10 n_77 rfl) ?_; refine cY (y_callf rfl t_153 ⟨tt,rfl,tt,tt,tt⟩ (wo_Find (wat_app hσ _) 2 k.a k.b) rfl) ?_; refine cY q_86 ?_;exact z_80
theorem fa_c3 (hσ:WAt σ w q1 q2 t fl nn true br ms me) (hok:WOk fl ms me) (k:Ky):CCalls CC 108 [.ptr w 0,.agg k.cells] σ fun r τ=>r = .ret (sv (declF ms (findE true me 3 [] k.a)))/\τ=σ:=by
 refine ccalls_val (ccalls_of Tryz.func108 rfl rfl ?_);refine z_60 ?_; refine z_6 ?_; refine cY q_162 ?_; refine cY (y_load1 rfl tt rfl t_10 n_77 rfl) ?_; refine cY (y_callf rfl t_153 ⟨tt,rfl,rfl,tt,tt⟩ (wo_Find (wat_app hσ _) 3 [] k.a) rfl) ?_; refine cY q_86 ?_;exact z_80
theorem fa_c4 (hσ:WAt σ w q1 q2 t fl nn true br ms me) (hok:WOk fl ms me) (k:Ky):CCalls CC 109 [.ptr w 0,.agg k.cells] σ fun r τ=>r = .ret (sv (if (dataF fl k.a).isSome then [61]++(dataF fl k.a).getD [] else [45]))/\τ=σ:=by
 refine ccalls_val (ccalls_of Tryz.func109 rfl rfl ?_);refine z_60 ?_; refine z_2 ?_; refine cY q_162 ?_; refine cY (y_load1 rfl tt rfl t_10 n_77 rfl) ?_; refine cY (y_callf rfl Tryz.call110 q_296 (wo_Data (wat_app hσ _) k.a (by have:=hok.len; omega)) rfl) ?_; refine z_96 ?_; refine z_62 ?_; refine z_32 ?_; refine cC (fun h1=>?_) fun h1=>?_
 ·have u1:(dataF fl k.a).isSome=false:=by simpa using h1
  refine z_19 ?_;exact ⟨_,res1 rfl tt q_269,_,_,rfl,rfl,cls_str (by rw [u1]; rfl)⟩
 ·have u1:(dataF fl k.a).isSome=true:=by simpa using h1
  obtain ⟨b,hb⟩:=n_109.1 u1;obtain ⟨f,hf,hfb⟩:=dataF_mem hb;have hlen:=(hok.fb f hf).2;rw [hb];refine z_71 ?_; refine cY (y_scat rfl rfl tt rfl rfl (by show 1+b.length<=_; rw [<- hfb]; omega)) ?_; refine z_5 ?_;exact ⟨_,res1 rfl tt q_269,_,_,rfl,rfl,cls_str (show str ([61]++(some b).getD [])=_ from rfl)⟩
theorem fa_c6 (hσ:WAt σ w q1 q2 t fl nn true br ms me) (hok:WOk fl ms me) (k:Ky):CCalls CC 114 [.ptr w 0,.agg k.cells] σ fun r τ=>r = .ret (sv (filesC ms fl k.a))/\τ=σ:=by
 refine ccalls_val (ccalls_of Tryz.func114 rfl rfl ?_);refine z_60 ?_; refine z_2 ?_; refine cY q_162 ?_; refine cY (y_load1 rfl tt rfl t_10 n_77 rfl) ?_; refine cY (y_callf rfl Tryz.call115 q_296 (fa_files (wat_app hσ _) k.a (by have:=hok.len; omega) hok.fb) rfl) ?_;exact z_80
theorem fa_c7 (hσ:WAt σ w q1 q2 t fl nn true br ms me) (hok:WOk fl ms me) (k:Ky)(hka:k.a.length<=100):CCalls CC 116 [.ptr w 0,.agg k.cells] σ fun r τ=>r = .ret (sv (treeC ms fl k.a))/\τ=σ:=by
 refine ccalls_val (ccalls_of Tryz.func116 rfl rfl ?_);refine z_60 ?_; refine z_2 ?_; refine cY q_162 ?_; refine cY (y_load1 rfl tt rfl t_10 n_77 rfl) ?_; refine cY (y_callf rfl Tryz.call117 q_296 (fa_tree (wat_app hσ _) k.a hok.len hok.fb hok.allI (hok.reach hka)) rfl) ?_;exact z_80
theorem fa_c5 {q:Nat} (hq:σ[q]? = some (.box (envC ev nn))) (hev:∀ v∈ev,-9223372036854775808<=v.v/\v.v<=9223372036854775807) (hel:ev.length<=1000000000) (k:Ky):CCalls CC 111 [.ptr w 0,.agg k.cells,.ptr q 0] σ fun r τ=>r = .ret (sv (if (varF ev k.a).isSome then [61]++Lib.itoa ((varF ev k.a).getD 0) else [45]))/\τ=σ:=by
 refine ccalls_val (ccalls_of Tryz.func111 rfl rfl ?_);refine z_60 ?_; refine z_0 ?_; refine cY (y_load rfl tt rfl t_85 t_86 (get_app hq _) (nb rfl)) ?_; refine cY q_162 ?_; refine cY (y_load1 rfl tt rfl t_10 n_77 rfl) ?_; refine cY (y_callf rfl Tryz.call112 q_296 (ev_Variable_s ev nn k.a hel _) rfl) ?_; refine z_96 ?_; refine z_62 ?_; refine z_32 ?_; refine cC (fun h1=>?_) fun h1=>?_
 ·have u1:(varF ev k.a).isSome=false:=by simpa using h1
  refine z_19 ?_;exact ⟨_,res1 rfl tt q_269,_,_,rfl,rfl,cls_str (by rw [u1]; rfl)⟩
 ·have u1:(varF ev k.a).isSome=true:=by simpa using h1
  obtain ⟨v,hv⟩:=n_109.1 u1;have hvr:=varF_rng hev hv;rw [hv];have hil:=itoa_len hvr.1 hvr.2;refine z_71 ?_; refine cY (y_callf rfl t_151 ⟨tt,tt⟩ (Itoa_s v hvr.1 hvr.2 _) rfl) ?_; refine cY (y_scat rfl rfl tt rfl rfl (by show 1+(Lib.itoa v).length<=_; omega)) ?_; refine z_5 ?_;exact ⟨_,res1 rfl tt q_269,_,_,rfl,rfl,cls_str (show str ([61]++Lib.itoa v)=_ from rfl)⟩
theorem rv_asc:∀ {pv:Option Fi} {l:List Fi},rvE pv l=0->(∀ g,pv=some g->∀ f∈l,g.p < f.p)/\l.Pairwise fun a b=>a.p < b.p
 | _,[],_=>⟨fun _ _ f hf=>(by cases hf),List.Pairwise.nil⟩
 | pv,x::l,h=>by
  rw [rvE] at h;split at h
  ·rename_i hs;obtain ⟨h1,h2⟩:=rv_asc h;have hx:∀ g,pv=some g->g.p < x.p:=fun g hg=>by
    subst hg;unfold rvStep at hs;split at hs
    ·cases hs
    ·split at hs
     ·cases hs
     ·rename_i h3;split at hs
      ·cases hs
      ·rename_i h4;simp only [Option.any_some,n_51] at h3 h4;rw [bytesLess_eq,n_51] at h4
       rcases List.le_total g.p x.p with h5 | h5
       ·rcases Decidable.em (g.p < x.p) with h6 | h6
        ·exact h6
        ·exact absurd (List.le_antisymm h5 (List.not_lt.1 h6)).symm h3
       ·rcases Decidable.em (g.p < x.p) with h6 | h6
        ·exact h6
        ·exact absurd (List.le_antisymm h5 (List.not_lt.1 h4)) h3
   refine ⟨fun g hg f hf=>?_,.cons (fun f hf=>h1 x rfl f hf) h2⟩
   rcases n_13.1 hf with rfl | hf
   ·exact hx g hg
   ·exact List.lt_trans (hx g hg) (h1 x rfl f hf)
  ·rename_i hs;exact absurd h hs
structure WI (seen:List Str) (ms:SM) (me:EM):Prop where
 src:∀ p x,glk ms p=some x->SrcG x/\p∈seen
 ent:∀ k e,glk me k=some e->1<=e.ct/\EnOk ms e
theorem addDs_ok {ms:SM} {path:Str} {x:Src} (hg:glk ms path=some x) (hx:SrcG x):∀ (n k:Nat) (me:EM),x.decls.length - k=n->(∀ k e,glk me k=some e->1<=e.ct/\EnOk ms e)->∀ q e,glk (addDs me path x.pkg (x.decls.drop k) k) q=some e->1<=e.ct/\EnOk ms e
 | 0,k,me,hn,h,q,e,he=>by
  rw [n_34 om_,addDs] at he;exact h q e he
 | n+1,k,me,hn,h,q,e,he=>by
  obtain ⟨d,hd⟩:∃ d,x.decls[k]? = some d:=⟨x.decls[k]'om_,si_⟩;rw [addDs_step hd] at he;refine addDs_ok hg hx n (k+1) _ om_ (fun q e he=>?_) q e he;rw [addE,glk_gput] at he;split at he
  ·injection he with he
   subst he
   split
   ·rename_i f hf;obtain ⟨h1,_⟩:=h _ _ hf;exact ⟨by simp only; omega,fun hc=>by simp only at hc; omega⟩
   ·exact ⟨n_99 _,fun _=>⟨x,d,k,hg,hx,rfl,hd⟩⟩
  ·exact h q e he
theorem EnOk.put {e:En} {path:Str} {x:Src} (h:EnOk ms e) (hp:glk ms path=none):EnOk (gput ms path x) e:=fun hc=>by
 obtain ⟨s,d,i,h1,h2⟩:=h hc;refine ⟨s,d,i,?_,h2⟩;rw [glk_gput,if_neg]
 ·exact h1
 ·intro he; rw [he,hp] at h1; cases h1
theorem wStep_ok {seen:List Str} {s:WS} (h:WI seen s.2.1 s.2.2) (hf:f.p∉seen):WI (f.p::seen) (wStep s f).2.1 (wStep s f).2.2:=by
 have hw:WI (f.p::seen) s.2.1 s.2.2:=⟨fun p x hp=>⟨(h.src p x hp).1,n_59 _ (h.src p x hp).2⟩,h.ent⟩;unfold wStep
 split
 ·split
  ·exact hw
  ·rename_i x hx;have hn:glk s.2.1 f.p=none:=by
    cases hg:glk s.2.1 f.p with
    | none=>rfl
    | some y=>exact absurd (h.src _ _ hg).2 hf
   have hok:=parseS_ok hx;refine ⟨fun p y hp=>?_,?_⟩
   ·simp only [glk_gput] at hp;split at hp
    ·rename_i e;injection hp with hp
     subst hp;exact ⟨hok,by rw [e]; simp⟩
    ·exact ⟨(h.src p y hp).1,n_59 _ (h.src p y hp).2⟩
   ·have hg:glk (gput s.2.1 f.p x) f.p=some x:=by rw [glk_gput,if_pos rfl]
    have:=addDs_ok hg hok _ 0 s.2.2 rfl (fun k e he=>⟨(h.ent k e he).1,(h.ent k e he).2.put hn⟩);simpa using this
 ·exact hw
theorem newF_ok:∀ {l:List Fi} {seen:List Str} {s:WS},WI seen s.2.1 s.2.2->(∀ f∈l,f.p∉seen)->(l.Pairwise fun a b=>a.p < b.p)->∃ seen',WI seen' (newF l s).2.1 (newF l s).2.2
 | [],seen,s,h,_,_=>⟨seen,h⟩
 | f::l,seen,s,h,hn,hp=>by
  have h1:=wStep_ok h (hn f si_);refine newF_ok (l:=l) h1 (fun g hg hm=>?_) (n_41.1 hp).2
  rcases n_13.1 hm with hm | hm
  ·have:=(n_41.1 hp).1 g hg;rw [hm] at this;exact absurd this (List.lt_irrefl _)
  ·exact hn g (by simp [hg]) hm
theorem newW_ok (h:revE fl=0):WOk fl (newW fl).2.1 (newW fl).2.2:=by
 obtain ⟨h1,h2⟩:=revE_all h;have h0:rvE none fl=0:=by
  unfold revE at h;split at h
  ·cases h
  ·exact h
 obtain ⟨seen,h3⟩:=newF_ok (l:=fl) (seen:=[]) (s:=([],[],[])) ⟨fun p x hp=>(by cases hp),fun k e he=>(by cases he)⟩ (fun f _ hm=>(by cases hm)) (rv_asc h0).2;rw [newW,if_pos h];exact ⟨h1,fun f hf=>by have:=pathB_len (h2 f hf).1; have:=(h2 f hf).2; omega,fun p s hp=>(h3.src p s hp).1,fun k e he=>(h3.ent k e he).2⟩
abbrev fv (f:FuncId):CV:=.val (.func (.func f) #[] #[])
def cmapV (b:Nat):List (Int × CV):=[(1,fv 105),(2,fv 107),(3,fv 108),(4,fv 109),(5,.clo 111 [.ptr b 0]),(6,fv 114),(7,fv 116)]
abbrev cmO (b:Nat):CObj:=.map (gm kv (fun c:CV=>c) (cmapV b))
def cfv (b:Nat) (k:Int):CV:=(glk (cmapV b) k).getD (cvOf .nilFunc)
theorem old_cmO {L:Nat} (h:b < L):OldObj L (cmO b):=fun x hx=>by
 obtain ⟨y,hy,rfl⟩:=n_9.1 hx;refine ⟨.val _,?_⟩;simp only [cmapV,n_13,n_80,or_false] at hy
 rcases hy with rfl | rfl | rfl | rfl | rfl | rfl | rfl
 ·exact .val _
 ·exact .val _
 ·exact .val _
 ·exact .val _
 ·refine .clo fun i c hi=>?_
  rcases i with _ | i
  ·injection hi with hi; subst hi; exact .ptr h
  ·cases hi
 ·exact .val _
 ·exact .val _
theorem ren_cmO {R:Nat->Nat->Prop} {b':Nat} (h:R b b'):RenRO R (cmO b) (cmO b'):=.map ⟨rfl,fun i x x' h1 h2=>by
 rcases i with _ | _ | _ | _ | _ | _ | _ | i
 ·injection h1 with h1; injection h2 with h2; subst h1 h2; exact ⟨.pure (.val _),.pure (.val _)⟩
 ·injection h1 with h1; injection h2 with h2; subst h1 h2; exact ⟨.pure (.val _),.pure (.val _)⟩
 ·injection h1 with h1; injection h2 with h2; subst h1 h2; exact ⟨.pure (.val _),.pure (.val _)⟩
 ·injection h1 with h1; injection h2 with h2; subst h1 h2; exact ⟨.pure (.val _),.pure (.val _)⟩
 ·injection h1 with h1; injection h2 with h2; subst h1 h2
  refine ⟨.pure (.val _),.clo rfl fun i c c' g g'=>?_⟩
  rcases i with _ | i
  ·injection g with g; injection g' with g'; subst g g'; exact .ptr h
  ·cases g
 ·injection h1 with h1; injection h2 with h2; subst h1 h2; exact ⟨.pure (.val _),.pure (.val _)⟩
 ·injection h1 with h1; injection h2 with h2; subst h1 h2; exact ⟨.pure (.val _),.pure (.val _)⟩
 ·cases h1⟩
theorem fa_contents0 (ev:List Va) (en:Bool):CCalls CC 58 [.agg (envC ev en)] [] fun r τ=>∃ _:Unit,r = .ret (.map 1)/\τ=[.box (envC ev en),cmO 0]/\True:=by
 refine (ccalls_of Tryz.func58 rfl rfl ?_);refine z_60 ?_; refine z_0 ?_;refine cD (d_makeMap rfl ?_);refine cD (d_mapUpdate_g (vc:=fun c:CV=>c) (l:=(cmapV 0).take 0) (a:=1) (b:=((cmapV 0).getD 0 (0,fv 0)).2) keyI (.inr rfl) tt rfl tt rfl rfl rfl t_49 rfl ?_);refine cD (d_mapUpdate_g (vc:=fun c:CV=>c) (l:=(cmapV 0).take 1) (a:=2) (b:=((cmapV 0).getD 1 (0,fv 0)).2) keyI (.inr rfl) tt rfl tt rfl rfl rfl t_49 rfl ?_);refine cD (d_mapUpdate_g (vc:=fun c:CV=>c) (l:=(cmapV 0).take 2) (a:=3) (b:=((cmapV 0).getD 2 (0,fv 0)).2) keyI (.inr rfl) tt rfl tt rfl rfl rfl t_49 rfl ?_);refine cD (d_mapUpdate_g (vc:=fun c:CV=>c) (l:=(cmapV 0).take 3) (a:=4) (b:=((cmapV 0).getD 3 (0,fv 0)).2) keyI (.inr rfl) tt rfl tt rfl rfl rfl t_49 rfl ?_);refine cY (y_mkfunc rfl ⟨tt,tt⟩) ?_;refine cD (d_mapUpdate_g (vc:=fun c:CV=>c) (l:=(cmapV 0).take 4) (a:=5) (b:=((cmapV 0).getD 4 (0,fv 0)).2) keyI (.inr rfl) tt rfl tt rfl rfl rfl t_49 rfl ?_);refine cD (d_mapUpdate_g (vc:=fun c:CV=>c) (l:=(cmapV 0).take 5) (a:=6) (b:=((cmapV 0).getD 5 (0,fv 0)).2) keyI (.inr rfl) tt rfl tt rfl rfl rfl t_49 rfl ?_);refine cD (d_mapUpdate_g (vc:=fun c:CV=>c) (l:=(cmapV 0).take 6) (a:=7) (b:=((cmapV 0).getD 6 (0,fv 0)).2) keyI (.inr rfl) tt rfl tt rfl rfl rfl t_49 rfl ?_);refine cY q_246 ?_; refine z_5 ?_;exact ⟨_,res1 rfl tt q_269,(by exact ⟨(),rfl,rfl,tt⟩)⟩
theorem fa_contents (ev:List Va) (en:Bool) (σ:List CObj):CCalls CC 58 [.agg (envC ev en)] σ fun r τ=>∃ _:Unit,r = .ret (.map (σ.length+1))/\τ=σ++[.box (envC ev en),cmO σ.length]/\True :=
 ccalls_new (α:=Unit) hCC (fun a ha=>by simp at ha; subst ha; exact pure_agg ⟨pure_vas _ _,tt⟩) (res:=fun _=>.ret (.map 1)) (res':=fun _ m=>.ret (.map (m+1))) (S:=fun _=>[.box (envC ev en),cmO 0]) (S':=fun _ m=>[.box (envC ev en),cmO m]) (P:=fun _=>True) (fa_contents0 ev en) (fun _ _=>rfl) (fun _ m i x h=>by
  rcases i with _ | _ | i
  ·injection h with h; subst h; exact ⟨_,rfl,.box (renL_pure (fun c hc=>by simp at hc; subst hc; exact pure_vas _ _))⟩
  ·injection h with h; subst h; exact ⟨_,rfl,ren_cmO si_⟩
  ·cases h) (fun _ m=>.ret (.map rfl)) σ
theorem key_kind {k:Ky} (h:keyB k=true):(k.k=1\/k.k=2\/k.k=3\/k.k=4\/k.k=5\/k.k=6\/k.k=7)/\k.a.length<=100:=by
 unfold keyB at h;split at h
 ·rename_i h1;simp only [n_39,beq_iff_eq] at h1;simp only [n_29] at h;have:=nameB_len h.1;exact ⟨om_,om_⟩
 ·split at h
  ·rename_i h1;simp only [n_39,beq_iff_eq] at h1;simp only [n_29] at h;have:=pathB_len h.1;exact ⟨om_,om_⟩
  ·split at h
   ·rename_i h1;simp only [n_39,beq_iff_eq] at h1;simp only [n_29] at h;have:=nameB_len h.1;exact ⟨om_,om_⟩
   ·cases h
theorem fa_dyn (hσ:WAt σ w q1 q2 t fl nn true br ms me) (hok:WOk fl ms me) {en:Bool} (hb:σ[b]? = some (.box (envC ev en))) (hev:∀ v∈ev,-9223372036854775808<=v.v/\v.v<=9223372036854775807) (hel:ev.length<=1000000000) {k:Ky} (hk:keyB k=true) :
 Answers CC (cfv b k.k) [.ptr w 0,.agg k.cells] σ (sv (contF fl ms me ev k)):=by
 obtain ⟨hkk,hka⟩:=key_kind hk
 rcases hkk with h | h | h | h | h | h | h
 ·refine .inl ⟨105,by rw [h]; rfl,Tryz.call105,?_⟩;rw [contF,if_pos h];exact fa_c1 hσ hok k
 ·refine .inl ⟨107,by rw [h]; rfl,Tryz.call107,?_⟩;rw [contF,if_neg om_,if_pos h];exact fa_c2 hσ hok k
 ·refine .inl ⟨108,by rw [h]; rfl,Tryz.call108,?_⟩;rw [contF,if_neg om_,if_neg om_,if_pos h];exact fa_c3 hσ hok k
 ·refine .inl ⟨109,by rw [h]; rfl,Tryz.call109,?_⟩;rw [contF,if_neg om_,if_neg om_,if_neg om_,if_pos h];exact fa_c4 hσ hok k
 ·refine .inr ⟨111,[.ptr b 0],by rw [h]; rfl,Tryz.call111,?_⟩;rw [contF,if_neg om_,if_neg om_,if_neg om_,if_neg om_,if_pos h];exact fa_c5 hb hev hel k
 ·refine .inl ⟨114,by rw [h]; rfl,Tryz.call114,?_⟩;rw [contF,if_neg om_,if_neg om_,if_neg om_,if_neg om_,if_neg om_,if_pos h];exact fa_c6 hσ hok k
 ·refine .inl ⟨116,by rw [h]; rfl,Tryz.call116,?_⟩;rw [contF,if_neg om_,if_neg om_,if_neg om_,if_neg om_,if_neg om_,if_neg om_];exact fa_c7 hσ hok k hka
noncomputable def contS (fl:List Fi) (ev:List Va) (l:List Ky):Option (List Str) :=
 if revE fl=0/\envB ev=true/\l.all keyB=true then some (l.map (contF fl (newW fl).2.1 (newW fl).2.2 ev)) else none
def contR (o:Option (List Str)):CV:=.tup [.list ((o.getD []).map scv) (gnn (o.getD []).length) none,.val (.int .i64 (if o.isSome then 0 else 1))]
theorem lk_cfv (b:Nat) (k:Int):((glk (cmapV b) k).map fun c:CV=>c).getD (cvOf .nilFunc)=cfv b k:=by unfold cfv; cases glk (cmapV b) k <;> rfl
theorem allK_step {p:Ky->Bool} {l:List Ky} {y:Ky} (h:l[i]? = some y) (ha:(l.take i).all p=true) (hy:p y=true):(l.take (i+1)).all p=true:=by
 rw [n_50,h,List.all_append,ha]; simp [hy]
theorem allK_not {p:Ky->Bool} {l:List Ky} {y:Ky} (h:l[i]? = some y) (hy:p y=false):l.all p≠true:=fun hh=>by
 rw [n_22] at hh;rw [hh y (n_0 h)] at hy;cases hy
theorem fa_Contents0 (fl:List Fi) (nn:Bool) (hfl:∀ f∈fl,f.p.length<=1000000000) (ev:List Va) (en:Bool) (hev:∀ v∈ev,v.n.length<=1000000000) (hvr:∀ v∈ev,-9223372036854775808<=v.v/\v.v<=9223372036854775807) (hel:ev.length<=1000000000) (l:List Ky) (nk:Bool) (hl:l.length<=1000000000) (hk:∀ k∈l,k.a.length<=1000000000/\k.b.length<=1000000000):CCalls CC 16 [.agg (revC fl nn),.agg (envC ev en),.list (l.map Ky.cv) nk none] [] fun r τ=>∃ _:Unit,ClsR 0 τ r (.ret (contR (contS fl ev l)))/\True:=by
 refine (ccalls_of Tryz.func16 rfl rfl ?_);refine z_63 ?_; refine z_83 ?_; refine z_124 ?_;refine cD (d_callv rfl Tryz.call56 ⟨tt,tt⟩ (wo_New fl nn hfl _) rfl ?_);intro _ _; refine z_62 ?_; refine cY q_279 ?_; refine z_206 ?_; refine cY q_280 ?_; refine cY q_246 ?_; refine cG (fun hg=>y_load rfl tt rfl t_85 t_86 rfl (nb rfl)) ?_; refine cG (fun hg=>y_callf rfl Tryz.call57 ⟨hg,tt⟩ (ev_CheckEnvironment_s ev en hev _) rfl) ?_; refine cG (fun hg=>y_not rfl hg rfl) ?_; refine z_61 ?_; refine cC (fun h1=>?_) fun h1=>?_
 ·have hv:¬ (revE fl=0/\envB ev=true/\l.all keyB=true):=by
   rintro ⟨u1,u2,_⟩;simp [u1,u2] at h1
  refine z_0 ?_; refine z_166 ?_;exact ⟨_,res_all (rs:=[.tmp 6,.tmp 7]) (cs:=[_,_]) rfl q_138 (n_2 rfl),(by rw [contS,if_neg hv]; exact ⟨(),.ret (.tups ⟨.old (old_strs _ ([]:List Str) _),.old (.val _),tt⟩),tt⟩)⟩
 ·have hv:revE fl=0/\envB ev=true:=by simpa using h1
  have hok:=newW_ok hv.1;have hva:(revE fl == 0)=true:=by simp [hv.1]
  rw [hva];refine z_46 ?_; refine cY q_182 ?_;refine cD (d_callv rfl Tryz.call58 ⟨tt,tt⟩ (fa_contents ev en _) rfl ?_);intro _ _; refine z_1 ?_; refine z_54 ?_; refine cY q_105 ?_; refine z_24 ?_; refine cw_loopr hCC 8 rfl (α:=Nat) (fun i=>[(8,.ptr 2 0),(9,.map 7),(10,(.list (((l.take i).map (contF fl (newW fl).2.1 (newW fl).2.2 ev)).map scv) (gnn ((l.take i).map (contF fl (newW fl).2.1 (newW fl).2.2 ev)).length) (gtok ((l.take i).map (contF fl (newW fl).2.1 (newW fl).2.2 ev)).length 8))),(27,(.list (l.map Ky.cv) nk none)),(28,(.val (.int .i64 (l.length:Int)))),(29,(.val (.int .i64 (i:Int))))]) (fun i=>[.box (revC fl nn),.box (envC ev en),wbx fl nn true (newW fl).1 3 4 5,smO (newW fl).2.1,emO (newW fl).2.2,gobj (newW fl).1.length,.box (envC ev en),cmO 6,gobj ((l.take i).map (contF fl (newW fl).2.1 (newW fl).2.2 ev)).length]) (fun i=>i<=l.length/\(l.take i).all keyB=true) (fun i=>l.length - i) ⟨0,[0,1,2,3,4,5,6,7,13],⟨n_3 _,rfl⟩,⟨rfl,rfl⟩,⟨q_45,q_45,q_45,q_45,q_45,q_45,tt⟩,⟨.inr ⟨_,rfl,.same rfl q_261⟩,.inr ⟨_,rfl,.same rfl q_262⟩,.inr ⟨_,rfl,.same rfl q_270⟩,.inr ⟨_,rfl,.same rfl q_294⟩,.inr ⟨_,rfl,.same rfl q_295⟩,.inr ⟨_,rfl,.same rfl q_292⟩,.inr ⟨_,rfl,.same rfl q_262⟩,.inr ⟨_,rfl,.same rfl (old_cmO de_)⟩,.inl rfl,tt⟩⟩ ?_; intro i ⟨hi,hall⟩; refine z_28 ?_; refine cC (fun h2=>?_) fun h2=>?_
  ·have hlt:i < l.length:=by simp at h2; omega
   obtain ⟨y,hy⟩:∃ y,l[i]? = some y:=⟨l[i]'hlt,si_⟩;have hyl:=hk y (n_0 hy);refine z_41 ?_; refine z_235 ?_; refine z_102 ?_; refine z_67 ?_; refine cY q_187 ?_; refine cY (y_callf rfl Tryz.call59 ⟨tt,tt⟩ (fa_Check_s y hyl.1 hyl.2 _) rfl) ?_; refine z_32 ?_; refine cC (fun h3=>?_) fun h3=>?_
   ·have hv2:¬ (revE fl=0/\envB ev=true/\l.all keyB=true):=fun u=>allK_not hy (by simpa using h3) u.2.2;refine z_0 ?_; refine z_166 ?_;exact ⟨_,res_all (rs:=[.tmp 6,.tmp 7]) (cs:=[_,_]) rfl q_138 (n_2 rfl),(by rw [contS,if_neg hv2]; exact ⟨(),.ret (.tups ⟨.old (old_strs _ ([]:List Str) _),.old (.val _),tt⟩),tt⟩)⟩
   ·have hyk:keyB y=true:=by simpa using h3
    have htk1:l.take (i+1)=l.take i++[y]:=by rw [n_50,hy]; rfl
    refine cw_skip ?_; refine z_45 ?_; refine cY q_168 ?_; refine cY q_238 ?_; refine cY (y_lookup_g (vc:=fun c:CV=>c) (l:=cmapV 6) (a:=y.k) keyI rfl tt tt rfl rfl t_49 Tryz.zeroValue115 rfl rfl (lk_cfv 6 y.k)) ?_; refine cY q_246 ?_; refine cY q_187 ?_; refine cY (y_calldyn rfl tt rfl q_296 (by exact fa_dyn (w:=2) (q1:=3) (q2:=4) (t:=5) (b:=6) ⟨rfl,rfl,rfl,rfl,nodup4 ⟨de_,de_,de_,de_,de_,de_⟩⟩ hok rfl hvr hel hyk) rfl) ?_; refine cY (y_lit [scv ((contF fl (newW fl).2.1 (newW fl).2.2 ev) y)] rfl ⟨tt,tt⟩ t_2 t_0 t_3 rfl rfl rfl rfl rfl rfl rfl rfl rfl) ?_;refine cD (d_appu rfl tt tt rfl si_ q_19 t_2 t_0 t_24 t_3 rfl (.inr rfl) q_21 q_81 q_226 (((l.take (i+1)).map (contF fl (newW fl).2.1 (newW fl).2.2 ev)).map scv) ((l.take (i+1)).map (contF fl (newW fl).2.1 (newW fl).2.2 ev)).length (by rw [htk1,n_62,n_62]; rfl) (by rw [htk1]; simp) ?_);refine z_111 ?_;exact ⟨(i+1),[0,1,2,3,4,5,6,7,10],⟨om_,om_,allK_step hy hall hyk⟩,⟨rfl,rfl⟩,⟨q_36,q_36,q_36,q_36,q_36,q_36,tt⟩,⟨.inr ⟨_,rfl,.same rfl q_261⟩,.inr ⟨_,rfl,.same rfl q_262⟩,.inr ⟨_,rfl,.same rfl q_270⟩,.inr ⟨_,rfl,.same rfl q_294⟩,.inr ⟨_,rfl,.same rfl q_295⟩,.inr ⟨_,rfl,.same rfl q_292⟩,.inr ⟨_,rfl,.same rfl q_262⟩,.inr ⟨_,rfl,.same rfl (old_cmO de_)⟩,.inr ⟨_,rfl,.same rfl q_292⟩,tt⟩⟩
  ·have hge:l.length<=i:=by simp at h2; omega
   have hta:l.take i=l:=n_28 hge;refine z_65 ?_; refine z_109 ?_;exact ⟨_,res_all (rs:=[.tmp 6,.tmp 7]) (cs:=[_,_]) rfl q_138 (n_2 rfl),(by rw [contS,if_pos ⟨hv.1,hv.2,by rw [<- hta]; exact hall⟩,hta]; exact ⟨(),.ret (.tups ⟨.tok (fun r hr c hc=>(rows_pure (f:=scv) (fun _=>Pures.all ⟨.val _,tt⟩) _) r hr c hc),.old (.val _),tt⟩),tt⟩)⟩
theorem pure_contR (o:Option (List Str)):Pure (contR o):=pure_tup (cs:=[_,_]) ⟨pure_strs _ _,.val _,tt⟩
theorem fa_Contents (fl:List Fi) (nn:Bool) (hfl:∀ f∈fl,f.p.length<=1000000000) (ev:List Va) (en:Bool) (hev:∀ v∈ev,v.n.length<=1000000000) (hvr:∀ v∈ev,-9223372036854775808<=v.v/\v.v<=9223372036854775807) (hel:ev.length<=1000000000) (l:List Ky) (nk:Bool) (hl:l.length<=1000000000) (hk:∀ k∈l,k.a.length<=1000000000/\k.b.length<=1000000000) (σ:List CObj):CCalls CC 16 [.agg (revC fl nn),.agg (envC ev en),.list (l.map Ky.cv) nk none] σ fun r τ=>r = .ret (contR (contS fl ev l))/\τ=σ :=
 (ccalls_any (res:=fun _:Unit=>.ret (contR (contS fl ev l))) (P:=fun _=>True) hCC (fun a h=>by simp at h; rcases h with rfl | rfl | rfl; exact pure_agg (cs:=revC _ _) ⟨pure_fis _ _,tt⟩; exact pure_agg (cs:=envC _ _) ⟨pure_vas _ _,tt⟩; exact pure_keys _ _) (fa_Contents0 fl nn hfl ev en hev hvr hel l nk hl hk) (fun _ _=>pure_contR _) σ).mono fun r τ ⟨_,h1,h2,_⟩=>⟨h1,h2⟩
end Go.Proofs.YtlppbmfecjabeaaGreatDoor
