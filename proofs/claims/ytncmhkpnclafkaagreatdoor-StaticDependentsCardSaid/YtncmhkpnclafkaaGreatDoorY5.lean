/- Part 5 of what the claim needs: values without addresses, and what the program's functions do with them. -/
import Derived.Shelf.LaysM
import Derived.Shelf.Strconv.Itoa3
import Derived.Test.YtncmhkpnclafkaaGreatDoorY4
set_option linter.all false
set_option maxRecDepth 100000
set_option maxHeartbeats 4000000
namespace Go.Proofs.YtncmhkpnclafkaaGreatDoor
open Go Go.Cl
variable{T:TypeId}{rest:List CV}{i np d q m j z:Nat}{b:List Ex}{y:PX}{S:List Nat}{u o v:Int}{nm l:I}{α:Type}{σ:List b9}{x:Ex}{R:Nat->Nat->Prop}{a:Bool}
inductive Tr where
 |n (k u o:Int) (nm:I) (ch:List Tr)
variable{n:Nat}
mutual
def Tr.size:Tr->Nat
 | .n _ _ _ _ ch=>A4 ch+1
def A4:List Tr->Nat
 | []=>0
 |t::l=>t.size+A4 l
end
def x8:List Tr->Nat->List Int
 | [],_=>[]
 |t::l,s=>((s+t.size -1:Nat):Int)::x8 l (s+t.size)
mutual
def Tr.flat:Tr->Nat->List Ex
 | .n k u o nm ch,s=>M7 ch s++[⟨k,u,o,nm,x8 ch s⟩]
def M7:List Tr->Nat->List Ex
 | [],_=>[]
 |t::l,s=>t.flat s++M7 l (s+t.size)
end
structure a0K(np:Nat)(k u o:Int)(nm:I)(c:Nat):Prop where
 kind:1<=k/\k<=10
 num:k≠1->k≠2->k≠10->u=0
 op:k≠4->o=0
 name:k=1\/k=2\/k=4\/k=5\/k=10->nm=[]
 cnt:c=if k=4 then 2 else if k=5 then 3 else if k=6 then 1 else if k=3 then c else 0
 k1:k=1->-9007199254740992<=u/\u<=9007199254740992
 k2:k=2->0<=u/\u<np
 k3:k=3->B9 nm=true/\S6 nm=false
 k4:k=4->1<=o/\o<=7
 k678:k=6\/k=7\/k=8->F8 nm=true
 k9:k=9->B9 nm=true
 k10:k=10->0<=u/\u<64
mutual
def Tr.wf(np:Nat):Nat->Tr->Prop
 |d,.n k u o nm ch=>d<=32/\a0K np k u o nm ch.length/\wfL np (if k=4 then d else d+1) ch
def wfL(np:Nat):Nat->List Tr->Prop
 |_,[]=>True
 |d,t::l=>t.wf np d/\wfL np d l
end
theorem Tr.size_pos(t:Tr):1<=t.size:=by cases t;rw[Tr.size];omega
mutual
theorem Tr.flat_len:∀(t:Tr) (s:Nat),(t.flat s).length=t.size
 | .n k u o nm ch,s=>by rw[Tr.flat,Tr.size,n_8,S2 ch s];rfl
theorem S2:∀(l:List Tr) (s:Nat),(M7 l s).length=A4 l
 | [],_=>rfl
 |t::l,s=>by rw[M7,A4,n_8,Tr.flat_len t s,S2 l _]
end
theorem b16:∀(l:List Tr) (t:Tr) (s:Nat),M7 (l++[t]) s=M7 l s++t.flat (s+A4 l)
 | [],t,s=>by simp[M7,A4]
 |x::l,t,s=>by rw[b13,M7,M7,b16 l t,A4,H5,b2z]
theorem a9R:∀(l:List Tr) (t:Tr) (s:Nat),x8 (l++[t]) s=x8 l s++[((s+A4 l+t.size -1:Nat):Int)]
 | [],t,s=>by simp[x8,A4]
 |x::l,t,s=>by rw[b13,x8,x8,a9R l t,A4,b13,b2z s]
theorem b8A{np d:Nat}:∀{l:List Tr} {t:Tr},wfL np d l->t.wf np d->wfL np d (l++[t])
 | [],t,_,h=>by simp only[a7j,wfL];exact⟨h,J⟩
 |x::l,t,h,h2=>by
  rw[wfL]at h;rw[b13,wfL];exact⟨h.1,b8A h.2 h2⟩
mutual
theorem Tr.wf_mono{np:Nat}:∀(t:Tr) {d e:Nat},e<=d->t.wf np d->t.wf np e
 | .n k u o nm ch,d,e,he,h=>by
  rw[Tr.wf]at h⊢;refine⟨G,h.2.1,b7m ch (d:=if k=4 then d else d+1) ?_ h.2.2⟩
  split<;>omega
theorem b7m{np:Nat}:∀(l:List Tr) {d e:Nat},e<=d->wfL np d l->wfL np e l
 | [],_,_,_,_=>by rw[wfL];trivial
 |t::l,d,e,he,h=>by
  rw[wfL]at h⊢;exact⟨Tr.wf_mono t he h.1,b7m l he h.2⟩
end
def Got(np d:Nat)(b:List Ex)(x:PX):Prop:=∃t:Tr,x.2.2=b++t.flat b.length/\x.1+1=x.2.2.length/\t.wf np d
theorem a5a{b1:List Ex}{ch:List Tr}{k:Int}{args:List Int}{b2:List Ex}(h1:b1=b++M7 ch b.length)(h2:args=x8 ch b.length)(h3:X2 b1 ⟨k,u,o,nm,args⟩=some (i,b2))(hd:d<=32)(hn:a0K np k u o nm ch.length)(hw:wfL np (if k=4 then d else d+1) ch)(m:Nat):Got np d b (i,m,b2):=by
 unfold X2 at h3;split at h3
 .cases h3
 .injection h3 with h3
  injection h3 with h3 h4
  subst h1 h2 h3 h4;refine⟨.n k u o nm ch,by rw[Tr.flat,H5],by simp;omega,?_⟩;rw[Tr.wf];exact⟨hd,hn,hw⟩
def TG(T:List Tok):Prop:=∀i,((tk T i).k=1->B9 (tk T i).t=true)/\0<=(tk T i).n/\(tk T i).n<=9007199254740992
theorem d6G{t:Tok}{lv:Int}(h:¬opS t lv=0):1<=opS t lv/\opS t lv<=7:=by
 unfold opS at h⊢;cases hf:S0.find? (opM t lv)with
 |none=>rw[hf]at h;exact absurd O h
 |some y=>
  have h2:=c49 hf;simp only[b95,a84];revert h2;revert y;intro y _ hy;have:∀y∈S0,1<=y.1/\y.1<=7:=by decide
  exact this y hy
theorem a3m(h:L8 b x m=some y):X2 b x=some (y.1,y.2.2)/\y.2.1=m:=by
 unfold L8 at h;cases hp:X2 b x with
 |none=>rw[hp]at h;cases h
 |some w=>
  rw[hp,n_9]at h;injection h with h
  subst h;exact⟨O,O⟩
theorem a10{k:Int}(h:L8 b ⟨k,u,o,nm,[]⟩ m=some y)(hd:d<=32)(hn:a0K np k u o nm 0):Got np d b y:=by
 obtain⟨h1,h2⟩:=a3m h;have:=a5a (np:=np) (d:=d) (b:=b) (ch:=[]) (args:=[]) (by rw[M7,Z7]) O h1 hd hn (by rw[wfL];trivial) y.2.1;exact this
theorem d6b{e:Nat}{x:PX}{k:Int}(hx:Got np e b x)(h:L8 x.2.2 ⟨k,u,o,nm,[(x.1:Int)]⟩ m=some y)(hd:d<=32)(hn:a0K np k u o nm 1)(he:e=if k=4 then d else d+1):Got np d b y:=by
 obtain⟨t,t1,t2,t3⟩:=hx;obtain⟨h1,h2⟩:=a3m h;have hl:=t.flat_len b.length;rw[t1,n_8,hl]at t2;have:=a5a (np:=np) (d:=d) (b:=b) (ch:=[t]) (args:=[(x.1:Int)]) (by rw[t1,M7,M7,Z7]) (by rw[x8,x8];congr 1;omega) h1 hd hn (by rw[wfL,wfL,<- he];exact⟨t3,J⟩) y.2.1;exact this
theorem c9{β:Type}{o:Option α}{f:α->Option β}{y:β}(h:o.bind f=some y):∃x,o=some x/\f x=some y:=by
 cases o with
 |none=>cases h
 |some x=>exact⟨x,O,h⟩
theorem a8o{T:List Tok}{x:Tok×Nat}(h:a0E T n=some x):F8 x.1.t=true:=by
 obtain⟨y,_,h2⟩:=c9 h;split at h2
 .rename_i hp;injection h2 with h2
  subst h2;exact hp
 .cases h2
theorem a7a{T:List Tok}{k:Int}{x:Tok×Nat}(h:F9 T n k=some x):x.1=tk T n/\(tk T n).k=k:=by
 unfold F9 at h;split at h
 .rename_i hk;injection h with h
  subst h;exact⟨O,hk⟩
 .cases h
theorem c5M{T:List Tok}{F:PF}(hF:∀d n b x,F.ex d n b=some x->Got np d b x)(hT:TG T){u:I}(hd:d<=32)(h:X7 T F u d n b=some y):Got np d b y:=by
 unfold X7 at h;obtain⟨n1,_,h⟩:=c9 h;split at h
 .obtain ⟨s,h1,h⟩:=c9 h;obtain⟨n2,_,h⟩:=c9 h;obtain⟨x,h3,h⟩:=c9 h;obtain⟨m,_,h⟩:=c9 h;exact d6b (hF _ _ _ _ h3) h hd ⟨H,λ_ _ _=>O,λ_=>O,λh=>absurd h H,O,λh=>absurd h H,λh=>absurd h H,λh=>absurd h H,λh=>absurd h H,λ_=>a8o h1,λh=>absurd h H,λh=>absurd h H⟩ O
 .split at h
  .obtain ⟨s,h1,h⟩:=c9 h;obtain⟨m,_,h⟩:=c9 h;exact a10 h hd ⟨H,λ_ _ _=>O,λ_=>O,λh=>absurd h H,O,λh=>absurd h H,λh=>absurd h H,λh=>absurd h H,λh=>absurd h H,λ_=>a8o h1,λh=>absurd h H,λh=>absurd h H⟩
  .split at h
   .obtain ⟨s,h1,h⟩:=c9 h;obtain⟨m,_,h⟩:=c9 h;exact a10 h hd ⟨H,λ_ _ _=>O,λ_=>O,λh=>absurd h H,O,λh=>absurd h H,λh=>absurd h H,λh=>absurd h H,λh=>absurd h H,λ_=>a8o h1,λh=>absurd h H,λh=>absurd h H⟩
   .split at h
    .obtain ⟨s,h1,h⟩:=c9 h;split at h
     .rename_i bX;obtain⟨m,_,h⟩:=c9 h;exact a10 h hd ⟨H,λ_ _ _=>O,λ_=>O,λh=>absurd h H,O,λh=>absurd h H,λh=>absurd h H,λh=>absurd h H,λh=>absurd h H,λh=>absurd h H,λ_=>bX,λh=>absurd h H⟩
     .cases h
    .obtain ⟨s,h1,h⟩:=c9 h;split at h
     .cases h
     .rename_i af;obtain⟨m,_,h⟩:=c9 h;have hk:=a7a h1;have hg:=(hT n1).2;rw[<- hk.1]at hg;exact a10 h hd ⟨H,λ_ _ h=>absurd O h,λ_=>O,λ_=>O,O,λh=>absurd h H,λh=>absurd h H,λh=>absurd h H,λh=>absurd h H,λh=>absurd h H,λh=>absurd h H,λ_=>⟨hg.1,G⟩⟩
theorem c4c{T:List Tok}{ps:List I}(hT:TG T):∀f:Nat,
 (∀d n b x,(z6 T ps f).ex d n b=some x->Got ps.length d b x) /\
 (∀lv d n b x,d<=32->(z6 T ps f).bin lv d n b=some x->Got ps.length d b x) /\
 (∀lv d n b x,d<=32->(z6 T ps f).fac d n b=some x->lv=0->Got ps.length d b x) /\
 (∀lv d n b0 b (tx:Tr) (i:Nat) x,d<=32->b=b0++tx.flat b0.length->i+1=b.length->tx.wf ps.length d->(z6 T ps f).lp lv d i n b=some x->Got ps.length d b0 x) /\
 (∀d n b0 b (ch:List Tr) bq y,d<=32->b=b0++M7 ch b0.length->bq=x8 ch b0.length->wfL ps.length (d+1) ch->(z6 T ps f).ag d n b bq=some y->∃ch',y.2.2=b0++M7 ch' b0.length/\y.1=x8 ch' b0.length/\wfL ps.length (d+1) ch')
 |0=>by
  refine⟨λd n b x h=>?_,λlv d n b x _ h=>?_,λlv d n b x _ h=>?_,λlv d n b0 b tx i x _ _ _ _ h=>?_,λd n b0 b ch bq y _ _ _ _ h=>?_⟩<;>cases h
 |f+1=>by
  obtain⟨hE,hB,hF,hL,hA⟩:=c4c hT f;refine⟨λd n b x h=>?_,λlv d n b x hd h=>?_,λlv d n b y hd h _=>?_,λlv d n b0 b tx i x hd hb hi hw h=>?_,λd n b0 b ch bq y hd hb ha hw h=>?_⟩
  .change (G4 T ps (z6 T ps f)).ex d n b=some x at h;simp only[G4]at h;split at h
   .cases h
   .rename_i hd;split at h
    .obtain ⟨x1,h1,h⟩:=c9 h;obtain⟨n2,_,h⟩:=c9 h;obtain⟨x2,h2,h⟩:=c9 h;obtain⟨n3,_,h⟩:=c9 h;obtain⟨x3,h3,h⟩:=c9 h;obtain⟨t1,a1,a2,a3⟩:=hE _ _ _ _ h1;obtain⟨t2,b1,b2,b3⟩:=hE _ _ _ _ h2;obtain⟨t3,c1,c2,c3⟩:=hE _ _ _ _ h3;have l1:=t1.flat_len b.length;have e1:x1.2.2.length=b.length+t1.size:=by rw[a1,n_8,l1]
     have e2:x2.2.2.length=b.length+t1.size+t2.size:=by rw[b1,n_8,t2.flat_len,e1]
     have e3:x3.2.2.length=b.length+t1.size+t2.size+t3.size:=by rw[c1,n_8,t3.flat_len,e2]
     obtain⟨g1,g2⟩:=a3m h;have:=a5a (np:=ps.length) (d:=d) (b:=b) (ch:=[t1,t2,t3]) (args:=[(x1.1:Int),(x2.1:Int),(x3.1:Int)]) (by rw[c1,b1,a1];simp only[M7,Z7,H5,n_8,Tr.flat_len,b2z]) (by simp only[x8];congr 1;omega;congr 1;omega;congr 1;omega) g1 G ⟨H,λ_ _ _=>O,λ_=>O,λ_=>O,O,λh=>absurd h H,λh=>absurd h H,λh=>absurd h H,λh=>absurd h H,λh=>absurd h H,λh=>absurd h H,λh=>absurd h H⟩ (by simp only[wfL];exact⟨a3,b3,c3,J⟩) x.2.1;exact this
    .exact hB 1 d n b x G h
  .change (G4 T ps (z6 T ps f)).bin lv d n b=some x at h;simp only[G4]at h;split at h
   .exact hF 0 d n b x hd h O
   .obtain ⟨x1,h1,h⟩:=c9 h;obtain⟨t,a1,a2,a3⟩:=hB _ _ _ _ _ hd h1;exact hL lv d x1.2.1 b x1.2.2 t x1.1 x hd a1 a2 a3 h
  .change (G4 T ps (z6 T ps f)).fac d n b=some y at h;simp only[G4]at h;have hg:=hT n;split at h
   .exact a10 h hd ⟨H,λh=>absurd O h,λ_=>O,λ_=>O,O,λ_=>⟨G,hg.2.2⟩,λh=>absurd h H,λh=>absurd h H,λh=>absurd h H,λh=>absurd h H,λh=>absurd h H,λh=>absurd h H⟩
   .split at h
    .obtain ⟨s,h1,h⟩:=c9 h;have hk:=a7a h1;have hg:=(hT (n+1)).2;rw[<- hk.1]at hg;exact a10 h hd ⟨H,λh=>absurd O h,λ_=>O,λ_=>O,O,λ_=>⟨G,G⟩,λh=>absurd h H,λh=>absurd h H,λh=>absurd h H,λh=>absurd h H,λh=>absurd h H,λh=>absurd h H⟩
    .split at h
     .obtain ⟨x1,h1,h⟩:=c9 h;obtain⟨m,_,h⟩:=c9 h;injection h with h
      subst h;obtain⟨t,a1,a2,a3⟩:=hE _ _ _ _ h1;exact⟨t,a1,a2,t.wf_mono (Nat.le_succ d) a3⟩
     .split at h
      .cases h
      .rename_i bB;split at h
       .exact c5M hE hT hd h
       .split at h
        .cases h
        .rename_i ba;split at h
         .obtain ⟨a,h1,h⟩:=c9 h;unfold a2K at h1;obtain⟨n1,_,h1⟩:=c9 h1;have eC:∃ch',a.2.2=b++M7 ch' b.length/\a.1=x8 ch' b.length/\wfL ps.length (d+1) ch':=by
           split at h1
           .injection h1 with h1
            subst h1;exact⟨[],by simp[M7],O,by rw[wfL];trivial⟩
           .exact hA d n1 b b [] [] a hd (by simp[M7]) O (by rw[wfL];trivial) h1
          obtain⟨ch,c1,c2,c3⟩:=eC;obtain⟨g1,g2⟩:=a3m h;have bX:B9 (tk T n).t=true:=hg.1 (D bB);have:=a5a (np:=ps.length) (d:=d) (b:=b) (ch:=ch) c1 c2 g1 hd ⟨H,λ_ _ _=>O,λ_=>O,λh=>absurd h H,O,λh=>absurd h H,λh=>absurd h H,λ_=>⟨bX,D ba⟩,λh=>absurd h H,λh=>absurd h H,λh=>absurd h H,λh=>absurd h H⟩ c3 y.2.1;exact this
         .split at h
          .cases h
          .rename_i hix;refine a10 h hd ⟨H,λ_ h=>absurd O h,λ_=>O,λ_=>O,O,λh=>absurd h H,λ_=>⟨G,?_⟩,λh=>absurd h H,λh=>absurd h H,λh=>absurd h H,λh=>absurd h H,λh=>absurd h H⟩
           rcases a9e (tk T n).t ps 0 with⟨_,g⟩|⟨_,_,g⟩
           .omega
           .simpa using g
  .change (G4 T ps (z6 T ps f)).lp lv d i n b=some x at h;simp only[G4]at h;split at h
   .injection h with h
    subst h;exact⟨tx,hb,hi,hw⟩
   .rename_i bi;obtain⟨y,h1,h⟩:=c9 h;obtain⟨w,h2,h⟩:=c9 h;obtain⟨ty,a1,a2,a3⟩:=hB _ _ _ _ _ hd h1;have e0:b.length=b0.length+tx.size:=by rw[hb,n_8,tx.flat_len]
    have e1:y.2.2.length=b0.length+tx.size+ty.size:=by rw[a1,n_8,ty.flat_len,e0]
    have hnode:Got ps.length d b0 (w.1,y.2.1,w.2):=a5a (np:=ps.length) (d:=d) (b:=b0) (ch:=[tx,ty]) (args:=[(i:Int),(y.1:Int)]) (by rw[a1,hb];simp only[M7,Z7,H5,n_8,Tr.flat_len]) (by simp only[x8];congr 1;omega;congr 1;omega) h2 hd ⟨H,λ_ _ _=>O,λh=>absurd O h,λ_=>O,O,λh=>absurd h H,λh=>absurd h H,λh=>absurd h H,λ_=>d6G bi,λh=>absurd h H,λh=>absurd h H,λh=>absurd h H⟩ (by simp only[wfL];exact⟨hw,a3,J⟩) y.2.1;split at h
    .injection h with h
     subst h;exact hnode
    .obtain ⟨t,c1,c2,c3⟩:=hnode;exact hL lv d y.2.1 b0 w.2 t w.1 x hd c1 c2 c3 h
  .change (G4 T ps (z6 T ps f)).ag d n b bq=some y at h;simp only[G4]at h;obtain⟨x1,h1,h⟩:=c9 h;obtain⟨t,a1,a2,a3⟩:=hE _ _ _ _ h1;have e0:b.length=b0.length+A4 ch:=by rw[hb,n_8,S2]
   have e1:x1.2.2.length=b0.length+A4 ch+t.size:=by rw[a1,n_8,t.flat_len,e0]
   have c1:x1.2.2=b0++M7 (ch++[t]) b0.length:=by rw[a1,hb,b16,H5];simp only[n_8,S2]
   have c2:bq++[(x1.1:Int)]=x8 (ch++[t]) b0.length:=by rw[ha,a9R];congr 2;omega
   have c3:=b8A hw a3;split at h
   .exact hA d _ b0 _ (ch++[t]) _ y hd c1 c2 c3 h
   .obtain ⟨m,_,h⟩:=c9 h;injection h with h
    subst h;exact⟨ch++[t],c1,c2,c3⟩
theorem a00(s:I)(hs:s.length<=1000000000000)(σ:List b9):b8 CC 304 [(sv s)] σ λr aa=>r= .ret (.val (.bool (B9 s&& !S6 s)))/\aa=σ:=by
 refine b8.anyw hCC pu_ pu_ (c7 (qO Tryz.func304 ?_)) σ;refine qY (c5 O c7q ⟨J,J⟩ (a1Q s _) O) ?_;refine qG C9 ?_;refine qG (λhg=>c5 O d3G ⟨hg,J⟩ (a2N s _) O) ?_;refine qG a2D ?_;refine qY R4 ?_;exact d3Z
theorem a0K.cnt0{k:Int}{c:Nat}(h:a0K np k u o nm c)(h3:k≠3)(h4:k≠4)(h5:k≠5)(h6:k≠6):c=0:=by
 have:=h.cnt;rw[W h4,W h5,W h6,W h3]at this;exact this
theorem c12(x:Ex)(np:Nat)(h:a0K np x.k x.num x.op x.name x.args.length)(bX:x.name.length<=1000000)(gI:x.args.length<=1000000)(σ:List b9):b8 CC 328 [.agg x.cells,iv np] σ λr aa=>r= .ret (.val (.bool true))/\aa=σ:=by
 refine an_ Tryz.func328 ?_;refine a6k ?_;refine F6 ?_;refine cW 8 ?_;refine hY c3d ?_;refine hY b4L ?_;refine hY a4V ?_;refine b9O ?_;refine hY a0c ?_;refine c0l ?_;refine a29 ?_;refine a56 ?_;refine cW 8 ?_;refine hY b8Q ?_;refine hY M6 ?_;refine hY Q0 ?_;refine b9O ?_;refine hY a0c ?_;refine c0l ?_;refine a29 ?_;refine a74 ?_;refine cY b1m ?_;refine cY a1l ?_;refine b9q ?_;refine a4B ?_;refine cC ?_ ?_<;>intro h1
 .have u1:x.k=1:=D h1;have e1:=h.op G;have e2:=h.name (.inl u1);have e3:=h.cnt0 G G G G;have e4:=h.k1 u1;refine b08 ?_;refine a9p ?_;refine c1o ?_;refine a9p ?_;refine b8f ?_;exact⟨_,rE1,_,_,O,O,j6 (by simp[e1,e2,e3];omega)⟩
 .have u1:¬x.k=1:=D h1;refine a4B ?_;refine cC ?_ ?_<;>intro h2
  .have u2:x.k=2:=D h2;have e1:=h.op G;have e2:=h.name (.inr (.inl u2));have e3:=h.cnt0 G G G G;have e4:=h.k2 u2;refine b08 ?_;refine a9p ?_;refine c1o ?_;refine a9p ?_;refine cG C9 ?_;refine cG a9q ?_;refine c6N ?_;exact⟨_,rE1,_,_,O,O,j6 (by simp[e1,e2,e3];omega)⟩
  .have u2:¬x.k=2:=D h2;refine a4B ?_;refine cC ?_ ?_<;>intro h3
   .have u3:x.k=3:=D h3;have e1:=h.op G;have e2:=h.num G G G;have e4:=h.k3 u3;refine d2l ?_;refine cG c4F ?_;refine cG a0J ?_;refine cG (λhg=>c5 O c6s ⟨hg,J⟩ (a00 x.name G _) O) ?_;refine c6N ?_;exact⟨_,rE1,_,_,O,O,j6 (by simp[e1,e2,e4])⟩
   .have u3:¬x.k=3:=D h3;refine a4B ?_;refine cC ?_ ?_<;>intro h4
    .have u4:x.k=4:=D h4;have e1:=h.num G G G;have e2:=h.name (.inr (.inr (.inl u4)));have e3:x.args.length=2:=by rw[h.cnt,Q u4]
     have e4:=h.k4 u4;refine b08 ?_;refine a9p ?_;refine c1o ?_;refine a9p ?_;refine b8f ?_;exact⟨_,rE1,_,_,O,O,j6 (by simp[e1,e2,e3];omega)⟩
    .have u4:¬x.k=4:=D h4;refine a4B ?_;refine cC ?_ ?_<;>intro h5
     .have u5:x.k=5:=D h5;have e1:=h.op G;have e5:=h.num G G G;have e2:=h.name (.inr (.inr (.inr (.inl u5))));have e3:x.args.length=3:=by rw[h.cnt,W G,Q u5]
      refine d2l ?_;refine e0d ?_;refine cG C9 ?_;refine b8f ?_;exact⟨_,rE1,_,_,O,O,j6 (by simp[e1,e2,e3,e5])⟩
     .have u5:¬x.k=5:=D h5;refine a4B ?_;refine cC ?_ ?_<;>intro h6
      .have u6:x.k=6:=D h6;have e1:=h.op G;have e2:=h.num G G G;have e3:x.args.length=1:=by rw[h.cnt,W G,W G,Q u6]
       have e4:=h.k678 (.inl u6);refine b08 ?_;refine cG c4F ?_;refine cG a0J ?_;exact d7X
      .have u6:¬x.k=6:=D h6;refine a07 hCC (α:=Bool) (λb=>[(2,.ptr 0 0),(5,iv x.args.length),(6,(.val (.bool (x.num == 0)))),(7,(.val (.bool (decide (x.name=[]))))),(8,(.val (.bool (x.op == 0)))),(22,iv x.k),(123,(.val (.bool b)))]) (λ_=>[.box x.cells]) (λb=>b=(x.k == 7 ||x.k == 8)) B5 uz_ ?_ ?_
       .
        refine a4B ?_;refine cC ?_ ?_<;>intro h7
        .refine w9 ?_;exact⟨(x.k == 7),_,(by simp_all),tu_,O⟩
        .refine C2 ?_;refine c6K ?_;exact⟨(x.k == 8),_,(by simp_all),tu_,O⟩
       .intro b hb;refine cC ?_ ?_<;>intro h8
        .have u8:x.k=7\/x.k=8:=by subst hb;simpa using h8
         have e1:=h.op G;have e2:=h.num G G G;have e3:=h.cnt0 G G G G;have e4:=h.k678 (.inr u8);refine b08 ?_;refine cG c4F ?_;refine cG a0J ?_;exact d7X
        .have u8:¬(x.k=7\/x.k=8):=by subst hb;simpa using h8
         refine a4B ?_;refine cC ?_ ?_<;>intro h9
         .have u9:x.k=9:=D h9;have e1:=h.op G;have e2:=h.num G G G;have e3:=h.cnt0 G G G G;have e4:=h.k9 u9;refine b08 ?_;refine cG c4F ?_;refine cG a0J ?_;refine cG (λhg=>c5 O c7q ⟨hg,J⟩ (a1Q x.name _) O) ?_;exact d9g
         .have u9:¬x.k=9:=D h9;refine a4B ?_;refine cC ?_ ?_<;>intro bp
          .have u10:x.k=10:=D bp;have e1:=h.op G;have e2:=h.name (.inr (.inr (.inr (.inr u10))));have e3:=h.cnt0 G G G G;have e4:=h.k10 u10;refine b08 ?_;refine a9p ?_;refine c1o ?_;refine a9p ?_;refine b8f ?_;exact⟨_,rE1,_,_,O,O,j6 (by simp[e1,e2,e3];omega)⟩
          .have u10:¬x.k=10:=D bp;have:=h.kind;exfalso;omega
mutual
def Tr.sts:Tr->Nat->List Nat
 | .n _ _ _ _ ch,s=>b3g ch s++[s]
def b3g:List Tr->Nat->List Nat
 | [],_=>[]
 |t::l,s=>t.sts s++b3g l (s+t.size)
end
mutual
theorem Tr.sts_len:∀(t:Tr) (s:Nat),(t.sts s).length=t.size
 | .n k u o nm ch,s=>by rw[Tr.sts,Tr.size,n_8,a3z ch s];rfl
theorem a3z:∀(l:List Tr) (s:Nat),(b3g l s).length=A4 l
 | [],_=>rfl
 |t::l,s=>by rw[b3g,A4,n_8,Tr.sts_len t s,a3z l _]
end
theorem a2f:∀(l:List Tr) (s:Nat),(x8 l s).length=l.length
 | [],_=>rfl
 |t::l,s=>by rw[x8,D3,D3,a2f l]
theorem Tr.sts_last(t:Tr)(s:Nat):(t.sts s)[t.size -1]?=some s:=by
 cases t with
 |n k u o nm ch=>
  rw[Tr.sts,Tr.size,Nat.add_sub_cancel,a1c (by rw[a3z];exact n_6 _),a3z];simp
def ChS(S:List Nat):List Tr->Nat->Prop
 | [],_=>True
 |c::l,s=>S[s+c.size -1]?=some s/\ChS S l (s+c.size)
structure e09(E:List Ex)(S:List Nat)(np j:Nat)(x:Ex)(z:Nat)(ch:List Tr):Prop where
 e:E[j]?=some x
 s:S[j]?=some z
 args:x.args=x8 ch z
 size:z+A4 ch=j
 chs:ChS S ch z
 ok:a0K np x.k x.num x.op x.name x.args.length
theorem c3P:∀(l:List Tr) (s:Nat) (S0 S1:List Nat),S0.length=s->ChS (S0++b3g l s++S1) l s
 | [],_,_,_,_=>trivial
 |t::l,s,S0,S1,h=>by
  have hp:=t.size_pos;refine⟨?_,?_⟩
  .rw [b3g,H5,H5,a1c G,h,show s+t.size -1-s=t.size -1 by omega,T7 (by rw[t.sts_len];omega)];exact t.sts_last s
  .have:=c3P l (s+t.size) (S0++t.sts s) S1 (by rw[n_8,t.sts_len,h]);rw[b3g,<- H5 S0];exact this
mutual
theorem c8J{np:Nat}:∀(t:Tr) {d:Nat} (s:Nat) (E0 E1:List Ex) (S0 S1:List Nat),E0.length=s->S0.length=s->t.wf np d->∀j,s<=j->j<s+t.size->∃x z ch,e09 (E0++t.flat s++E1) (S0++t.sts s++S1) np j x z ch
 | .n k u o nm ch,d,s,E0,E1,S0,S1,hE,hS,hw,j,h1,h2=>by
  rw[Tr.wf]at hw;rw[Tr.size]at h2;rw[Tr.flat,Tr.sts];by_cases hj:j<s+A4 ch
  .have:=c2W ch s E0 (⟨k,u,o,nm,x8 ch s⟩::E1) S0 (s::S1) hE hS hw.2.2 j h1 hj;simpa[H5]using this
  .have hj:j=s+A4 ch:=by omega
   refine⟨⟨k,u,o,nm,x8 ch s⟩,s,ch,?_,?_,O,G,?_,by rw[a2f];exact hw.2.1⟩
   .rw [<- H5,H5,a1c (by rw[n_8,S2];omega),n_8,S2,hE,hj,b9b];rfl
   .rw [<- H5,H5,a1c (by rw[n_8,a3z];omega),n_8,a3z,hS,hj,b9b];rfl
   .have:=c3P ch s S0 (s::S1) hS;simpa[H5]using this
theorem c2W{np:Nat}:∀(l:List Tr) {d:Nat} (s:Nat) (E0 E1:List Ex) (S0 S1:List Nat),E0.length=s->S0.length=s->wfL np d l->∀j,s<=j->j<s+A4 l->∃x z ch,e09 (E0++M7 l s++E1) (S0++b3g l s++S1) np j x z ch
 | [],_,s,_,_,_,_,_,_,_,j,h1,h2=>by rw[A4]at h2;omega
 |t::l,d,s,E0,E1,S0,S1,hE,hS,hw,j,h1,h2=>by
  rw[wfL]at hw;rw[A4]at h2;rw[M7,b3g];by_cases hj:j<s+t.size
  .have:=c8J t s E0 (M7 l (s+t.size)++E1) S0 (b3g l (s+t.size)++S1) hE hS hw.1 j h1 hj;simpa[H5]using this
  .have:=c2W l (s+t.size) (E0++t.flat s) E1 (S0++t.sts s) S1 (by rw[n_8,t.flat_len,hE]) (by rw[n_8,t.sts_len,hS]) hw.2 j G G;simpa[H5]using this
end
theorem b6C{t:Tr}(hw:t.wf np d)(h:j<t.size):∃x z ch,e09 (t.flat 0) (t.sts 0) np j x z ch:=by
 have:=c8J t 0 [] [] [] [] O O hw j (n_5 _) G;simpa using this
theorem b2h:∀{l:List Tr} {m:Nat} {c:Tr},l[m]?=some c->A4 (l.take (m+1))=A4 (l.take m)+c.size
 | [],m,c,h=>by simp at h
 |x::l,0,c,h=>by simp at h;subst h;simp[A4]
 |x::l,m+1,c,h=>by
  have:=b2h (l:=l) (m:=m) (c:=c) (D h);rw[a6Y,a6Y,A4,A4,this];omega
theorem Z5:∀{l:List Tr} {m s:Nat} {c:Tr},l[m]?=some c->(x8 l s)[m]?=some ((s+A4 (l.take m)+c.size -1:Nat):Int)
 | [],m,s,c,h=>by simp at h
 |x::l,0,s,c,h=>by simp at h;subst h;simp[x8,A4]
 |x::l,m+1,s,c,h=>by
  rw[x8,c42,Z5 (l:=l) (m:=m) (c:=c) (D h),a6Y,A4,b2z s]
theorem c4v{S:List Nat}:∀{l:List Tr} {m s:Nat} {c:Tr},ChS S l s->l[m]?=some c->S[s+A4 (l.take m)+c.size -1]?=some (s+A4 (l.take m))
 | [],m,s,c,_,h=>by simp at h
 |x::l,0,s,c,h,hc=>by simp at hc;subst hc;simpa[A4]using h.1
 |x::l,m+1,s,c,h,hc=>by
  have:=c4v (l:=l) (m:=m) (c:=c) h.2 (D hc);rw[a6Y,A4,<- b2z s];exact this
def a4g(S:List Nat)(n i:Nat):List Int:=(S.take i).map (λz:Nat=>(z:Int))++List.replicate (n-i) 0
theorem d0n(hS:S.length=n)(hi:i<=n):(a4g S n i).length=n:=by
 unfold a4g;rw[n_8,K6,a7Y,List.length_replicate];omega
theorem d5A(hj:j<i)(hz:S[j]?=some z):((a4g S n i).set i v)[j]?=some (z:Int):=by
 rw[a0S G];unfold a4g;have hl:=(n_2.1 hz).1;rw[T7 c3f,O2,a2q,Q hj,hz];rfl
theorem c4j(hS:S.length=n)(hi:i<n):((a4g S n i).set i v)[i]?=some v:=by
 rw[b0e (by rw[d0n hS G];exact hi)]
theorem c6v(hS:S.length=n)(hz:S[i]?=some z):(a4g S n i).set i (z:Int)=a4g S n (i+1):=by
 have hi:i<n:=by rw[<- hS];exact(n_2.1 hz).1
 unfold a4g;have e:n-i=(n- (i+1))+1:=by omega
 rw[e,List.replicate_succ,b7j _ _ c3f,K6,a7Y,Nat.min_eq_left G,b9b,List.set_cons_zero,Z2,hz];simp
theorem c7E(hj:i<n)(hz:S[i]?=some z):(a4g S n n)[i]?=some (z:Int):=by
 unfold a4g;have hl:=(n_2.1 hz).1;rw[T7 c3f,O2,a2q,Q hj,hz];rfl
structure DeG(d:De):Prop where
 kind:d.k=1\/d.k=2\/d.k=3
 name:d.k≠3->B9 d.name=true/\S6 d.name=false
 path:d.k=3->F8 d.name=true
 pars:d.k≠1->d.params=[]
 par:∀s∈d.params,B9 s=true/\S6 s=false
 parl:d.params.length<=8
 nod:d.params.Nodup
 tree:∃t:Tr,d.body=t.flat 0/\t.wf d.params.length 1
 blen:d.body.length<=256
theorem H8{s:I}(h:B9 s=true):s.length<=24:=by
 unfold B9 at h;cases s with
 |nil=>cases h
 |cons b s=>
  simp only[T5,a2t]at h;exact h.1.1
theorem a1K{s:I}(h:F8 s=true):s.length<=80:=by
 unfold F8 at h;simp only[T5,a2t]at h;exact h.1.1
theorem a0K.len{k:Int}{c:Nat}(h:a0K np k u o nm c):nm.length<=80:=by
 have hk:=h.kind;by_cases h3:k=3
 .have:=H8 (h.k3 h3).1;omega
 .by_cases h9:k=9
  .have:=H8 (h.k9 h9);omega
  .by_cases h6:k=6\/k=7\/k=8
   .exact a1K (h.k678 h6)
   .rw [h.name G];simp
theorem a8R:∀(l:List Tr),l.length<=A4 l
 | []=>n_6 _
 |t::l=>by have:=t.size_pos;have:=a8R l;rw[A4,D3];omega
theorem a6z:∀(l:List Tr) (m:Nat),A4 (l.take m)<=A4 l
 | [],m=>by simp
 |t::l,0=>by simp[A4]
 |t::l,m+1=>by have:=a6z l m;rw[a6Y,A4,A4];omega
theorem c8t(hS:S.length=n)(hi:i<n):(a4g S n i)[i]?=some 0:=by
 unfold a4g;rw[a1c c3f,K6,a7Y,Nat.min_eq_left G,b9b,d1o,Q G]
theorem De.old(x:De)(n:Nat):F7 n (.box x.cells):=A3 ⟨.val _,.val _,C4 _ _ _,N9 _ _ _,J⟩
theorem Ex.old(x:Ex)(n:Nat):F7 n (.box x.cells):=A3 ⟨.val _,.val _,.val _,.val _,P7 _ _ _,J⟩
theorem c82(n:Nat)(l:List Int):F7 n (.vec 1 (l.map icv)):=λr hr c hc=>by
 obtain⟨a,_,rfl⟩:=D6.1 hr;simp[icv]at hc;subst hc;exact .val _
theorem a7I(l:List Int)(i:Nat)(v:Int):(l.map icv).set i [iv v]=(l.set i v).map icv:=by rw[List.map_set];rfl
theorem b2Z(d:De)(h:DeG d)(σ:List b9):b8 CC 305 [.agg d.cells] σ λr aa=>r= .ret (.val (.bool true))/\aa=σ:=by
 refine an_ Tryz.func305 ?_;refine a6k ?_;refine a07 hCC (α:=Unit) (λ_=>[(1,.ptr 0 0)]) (λ_=>[.box d.cells]) (λ_=>True) B5 uz_ ?_ ?_
 .
  refine z_0 ?_;refine b8e ?_;refine b9q ?_;refine F6 ?_;refine a4B ?_;refine cC ?_ ?_<;>intro h1
  .have u1:d.k=1:=D h1;have bX:=h.name G;refine w9 ?_;refine cC ?_ ?_<;>intro h2
   .refine z_0 ?_;refine cY b4Q ?_;refine cY M6 ?_;refine ye O c6s ⟨J,J⟩ (a00 d.name (by have:=H8 bX.1;omega) _) O ?_;refine b2y ?_;refine cC ?_ ?_<;>intro h3
    .exfalso;simp[bX]at h3
    .exact d0W
   .exfalso;simp[u1]at h2
  .have u1:¬d.k=1:=D h1;refine C2 ?_;refine c6K ?_;refine cC ?_ ?_<;>intro h4
   .have u4:d.k=2:=D h4;have bX:=h.name G;refine z_0 ?_;refine cY b4Q ?_;refine cY M6 ?_;refine ye O c6s ⟨J,J⟩ (a00 d.name (by have:=H8 bX.1;omega) _) O ?_;refine b2y ?_;refine cC ?_ ?_<;>intro h5
    .exfalso;simp[bX]at h5
    .exact d0W
   .have u4:¬d.k=2:=D h4;refine a4B ?_;refine cC ?_ ?_<;>intro h6
    .have u6:d.k=3:=D h6;have bX:=h.path u6;refine z_0 ?_;refine cY b4Q ?_;refine cY M6 ?_;refine ye O c6J ⟨J,J⟩ (a1R d.name (by have:=a1K bX;omega) _) O ?_;refine b2y ?_;refine cC ?_ ?_<;>intro h7
     .exfalso;simp[bX]at h7
     .exact d0W
    .exfalso;have:=h.kind;simp at h6;omega
 .intro _ _;refine a6r ?_;refine b8w ?_;refine a2S ?_;refine o4 hCC (α:=Nat) (λi=>[(1,.ptr 0 0),(25,(.list (d.params.map scv) (gnn d.params.length) none)),(26,iv d.params.length),(27,iv i)]) (λ_=>[.box d.cells]) (λi=>i<=d.params.length) (λi=>d.params.length -i) 0 (n_5 _) tu_ (am:=[]) O B5 uz_ ?_;intro i hi;have bc:=h.parl;refine a2P ?_;refine cC ?_ ?_<;>intro h8
  .have af:(i:Int)<d.params.length:=D h8;obtain⟨y,hb⟩:=gx_ d.params i;have bX:=h.par y (n_3 hb);have bB:d.k=1:=by
    rcases Classical.em (d.k=1)with e|e
    .exact e
    .have:=h.pars e;rw[this]at hb;simp at hb
   refine a5p ?_;refine cY a4u ?_;refine cY a9z ?_;refine z_1 ?_;refine z_0 ?_;refine b8e ?_;refine b0b ?_;refine cG C9 ?_;refine cG (λhg=>c5 O c6s ⟨hg,J⟩ (a00 y (by have:=H8 bX.1;omega) _) O) ?_;refine cG a2D ?_;refine b6W ?_;refine cC ?_ ?_<;>intro h9
   .exfalso;simp[bX,bB]at h9
   .refine a9h ?_;exact⟨(i+1),_,⟨G,G⟩,tu_,O⟩
  .obtain ⟨t,dK,hwf⟩:=h.tree;have dw:d.body.length=t.size:=by rw[dK,t.flat_len]
   have dV:(t.sts 0).length=d.body.length:=by rw[t.sts_len,dw]
   have hb256:=h.blen;have htp:=t.size_pos;refine j8 ?_;refine b2i ?_;refine cY a4k ?_;refine cD (c1x O J J O O (n:=d.body.length) (c:=d.body.length) O O t_4 t_1 b8X t_7 O (a2J O) O G G (by have hb:Tryz.t3.bytes=8:=O;rw[hb];omega) ?_);refine z_1 ?_;refine L6 [.box d.cells,.vec 1 ((a4g (t.sts 0) d.body.length 0).map icv)] (by unfold a4g;simp[List.map_replicate];exact .inr O) ?_;refine a6r ?_;refine c9v ?_;refine cY a4k ?_;refine a2S ?_;refine o4 hCC (α:=Nat) (λi=>[(1,.ptr 0 0),(5,.vec 1 0 d.body.length),(45,(.list (d.body.map Ex.cv) (gnn d.body.length) none)),(46,iv d.body.length),(47,iv i)]) (λi=>[.box d.cells,.vec 1 ((a4g (t.sts 0) d.body.length i).map icv)]) (λi=>i<=d.body.length) (λi=>d.body.length -i) 0 (n_5 _) tu_ (am:=[]) O B5 uz_ ?_;intro i hi;refine a2P ?_;refine cC ?_ ?_<;>intro bp
   .have af:(i:Int)<d.body.length:=D bp;obtain⟨x,z,ch,cb⟩:=b6C hwf (j:=i) G;have gI:x.args.length=ch.length:=by rw[cb.args,a2f]
    have cy:=a8R ch;have aK:=cb.size;have hzi:z+A4 (ch.take ch.length)=i:=by rw[a57];exact aK
    refine b2t ?_;refine z_2 ?_;refine cY (r6 O J J O O b6o a9d G (j5 (by rw[dK];exact cb.e)) O) ?_;refine cY d7j ?_;refine cD (o6 O b2Y O j4 ?_);refine cY a0H ?_;refine cD (j1 O J J O j2 a9d j4 O O (nb O) ?_);refine a74 ?_;refine cY c3D ?_;refine b8w ?_;refine ye O Tryz.call328 i7 (c12 x d.params.length cb.ok (by have:=cb.ok.len;omega) G _) O ?_;refine b2y ?_;refine cC ?_ ?_<;>intro eF
    .exfalso;simp at eF
    .have hcur:=c8t (S:=t.sts 0) (i:=i) dV G;refine w9 ?_;refine b1P ?_;refine cY a4Q ?_;refine cD (N5 (((a4g (t.sts 0) d.body.length i).set i ((z+A4 (ch.take ch.length):Nat):Int)).map icv) O J J O j2 t_1 (.inl O) O (by simpa using j5 (f:=icv) hcur) O (nb O) (by rw[hzi];simp only[O7,a3N];exact a7I _ _ _) O ?_);refine a7E ?_;refine cY c3d ?_;refine cY b4L ?_;refine cY a4V ?_;refine cY V4 ?_;refine z_1 ?_;refine J9 ?_;refine o4 hCC (α:=Nat) (λm=>[(1,.ptr 0 0),(5,.vec 1 0 d.body.length),(6,iv i),(7,.ptr 2 0),(8,(iv ((m:Int) -1))),(45,(.list (d.body.map Ex.cv) (gnn d.body.length) none)),(46,iv d.body.length),(47,iv i)]) (λm=>[.box d.cells,.vec 1 (((a4g (t.sts 0) d.body.length i).set i ((z+A4 (ch.take m):Nat):Int)).map icv),.box x.cells]) (λm=>m<=ch.length) (λm=>m) ch.length (n_6 _) ⟨B7,B7,B7,B7,⟨J,(n_7 (λz:Nat=>(iv ((z:Int) -1))) gI)⟩,B7,B7,B7,J⟩ (am:=[]) O B5 uz_ ?_;intro m hm;refine a9n ?_;refine cC ?_ ?_<;>intro eG
     .have hmp:(0:Int)<=(m:Int) -1:=D eG;obtain⟨m,rfl⟩:∃m',m=m'+1:=⟨m-1,G⟩;obtain⟨c,hc⟩:=gx_ ch m;have aF:=b2h hc;have hcp:=c.size_pos;have aM:=a6z ch (m+1);refine b2t ?_;refine a9t ?_;refine cW 19 ?_;refine hY c3d ?_;refine hY b4L ?_;refine hY D2 ?_;refine hY e1x ?_;refine hY b3A ?_;refine a3s ?_;refine hY a4Q ?_;refine hY (P0 O J O a2u O (by simpa using j5 (f:=icv) (c4j dV G)) O) ?_;refine hY V4 ?_;refine b3G ?_;refine O1 O O J O (λhg=>j3 O J O a89 O b60 H) ?_;refine O1 O O J O (λhg=>j9 O hg O c7u O O) ?_;refine O1 O O J O C9 ?_;refine O1 O O J O (λhg=>r6 O hg hg O O t_4 t_1 a9M (j5 (by rw[show(((m+1:Nat):Int) -1).toNat=m by omega,cb.args];exact Z5 hc)) O) ?_;refine O1 O O J O (λhg=>a0N O hg O a2u O) ?_;refine O1 O O J O a3h ?_;refine hY U4 ?_;refine a6g ?_;refine cC ?_ ?_<;>intro eH
      .exfalso;simp at eH;omega
      .refine w9 ?_;refine a9A ?_;refine cY D2 ?_;refine cY c3d ?_;refine cY b4L ?_;refine cY D2 ?_;refine cY e1x ?_;refine cY b3A ?_;refine cY a4Q ?_;refine cY (P0 O J O a2u O (by simpa using j5 (f:=icv) (d5A (n:=d.body.length) (i:=i) (v:=((z+A4 (ch.take (m+1)):Nat):Int)) G (c4v cb.chs hc))) O) ?_;refine cY a4Q ?_;refine cD (N5 (((a4g (t.sts 0) d.body.length i).set i ((z+A4 (ch.take m):Nat):Int)).map icv) O J J O j2 t_1 (.inl O) O (by simpa using j5 (f:=icv) (c4j dV G)) O (nb O) (by simp only[O7,a3N];refine(a7I _ _ _).trans ?_;rw[List.set_set,Int.natCast_add]) O ?_);refine p7 ?_;refine z_9 ?_;refine cY V4 ?_;refine z_1 ?_;exact⟨m,_,⟨G,G⟩,⟨B7,B7,B7,B7,⟨J,(n_7 (λz:Int=>(iv z)) G)⟩,B7,B7,B7,J⟩,O⟩
     .have hm0:m=0:=sm_ eG;subst hm0;refine L6 [.box d.cells,.vec 1 ((a4g (t.sts 0) d.body.length (i+1)).map icv),.box x.cells] (by rw[<- c6v dV cb.s];rfl) ?_;refine j8 ?_;refine a8F ?_;exact⟨(i+1),_,⟨G,G⟩,tu_,O⟩
   .have bO:i=d.body.length:=sm_ bp;have hroot:(t.sts 0)[d.body.length -1]?=some 0:=by rw[dw];exact t.sts_last 0
    refine j8 ?_;refine b2i ?_;refine cY a4k ?_;refine b0b ?_;refine cG C9 ?_;refine d9f ?_;refine cG d2v ?_;refine cG e0m ?_;refine cG (λhg=>X1 O hg hg O O t_4 t_1 O a9M a9M) ?_;refine cG (λhg=>P0 O hg O a2u O (by rw[bO,show 0+((d.body.length:Int) -1).toNat=d.body.length -1 by omega];exact j5 (f:=icv) (c7E G hroot)) O) ?_;refine b8f ?_;exact⟨_,rE1,_,_,O,O,j6 H6⟩
structure a09(x:Src):Prop where
 pkg:B9 x.pkg=true/\S6 x.pkg=false
 imp:∀s∈x.imports,B9 s=true/\S6 s=false
 impl:x.imports.length<=8
 impn:x.imports.Nodup
 impp:x.pkg∉x.imports
 dec:∀d∈x.decls,DeG d
 decl:x.decls.length<=64
 decn:(x.decls.map λd=>(d.k,d.name)).Nodup
structure Sn where
 k:Int
 s:I
deriving DecidableEq
variable{k:Int}{s:I}
abbrev Sn.cells(x:Sn):List CV:=[iv x.k,sv x.s]
def Sn.cv(x:Sn):List CV:=x.cells
theorem b8x(l:List Sn)(nn:Bool):p9 (.list (l.map Sn.cv) nn none):=F3 (f:=Sn.cv) (λ_=>⟨.val _,.val _,J⟩) l nn
theorem c2F(n:Nat)(l:List Sn)(nn:Bool):Old n (.list (l.map Sn.cv) nn none):=(b8x l nn).old
theorem e1e(x y:Sn):∀w,(Op.equal 318 (.agg [.int .i64 x.k,.string (str x.s)].toArray) (.agg [.int .i64 y.k,.string (str y.s)].toArray)).run CC.P w= .ok (decide (x=y)) w:=λw=>by
 show(Op.equal _ _ _).run Tryz.prog w=_;simp[Op.equal,Op.maxDepth,go_sem,Q4];obtain⟨a,b⟩:=x;obtain⟨a',b'⟩:=y;by_cases h1:a=a'<;>by_cases h2:b=b'<;>simp[h1,h2]
theorem b03{l:List α}{y:α}(h:l.Nodup)(hy:l[i]?=some y):y∉l.take i:=λhm=>by
 obtain⟨j,hj⟩:=K5.1 hm;rw[a2q]at hj;split at hj
 .rename_i af;obtain⟨h1,e1⟩:=n_2.1 hy;obtain⟨h2,e2⟩:=n_2.1 hj;exact(List.pairwise_iff_getElem.1 h) j i h2 h1 af (e2.trans e1.symm)
 .cases hj
def ixG{α:Type} [DecidableEq α]:List α->α->Nat->Int
 | [],_,_=>-1
 |y::l,x,i=>if x=y then i else ixG l x (i+1)
theorem c7R [DecidableEq α]{l:List α}{y:α}(h:l[i]?=some y)(x:α):ixG (l.drop i) x i=if x=y then(i:Int)else ixG (l.drop (i+1)) x (i+1):=by
 obtain⟨af,he⟩:=n_2.1 h;rw[Y0 af,he];rfl
theorem c5e{α:Type} [DecidableEq α]{x:α}:∀{l:List α} {i:Nat},0<=ixG l x i↔x∈l
 | [],i=>by simp[ixG]
 |y::l,i=>by
  rw[ixG];by_cases h:x=y
  .subst h;simp
  .rw [W h,c5e (l:=l) (i:=i+1)];simp[h]
theorem a8i(l:List I)(nn:Bool)(i:Nat)(x:I)(hl:l.length<=1000000000)(σ:List b9):b8 CC 161 [.list (((l.map scv).take i).drop 0) nn none,sv x] σ λr aa=>r= .ret (.val (.bool (decide (x∈l.take i))))/\aa=σ:=by
 have:=a0m (l.take i) nn x a9r σ;rw[b0k,<- List.map_take];exact this
theorem a9D(l:List I)(nn:Bool)(hl:l.length<=1000000)(hn:l.Nodup)(σ:List b9):b8 CC 306 [(.list (l.map scv) nn none)] σ λr aa=>r= .ret (.val (.bool false))/\aa=σ:=by
 refine b8.anyw hCC pu_ pu_ (c7 (qO Tryz.func306 ?_)) σ;refine qY P5 ?_;refine o4 hCC (α:=Nat) (λi=>[(0,(.list (l.map scv) nn none)),(5,(.list (l.map scv) nn none)),(6,iv l.length),(7,iv i)]) (λ_=>[]) (λi=>i<=l.length) (λi=>l.length -i) 0 (n_5 _) tu_ (am:=[]) O B5 uz_ ?_;intro i hi;refine qk (qC ?_ ?_)<;> intro h1
 .have af:(i:Int)<l.length:=D h1;obtain⟨y,hb⟩:=gx_ l i;refine qY a4u ?_;refine qY (b6A (h:=i) O J O t_2 t_0 d1H O a18 a1U (by rw[K6];omega)) ?_;refine qY (c5 O d0D i7 (a8i l _ i y G _) O) ?_;refine cC ?_ ?_<;>intro h2
  .exfalso;exact b03 hn hb (D h2)
  .refine qk ?_;exact b8j
 .exact d1q
theorem c0A(l:List Sn)(nn:Bool)(x:Sn)(hl:l.length<=1000000)(σ:List b9):b8 CC 337 [(.list (l.map Sn.cv) nn none),.agg x.cells] σ λr aa=>r= .ret (iv (ixG l x 0))/\aa=σ:=by
 refine b8.anyw hCC pu_ pu_ (c7 (qO Tryz.func337 ?_)) σ;refine qD (H3 O J j2 j4 ?_);refine qY (X5 O J O c11 a49 O) ?_;refine o4 hCC (α:=Nat) (λi=>[(0,(.list (l.map Sn.cv) nn none)),(3,.ptr 0 0),(7,iv l.length),(8,iv i)]) (λ_=>[.box x.cells]) (λi=>i<=l.length/\ixG l x 0=ixG (l.drop i) x i) (λi=>l.length -i) 0 ⟨n_5 _,O⟩ tu_ (am:=[]) O B5 uz_ ?_;intro i ⟨hi,hr⟩;refine qk (qC ?_ ?_)<;> intro h1
 .have af:(i:Int)<l.length:=D h1;obtain⟨y,hb⟩:=gx_ l i;rw[c7R hb]at hr;refine cW 6 ?_;refine hY (I8 O J O d3N b6g O (nb O)) ?_;refine a3s ?_;refine hY (r6 O J J O O c11 b6g G a5z O) ?_;refine hY (U5 O J O d3N b6g (nb O)) ?_;refine hY (b05 O J J (xs:=[.int .i64 x.k,.string (str x.s)]) (ys:=[.int .i64 y.k,.string (str y.s)]) O O Tryz.eqGuardType318 (e1e x y)) ?_;refine a0T ?_;refine qC ?_ ?_<;>intro h2
  .have u2:x=y:=D h2;rw[Q u2]at hr;exact d7H
  .have u2:¬x=y:=D h2;rw[W u2]at hr;exact b5O
 .have aH:l.length<=i:=sm_ h1;rw[Y4 aH]at hr;refine a0i ?_;exact⟨_,rE1,_,_,O,O,B4 d2n⟩
theorem b23(l:List Sn)(nn:Bool)(x:Sn)(hl:l.length<=1000000)(σ:List b9):b8 CC 329 [(.list (l.map Sn.cv) nn none),.agg x.cells] σ λr aa=>r= .ret (.val (.bool (decide (x∈l))))/\aa=σ:=by
 refine b8.anyw hCC pu_ pu_ (c7 (qO Tryz.func329 ?_)) σ;refine qD (H3 O J j2 j4 ?_);refine qY (c5 O Tryz.call337 i7 (c0A l nn x hl _) O) ?_;refine c6 ?_;exact⟨_,rE1,_,_,O,O,j6 (b2P.2 c5e)⟩
theorem a9j(l:List Sn)(nn:Bool)(i:Nat)(x:Sn)(hl:l.length<=1000000)(σ:List b9):b8 CC 329 [.list (((l.map Sn.cv).take i).drop 0) nn none,.agg x.cells] σ λr aa=>r= .ret (.val (.bool (decide (x∈l.take i))))/\aa=σ:=by
 have:=b23 (l.take i) nn x a9r σ;rw[b0k,<- List.map_take];exact this
theorem c0Y(l:List Sn)(nn:Bool)(hl:l.length<=1000000)(hn:l.Nodup)(σ:List b9):b8 CC 307 [(.list (l.map Sn.cv) nn none)] σ λr aa=>r= .ret (.val (.bool false))/\aa=σ:=by
 refine b8.anyw hCC pu_ pu_ (c7 (qO Tryz.func307 ?_)) σ;refine qY (X5 O J O c11 a49 O) ?_;refine o4 hCC (α:=Nat) (λi=>[(0,(.list (l.map Sn.cv) nn none)),(5,(.list (l.map Sn.cv) nn none)),(6,iv l.length),(7,iv i)]) (λ_=>[]) (λi=>i<=l.length) (λi=>l.length -i) 0 (n_5 _) tu_ (am:=[]) O B5 uz_ ?_;intro i hi;refine qk (qC ?_ ?_)<;> intro h1
 .have af:(i:Int)<l.length:=D h1;obtain⟨y,hb⟩:=gx_ l i;refine qY (r6 O J J O O c11 b6g G a5z O) ?_;refine qD (o6 O c28 O j4 ?_);refine qD (j1 O J J O j2 b6g j4 O O (nb O) ?_);refine cW 5 ?_;refine a3s ?_;refine hY (b6A (h:=i) O J O c11 b6g d1H O a18 a1U (by rw[K6];omega)) ?_;refine hY (I8 O J O d3N b6g O (nb O)) ?_;refine hY (c5 O Tryz.call329 i7 (a9j l _ i y G _) O) ?_;refine a0T ?_;refine cC ?_ ?_<;>intro h2
  .exfalso;exact b03 hn hb (D h2)
  .refine qk ?_;exact b8j
 .exact d1q
theorem b86(x:Src)(h:a09 x)(σ:List b9):b8 CC 269 [.agg x.cells] σ λr aa=>r= .ret (.val (.bool true))/\aa=σ:=by
 refine b8.anyw hCC pu_ pu_ (c7 (qO Tryz.func269 ?_)) σ;refine qD (H3 O J j2 j4 ?_);refine qY (c5 O c6s ⟨J,J⟩ (a00 x.pkg (by have:=H8 h.pkg.1;omega) _) O) ?_;refine qC ?_ ?_<;>intro h1
 .exfalso;simp[h.pkg]at h1
 .have bo:=h.impl;have dT:=h.decl;refine qY P5 ?_;refine o4 hCC (α:=Nat) (λi=>[(1,.ptr 0 0),(12,(.list (x.imports.map scv) (gnn x.imports.length) none)),(13,iv x.imports.length),(14,iv i)]) (λ_=>[.box x.cells]) (λi=>i<=x.imports.length) (λi=>x.imports.length -i) 0 (n_5 _) tu_ (am:=[]) O B5 uz_ ?_;intro i hi;refine qk (qC ?_ ?_)<;> intro h2
  .have af:(i:Int)<x.imports.length:=D h2;obtain⟨y,hb⟩:=gx_ x.imports i;have bX:=h.imp y (n_3 hb);refine qY a4u ?_;refine qY (c5 O c6s ⟨J,J⟩ (a00 y (by have:=H8 bX.1;omega) _) O) ?_;refine qC ?_ ?_<;>intro h3
   .exfalso;simp[bX]at h3
   .exact b8j
  .refine j8 ?_;refine qY a6w ?_;refine o4 hCC (α:=Nat) (λi=>[(23,(.list (x.decls.map De.cv) (gnn x.decls.length) none)),(24,iv x.decls.length),(25,iv i)]) (λ_=>[.box x.cells]) (λi=>i<=x.decls.length) (λi=>x.decls.length -i) 0 (n_5 _) tu_ (am:=[]) O B5 uz_ ?_;intro i hi;refine qk (qC ?_ ?_)<;> intro h4
   .have af:(i:Int)<x.decls.length:=D h4;obtain⟨d,hd⟩:=gx_ x.decls i;have hg:=h.dec d (n_3 hd);refine qY c22 ?_;refine c1n ?_;refine qY (c5 O Tryz.call305 ⟨J,J⟩ (b2Z d hg _) O) ?_;refine cC ?_ ?_<;>intro h5
    .exfalso;simp at h5
    .refine qk ?_;exact b8j
   .exact d1q
mutual
def Tr.deps:Nat->Tr->List Nat
 |d,.n k _ _ _ ch=>a6s (if k=4 then d else d+1) ch++[d]
def a6s:Nat->List Tr->List Nat
 |_,[]=>[]
 |d,t::l=>t.deps d++a6s d l
end
mutual
theorem Tr.deps_len:∀(t:Tr) (d:Nat),(t.deps d).length=t.size
 | .n k u o nm ch,d=>by rw[Tr.deps,Tr.size,n_8,a1L ch];rfl
theorem a1L:∀(l:List Tr) (d:Nat),(a6s d l).length=A4 l
 | [],_=>rfl
 |t::l,d=>by rw[a6s,A4,n_8,Tr.deps_len t d,a1L l _]
end
theorem Tr.deps_last(t:Tr)(d:Nat):(t.deps d)[t.size -1]?=some d:=by
 cases t with
 |n k u o nm ch=>
  rw[Tr.deps,Tr.size,Nat.add_sub_cancel,a1c (by rw[a1L];exact n_6 _),a1L];simp
structure d9P(E:List Ex)(Je:List Nat)(d j:Nat)(x:Ex)(e:Nat):Prop where
 he:E[j]?=some x
 hd:Je[j]?=some e
 lo:d<=e
 hi:e<=32
 ch:∀a∈x.args,∃r:Nat,a=r/\Je[r]?=some (if x.k=4 then e else e+1)
theorem b3D{d:Nat}:∀(l:List Tr) (s:Nat) (D0 D1:List Nat),D0.length=s->∀a∈x8 l s,∃r:Nat,a=r/\(D0++a6s d l++D1)[r]?=some d
 | [],_,_,_,_,a,h=>by cases h
 |t::l,s,D0,D1,hD,a,h=>by
  rw[x8]at h;have hp:=t.size_pos
  rcases J2.1 h with rfl|h
  .refine ⟨s+t.size -1,O,?_⟩;rw[a6s,H5,H5,a1c G,hD,show s+t.size -1-s=t.size -1 by omega,T7 (by rw[t.deps_len];omega)];exact t.deps_last d
  .have:=b3D (d:=d) l (s+t.size) (D0++t.deps d) D1 (by rw[n_8,t.deps_len,hD]) a h;rw[a6s,<- H5 D0];exact this
mutual
theorem c9b{np:Nat}:∀(t:Tr) {d:Nat} (s:Nat) (E0 E1:List Ex) (D0 D1:List Nat),E0.length=s->D0.length=s->t.wf np d->∀j,s<=j->j<s+t.size->∃x e,d9P (E0++t.flat s++E1) (D0++t.deps d++D1) d j x e
 | .n k u o nm ch,d,s,E0,E1,D0,D1,hE,hD,hw,j,h1,h2=>by
  rw[Tr.wf]at hw;rw[Tr.size]at h2;rw[Tr.flat,Tr.deps];by_cases hj:j<s+A4 ch
  .obtain ⟨x,e,g⟩:=c3y ch s E0 (⟨k,u,o,nm,x8 ch s⟩::E1) D0 (d::D1) hE hD hw.2.2 j h1 hj;refine⟨x,e,⟨by simpa[H5]using g.he,by simpa[H5]using g.hd,?_,g.hi,λa ha=>by simpa[H5]using g.ch a ha⟩⟩;have:=g.lo;split at this<;>omega
  .have hj:j=s+A4 ch:=by omega
   refine⟨⟨k,u,o,nm,x8 ch s⟩,d,?_,?_,n_6 _,hw.1,λa ha=>?_⟩
   .rw [<- H5,H5,a1c (by rw[n_8,S2];omega),n_8,S2,hE,hj,b9b];rfl
   .rw [<- H5,H5,a1c (by rw[n_8,a1L];omega),n_8,a1L,hD,hj,b9b];rfl
   .have:=b3D (d:=if k=4 then d else d+1) ch s D0 (d::D1) hD a ha;simpa[H5]using this
theorem c3y{np:Nat}:∀(l:List Tr) {d:Nat} (s:Nat) (E0 E1:List Ex) (D0 D1:List Nat),E0.length=s->D0.length=s->wfL np d l->∀j,s<=j->j<s+A4 l->∃x e,d9P (E0++M7 l s++E1) (D0++a6s d l++D1) d j x e
 | [],_,s,_,_,_,_,_,_,_,j,h1,h2=>by rw[A4]at h2;omega
 |t::l,d,s,E0,E1,D0,D1,hE,hD,hw,j,h1,h2=>by
  rw[wfL]at hw;rw[A4]at h2;rw[M7,a6s];by_cases hj:j<s+t.size
  .have:=c9b t s E0 (M7 l (s+t.size)++E1) D0 (a6s d l++D1) hE hD hw.1 j h1 hj;simpa[H5]using this
  .have:=c3y l (s+t.size) (E0++t.flat s) E1 (D0++t.deps d) D1 (by rw[n_8,t.flat_len,hE]) (by rw[n_8,t.deps_len,hD]) hw.2 j G G;simpa[H5]using this
end
theorem d4P{t:Tr}(hw:t.wf np d)(h:j<t.size):∃x e,d9P (t.flat 0) (t.deps d) d j x e:=by
 have:=c9b t 0 [] [] [] [] O O hw j (n_5 _) G;simpa using this
structure Bnd(arr:List Int)(Je:List Nat):Prop where
 len:arr.length=Je.length
 le:∀(j e:Nat),Je[j]?=some e->∃v:Int,arr[j]?=some v/\0<=v/\v<=e
theorem Bnd.set{arr:List Int}{Je:List Nat}(h:Bnd arr Je){r e:Nat}(hr:Je[r]?=some e)(h0:0<=v)(h1:v<=e):Bnd (arr.set r v) Je:=by
 refine⟨by rw[List.length_set];exact h.len,λj e' hj=>?_⟩;by_cases hjr:r=j
 .subst hjr;rw[hr]at hj;injection hj with hj
  subst hj;have hl:=(n_2.1 hr).1;exact⟨v,by rw[b0e (by rw[h.len];exact hl)],h0,h1⟩
 .obtain ⟨u,g1,g2⟩:=h.le j e' hj;exact⟨u,by rw[a0S hjr];exact g1,g2⟩
theorem Bnd.zero(Je:List Nat):Bnd (List.replicate Je.length 0) Je:=by
 refine⟨List.length_replicate,λj e hj=>⟨0,?_,b0a _,G⟩⟩;have hl:=(n_2.1 hj).1;rw[d1o,Q hl]
theorem Src.old(x:Src)(n:Nat):F7 n (.box x.cells):=A3 ⟨.val _,C4 _ _ _,P1 _ _ _,J⟩
def b7G(d:De):Sn:=⟨d.k,d.name⟩
theorem d1M{l:List De}(h:(l.map λd=>(d.k,d.name)).Nodup):(l.map b7G).Nodup:=by
 have e:l.map b7G=(l.map λd=>(d.k,d.name)).map λp=>(⟨p.1,p.2⟩:Sn):=by rw[List.map_map];rfl
 rw[e];refine List.Pairwise.map _ (λa b df he=>?_) h;injection he with h1 h2
 exact df (Prod.ext h1 h2)
theorem c6d(x:Src)(h:a09 x)(σ:List b9):b8 CC 271 [.agg x.cells] σ λr aa=>r= .ret (.val (.bool false))/\aa=σ:=by
 refine an_ Tryz.func271 ?_;refine a6k ?_;refine a6r ?_;refine cY (j3 O J O a6l O a23 H) ?_;refine cY b36 ?_;refine cY P5 ?_;refine b0b ?_;refine cG (λhg=>j3 O J O a6l O c6k H) ?_;refine cG (λhg=>j9 O hg O b7F O O) ?_;refine cG (λhg=>X5 O hg O a7D a49 O) ?_;refine cG a3h ?_;refine b6W ?_;refine cC ?_ ?_<;>intro h1
 .exfalso;have:=h.impl;have:=h.decl;simp at h1;omega
 .have bo:=h.impl;have dT:=h.decl;refine b9M ?_;refine z_0 ?_;refine cY c3Y ?_;refine cY c2u ?_;refine cY a6w ?_;refine a2S ?_;refine o4 hCC (α:=Nat) (λi=>[(20,(.list (x.decls.map De.cv) (gnn x.decls.length) none)),(21,iv x.decls.length),(22,iv i)]) (λ_=>[.box x.cells]) (λi=>i<=x.decls.length) (λi=>x.decls.length -i) 0 (n_5 _) tu_ (am:=[]) O B5 uz_ ?_;intro i hi;refine a2P ?_;refine cC ?_ ?_<;>intro h2
  .have af:(i:Int)<x.decls.length:=D h2;obtain⟨d,hd⟩:=gx_ x.decls i;have hg:=h.dec d (n_3 hd);have bc:=hg.parl;have hb256:=hg.blen;obtain⟨t,dK,hwf⟩:=hg.tree;have dw:d.body.length=t.size:=by rw[dK,t.flat_len]
   have hdp:(t.deps 1).length=d.body.length:=by rw[t.deps_len,dw]
   have htp:=t.size_pos;refine a5p ?_;refine cY c22 ?_;refine d1c ?_;refine cD (j1 O J J O j2 a30 j4 O O (nb O) ?_);refine a74 ?_;refine b8w ?_;refine b0b ?_;refine d9f ?_;refine cG d2v ?_;refine cG a3h ?_;refine b6W ?_;refine cC ?_ ?_<;>intro h3
   .exfalso;simp at h3;omega
   .refine w9 ?_;refine b2i ?_;refine cY a4k ?_;refine cD (c1x O J J O O (n:=d.body.length) (c:=d.body.length) O O t_4 t_1 b8X t_7 O (a2J O) O G G (by have hb:Tryz.t3.bytes=8:=O;rw[hb];omega) ?_);refine z_1 ?_;refine L6 [.box x.cells,.box d.cells,.vec 1 ((List.replicate d.body.length 0).map icv)] (by simp[List.map_replicate];exact⟨O,.inr O⟩) ?_;refine b2i ?_;refine cY a4k ?_;refine cY V4 ?_;refine z_1 ?_;refine J9 ?_;refine o4 hCC (α:=Nat×List Int) (λy=>[(4,.ptr 1 0),(5,.vec 2 0 d.body.length),(6,(iv ((y.1:Int) -1))),(20,(.list (x.decls.map De.cv) (gnn x.decls.length) none)),(21,iv x.decls.length),(22,iv i)]) (λy=>[.box x.cells,.box d.cells,.vec 1 (y.2.map icv)]) (λy=>y.1<=d.body.length/\Bnd y.2 (t.deps 1)) (λy=>y.1) (d.body.length,List.replicate d.body.length 0) ⟨n_6 _,by rw[<- hdp];exact Bnd.zero _⟩ tu_ (am:=[]) O B5 uz_ ?_;intro⟨m,arr⟩ ⟨hm,eW⟩;dsimp only at hm eW⊢;refine a9n ?_;refine cC ?_ ?_<;>intro h4
    .have hmp:(0:Int)<=(m:Int) -1:=D h4;obtain⟨m,rfl⟩:∃m',m=m'+1:=⟨m-1,G⟩;have hmi:((m+1:Nat):Int) -1=(m:Int):=by omega
     obtain⟨y,e,eX⟩:=d4P hwf (j:=m) G;obtain⟨x',z',ch',cb⟩:=b6C hwf (j:=m) G;have hyx:x'=y:=Option.some.inj (cb.e.symm.trans eX.he);have ap:y.args.length<=256:=by
      rw[<- hyx,cb.args,a2f];have:=a8R ch';have:=cb.size;omega
     have ia:=eX.lo;have he32:=eX.hi;obtain⟨v,hv,hv0,dX⟩:=eW.le _ _ eX.hd;have gI:=eW.len;refine b2t ?_;refine a07 hCC (α:=List Int) (λa=>[(4,.ptr 1 0),(5,.vec 2 0 d.body.length),(6,(iv (((m+1:Nat):Int) -1))),(20,(.list (x.decls.map De.cv) (gnn x.decls.length) none)),(21,iv x.decls.length),(22,iv i)]) (λa=>[.box x.cells,.box d.cells,.vec 1 (a.map icv)]) (λa=>Bnd a (t.deps 1)) B5 uz_ ?_ ?_
     .
      refine a1Y ?_;refine cY a4Q ?_;refine cY d3h ?_;refine a5s ?_;refine cC ?_ ?_<;>intro h5
      .refine a9A ?_;refine cY a4Q ?_;refine cD (N5 ((arr.set m 1).map icv) O J O O j2 t_1 (.inl O) O (by rw[hmi];simpa using j5 (f:=icv) hv) O (nb O) (by rw[hmi];simp only[O7,a3N];exact a7I _ _ _) O ?_);refine p7 ?_;exact⟨(arr.set m 1),_,(eW.set eX.hd H G),tu_,O⟩
      .refine w9 ?_;exact⟨arr,_,eW,tu_,O⟩
     .intro arr eW;obtain⟨v,hv,hv0,dX⟩:=eW.le _ _ eX.hd;have gI:=eW.len;refine F6 ?_;refine a1Y ?_;refine cY a4Q ?_;refine cY d3h ?_;refine a5s ?_;refine cC ?_ ?_<;>intro h6
      .exfalso;simp at h6;omega
      .refine w9 ?_;refine b2i ?_;refine cY D2 ?_;refine cY e2v ?_;refine cY (a3I O J O a89 O b60 H) ?_;refine cY (a0N O J O c7u O) ?_;refine cY a4V ?_;refine a2S ?_;refine o4 hCC (α:=Nat×List Int) (λz=>[(4,.ptr 1 0),(5,.vec 2 0 d.body.length),(6,(iv (((m+1:Nat):Int) -1))),(20,(.list (x.decls.map De.cv) (gnn x.decls.length) none)),(21,iv x.decls.length),(22,iv i),(66,(.list (y.args.map icv) (gnn y.args.length) none)),(67,iv y.args.length),(68,iv z.1)]) (λz=>[.box x.cells,.box d.cells,.vec 1 (z.2.map icv)]) (λz=>z.1<=y.args.length/\Bnd z.2 (t.deps 1)) (λz=>y.args.length -z.1) (0,arr) ⟨n_5 _,eW⟩ tu_ (am:=[]) O B5 uz_ ?_;intro⟨p,arr⟩ ⟨hp,eW⟩;dsimp only at hp eW⊢;refine a2P ?_;refine cC ?_ ?_<;>intro h7
       .have hpt:(p:Int)<y.args.length:=D h7;obtain⟨a,ha⟩:=gx_ y.args p;obtain⟨r,rfl,hr⟩:=eX.ch a (n_3 ha);obtain⟨v,hv,hv0,dX⟩:=eW.le _ _ eX.hd;have gI:=eW.len;have cQ:=(n_2.1 hr).1;obtain⟨v2,db,_⟩:=eW.le _ _ hr;have hve:v<=((if y.k=4 then e else e+1:Nat):Int):=by split<;>omega
        have hb1:=eW.set hr hv0 hve;have aq:(arr.set r v)[r]?=some v:=by rw[b0e G]
        refine a5p ?_;refine cY (r6 O J J O O t_4 t_1 G (j5 ha) O) ?_;refine cY b3A ?_;refine z_1 ?_;refine b1P ?_;refine cY D2 ?_;refine cY a4Q ?_;refine cY d3h ?_;refine cY a4Q ?_;refine cD (N5 ((arr.set r v).map icv) O J J O j2 t_1 (.inl O) O (by simpa using j5 (f:=icv) db) O (nb O) (by simp only[O7,a3N];exact a7I _ _ _) O ?_);refine a7E ?_;refine c9v ?_;refine cY D2 ?_;refine cY e2v ?_;refine cY (a3I O J O a89 O t_1 H) ?_;refine cY b3A ?_;refine a5s ?_;refine cC ?_ ?_<;>intro h8
        .have u8:¬y.k=4:=D h8;rw[W u8]at hr;refine a9A ?_;refine cY a4Q ?_;refine cY (P0 O J O a2u O (by simpa using j5 (f:=icv) aq) O) ?_;refine cY o7 ?_;refine cY a4Q ?_;refine cD (N5 ((arr.set r (v+1)).map icv) O J J O j2 t_1 (.inl O) O (by simpa using j5 (f:=icv) aq) O (nb O) (by simp only[O7,a3N];refine(a7I _ _ _).trans ?_;rw[List.set_set]) O ?_);refine b46 ?_;exact⟨(p+1,arr.set r (v+1)),_,⟨do_,do_,eW.set hr G G⟩,tu_,O⟩
        .refine a9h ?_;exact⟨(p+1,arr.set r v),_,⟨do_,do_,hb1⟩,tu_,O⟩
       .refine j8 ?_;refine z_9 ?_;refine cY V4 ?_;refine z_1 ?_;exact⟨(m,arr),_,⟨do_,do_,eW⟩,⟨B7,B7,⟨J,(n_7 (λz:Int=>(iv z)) do_)⟩,B7,B7,B7,J⟩,O⟩
    .refine j8 ?_;refine a8F ?_;exact⟨(i+1),_,⟨G,G⟩,tu_,O⟩
  .refine j8 ?_;refine a5n ?_;exact d3Z
theorem c00(x:Src)(h:a09 x)(σ:List b9):b8 CC 270 [.agg x.cells] σ λr aa=>r= .ret (.val (.bool false))/\aa=σ:=by
 refine b8.anyw hCC pu_ pu_ (c7 (qO Tryz.func270 ?_)) σ;refine qD (H3 O J j2 j4 ?_);refine qY a6w ?_;refine A5 hCC 1 O (α:=Nat×List Sn) (λy=>[(1,.ptr 0 0),(3,(.list (y.2.map Sn.cv) (gnn y.2.length) (F1 y.2.length 1))),(7,(.list (x.decls.map De.cv) (gnn x.decls.length) none)),(8,iv x.decls.length),(9,iv y.1)]) (λy=>[.box x.cells,m0 y.2.length]) (λy=>y.1<=x.decls.length/\y.2=(x.decls.take y.1).map b7G) (λy=>x.decls.length -y.1) ⟨(0,[]),[0,9],⟨n_5 _,O⟩,⟨O,O⟩,ut_,uq_⟩ ?_;intro⟨i,l⟩ ⟨hi,hl⟩;dsimp only at hi hl⊢;have dT:=h.decl;have hll:l.length=i:=by rw[hl,K6,a7Y];omega
 refine qk (qC ?_ ?_)<;> intro h1
 .have af:(i:Int)<x.decls.length:=D h1;obtain⟨d,hd⟩:=gx_ x.decls i;have hg:=h.dec d (n_3 hd);have eU:=V9 l (b7G d);refine qY c22 ?_;refine c1n ?_;refine qY (c5 O Tryz.call306 ⟨J,J⟩ (a9D d.params _ (by have:=hg.parl;omega) hg.nod _) O) ?_;refine qC ?_ ?_<;>intro h2
  .cases h2
  .refine qY (A1 #[(0,1),(1,1)] O i7 Tryz.runUnderlying318 c28 O ⟨_,O⟩ (λw=>by kernel_rfl) O O) ?_;refine qY (A9 [Sn.cv (b7G d)] O ⟨J,J⟩ c11 b6g c28 O O O O O O O O O) ?_;refine qD (C8 O J J O U q_3 c11 b6g Tryz.typeInfo318 c28 O (.inr O) q_7 (by have hb:Tryz.t318.bytes=24:=O;rw[hb];first|omega|(simp;done)|(simp;omega)) G6 ((l++[b7G d]).map Sn.cv) (l++[b7G d]).length U U ?_);refine qY o7 ?_;exact⟨(i+1,l++[b7G d]),[0,3],⟨do_,do_,by rw[hl,Z2,hd,a3M];rfl⟩,⟨O,O⟩,ut_,uq_⟩
 .have bO:i=x.decls.length:=sm_ h1;rw[bO,a57]at hl;have bo:=h.impl;refine j8 ?_;refine qY (c5 O d0D i7 (a0m x.imports _ x.pkg G _) O) ?_;refine d8l ?_;refine qG (λhg=>c5 O Tryz.call306 ⟨hg,J⟩ (a9D x.imports _ G h.impn _) O) ?_;refine qY U4 ?_;refine qG C9 ?_;refine qG (λhg=>c5 O Tryz.call307 ⟨hg,J⟩ (c0Y l _ G (by rw[hl];exact d1M h.decn) _) O) ?_;refine qY U4 ?_;refine c6 ?_;exact⟨_,rE1,_,_,O,O,j6 (by simp[h.impp])⟩
theorem b1r(x:Src)(h:a09 x)(σ:List b9):b8 CC 230 [.agg x.cells] σ λr aa=>r= .ret (iv (0))/\aa=σ:=by
 refine b8.anyw hCC pu_ pu_ (c7 (qO Tryz.func230 ?_)) σ;refine qD (H3 O J j2 j4 ?_);refine qY (c5 O Tryz.call269 ⟨J,J⟩ (b86 x h _) O) ?_;refine qC ?_ ?_<;>intro h1
 .cases h1
 .refine qY (c5 O Tryz.call270 ⟨J,J⟩ (c00 x h _) O) ?_;refine qC ?_ ?_<;>intro h2
  .cases h2
  .refine qY (c5 O Tryz.call271 ⟨J,J⟩ (c6d x h _) O) ?_;refine qC ?_ ?_<;>intro h3
   .cases h3
   .exact c0K
theorem b8B(s:I)(a:Nat)(ks:List Int):sub s a (A2 s a ks)=(s.drop a).takeWhile (inK ks):=by
 unfold sub A2;rw[List.drop_take,c9p];have h:=List.takeWhile_prefix (inK ks) (l:=s.drop a);exact(List.prefix_iff_eq_take.1 h).symm
theorem c5P{a:Nat}{b:UInt8}(hb:s[a]?=some b)(hk:l9 b.toNat=1)(hl:¬24<A2 s a [1,2,3] -a):B9 (sub s a (A2 s a [1,2,3]))=true:=by
 have aj:(sub s a (A2 s a [1,2,3])).length=A2 s a [1,2,3] -a:=by
  rw[b8B];unfold A2;omega
 rw[b8B]at aj⊢;obtain⟨af,rfl⟩:=n_2.1 hb;have bk:((s.drop a).takeWhile (inK [1,2,3])).all (inK [1,2,3])=true:=a6b.2 λc hc=>a2c hc;rw[Y0 af,b8U,Q (by simp[inK,hk])]at aj bk⊢;unfold B9;simp only[T5,a2t];exact⟨⟨G,hk⟩,bk⟩
theorem d5s{a:Nat}{b:UInt8}(hb:s[a]?=some b):((D5 s a b).1.k=1->B9 (D5 s a b).1.t=true)/\(D5 s a b).1.n<=9007199254740992:=by
 have z:((⟨0,[],0,0⟩:Tok).k=1->B9 (⟨0,[],0,0⟩:Tok).t=true)/\(⟨0,[],0,0⟩:Tok).n<=9007199254740992:=⟨λh=>absurd h H,H⟩;unfold D5
 split
 .rename_i hk
  split
  .exact z
  .rename_i hl;exact⟨λ_=>c5P hb hk hl,show(0:Int)<=9007199254740992 by decide⟩
 .split
  .split
   .exact z
   .rename_i hl;exact⟨λh=>absurd h (show ¬(2:Int)=1 by decide),show a4E _<=9007199254740992 by omega⟩
  .split
   .split
    .exact z
    .exact ⟨λh=>absurd h (show ¬(3:Int)=1 by decide),show(0:Int)<=9007199254740992 by decide⟩
   .split
    .split
     .exact ⟨λh=>absurd h (show ¬(4:Int)=1 by decide),show(0:Int)<=9007199254740992 by decide⟩
     .exact ⟨λh=>absurd h (show ¬(4:Int)=1 by decide),show(0:Int)<=9007199254740992 by decide⟩
    .exact z
theorem b5j(s:I):∀(f i:Nat) (T:List Tok),a0C f s i=some T->∀t∈T,(t.k=1->B9 t.t=true)/\t.n<=9007199254740992
 |0,i,T,h=>by cases h
 |f+1,i,T,h=>by
  rw[a0C]at h;cases hb:s[A2 s i [5]]? with
  |none=>
   rw[hb]at h;injection h with h
   subst h;intro t ht;simp at ht;subst ht;exact⟨λh=>absurd h (show ¬(5:Int)=1 by decide),show(0:Int)<=9007199254740992 by decide⟩
  |some b=>
   rw[hb]at h;simp only at h;split at h
   .exact b5j s f _ T h
   .split at h
    .cases h
    .cases hq:a0C f s (D5 s (A2 s i [5]) b).2.1.toNat with
     |none=>rw[hq]at h;cases h
     |some T'=>
      rw[hq]at h;simp only[b95,Option.some.injEq]at h;subst h;intro t ht
      rcases J2.1 ht with rfl|ht
      .exact d5s hb
      .exact b5j s f _ T' hq t ht
theorem d4S{T:List Tok}(h:a3p s=some T):TG T:=λi=>by
 have hc:=(b1G h).1.nn i;unfold a3p at h;split at h
 .cases h
 .rcases c0H (T:=T) i with h1|h1
  .have:=b5j s _ _ T h _ h1;exact⟨this.1,hc.1,this.2⟩
  .rw [h1];exact⟨λh=>absurd h H,H,H⟩
theorem b3N{w:Nat×List Ex}(h:X2 b x=some w)(hb:b.length<=256):w.2.length<=256:=by
 unfold X2 at h;split at h
 .cases h
 .injection h with h
  subst h;simp only[n_8,c0i];omega
theorem Y5(h:L8 b x m=some y)(hb:b.length<=256):y.2.2.length<=256:=b3N (w:=(y.1,y.2.2)) (a3m h).1 hb
theorem c6p{T:List Tok}{F:PF}(hF:∀d n b x,b.length<=256->F.ex d n b=some x->x.2.2.length<=256){u:I}(hb:b.length<=256)(h:X7 T F u d n b=some y):y.2.2.length<=256:=by
 unfold X7 at h;obtain⟨n1,_,h⟩:=c9 h;split at h
 .obtain ⟨s,h1,h⟩:=c9 h;obtain⟨n2,_,h⟩:=c9 h;obtain⟨x,h3,h⟩:=c9 h;obtain⟨m,_,h⟩:=c9 h;exact Y5 h (hF _ _ _ _ hb h3)
 .split at h
  .obtain ⟨s,h1,h⟩:=c9 h;obtain⟨m,_,h⟩:=c9 h;exact Y5 h hb
  .split at h
   .obtain ⟨s,h1,h⟩:=c9 h;obtain⟨m,_,h⟩:=c9 h;exact Y5 h hb
   .split at h
    .obtain ⟨s,h1,h⟩:=c9 h;split at h
     .obtain ⟨m,_,h⟩:=c9 h;exact Y5 h hb
     .cases h
    .obtain ⟨s,h1,h⟩:=c9 h;split at h
     .cases h
     .obtain ⟨m,_,h⟩:=c9 h;exact Y5 h hb
theorem c4d{T:List Tok}{ps:List I}:∀f:Nat,
 (∀d n b x,b.length<=256->(z6 T ps f).ex d n b=some x->x.2.2.length<=256) /\
 (∀lv d n b x,b.length<=256->(z6 T ps f).bin lv d n b=some x->x.2.2.length<=256) /\
 (∀d n b x,b.length<=256->(z6 T ps f).fac d n b=some x->x.2.2.length<=256) /\
 (∀lv d i n b x,b.length<=256->(z6 T ps f).lp lv d i n b=some x->x.2.2.length<=256) /\
 (∀d n b bq y,b.length<=256->(z6 T ps f).ag d n b bq=some y->y.2.2.length<=256)
 |0=>by
  refine⟨λd n b x _ h=>?_,λlv d n b x _ h=>?_,λd n b x _ h=>?_,λlv d i n b x _ h=>?_,λd n b bq y _ h=>?_⟩<;>cases h
 |f+1=>by
  obtain⟨hE,hB,hF,hL,hA⟩:=c4d (T:=T) (ps:=ps) f;refine⟨λd n b x hb h=>?_,λlv d n b x hb h=>?_,λd n b y hb h=>?_,λlv d i n b x hb h=>?_,λd n b bq y hb h=>?_⟩
  .change (G4 T ps (z6 T ps f)).ex d n b=some x at h;simp only[G4]at h;split at h
   .cases h
   .split at h
    .obtain ⟨x1,h1,h⟩:=c9 h;obtain⟨n2,_,h⟩:=c9 h;obtain⟨x2,h2,h⟩:=c9 h;obtain⟨n3,_,h⟩:=c9 h;obtain⟨x3,h3,h⟩:=c9 h;exact Y5 h (hE _ _ _ _ (hE _ _ _ _ (hE _ _ _ _ hb h1) h2) h3)
    .exact hB _ _ _ _ _ hb h
  .change (G4 T ps (z6 T ps f)).bin lv d n b=some x at h;simp only[G4]at h;split at h
   .exact hF _ _ _ _ hb h
   .obtain ⟨x1,h1,h⟩:=c9 h;exact hL _ _ _ _ _ _ (hB _ _ _ _ _ hb h1) h
  .change (G4 T ps (z6 T ps f)).fac d n b=some y at h;simp only[G4]at h;split at h
   .exact Y5 h hb
   .split at h
    .obtain ⟨s,h1,h⟩:=c9 h;exact Y5 h hb
    .split at h
     .obtain ⟨x1,h1,h⟩:=c9 h;obtain⟨m,_,h⟩:=c9 h;injection h with h
      subst h;exact hE _ _ _ x1 hb h1
     .split at h
      .cases h
      .split at h
       .exact c6p hE hb h
       .split at h
        .cases h
        .split at h
         .obtain ⟨a,h1,h⟩:=c9 h;unfold a2K at h1;obtain⟨n1,_,h1⟩:=c9 h1;refine Y5 h ?_;split at h1
          .injection h1 with h1
           subst h1;exact hb
          .exact hA _ _ _ _ _ hb h1
         .split at h
          .cases h
          .exact Y5 h hb
  .change (G4 T ps (z6 T ps f)).lp lv d i n b=some x at h;simp only[G4]at h;split at h
   .injection h with h
    subst h;exact hb
   .obtain ⟨y,h1,h⟩:=c9 h;obtain⟨w,h2,h⟩:=c9 h;have hw:=b3N h2 (hB _ _ _ _ _ hb h1);split at h
    .injection h with h
     subst h;exact hw
    .exact hL _ _ _ _ _ _ hw h
  .change (G4 T ps (z6 T ps f)).ag d n b bq=some y at h;simp only[G4]at h;obtain⟨x1,h1,h⟩:=c9 h;have hx:=hE _ _ _ _ hb h1;split at h
   .exact hA _ _ _ _ _ hx h
   .obtain ⟨m,_,h⟩:=c9 h;injection h with h
    subst h;exact hx
theorem a8a{T:List Tok}(hT:TG T){x:Tok×Nat}(h:K3 T n=some x):B9 x.1.t=true/\S6 x.1.t=false:=by
 obtain⟨y,h1,h2⟩:=c9 h;obtain⟨e1,e2⟩:=a7a h1;split at h2
 .cases h2
 .rename_i hr;injection h2 with h2
  subst h2;refine⟨?_,D hr⟩;rw[e1];exact(hT n).1 e2
structure a9T(l:List I):Prop where
 ok:∀s∈l,B9 s=true/\S6 s=false
 len:l.length<=8
 nod:l.Nodup
theorem a64{l:List α}{x:α}(h:l.Nodup)(hx:x∉l):(l++[x]).Nodup:=by
 rw[c4Q];exact⟨h,U,λa ha b hb=>by simp at hb;subst hb;exact λe=>hx (e▸ha)⟩
theorem a9T.snoc{l:List I}{x:I}(h:a9T l)(hx:B9 x=true/\S6 x=false)(h8:¬l.length=8)(hn:¬x∈l):a9T (l++[x]):=⟨λs hs=>by
 rcases T9.1 hs with hs|hs
 .exact h.ok s hs
 .simp at hs;subst hs;exact hx,by have:=h.len;rw[n_8,c0i];omega,a64 h.nod hn⟩
theorem b8v{T:List Tok}(hT:TG T):∀(f n:Nat) (l:List I) (y:List I×Nat),a9T l->a2H f T n l=some y->a9T y.1
 |0,n,l,y,_,h=>by cases h
 |f+1,n,l,y,hl,h=>by
  rw[a2H]at h;obtain⟨x,h1,h⟩:=c9 h;have hx:=a8a hT h1;split at h
  .cases h
  .rename_i h8;split at h
   .cases h
   .rename_i hn;have hs:=hl.snoc hx h8 hn;split at h
    .exact b8v hT f _ _ y hs h
    .obtain ⟨m,_,h⟩:=c9 h;injection h with h
     subst h;exact hs
theorem a5D:a9T []:=⟨λs h=>(by cases h),n_5 _,List.nodup_nil⟩
theorem c8y{T:List Tok}(hT:TG T){kd:Int}{y:List I×Nat}(h:a3B T kd n=some y):a9T y.1/\(kd≠1->y.1=[]):=by
 unfold a3B at h;split at h
 .rename_i hk;unfold L9 at h;obtain⟨m,_,h⟩:=c9 h;refine⟨?_,λh=>absurd hk h⟩;split at h
  .injection h with h
   subst h;exact a5D
  .exact b8v hT _ _ _ y a5D h
 .injection h with h
  subst h;exact⟨a5D,λ_=>O⟩
theorem c5O(s:I):G0 s=0\/G0 s=1\/G0 s=2\/G0 s=3:=by
 unfold G0 dkL;rw[G8,G8,G8]
 split
 .exact .inr (.inr (.inr O))
 .split
  .exact .inr (.inr (.inl O))
  .split
   .exact .inr (.inl O)
   .exact .inl O
theorem d3T{T:List Tok}(hT:TG T){bs:List De}{y:De×Nat}(h:a0F T bs n=some y):DeG y.1/\(bs.any λd=>(d.k == y.1.k)&&decide (d.name=y.1.name))=false:=by
 unfold a0F at h;split at h
 .cases h
 .rename_i h0;split at h
  .cases h
  .obtain ⟨x,h1,h⟩:=c9 h;split at h
   .cases h
   .rename_i hany;obtain⟨q,h2,h⟩:=c9 h;obtain⟨m,_,h⟩:=c9 h;obtain⟨e,h3,h⟩:=c9 h;obtain⟨m2,_,h⟩:=c9 h;injection h with h
    subst h;obtain⟨p1,p2⟩:=c8y hT h2;obtain⟨t,t1,_,t3⟩:=(c4c hT (8*T.length+6)).1 _ _ _ _ h3;have aj:=(c4d (8*T.length+6)).1 _ _ _ _ (n_5 _) h3;refine⟨⟨?_,λhk=>?_,λhk=>?_,p2,p1.ok,p1.len,p1.nod,⟨t,by rw[t1];rfl,t3⟩,aj⟩,D hany⟩
    .have:=c5O (tk T n).t
     rcases this with g|g|g|g
     .exact absurd (.inr g) h0
     .exact .inl g
     .exact .inr (.inl g)
     .exact .inr (.inr g)
    .unfold a3G at h1;rw[W hk]at h1;exact a8a hT h1
    .unfold a3G at h1;rw[Q hk]at h1;exact a8o h1
structure c9X(l:List De):Prop where
 ok:∀d∈l,DeG d
 nod:(l.map λd=>(d.k,d.name)).Nodup
theorem b4f{T:List Tok}(hT:TG T):∀(f n:Nat) (l:List De) (y:List De×Nat),c9X l->T0 f T n l=some y->c9X y.1
 |0,n,l,y,_,h=>by cases h
 |f+1,n,l,y,hl,h=>by
  rw[T0]at h;split at h
  .injection h with h
   subst h;exact hl
  .obtain ⟨x,h1,h⟩:=c9 h;obtain⟨g1,g2⟩:=d3T hT h1;refine b4f hT f _ _ y ⟨λd hd=>?_,?_⟩ h
   .rcases T9.1 hd with hd|hd
    .exact hl.ok d hd
    .simp at hd;subst hd;exact g1
   .rw [a3M];refine a64 hl.nod λhm=>?_;obtain⟨d,hd,he⟩:=D6.1 hm;injection he with e1 e2
    have:=List.any_eq_false.1 g2 d hd;simp[e1,e2]at this
structure e2c(pkg:I)(l:List I):Prop where
 g:a9T l
 p:pkg∉l
theorem b9Z{T:List Tok}(hT:TG T){pkg:I}:∀(f n:Nat) (l:List I) (y:List I×Nat),e2c pkg l->a1x f T pkg n l=some y->e2c pkg y.1
 |0,n,l,y,_,h=>by cases h
 |f+1,n,l,y,hl,h=>by
  rw[a1x]at h;split at h
  .split at h
   .cases h
   .rename_i h8;obtain⟨x,h1,h⟩:=c9 h;split at h
    .cases h
    .rename_i cM;obtain⟨m,_,h⟩:=c9 h;refine b9Z hT f _ _ y ⟨hl.g.snoc (a8a hT h1) h8 λhm=>cM (.inr hm),λhm=>?_⟩ h
     rcases T9.1 hm with hm|hm
     .exact hl.p hm
     .simp at hm;exact cM (.inl hm.symm)
  .injection h with h
   subst h;exact hl
theorem c9l{T:List Tok}(hT:TG T){x:Src}(h:a1e T=some x):a09 x:=by
 have aj:=b3W h;unfold a1e at h;obtain⟨n1,_,h⟩:=c9 h;obtain⟨w,h1,h⟩:=c9 h;obtain⟨n2,_,h⟩:=c9 h;obtain⟨y,h2,h⟩:=c9 h;obtain⟨z,h3,h⟩:=c9 h;injection h with h
 subst h;have hi:=b9Z hT _ _ _ _ ⟨a5D,λh=>(by cases h)⟩ h2;have hd:=b4f hT _ _ _ _ (⟨λd h=>(by cases h),List.nodup_nil⟩:c9X []) h3;exact⟨a8a hT h1,hi.g.ok,hi.g.len,hi.g.nod,hi.p,hd.ok,aj,hd.nod⟩
theorem a5P{x:Src}(h:O5 s=some x):a09 x:=by
 unfold O5 at h;obtain⟨T,h1,h2⟩:=c9 h;exact c9l (d4S h1) h2
abbrev tU8:Nat:=5
def a44(T:TypeId)(n:Nat):Prop:=liesAt CC.P CC.P.depth T (n / CC.P.cellsOf T) 0 264 1=true
def d8v(q:Nat):Bool->CV
 |true=>.ptr q 0
 |false=>.val (.pointer none)
def F4(T:TypeId)(q s:Nat)(a:Bool)(l:I)(rest:List CV):b9:=.boxT (some T) (d8v q a::a2O l s::rest)
def bSt(T:TypeId)(a:Bool)(l:I)(rest:List CV):List b9:=[F4 T 0 1 a l rest,A8 tU8 l.length]
def a81(T:TypeId)(l:I)(rest:List CV):List b9:=[F4 T 0 2 true l rest,.dead,A8 tU8 l.length]
theorem d3a(hT:a44 T (rest.length+2))(l:I):b8 CC 273 [.ptr 0 0] (bSt T false l rest) λr τ=>r= .ret (.tup [])/\τ=bSt T true l rest:=by
 refine qO d3I ?_;refine qY (c7B O J O d2m) ?_;refine qC ?_ ?_<;>intro h1
 .refine qY (c19 O J O O (Nat.succ_pos _) 264 o9 o9 o9) ?_;refine qY (d9H (e:=Extern.AbiNoEscape.same) O Tryz.func309 O O O O J O (λv w=>O)) ?_;refine qY (b5X O J O O 264 o9 o9 o9 hT) ?_;refine qD (j1 O J J O j2 Tryz.sizeOf262 (.inl O) O O (nb O) ?_);exact⟨_,rE0,⟨O,O⟩⟩
 .cases h1
theorem d4a(l:I):b8 CC 273 [.ptr 0 0] (bSt T true l rest) λr τ=>r= .ret (.tup [])/\τ=bSt T true l rest:=by
 refine qO d3I ?_;refine qY (b9A O J O d2m) ?_;refine qC ?_ ?_<;>intro h1
 .cases h1
 .refine qY (b4z O J J O O 264 o9 o9) ?_;refine qC ?_ ?_<;>intro h2
  .cases h2
  .exact ⟨_,rE0,⟨O,O⟩⟩
theorem b6s(hT:a44 T (rest.length+2))(a:Bool)(l:I):b8 CC 273 [.ptr 0 0] (bSt T a l rest) λr τ=>∃_:Unit,r= .ret (.tup [])/\τ=bSt T true l rest/\True:=by
 cases a
 .exact (d3a hT l).mono λr τ h=>⟨(),h.1,h.2,J⟩
 .exact (d4a l).mono λr τ h=>⟨(),h.1,h.2,J⟩
theorem b2T(hT:a44 T (rest.length+2))(a:Bool)(l:I)(c:UInt8)(hl:l.length <140737488355328):b8 CC 331 [.ptr 0 0,.val (.int .u8 c.toNat)] (bSt T a l rest) λr τ=>∃_:Unit,r= .ret (.val .nilIface)/\τ=a81 T (l++[c]) rest/\True:=by
 refine qO Tryz.func331 ?_;refine qD (c4 O c2M ⟨J,J⟩ (b6s hT a l) O ?_);intro _ _;refine qY e1g ?_;refine qD (a8L (l:=l) (new:=[c]) (p:=1) O J J O (λM w v hr h=>(a43 (Y:=[bcv c]) O (by intro r hr;simp at hr;subst hr;rfl) M w v hr h).any) a0R a2U b7a a59 O (.inl a0R) O O b4g ?_);refine qD (j1 O J J O j2 b62 (.inl O) O O (nb O) ?_);exact c79
theorem a90(hT:a44 T (rest.length+2))(a:Bool)(l:I)(s:I)(hl:l.length+s.length<=140737488355328):b8 CC 232 [.ptr 0 0,sv s] (bSt T a l rest) λr τ=>∃_:Unit,r= .ret (.tup [iv s.length,.val .nilIface])/\τ=a81 T (l++s) rest/\True:=by
 refine qO Tryz.func232 ?_;refine qD (c4 O c2M ⟨J,J⟩ (b6s hT a l) O ?_);intro _ _;refine qD (a8L (l:=l) (new:=s) (p:=1) O J J O (c0B O) a0R a2U b7a a59 O (.inr t_5) O O b4g ?_);refine d7u ?_;exact d8k
theorem c1e(a:Bool)(c:UInt8)(l:I):b8 CC 234 [.ptr 0 0] (bSt T a (c::l) rest) λr τ=>r= .ret (sv (c::l))/\τ=[F4 T 0 1 a (c::l) rest,.dead]:=by
 refine qO Tryz.func234 ?_;refine b4I ?_;refine b3x ?_;refine hY (c0y O J O U) ?_;refine a2W ?_;refine b3x ?_;refine hY a9U ?_;refine a0T ?_;refine qD ((b1V (q:=1) (k:=0) (i:=1) (l:=c::l)) O J J O O O O O U o9 o9 ?_);refine c6 ?_;exact⟨_,rE1,⟨O,O⟩⟩
theorem c2o(a:Bool):b8 CC 234 [.ptr 0 0] (bSt T a [] rest) λr τ=>r= .ret (sv [])/\τ=[F4 T 0 1 a [] rest,.dead]:=by
 refine qO Tryz.func234 ?_;refine b4I ?_;refine b3x ?_;refine hY (b5n O J O) ?_;refine a2W ?_;refine b3x ?_;refine hY a9U ?_;refine a0T ?_;refine qD (b0j O J J O O ?_);refine c6 ?_;exact⟨_,rE1,⟨O,O⟩⟩
def BAt(σ:List b9)(q s:Nat)(T:TypeId)(a:Bool)(l:I)(rest:List CV):Prop:=σ[q]?=some (F4 T q s a l rest)/\σ[s]?=some (A8 tU8 l.length)/\q≠s
theorem a1T(l:I):∀r∈l.map bcv,∀c∈r,p9 c:=λr hr c hc=>by
 obtain⟨b,_,rfl⟩:=D6.1 hr;simp[bcv]at hc;subst hc;exact .val _
theorem b8E{s s':Nat}(h:R s s'):Q7 R (a2O l s) (a2O l s'):=by
 refine .list O (λi r r' h1 h2=>by rw[h1]at h2;injection h2 with h2;rw[h2]) (λi j r r' c c' h1 h2 h3 h4=>?_) ?_
 .rw [h1]at h2;injection h2 with h2;subst h2;rw[h3]at h4;injection h4 with h4;subst h4
  exact .pure (a1T l r (n_3 h1) c (n_3 h3))
 .cases hb:l.length with
  |zero=>exact .inl ⟨O,O⟩
  |succ m=>exact .inr ⟨s,s',O,O,h⟩
theorem a8n{q' s s':Nat}(hq:R q q')(h:R s s')(hr:∀c∈rest,p9 c):I7 R (F4 T q s a l rest) (F4 T q' s' a l rest):=by
 refine .box (.cons ?_ (.cons (b8E h) (H9 hr)));cases a
 .exact .pure (.val _)
 .exact .ptr hq
theorem a5U(t:TypeId)(m:Nat):I7 R (A8 t m) (A8 t m):=by
 cases m with
 |zero=>exact .dead
 |succ m=>exact .tip _
theorem c0R{f:FuncId}{args:List CV}{c:α->CV}{l':α->I}{rest':α->List CV}{P:α->Prop}(ap:∀a∈args,p9 a)(hc:∀x,P x->p9 (c x))(hr:∀c∈rest,p9 c)(bl:∀x,P x->∀c∈rest' x,p9 c)
 (h:b8 CC f (.ptr 0 0::args) (bSt T a l rest) λr τ=>∃x,r= .ret (c x)/\τ=a81 T (l' x) (rest' x)/\P x){σ:List b9}{q s:Nat}(ao:BAt σ q s T a l rest):
 b8 CC f (.ptr q 0::args) σ λr τ=>∃x,r= .ret (c x)/\τ=(σ.set q (F4 T q σ.length true (l' x) (rest' x))).set s .dead++[A8 tU8 (l' x).length]/\P x:=by
 obtain⟨h1,h2,h3⟩:=ao;have hq:=(n_2.1 h1).1;have hs:=(n_2.1 h2).1;refine I5 [q,s] hCC O (λi j k g1 g2=>?_) (λi k ob g1 g2=>?_) (.cons (.ptr O) (H9 ap)) h λr τ hk=>?_
 .rcases i with _|_|i<;>rcases j with _|_|j<;>simp at g1 g2<;>first|rfl|(exfalso;exact h3 (g1.trans g2.symm))|(exfalso;exact h3 (g2.trans g1.symm))
 .rcases i with _|_|i
  .simp [bSt]at g1 g2;subst g1 g2;exact⟨_,h1,a8n O O hr⟩
  .simp [bSt]at g1 g2;subst g1 g2;exact⟨_,h2,a5U _ _⟩
  .simp at g1
 .obtain ⟨x,rfl,rfl,hp⟩:=hk;refine⟨by simp[bSt,a81],.ret (c x),(σ.set q (F4 T q σ.length true (l' x) (rest' x))).set s .dead++[A8 tU8 (l' x).length],(.ret (.pure (hc x hp))),by simp[bSt,a81],λk hk bm=>?_,λi k y ha hx=>?_,x,O,O,hp⟩
  .have n1:q≠k:=λe=>bm a2d;have n2:s≠k:=λe=>bm a2d;rw[T7 (D hk)];simp[n1,n2]
  .rcases ha with ha|⟨ha,rfl⟩
   .rcases i with _|_|i
    .simp [a81]at ha hx;subst ha hx;refine⟨F4 T q σ.length true (l' x) (rest' x),?_,a8n (.inl O) (.inr ⟨U,U⟩) (bl x hp)⟩;rw[T7 (D hq),a0S h3.symm];simp[hq]
    .simp [a81]at ha hx;subst ha hx;refine⟨.dead,?_,.dead⟩;rw[T7 (D hs)];simp[hs]
    .simp at ha
   .rcases i with _|_|_|i
    .simp at ha
    .simp at ha
    .simp [a81]at hx;subst hx;refine⟨A8 tU8 (l' x).length,?_,a5U _ _⟩;rw[a1c U];simp
    .simp [a81]at hx
theorem a1F(hT:a44 T (rest.length+2))(a:Bool)(l:I)(hr:∀c∈rest,p9 c)(c:UInt8)(hl:l.length <140737488355328){s:Nat}(ao:BAt σ q s T a l rest):
 b8 CC 331 [.ptr q 0,.val (.int .u8 c.toNat)] σ λr τ=>∃_:Unit,r= .ret (.val .nilIface)/\τ=(σ.set q (F4 T q σ.length true (l++[c]) rest)).set s .dead++[A8 tU8 (l++[c]).length]/\True:=
 c0R (c:=λ_=>.val .nilIface) (l':=λ_=>l++[c]) (rest':=λ_=>rest) (λa h=>by simp at h;subst h;exact .val _) (λ_ _=>.val _) hr (λ_ _=>hr) (b2T hT a l c hl) ao
theorem x9(hT:a44 T (rest.length+2))(a:Bool)(l:I)(hr:∀c∈rest,p9 c)(s:I)(hl:l.length+s.length<=140737488355328){k:Nat}(ao:BAt σ q k T a l rest):
 b8 CC 232 [.ptr q 0,sv s] σ λr τ=>∃_:Unit,r= .ret (.tup [iv s.length,.val .nilIface])/\τ=(σ.set q (F4 T q σ.length true (l++s) rest)).set k .dead++[A8 tU8 (l++s).length]/\True:=
 c0R (c:=λ_=>.tup [iv s.length,.val .nilIface]) (l':=λ_=>l++s) (rest':=λ_=>rest) (λa h=>by simp at h;subst h;exact .val _) (λ_ _=>C5 ⟨.val _,.val _,J⟩) hr (λ_ _=>hr) (a90 hT a l s hl) ao
theorem c08(a:Bool)(l:I):b8 CC 234 [.ptr 0 0] (bSt T a l rest) λr τ=>∃_:Unit,r= .ret (sv l)/\τ=[F4 T 0 1 a l rest,.dead]/\True:=by
 cases l with
 |nil=>exact(c2o a).mono λr τ h=>⟨(),h.1,h.2,J⟩
 |cons c l=>exact(c1e a c l).mono λr τ h=>⟨(),h.1,h.2,J⟩
theorem a3j(hr:∀c∈rest,p9 c)(a:Bool)(l:I){k:Nat}(ao:BAt σ q k T a l rest):b8 CC 234 [.ptr q 0] σ λr τ=>∃_:Unit,r= .ret (sv l)/\τ=σ.set k .dead/\True:=by
 obtain⟨h1,h2,h3⟩:=ao;have hq:=(n_2.1 h1).1;have hs:=(n_2.1 h2).1;refine I5 [q,k] hCC O (λi j k g1 g2=>?_) (λi k ob g1 g2=>?_) (.cons (.ptr O) .nil) (c08 (T:=T) (rest:=rest) a l) λr τ hk=>?_
 .rcases i with _|_|i<;>rcases j with _|_|j<;>simp at g1 g2<;>first|rfl|(exfalso;exact h3 (g1.trans g2.symm))|(exfalso;exact h3 (g2.trans g1.symm))
 .rcases i with _|_|i
  .simp [bSt]at g1 g2;subst g1 g2;exact⟨_,h1,a8n O O hr⟩
  .simp [bSt]at g1 g2;subst g1 g2;exact⟨_,h2,a5U _ _⟩
  .simp at g1
 .obtain ⟨x,rfl,rfl,hp⟩:=hk;refine⟨by simp[bSt],.ret (sv l),σ.set k .dead,.ret (.pure (.val _)),by simp[bSt],λj hj hjs=>?_,λi j y ha hx=>?_,x,O,O,hp⟩
  .have n2:k≠j:=λe=>hjs a2d;simp[n2]
  .rcases ha with ha|⟨ha,rfl⟩
   .rcases i with _|_|i
    .simp at ha hx;subst ha hx;exact⟨_,by rw[a0S h3.symm];exact h1,a8n (.inl O) (.inl O) hr⟩
    .simp at ha hx;subst ha hx;exact⟨.dead,by simp[hs],.dead⟩
    .simp at ha
   .rcases i with _|_|i<;>simp at ha hx
theorem b4t{τ:List b9}{k:Nat}{c:CV}(h0:τ[0]?=some (F4 T 0 k true l rest))(hk:τ[k]?=some (A8 tU8 l.length))(h2:2<=k)(hr:∀c∈rest,p9 c)(hc:Old 2 c):F0 2 τ (.ret c) (.ret c) (a81 T l rest):=by
 have k1:a6D 2 [0,1,k]=true:=O;have k2:a0o [0,1,k]=true:=by
  have e0:(k == 0)=false:=by simp;omega
  have e1:(k == 1)=false:=by simp;omega
  have e2:(0 == k)=false:=by simp;omega
  have e3:(1 == k)=false:=by simp;omega
  simp[a0o];omega
 refine⟨[0,1,k],k1,k2,.ret (.old hc),.inr ⟨_,h0,.box ⟨.old (.ptr H),.list (λr hr c hc=>(a1T l r hr c hc).old) ?_,?_⟩⟩,.inl O,.inr ⟨_,hk,.same O (b4w _ _ _)⟩,J⟩
 .intro j hj;cases hb:l.length with
  |zero=>rw[hb]at hj;cases hj
  |succ m=>rw[hb]at hj;injection hj with hj;subst hj;exact⟨k,O,O⟩
 .have:∀l:List CV,(∀c∈l,p9 c)->b6z 2 l:=λl=>by
   induction l with
   |nil=>intro _;trivial
   |cons x l ih=>intro h;exact⟨(h x U).old,ih λc hc=>h c (by simp[hc])⟩
  exact a72 (this rest hr)
theorem e0j{C:Ctx}{M:z8}{w:World}{s:Nat}(hr:Rel C M σ w)(ao:BAt σ q s T a l rest):∃M',Ext M w M' w/\Rel C M' ((σ.set q (F4 T q σ.length a l rest)).set s .dead++[A8 tU8 l.length]) w:=by
 obtain⟨h1,h2,h3⟩:=ao;have hq:=(n_2.1 h1).1;have hs:=(n_2.1 h2).1;cases l with
 |nil=>
  rw[show σ.set q (F4 T q σ.length a [] rest)=σ from a1Z h1,show σ.set s b9.dead=σ from a1Z h2];obtain⟨aI,bh⟩:=hr.addDead ⟨0,0,0⟩;exact⟨_,bh,aI⟩
 |cons x l=>
  obtain⟨ps,cj⟩:∃p,M.pl[s]?=some p:=⟨_,a1r (by rw[hr.len];exact hs)⟩;obtain⟨pq,hpq⟩:∃p,M.pl[q]?=some p:=⟨_,a1r (by rw[hr.len];exact hq)⟩;obtain⟨⟨bj,_⟩,_⟩:=hr.obj s ps _ cj h2;obtain⟨bh,aI⟩:=hr.tipNew (m:=(x::l).length) cj h2 (n_6 _) bj;have hpq':(M.add ps).pl[q]?=some pq:=bh.get hpq;have hps':(M.add ps).pl[s]?=some ps:=bh.get cj;have hpn:(M.add ps).pl[σ.length]?=some ps:=by simp[z8.add,<- hr.len]
  have hbq:(σ.set s b9.dead++[b9.tipT (some tU8) (x::l).length])[q]?=some (F4 T q s a (x::l) rest):=by
   rw[T7 (D hq),a0S h3.symm,h1]
  obtain⟨⟨arr,ty,e1,e2,e3,e4⟩,hf,cy⟩:=aI.obj q pq _ hpq' hbq;have aS:∀(i:Nat) (c:CV),(d8v q a::a2O (x::l) σ.length::rest)[i]?=some c->RV (M.add ps) w c (arr.getD i undef):=λi c hi=>by
   rcases i with _|_|i
   .exact e4 0 c hi
   .injection hi with hi
    subst hi;have hl:=e4 1 _ O;obtain⟨a',cap',b',iD,s'',fP,eY,q1,q2,q3,q4,q5,q6,q7,q8,q9,q10⟩:=hl.list_inv;rw[eY];refine RV.list' (L:=((x::l).map bcv).length) O fP q1 q2 (by rw[q3]) (λh=>by cases h) q5 q6 q7 q8 q9 (λk' aC=>?_);obtain⟨s3,g1,g2,g3,g4⟩:=q10 s O;injection aC with aC
    subst aC;refine⟨s3,?_,g2,g3,g4⟩;rw[hps']at g1;rw[hpn,g1]
   .exact e4 (i+2) c hi
  have hro:R2 (M.add ps) w pq (F4 T q σ.length a (x::l) rest):=⟨arr,ty,e1,e2,λc hc=>by
   rcases J2.1 hc with rfl|hc
   .cases a<;>rfl
   .rcases J2.1 hc with rfl|hc
    .rfl
    .exact e3 c (a13 _ (a13 _ hc)),aS⟩
  have hfin:=aI.putObj (ob:=F4 T q σ.length a (x::l) rest) hpq' hbq O hf cy (.cells arr ((some T).getD ty) (0,0)) (by rw[World.putObj_self w e1];exact hro);rw[World.putObj_self w e1]at hfin;refine⟨_,bh,?_⟩;have aF:(σ.set s b9.dead++[b9.tipT (some tU8) (x::l).length]).set q (F4 T q σ.length a (x::l) rest)=(σ.set q (F4 T q σ.length a (x::l) rest)).set s .dead++[A8 tU8 (x::l).length]:=by
   rw[c2X _ _ (D hq),List.set_comm _ _ h3.symm];rfl
  rw[<- aF];exact hfin
theorem d5y{C:Ctx}{c:Code}{Jh:A7->Env->List b9->Prop}{E:Env}(T:TypeId)(q s:Nat)(a:Bool)(l:I)(rest:List CV)(ao:BAt σ q s T a l rest)(h:CWp C n c Jh E ((σ.set q (F4 T q σ.length a l rest)).set s .dead++[A8 tU8 l.length])):CWp C n c Jh E σ:=λM w ac hr hf=>by
 obtain⟨M',h1,h2⟩:=e0j hr ao;exact wp_mono (h _ w ac h2 (hf.mono h1)) λ_ _ _=>Q8.later h1
end Go.Proofs.YtncmhkpnclafkaaGreatDoor
namespace Go.Proofs
open Go.Shelf
def Tryz.laysM171_ren:Go.Shelf.Ren:=⟨λ|171=>132|243=>182|246=>235|283=>275|284=>276|285=>277|286=>278|129=>217|317=>311|318=>312|319=>313|320=>314|337=>333|338=>334|n=>n,λ|3=>3|9=>9|2=>2|4=>4|171=>297|0=>0|53=>55|37=>159|5=>5|173=>299|212=>327|51=>253|20=>20|213=>328|46=>221|232=>348|233=>349|n=>n,λ|17=>1|18=>4|19=>5|n=>n⟩
theorem Tryz.laysM171:Go.Proofs.LaysM.n171 Tryz.prog Tryz.laysM171_ren:={
 mixed:=by kernel_rfl
 f129:=c3H.trans (n_7 some o9)
 f171:=Tryz.func132.trans (n_7 some o9)
 f243:=Tryz.func182.trans (n_7 some o9)
 f246:=Tryz.func235.trans (n_7 some o9)
 f283:=Tryz.func275.trans (n_7 some o9)
 f284:=Tryz.func276.trans (n_7 some o9)
 f285:=Tryz.func277.trans (n_7 some o9)
 f286:=Tryz.func278.trans (n_7 some o9)
 f317:=Tryz.func311.trans (n_7 some o9)
 f318:=Tryz.func312.trans (n_7 some o9)
 f319:=Tryz.func313.trans (n_7 some o9)
 f320:=Tryz.func314.trans (n_7 some o9)
 f337:=Tryz.func333.trans (n_7 some o9)
 f338:=Tryz.func334.trans (n_7 some o9)
 t0:=c4S
 a0:=c4B
 z0:=c3C
 v0:=c5b
 t2:=Tryz.underlying2
 a2:=Tryz.isAgg2
 z2:=Tryz.sizeOf2
 v2:=Tryz.zeroValue2
 t3:=b8t
 a3:=a2u
 z3:=t_1
 v3:=t_7
 t4:=c2D
 a4:=b9G
 z4:=b8a
 v4:=c0b
 t5:=c2L
 a5:=c2H
 z5:=a2U
 v5:=a59
 t9:=c4I
 a9:=t_8
 z9:=t_0
 v9:=t_3
 t20:=Tryz.underlying20
 a20:=Tryz.isAgg20
 z20:=Tryz.sizeOf20
 v20:=Tryz.zeroValue20
 t37:=Tryz.underlying159
 a37:=Tryz.isAgg159
 z37:=b62
 v37:=Tryz.zeroValue159
 t46:=c2P
 a46:=c2T
 z46:=c2z
 v46:=c5r
 t51:=c3F
 a51:=c2Z
 z51:=c3B
 v51:=c5l
 t53:=c4b
 a53:=c3X
 z53:=c2x
 v53:=c3e
 t171:=Tryz.underlying297
 a171:=Tryz.isAgg297
 z171:=Tryz.sizeOf297
 v171:=Tryz.zeroValue297
 t173:=Tryz.underlying299
 a173:=Tryz.isAgg299
 z173:=Tryz.sizeOf299
 v173:=Tryz.zeroValue299
 t212:=Tryz.underlying327
 a212:=Tryz.isAgg327
 z212:=Tryz.sizeOf327
 v212:=Tryz.zeroValue327
 t213:=Tryz.underlying328
 a213:=Tryz.isAgg328
 z213:=Tryz.sizeOf328
 t232:=Tryz.underlying348
 a232:=Tryz.isAgg348
 z232:=Tryz.sizeOf348
 v232:=Tryz.zeroValue348
 t233:=Tryz.underlying349
 a233:=Tryz.isAgg349
 z233:=Tryz.sizeOf349
 v233:=Tryz.zeroValue349
 g17:=by kernel_rfl
 g18:=by kernel_rfl
 g19:=by kernel_rfl
 i0:=by kernel_rfl
 i2:=by kernel_rfl
 i3:=by kernel_rfl
 i4:=by kernel_rfl
 i5:=by kernel_rfl
 i9:=by kernel_rfl
 i20:=by kernel_rfl
 i37:=by kernel_rfl
 i46:=by kernel_rfl
 i51:=by kernel_rfl
 i53:=by kernel_rfl
 i171:=by kernel_rfl
 i173:=by kernel_rfl
 i212:=by kernel_rfl
 i232:=by kernel_rfl
 i233:=by kernel_rfl
 m17:=by kernel_rfl
 m18:=by kernel_rfl
 m19:=by kernel_rfl}
end Go.Proofs
namespace Go.Proofs.YtncmhkpnclafkaaGreatDoor
open Go Go.Cl
variable{n k s m i w q1 q2 t L:Nat}{σ:List b9}{E:List Ex}{ps:List I}{T:TypeId}{l nm l':I}{rest:List CV}{va pn a:Bool}{u o:Int}{ch:List Tr}{ak:List Nat}{c:CV}{α:Type}{e:En}{out:List En}
theorem c1O(n:Int)(h0: -9223372036854775808<=n)(h1:n<=9223372036854775807)(σ:List b9):b8 CC 132 [iv n] σ λr aa=>r= .ret (sv (Lib.itoa n))/\aa=σ:=
 b2g (λM σ w vs hr hn hx=>by
  have hv:vs= #[.int .i64 n]:=by
   refine b5v λi=>?_
   rcases i with _|i
   .have h:=p8 (hx 0 _ O);have hs:0<vs.size:=by rw[hn];exact Nat.succ_pos _
    simp only[Z6,a1t hs,a84]at h;rw[a1t hs,h];rfl
   .have hs:vs.size<=i+1:=by rw[hn];show 1<=i+1;omega
    rw[b0q hs];rfl
  subst hv;have ht:Lib.pow10Tab=[1,10,100,1000,10000,100000,1000000,10000000,100000000,1000000000,10000000000,100000000000,1000000000000,10000000000000,100000000000000,1000000000000000,10000000000000000,100000000000000000,1000000000000000000,10000000000000000000]:=by decide
  refine Any.strconv_Itoa Tryz.laysM171 n h0 h1 w ?_;rw[ht];exact GV.tab (C:=CC) (hr.glob 1 c1M O) o9) σ
theorem c0c{u:Nat}(hn:0<n)(h:u<10^n):(Lib.decDigits u).length<=n:=by
 induction n generalizing u with
 |zero=>omega
 |succ n ih=>
  rw[Lib.decDigits]
  split
  .simp
  .rcases b9a n with rfl|hn
   .omega
   .have:=ih (u:=u / 10) hn (by rw[Nat.pow_succ]at h;omega);simp;omega
theorem a8v{n:Int}(h0: -9223372036854775808<=n)(h1:n<=9223372036854775807):(Lib.itoa n).length<=20:=by
 unfold Lib.itoa
 split
 .have:=c0c (u:=n.natAbs) (n:=19) G G;simp;omega
 .have:=c0c (u:=n.toNat) (n:=19) G G;omega
def a98(k o:Int):Int:=if k=5 then 0 else if k=4 then J4 o else 4
theorem b2J(x:Ex)(σ:List b9):b8 CC 330 [.agg x.cells] σ λr aa=>r= .ret (iv (a98 x.k x.op))/\aa=σ:=by
 refine b8.anyw hCC pu_ pu_ (c7 (qO Tryz.func330 ?_)) σ;refine qD (H3 O J j2 j4 ?_);refine qC ?_ ?_<;>intro h1
 .have u1:x.k=5:=D h1;refine c6 ?_;exact⟨_,rE1,_,_,O,O,B4 (by rw[a98,Q u1])⟩
 .have u1:¬x.k=5:=D h1;refine qC ?_ ?_<;>intro h2
  .have u2:x.k=4:=D h2;refine qY (c5 O Tryz.call325 ⟨J,J⟩ (a7y x.op _) O) ?_;refine c6 ?_;exact⟨_,rE1,_,_,O,O,B4 (by rw[a98,W u1,Q u2])⟩
  .have u2:¬x.k=4:=D h2;refine c6 ?_;exact⟨_,rE1,_,_,O,O,B4 (by rw[a98,W u1,W u2])⟩
def sgn(o:Int):I:=(glk S0 o).getD []
def b1T(k:Int):I:=if k=7 then [115,105,122,101]else if k=8 then [104,97,115]else if k=9 then [101,110,118]else []
def L4(sep:I):List I->I
 | []=>[]
 | [x]=>x
 |x::y::l=>x++sep++L4 sep (y::l)
def ndT(ps:List I)(k u o:Int)(nm:I)(cs:List I):I:=
 if k=1 then Lib.itoa u else if k=2 then ps.getD u.toNat []else if k=4 then cs.getD 0 []++([32]++sgn o++[32])++cs.getD 1 []else if k=5 then [105,102,32]++cs.getD 0 []++[32,116,104,101,110,32]++cs.getD 1 []++[32,101,108,115,101,32]++cs.getD 2 []
 else if k=3 then nm++[40]++L4 [44,32] cs++[41]else if k=6 then [114,101,97,100,40,34]++nm++[34,44,32]++cs.getD 0 []++[41]else if k=10 then [102,108,105,112,40]++Lib.itoa u++[41]else b1T k++([40,34]++nm++[34,41])
def b0c(k o:Int):List Int:=if k=4 then [if J4 o=1 then J4 o+1 else J4 o,J4 o+1]else []
mutual
def Tr.txt(ps:List I):Tr->Int->I
 | .n k u o nm ch,pl=>if a98 k o<pl then [40]++ndT ps k u o nm (M8 ps ch (b0c k o))++[41]else ndT ps k u o nm (M8 ps ch (b0c k o))
def M8(ps:List I):List Tr->List Int->List I
 | [],_=>[]
 |t::l,cu=>t.txt ps (cu.headD 0)::M8 ps l cu.tail
end
theorem b0U(ps:List I):∀(l:List Tr) (cu:List Int),(M8 ps l cu).length=l.length
 | [],_=>rfl
 |t::l,cu=>by rw[M8,D3,b0U ps l,D3]
theorem a1p(ps:List I):∀(l:List Tr) (cu:List Int) (m:Nat) (c:Tr),l[m]?=some c->(M8 ps l cu)[m]?=some (c.txt ps (cu.getD m 0))
 | [],_,_,_,h=>by simp at h
 |t::l,cu,0,c,h=>by
  injection h with h
  subst h;rw[M8];cases cu<;>rfl
 |t::l,cu,m+1,c,h=>by
  rw[M8,c42,a1p ps l cu.tail m c h];cases cu<;>rfl
def b5U(E:List Ex)(t:Tr)(s:Nat):Prop:=∃E0 E1,E=E0++t.flat s++E1/\E0.length=s
theorem b5U.node{k:Int}(h:b5U E (.n k u o nm ch) s):E[s+A4 ch]?=some ⟨k,u,o,nm,x8 ch s⟩:=by
 obtain⟨E0,E1,rfl,rfl⟩:=h;rw[Tr.flat,H5,a1c G,H5,a1c (by rw[S2];omega),S2];rw[show E0.length+A4 ch-E0.length -A4 ch=0 by omega];rfl
theorem a9x:∀(l:List Tr) (m s:Nat) (c:Tr),l[m]?=some c->∃X,M7 l s=M7 (l.take m) s++c.flat (s+A4 (l.take m))++X
 | [],_,_,_,h=>by simp at h
 |t::l,0,s,c,h=>by
  injection h with h
  subst h;exact⟨_,O⟩
 |t::l,m+1,s,c,h=>by
  obtain⟨X,hX⟩:=a9x l m (s+t.size) c h;refine⟨X,?_⟩;rw[M7,hX,a6Y,M7,A4,b2z];simp only[H5]
theorem b5U.child{k:Int}{c:Tr}(h:b5U E (.n k u o nm ch) s)(hc:ch[m]?=some c):b5U E c (s+A4 (ch.take m)):=by
 obtain⟨E0,E1,rfl,rfl⟩:=h;obtain⟨X,hX⟩:=a9x ch m E0.length c hc;refine⟨E0++M7 (ch.take m) E0.length,X++[⟨k,u,o,nm,x8 ch E0.length⟩]++E1,?_,?_⟩
 .rw [Tr.flat,hX];simp only[H5]
 .rw [n_8,S2]
theorem a3g{l:List Tr}{c:Tr}(h:l[m]?=some c):c.size<=A4 l:=by
 induction l generalizing m with
 |nil=>simp at h
 |cons t l ih=>
  rw[A4]
  rcases m with _|m
  .injection h with h;subst h;omega
  .have:=ih h;omega
abbrev TW:Nat:=322
theorem a2C:a44 TW 5:=by unfold a44;kernel_rfl
def WR(E:List Ex)(ps:List I)(en pn:Bool)(d:Int):List CV:=[.list (E.map Ex.cv) en none,.list (ps.map scv) pn none,iv d]
theorem F5(E:List Ex)(ps:List I)(en pn:Bool)(d:Int):∀c∈WR E ps en pn d,p9 c:=λc hc=>by
 simp only[WR,J2,b0l,or_false]at hc
 rcases hc with rfl|rfl|rfl
 .exact a3n _ _
 .exact F2 _ _
 .exact .val _
def WEG(E:List Ex)(ps:List I)(en pn:Bool)(t:Tr)(s:Nat)(ok:Int->Prop):Prop:=∀(pl dp:Int) (a:Bool) (b:I) (d:Int),ok pl->0<=dp->dp+2*t.size+1<=1000000000->b.length+(t.txt ps pl).length<=100000000000000->∀(σ:List b9) (q k:Nat),BAt σ q k TW a b (WR E ps en pn d) ->
 b8 CC 308 [.ptr q 0,iv ((s+t.size -1:Nat):Int),iv pl,iv dp] σ λr τ=>∃d':Int,r= .ret (.tup [])/\τ=(σ.set q (F4 TW q σ.length true (b++t.txt ps pl) (WR E ps en pn d'))).set k .dead++[A8 tU8 (b++t.txt ps pl).length]/\True
theorem b1p{en:Bool}{pl dp:Int}{T:I}{b:I}{d:Int}(h:b8 CC 308 [.ptr 0 0,iv i,iv pl,iv dp] (bSt TW a b (WR E ps en pn d)) λr τ=>∃d':Int,F0 2 τ r (.ret (.tup [])) (a81 TW (b++T) (WR E ps en pn d'))/\True)
 (σ:List b9)(q k:Nat)(ao:BAt σ q k TW a b (WR E ps en pn d)):b8 CC 308 [.ptr q 0,iv i,iv pl,iv dp] σ λr τ=>∃d':Int,r= .ret (.tup [])/\τ=(σ.set q (F4 TW q σ.length true (b++T) (WR E ps en pn d'))).set k .dead++[A8 tU8 (b++T).length]/\True:=
 c0R (c:=λ_:Int=>.tup []) (l':=λ_=>b++T) (rest':=λd'=>WR E ps en pn d') (P:=λ_=>True) (λa h=>by simp at h;rcases h with rfl|rfl|rfl<;>exact .val _) (λ_ _=>C5 trivial) (F5 _ _ _ _ _) (λ_ _=>F5 _ _ _ _ _)
  (K2 hCC (h.mono λr τ hh=>by
   obtain⟨d',h1,h2⟩:=hh;exact⟨_,_,h1,d',O,O,J⟩)) ao
def W3:List I:=[[105,102,32],[32,116,104,101,110,32],[32,101,108,115,101,32]]
def ifP:List I->Nat->I
 |_,0=>[]
 |cs,m+1=>ifP cs m++W3.getD m []++cs.getD m []
def J0(sep:I)(cs:List I)(m:Nat):I:=L4 sep (cs.take m)
theorem a6T{sep:I}{cs:List I}{c:I}(h:cs[m]?=some c):J0 sep cs (m+1)=J0 sep cs m++(if m=0 then []else sep)++c:=by
 unfold J0;have:∀(cs:List I) (m:Nat) (c:I),cs[m]?=some c->L4 sep (cs.take (m+1))=L4 sep (cs.take m)++(if m=0 then []else sep)++c:=by
  intro cs
  induction cs with
  |nil=>intro m c h;simp at h
  |cons x l ih=>
   intro m c h
   rcases m with _|m
   .simp at h;subst h;simp[L4]
   .rw [a6Y,a6Y];have:=ih m c (D h)
    rcases l with _|⟨y,l⟩
    .simp at h
    .rcases m with _|m
     .simp only[a6Y,List.take_zero,L4]at this⊢;simp at this⊢;simpa using h
     .simp only[a6Y,L4]at this⊢;rw[this];simp
 exact this cs m c h
theorem b5u{β:Type}{k:Int}{y:β}:∀{l:List (Int×β)},glk l k=some y->(k,y)∈l
 | [],h=>by cases h
 |(b,c)::l,h=>by
  rw[glk]at h;split at h
  .rename_i e;injection h with h
   subst h e;simp
  .exact a13 _ (b5u h)
theorem e0f(h:m<3):∃w,W3[m]?=some w:=by
 match m,h with
 |0,_=>exact⟨_,O⟩
 |1,_=>exact⟨_,O⟩
 |2,_=>exact⟨_,O⟩
theorem b91:∀l:List Tr,l.length<=A4 l
 | []=>n_6 _
 |t::l=>by rw[A4,D3];have:=b91 l;have:=t.size_pos;omega
def kp(ph:Bool):Nat:=match ph with|false=>3|true=>4
def op1(ph:Bool)(m:Nat):b9:=match ph with|false=>A8 tU8 m|true=>.dead
def op2(ph:Bool)(m:Nat):b9:=match ph with|false=>.dead |true=>A8 tU8 m
theorem a6S{s':Nat}(hL:0<L)(hs:ak[s']?=some s)(hr:∀c∈rest,p9 c)(he:l=l'):b11 L ak (F4 T 0 s a l rest) (F4 T 0 s' a l' rest):=by
 subst he;refine .box ⟨?_,.list (λr hr c hc=>(a1T l r hr c hc).old) (λj hj=>?_),?_⟩
 .cases a
  .exact .old (.val _)
  .exact .old (.ptr hL)
 .cases hb:l.length with
  |zero=>rw[hb]at hj;cases hj
  |succ m=>rw[hb]at hj;injection hj with hj;subst hj;exact⟨s,O,hs⟩
 .have:∀l:List CV,(∀c∈l,p9 c)->b6z L l:=λl=>by
   induction l with
   |nil=>intro _;trivial
   |cons x l ih=>intro h;exact⟨(h x U).old,ih λc hc=>h c (by simp[hc])⟩
  exact a72 (this rest hr)
theorem U8(he:l=l'):b11 L ak (A8 tU8 l.length) (A8 tU8 l'.length):=he▸ .same O (b4w _ _ _)
theorem a3C:Old 2 (.tup []):=(C5 (cs:=[]) J).old
def W0:List (Int×I):=[(7,[115,105,122,101]),(8,[104,97,115]),(9,[101,110,118])]
theorem d1h(k:Int):(glk W0 k).getD []=b1T k:=by
 unfold b1T
 split
 .subst_vars;rfl
 .split
  .subst_vars;rfl
  .split
   .subst_vars;rfl
   .rename_i h1 h2 h3;have e:∀x∈W0,x.1≠k:=λx hx=>by
     simp only[W0,J2,b0l,or_false]at hx
     rcases hx with rfl|rfl|rfl<;>simp only<;>omega
    cases hg:glk W0 k with
    |none=>rfl
    |some y=>
     exact absurd O (e _ (b5u hg))
theorem c2w(o:Int):(sgn o).length<=100:=by
 unfold sgn;cases hg:glk S0 o with
 |none=>exact n_5 _
 |some y=>
  have:∀x∈S0,x.2.length<=100:=by decide
  exact this _ (b5u hg)
theorem b7q(o:Int):1<=J4 o/\J4 o<=3:=by unfold J4;split;omega;split<;>omega
theorem O0(a b:I):(a++b).length=a.length+b.length:=n_8
theorem a8b{l:List Tr}(h:l.length=n)(hm:m<n):∃c,l[m]?=some c:=⟨l[m]'G,U⟩
theorem d6x(cs:List I):∀m,m<=3->(ifP cs m).length<=(ifP cs 3).length:=by
 intro m hm;have h1:∀n,(ifP cs n).length<=(ifP cs (n+1)).length:=λn=>by rw[ifP];simp only[n_8];omega
 have e0:=h1 0;have e1:=h1 1;have e2:=h1 2
 rcases m with _|_|_|_|m<;>simp only[O7,Nat.reduceAdd]at*<;> omega
theorem c7v(sep:I)(cs:List I)(m:Nat):(J0 sep cs m).length<=(L4 sep cs).length:=by
 unfold J0
 induction cs generalizing m with
 |nil=>simp
 |cons x l ih=>
  rcases m with _|m
  .simp [L4]
  .rw [a6Y]
   rcases l with _|⟨y,l⟩
   .simp
   .rcases m with _|m
    .simp [L4]
    .have:=ih (m+1);rw[a6Y]at this⊢;simp only[L4,n_8]at this⊢;omega
theorem b3T(k:Int):(b1T k).length<=4:=by
 unfold b1T
 split;decide
 split;decide
 split<;>decide
theorem b3R{en:Bool}{k:Int}(hAt:b5U E (.n k u o nm ch) s)(hn:a0K ps.length k u o nm ch.length)(_:E.length<=1000000)(hI:∀m c,ch[m]?=some c->WEG E ps en pn c (s+A4 (ch.take m)) (λ_=>True))(T:I)(hT:T=ndT ps k u o nm (M8 ps ch (b0c k o)))(pl dp:Int)(bc:¬a98 k o<pl)(bV:0<=dp)(hd:dp+2*((A4 ch+1:Nat):Int)<=1000000000)(a:Bool)(b:I)(d:Int)(hb:b.length+T.length<=100000000000000):b8 CC 308 [.ptr 0 0,(iv ((s+A4 ch:Nat):Int)),iv pl,iv dp] (bSt TW a b (WR E ps en pn d)) λr τ=>∃d':Int,F0 2 τ r (.ret (.tup [])) (a81 TW (b++T) (WR E ps en pn d'))/\True:=by
 refine d9k ?_;refine d8D ?_;refine qC ?_ ?_<;>intro h1
 .exact absurd (D h1) bc
 .have hnk:=hn.kind;refine qY (e2b O J J O O) ?_;refine qD (j1 O J J O j2 t_1 (.inl O) O O (nb O) ?_);refine cC ?_ ?_<;>intro h2
  .refine L6 [F4 TW 0 1 a b (WR E ps en pn (max d dp)),A8 tU8 b.length,.box (Ex.cells ⟨k,u,o,nm,x8 ch s⟩)] O ?_;have u2:k=1:=D h2;have aW:=hn.k1 u2;have eT:T=Lib.itoa u:=by rw[hT,ndT,Q u2]
   rw[eT]at hb;refine cW 6 ?_;refine b45 ?_;refine b9O ?_;refine hY (c5 O c7Y ⟨J,J⟩ (c1O u G G _) O) ?_;refine a0T ?_;refine qD (c4 O a2Q i7 (x9 a2C _ (b) (F5 _ _ _ _ _) (Lib.itoa u) a4R ⟨O,O,n_4 O⟩) O ?_);intro _ _;exact⟨_,rE0,⟨(max d dp),d3f,J⟩⟩
  .have u2:¬k=1:=D h2;refine qk ?_;refine cC ?_ ?_<;>intro h3
   .refine L6 [F4 TW 0 1 a b (WR E ps en pn (max d dp)),A8 tU8 b.length,.box (Ex.cells ⟨k,u,o,nm,x8 ch s⟩)] O ?_;have u3:k=2:=D h3;have eA:=hn.k2 u3;have hnum:0<=(Ex.mk k u o nm (x8 ch s)).num:=eA.1;have eT:T=ps.getD u.toNat []:=by rw[hT,ndT,W G,Q u3]
    rw[eT]at hb;have g0:ps[u.toNat]?=some (ps.getD u.toNat []):=by
     have af:u.toNat <ps.length:=by omega
     simp[List.getD,af]
    refine cW 11 ?_;refine b45 ?_;refine a2W ?_;refine hY (j3 O J O c6D O a23 H) ?_;refine hY b36 ?_;refine b9O ?_;refine hY (r6 O J J O O t_2 t_0 G (j5 g0) O) ?_;refine hY a9z ?_;refine a0T ?_;refine qD (c4 O a2Q i7 (x9 a2C _ (b) (F5 _ _ _ _ _) (ps.getD u.toNat []) a4R ⟨O,O,n_4 O⟩) O ?_);intro _ _;exact⟨_,rE0,⟨(max d dp),d3f,J⟩⟩
   .have u3:¬k=2:=D h3;refine qk ?_;refine cC ?_ ?_<;>intro h4
    .refine L6 [F4 TW 0 1 a b (WR E ps en pn (max d dp)),A8 tU8 b.length,.box (Ex.cells ⟨k,u,o,nm,x8 ch s⟩)] O ?_;have u4:k=4:=D h4;have eC:ch.length=2:=by have:=hn.cnt;rw[Q u4]at this;exact this
     obtain⟨c0,g0⟩:=a8b (m:=0) eC H;obtain⟨c1,g1⟩:=a8b (m:=1) eC H;have ga:=a3g g0;have bR:=a3g g1;have cp:=b7q o;have dV:=c2w o;have elv:a98 k o=J4 o:=by rw[a98,W G,Q u4]
     refine qk (qY (c5 O Tryz.call330 ⟨J,J⟩ ((elv▸b2J ⟨k,u,o,nm,x8 ch s⟩ _)) O) ?_);refine qC ?_ ?_<;>intro h5
     .have u5:J4 o=1:=D h5;have eT:T=c0.txt ps (J4 o+1)++([32]++sgn o++[32])++c1.txt ps (J4 o+1):=by rw[hT,ndT,W G,W G,Q u4];simp only[a7V,a1p ps ch _ 0 c0 g0,a1p ps ch _ 1 c1 g1,a84];simp[b0c,u4,u5]
      rw[eT]at hb;refine qY o7 ?_;refine qY d9F ?_;refine qD (c4 O b29 a6I (hI 0 c0 g0 (J4 o+1) (dp) _ (b) _ trivial G G a4R _ _ _ ⟨O,O,n_4 O⟩) O ?_);rintro d1 _;dsimp only;refine qN [F4 TW 0 3 true (b++c0.txt ps (J4 o+1)) (WR E ps en pn d1),.dead,.box (Ex.cells ⟨k,u,o,nm,x8 ch s⟩),A8 tU8 (b++c0.txt ps (J4 o+1)).length] O ?_;refine d8m ?_;refine chf O d1P ?_;refine chf O (c8 O b1m) ?_;refine chf O b4H ?_;refine d7D ?_;intro _ _;refine a1G [F4 TW 0 3 true (b++c0.txt ps (J4 o+1)) (WR E ps en pn d1),.dead,.box (Ex.cells ⟨k,u,o,nm,x8 ch s⟩),A8 tU8 (b++c0.txt ps (J4 o+1)).length,.map (gm kv sv S0)] O ?_;refine d7L ?_;refine E8 O O (c8 O (L3 O O J O O (by show 1+(sgn o).length<=_;omega))) ⟨⟨D7,a0I,b4n,J⟩,?_⟩;refine E8 O O e1C ⟨⟨D7,a0I,b4n,J⟩,?_⟩;refine B6 O O O (c4 O a2Q i7 (x9 a2C _ (b++c0.txt ps (J4 o+1)) (F5 _ _ _ _ _) ([32]++sgn o++[32]) a4R ⟨O,O,n_4 O⟩) O ?_);intro _ _;refine a1G [F4 TW 0 5 true (b++c0.txt ps (J4 o+1)++([32]++sgn o++[32])) (WR E ps en pn d1),.dead,.box (Ex.cells ⟨k,u,o,nm,x8 ch s⟩),.dead,.map (gm kv sv S0),A8 tU8 (b++c0.txt ps (J4 o+1)++([32]++sgn o++[32])).length] O ?_;refine a9k ?_;refine d7o ?_;refine qD (c4 O b29 a6I (hI 1 c1 g1 (J4 o+1) (dp) _ (b++c0.txt ps (J4 o+1)++([32]++sgn o++[32])) _ trivial G G a4R _ _ _ ⟨O,O,n_4 O⟩) O ?_);rintro d2 _;dsimp only;exact⟨_,rE0,⟨d2,e1W,J⟩⟩
     .have u5:¬J4 o=1:=D h5;have eT:T=c0.txt ps (J4 o)++([32]++sgn o++[32])++c1.txt ps (J4 o+1):=by rw[hT,ndT,W G,W G,Q u4];simp only[a7V,a1p ps ch _ 0 c0 g0,a1p ps ch _ 1 c1 g1,a84];simp[b0c,u4,u5]
      rw[eT]at hb;refine qY d9F ?_;refine qD (c4 O b29 a6I (hI 0 c0 g0 (J4 o) (dp) _ (b) _ trivial G G a4R _ _ _ ⟨O,O,n_4 O⟩) O ?_);rintro d1 _;dsimp only;refine qN [F4 TW 0 3 true (b++c0.txt ps (J4 o)) (WR E ps en pn d1),.dead,.box (Ex.cells ⟨k,u,o,nm,x8 ch s⟩),A8 tU8 (b++c0.txt ps (J4 o)).length] O ?_;refine d8m ?_;refine chf O d1P ?_;refine chf O (c8 O b1m) ?_;refine chf O b4H ?_;refine d7D ?_;intro _ _;refine a1G [F4 TW 0 3 true (b++c0.txt ps (J4 o)) (WR E ps en pn d1),.dead,.box (Ex.cells ⟨k,u,o,nm,x8 ch s⟩),A8 tU8 (b++c0.txt ps (J4 o)).length,.map (gm kv sv S0)] O ?_;refine d7L ?_;refine E8 O O (c8 O (L3 O O J O O (by show 1+(sgn o).length<=_;omega))) ⟨⟨D7,a0I,b4n,J⟩,?_⟩;refine E8 O O e1C ⟨⟨D7,a0I,b4n,J⟩,?_⟩;refine B6 O O O (c4 O a2Q i7 (x9 a2C _ (b++c0.txt ps (J4 o)) (F5 _ _ _ _ _) ([32]++sgn o++[32]) a4R ⟨O,O,n_4 O⟩) O ?_);intro _ _;refine a1G [F4 TW 0 5 true (b++c0.txt ps (J4 o)++([32]++sgn o++[32])) (WR E ps en pn d1),.dead,.box (Ex.cells ⟨k,u,o,nm,x8 ch s⟩),.dead,.map (gm kv sv S0),A8 tU8 (b++c0.txt ps (J4 o)++([32]++sgn o++[32])).length] O ?_;refine a9k ?_;refine d7o ?_;refine qD (c4 O b29 a6I (hI 1 c1 g1 (J4 o+1) (dp) _ (b++c0.txt ps (J4 o)++([32]++sgn o++[32])) _ trivial G G a4R _ _ _ ⟨O,O,n_4 O⟩) O ?_);rintro d2 _;dsimp only;exact⟨_,rE0,⟨d2,e1W,J⟩⟩
    .have u4:¬k=4:=D h4;have ep:b0c k o=[]:=by rw[b0c,W u4]
     refine qk ?_;refine cC ?_ ?_<;>intro h6
     .have u6:k=5:=D h6;have eC:ch.length=3:=by have:=hn.cnt;rw[W u4,Q u6]at this;exact this
      have eT:T=ifP (M8 ps ch []) 3:=by
       rw[hT,ndT,W G,W G,W G,Q u6,ep];simp[ifP,W3]
      have cH:=d6x (M8 ps ch []);rw[eT]at hb;refine L6 [F4 TW 0 1 a b (WR E ps en pn (max d dp)),A8 tU8 b.length,.box (Ex.cells ⟨k,u,o,nm,x8 ch s⟩)] O ?_;refine d5y TW 0 1 a b (WR E ps en pn (max d dp)) ⟨O,O,n_4 O⟩ ?_;refine L6 [F4 TW 0 3 a b (WR E ps en pn (max d dp)),.dead,.box (Ex.cells ⟨k,u,o,nm,x8 ch s⟩),A8 tU8 b.length] O ?_;refine qk (qY (A9 (W3.map scv) O ⟨O,O,O,J⟩ t_2 t_0 t_3 O O O O O O O O O) ?_);refine qY P5 ?_;refine A5 hCC 4 O (α:=Nat×Bool×Bool×Int) (λx=>[(0,.ptr 0 0),(3,iv dp),(8,.ptr 2 0),(127,.list (W3.map scv) true none),(128,(iv (3))),(129,iv x.1)]) (λx=>[F4 TW 0 (kp x.2.1) x.2.2.1 (b++ifP (M8 ps ch []) x.1) (WR E ps en pn x.2.2.2),.dead,.box (Ex.cells ⟨k,u,o,nm,x8 ch s⟩),op1 x.2.1 (b++ifP (M8 ps ch []) x.1).length,op2 x.2.1 (b++ifP (M8 ps ch []) x.1).length]) (λx=>x.1<=3/\(0<x.1->x.2.2.1=true)) (λx=>3-x.1) ⟨(0,false,a,max d dp),[0,1,2,3,7],⟨n_5 _,λh=>absurd h (Nat.lt_irrefl _)⟩,⟨O,O⟩,ut_,⟨.inr ⟨_,O,a6S H O (F5 _ _ _ _ _) (by simp[ifP])⟩,.inl O,.inr ⟨_,O,.same O b7s⟩,.inr ⟨_,O,U8 (by simp[ifP])⟩,.inl O,J⟩⟩ ?_;intro⟨m,ph,a',d'⟩ ⟨hm,hma⟩;dsimp only at hm hma⊢;refine qk (qC ?_ ?_)<;> intro h7
      .have af:m<3:=sm_ h7;obtain⟨w,gw⟩:=e0f af;obtain⟨c,gm⟩:=a8b (m:=m) eC af;have hzm:=a3g gm;have es:ifP (M8 ps ch []) (m+1)=ifP (M8 ps ch []) m++w++c.txt ps 0:=by
        rw[ifP];simp only[a7V,gw,a1p ps ch _ m c gm,a84];simp
       have hbm:=cH (m+1) G;rw[es]at hbm;refine qY (r6 O J J O O t_2 t_0 G (j5 gw) O) ?_;refine qD (c4 O a2Q i7 (x9 a2C _ (b++ifP (M8 ps ch []) m) (F5 _ _ _ _ _) (w) (by simp only[O0]at hb hbm⊢;omega) ⟨O,by cases ph<;>rfl,by cases ph<;>exact n_4 O⟩) O ?_);intro _ _;refine qN [F4 TW 0 5 true (b++ifP (M8 ps ch []) m++w) (WR E ps en pn d'),.dead,.box (Ex.cells ⟨k,u,o,nm,x8 ch s⟩),.dead,.dead,A8 tU8 (b++ifP (M8 ps ch []) m++w).length] P9 ?_;refine qY (r6 O J J O O t_4 t_1 G (j5 (Z5 gm)) O) ?_;refine qY o7 ?_;refine qD (c4 O b29 ⟨J,J,O,J,J⟩ (hI m c gm 0 (dp+1) _ (b++ifP (M8 ps ch []) m++w) _ trivial G G (by simp only[O0]at hb hbm⊢;omega) _ _ _ ⟨O,O,n_4 O⟩) O ?_);rintro d3 _;dsimp only;refine qN [F4 TW 0 6 true (b++ifP (M8 ps ch []) m++w++c.txt ps 0) (WR E ps en pn d3),.dead,.box (Ex.cells ⟨k,u,o,nm,x8 ch s⟩),.dead,.dead,.dead,A8 tU8 (b++ifP (M8 ps ch []) m++w++c.txt ps 0).length] O (qY o7 ?_);exact⟨(m+1,true,true,d3),[0,1,2,3,6],(show 3- (m+1)<3-m/\m+1<=3/\(0<m+1->true=true)from⟨G,G,λ_=>O⟩),⟨O,O⟩,ut_,⟨.inr ⟨_,O,a6S H O (F5 _ _ _ _ _) c29⟩,.inl O,.inr ⟨_,O,.same O b7s⟩,.inl O,.inr ⟨_,O,U8 c29⟩,J⟩⟩
      .have h3m:m=3:=sm_ h7;subst h3m;obtain rfl:=hma H;refine j8 ?_;exact⟨_,rE0,⟨d',(by rw[eT];exact b4t (k:=kp ph) O P9 (by cases ph<;>decide) (F5 _ _ _ _ _) a3C),J⟩⟩
     .have u6:¬k=5:=D h6;refine qk ?_;refine cC ?_ ?_<;>intro h8
      .refine L6 [F4 TW 0 1 a b (WR E ps en pn (max d dp)),A8 tU8 b.length,.box (Ex.cells ⟨k,u,o,nm,x8 ch s⟩)] O ?_;have u8:k=3:=D h8;have eT:T=nm++[40]++L4 [44,32] (M8 ps ch [])++[41]:=by
        rw[hT,ndT,W G,W G,W G,W G,Q u8,ep]
       have cH:=c7v [44,32] (M8 ps ch []);rw[eT]at hb;have hbn:=hb;simp only[O0,D3,K8]at hbn;refine qk ?_;refine cW 6 ?_;refine b45 ?_;refine hY b8Q ?_;refine hY M6 ?_;refine hY (L3 O J O O O (by show nm.length+1<=_;omega)) ?_;refine a0T ?_;refine qD (c4 O a2Q i7 (x9 a2C _ (b) (F5 _ _ _ _ _) (nm++[40]) a4R ⟨O,O,n_4 O⟩) O ?_);intro _ _;refine qN [F4 TW 0 3 true (b++(nm++[40])) (WR E ps en pn (max d dp)),.dead,.box (Ex.cells ⟨k,u,o,nm,x8 ch s⟩),A8 tU8 (b++(nm++[40])).length] O (qY a4V ?_);refine A5 hCC 4 O (α:=Nat×Bool×Int) (λx=>[(0,.ptr 0 0),(3,iv dp),(159,.list ((x8 ch s).map icv) (gnn (x8 ch s).length) none),(160,(iv ((x8 ch s).length:Int))),(161,iv x.1)]) (λx=>[F4 TW 0 (kp x.2.1) true (b++(nm++[40])++J0 [44,32] (M8 ps ch []) x.1) (WR E ps en pn x.2.2),.dead,.box (Ex.cells ⟨k,u,o,nm,x8 ch s⟩),op1 x.2.1 (b++(nm++[40])++J0 [44,32] (M8 ps ch []) x.1).length,op2 x.2.1 (b++(nm++[40])++J0 [44,32] (M8 ps ch []) x.1).length]) (λx=>x.1<=ch.length) (λx=>ch.length -x.1) ⟨(0,false,max d dp),[0,1,2,3,7],(n_5 _),⟨O,O⟩,ut_,⟨.inr ⟨_,O,a6S H O (F5 _ _ _ _ _) (by simp[J0,L4])⟩,.inl O,.inr ⟨_,O,.same O b7s⟩,.inr ⟨_,O,U8 (by simp[J0,L4])⟩,.inl O,J⟩⟩ ?_;intro⟨m,ph,d'⟩ hm;dsimp only at hm⊢;have cQ:=a2f ch s;have cy:=b91 ch;refine qk ?_;refine cC ?_ ?_<;>intro h9
       .have af:m<ch.length:=sm_ h9;obtain⟨c,gm⟩:=a8b (m:=m) O af;have hzm:=a3g gm;have es:=a6T (sep:=[44,32]) (a1p ps ch [] m c gm);have hbm:=cH (m+1);rw[es]at hbm;simp only[O0,List.getD_nil]at hbm es;refine qk (qY (r6 O J J O O t_4 t_1 G (j5 (Z5 gm)) O) ?_);refine qC ?_ ?_<;>intro bp
        .have u10:¬m=0:=sm_ bp;rw[W u10]at hbm es;refine qD (c4 O a2Q o3 (x9 a2C _ (b++(nm++[40])++J0 [44,32] (M8 ps ch []) m) (F5 _ _ _ _ _) ([44,32]) c8Q ⟨O,by cases ph<;>rfl,by cases ph<;>exact n_4 O⟩) O ?_);intro _ _;refine qN [F4 TW 0 5 true (b++(nm++[40])++J0 [44,32] (M8 ps ch []) m++[44,32]) (WR E ps en pn d'),.dead,.box (Ex.cells ⟨k,u,o,nm,x8 ch s⟩),.dead,.dead,A8 tU8 (b++(nm++[40])++J0 [44,32] (M8 ps ch []) m++[44,32]).length] P9 ?_;refine qY o7 ?_;refine qD (c4 O b29 ⟨J,J,O,J,J⟩ (hI m c gm 0 (dp+1) _ (b++(nm++[40])++J0 [44,32] (M8 ps ch []) m++[44,32]) _ trivial G G c8Q _ _ _ ⟨O,O,n_4 O⟩) O ?_);rintro d3 _;dsimp only;refine qN [F4 TW 0 6 true (b++(nm++[40])++J0 [44,32] (M8 ps ch []) m++[44,32]++c.txt ps 0) (WR E ps en pn d3),.dead,.box (Ex.cells ⟨k,u,o,nm,x8 ch s⟩),.dead,.dead,.dead,A8 tU8 (b++(nm++[40])++J0 [44,32] (M8 ps ch []) m++[44,32]++c.txt ps 0).length] O (qY o7 ?_);exact⟨(m+1,true,d3),[0,1,2,3,6],do_,⟨O,O⟩,ut_,⟨.inr ⟨_,O,a6S H O (F5 _ _ _ _ _) c29⟩,.inl O,.inr ⟨_,O,.same O b7s⟩,.inl O,.inr ⟨_,O,U8 c29⟩,J⟩⟩
        .have u10:m=0:=sm_ bp;rw[Q u10]at hbm es;refine qY o7 ?_;refine qD (c4 O b29 ⟨J,J,O,J,J⟩ (hI m c gm 0 (dp+1) _ (b++(nm++[40])++J0 [44,32] (M8 ps ch []) m) _ trivial G G c8Q _ _ _ ⟨O,by cases ph<;>rfl,by cases ph<;>exact n_4 O⟩) O ?_);rintro d3 _;dsimp only;refine qN [F4 TW 0 5 true (b++(nm++[40])++J0 [44,32] (M8 ps ch []) m++c.txt ps 0) (WR E ps en pn d3),.dead,.box (Ex.cells ⟨k,u,o,nm,x8 ch s⟩),.dead,.dead,A8 tU8 (b++(nm++[40])++J0 [44,32] (M8 ps ch []) m++c.txt ps 0).length] P9 ?_;refine qY o7 ?_;exact⟨(m+1,true,d3),[0,1,2,3,5],do_,⟨O,O⟩,ut_,⟨.inr ⟨_,O,a6S H O (F5 _ _ _ _ _) (by rw[es];simp only[H5,a7j])⟩,.inl O,.inr ⟨_,O,.same O b7s⟩,.inl O,.inr ⟨_,O,U8 (by rw[es];simp only[H5,a7j])⟩,J⟩⟩
       .have bw:m=ch.length:=sm_ h9;subst bw;have ej:J0 [44,32] (M8 ps ch []) ch.length=L4 [44,32] (M8 ps ch []):=by rw[J0,U2 (by rw[b0U];exact n_6 _)]
        rw[ej];refine j8 ?_;refine qD (c4 O c25 o3 (a1F a2C _ (b++(nm++[40])++L4 [44,32] (M8 ps ch [])) (F5 _ _ _ _ _) 41 (by simp only[O0,D3,K8]at hbn⊢;omega) ⟨O,by cases ph<;>rfl,by cases ph<;>exact n_4 O⟩) O ?_);intro _ _;refine qN [F4 TW 0 5 true (b++(nm++[40])++L4 [44,32] (M8 ps ch [])++[41]) (WR E ps en pn d'),.dead,.box (Ex.cells ⟨k,u,o,nm,x8 ch s⟩),.dead,.dead,A8 tU8 (b++(nm++[40])++L4 [44,32] (M8 ps ch [])++[41]).length] P9 ?_;exact⟨_,rE0,⟨d',e2B,J⟩⟩
      .have u8:¬k=3:=D h8;refine qk ?_;refine cC ?_ ?_<;>intro eF
       .refine L6 [F4 TW 0 1 a b (WR E ps en pn (max d dp)),A8 tU8 b.length,.box (Ex.cells ⟨k,u,o,nm,x8 ch s⟩)] O ?_;have u11:k=6:=D eF;have eC:ch.length=1:=by have:=hn.cnt;rw[W u4,W u6,Q u11]at this;exact this
        obtain⟨c0,g0⟩:=a8b (m:=0) eC H;have ga:=a3g g0;have eT:T=([114,101,97,100,40,34]++nm++[34,44,32])++c0.txt ps 0++[41]:=by
         rw[hT,ndT,W G,W G,W G,W G,W G,Q u11,ep];simp only[a7V,a1p ps ch _ 0 c0 g0,a84];simp
        rw[eT]at hb;have hbn:=hb;simp only[O0,D3,K8]at hbn;refine qk ?_;refine cW 7 ?_;refine b45 ?_;refine hY b8Q ?_;refine hY M6 ?_;refine hY (L3 O O J O O (by show 6+nm.length<=_;omega)) ?_;refine hY (L3 O J O O O (by show([114,101,97,100,40,34]++nm:I).length+3<=_;rw[O0];simp;omega)) ?_;refine a0T ?_;refine qD (c4 O a2Q i7 (x9 a2C _ (b) (F5 _ _ _ _ _) ([114,101,97,100,40,34]++nm++[34,44,32]) a4R ⟨O,O,n_4 O⟩) O ?_);intro _ _;refine qN [F4 TW 0 3 true (b++([114,101,97,100,40,34]++nm++[34,44,32])) (WR E ps en pn (max d dp)),.dead,.box (Ex.cells ⟨k,u,o,nm,x8 ch s⟩),A8 tU8 (b++([114,101,97,100,40,34]++nm++[34,44,32])).length] O (qY d9F ?_);refine qY o7 ?_;refine qD (c4 O b29 ⟨J,J,O,J,J⟩ (hI 0 c0 g0 (0) (dp+1) _ (b++([114,101,97,100,40,34]++nm++[34,44,32])) _ trivial G G a4R _ _ _ ⟨O,O,n_4 O⟩) O ?_);rintro d3 _;dsimp only;refine qN [F4 TW 0 4 true (b++([114,101,97,100,40,34]++nm++[34,44,32])++c0.txt ps 0) (WR E ps en pn d3),.dead,.box (Ex.cells ⟨k,u,o,nm,x8 ch s⟩),.dead,A8 tU8 (b++([114,101,97,100,40,34]++nm++[34,44,32])++c0.txt ps 0).length] O (qD (c4 O c25 o3 (a1F a2C _ (b++([114,101,97,100,40,34]++nm++[34,44,32])++c0.txt ps 0) (F5 _ _ _ _ _) 41 a4R ⟨O,O,n_4 O⟩) O ?_));intro _ _;exact⟨_,rE0,⟨d3,e2B,J⟩⟩
       .have u11:¬k=6:=D eF;refine qk ?_;refine cC ?_ ?_<;>intro eG
        .refine L6 [F4 TW 0 1 a b (WR E ps en pn (max d dp)),A8 tU8 b.length,.box (Ex.cells ⟨k,u,o,nm,x8 ch s⟩)] O ?_;have u12:k=10:=D eG;have hr12:=hn.k10 u12;have eT:T=[102,108,105,112,40]++Lib.itoa u++[41]:=by
          rw[hT,ndT,W G,W G,W G,W G,W G,W G,Q u12]
         rw[eT]at hb;have bo:=a8v (n:=u) G G;refine cW 8 ?_;refine b45 ?_;refine b9O ?_;refine hY (c5 O c7Y ⟨J,J⟩ (c1O u G G _) O) ?_;refine hY (L3 O O J O O (by show 5+(Lib.itoa u).length<=_;omega)) ?_;refine hY (L3 O J O O O (by show([102,108,105,112,40]++Lib.itoa u:I).length+1<=_;rw[O0];simp;omega)) ?_;refine a0T ?_;refine qD (c4 O a2Q i7 (x9 a2C _ (b) (F5 _ _ _ _ _) ([102,108,105,112,40]++Lib.itoa u++[41]) a4R ⟨O,O,n_4 O⟩) O ?_);intro _ _;exact⟨_,rE0,⟨(max d dp),d3f,J⟩⟩
        .refine L6 [F4 TW 0 1 a b (WR E ps en pn (max d dp)),A8 tU8 b.length,.box (Ex.cells ⟨k,u,o,nm,x8 ch s⟩)] O ?_;have u12:¬k=10:=D eG;have eT:T=b1T k++[40,34]++nm++[34,41]:=by
          rw[hT,ndT,W G,W G,W G,W G,W G,W G,W G];simp only[H5]
         rw[eT]at hb;have hbn:=hb;simp only[O0,D3,K8]at hbn;have hwl:=b3T k;refine qk (qD (R9 O ?_));refine qD (k8 (vc:=sv) (l:=W0.take 0) (a:=7) (b:=[115,105,122,101]) a0D (.inr O) J O O O O O a2r O ?_);refine qD (k8 (vc:=sv) (l:=W0.take 1) (a:=8) (b:=[104,97,115]) a0D (.inr O) J O O O O O a2r O ?_);refine qD (k8 (vc:=sv) (l:=W0.take 2) (a:=9) (b:=[101,110,118]) a0D (.inr O) J O O O O O a2r O ?_);refine qY (N3 (vc:=sv) (l:=W0) (a:=k) a0D O J J O O a2r t_3 O O ((a5J ([]:I) O _).trans (n_7 sv (d1h k)))) ?_;refine cW 9 ?_;refine b45 ?_;refine hY D2 ?_;refine hY (L3 O J O O O (by first|omega|(simp only[D3,K8];omega))) ?_;refine hY b8Q ?_;refine hY M6 ?_;refine hY (L3 O J J O O (by first|omega|(simp only[O0,D3,K8];omega))) ?_;refine hY (L3 O J O O O (by first|omega|(simp only[O0,D3,K8];omega))) ?_;refine a0T ?_;refine qD (c4 O a2Q i7 (x9 a2C _ (b) (F5 _ _ _ _ _) (b1T k++[40,34]++nm++[34,41]) a4R ⟨O,O,n_4 O⟩) O ?_);intro _ _;exact⟨_,rE0,⟨(max d dp),(by rw[eT];exact b4t (k:=4) O O H (F5 _ _ _ _ _) a3C),J⟩⟩
theorem c65{en:Bool}{k:Int}(hAt:b5U E (.n k u o nm ch) s)(T:I)(pl dp:Int)(bc:a98 k o<pl)(bV:0<=dp)(hd:dp+2*((A4 ch+1:Nat):Int)+1<=1000000000)(a:Bool)(b:I)(d:Int)(hb:b.length+([40]++T++[41]:I).length<=100000000000000)
 (hW:∀(dp:Int) (a:Bool) (b:I) (d:Int),0<=dp->dp+2*((A4 ch+1:Nat):Int)<=1000000000->b.length+T.length<=100000000000000->∀(σ:List b9) (q k:Nat),BAt σ q k TW a b (WR E ps en pn d) ->
  b8 CC 308 [.ptr q 0,iv ((s+A4 ch:Nat):Int),iv 0,iv dp] σ λr τ=>∃d':Int,r= .ret (.tup [])/\τ=(σ.set q (F4 TW q σ.length true (b++T) (WR E ps en pn d'))).set k .dead++[A8 tU8 (b++T).length]/\True):
 b8 CC 308 [.ptr 0 0,(iv ((s+A4 ch:Nat):Int)),iv pl,iv dp] (bSt TW a b (WR E ps en pn d)) λr τ=>∃d':Int,F0 2 τ r (.ret (.tup [])) (a81 TW (b++([40]++T++[41])) (WR E ps en pn d'))/\True:=by
 refine d9k ?_;refine d8D ?_;refine cC ?_ ?_<;>intro h1
 .refine L6 [F4 TW 0 1 a b (WR E ps en pn d),A8 tU8 b.length,.box (Ex.cells ⟨k,u,o,nm,x8 ch s⟩)] O ?_;refine qk (qD (c4 O c25 o3 (a1F a2C _ (b) (F5 _ _ _ _ _) 40 a4R ⟨O,O,n_4 O⟩) O ?_));intro _ _;refine qN [F4 TW 0 3 true (b++[40]) (WR E ps en pn d),.dead,.box (Ex.cells ⟨k,u,o,nm,x8 ch s⟩),A8 tU8 (b++[40]).length] O (qY o7 ?_);refine qD (c4 O b29 ⟨J,J,O,J,J⟩ (hW (dp+1) true (b++[40]) d G G a4R _ 0 3 ⟨O,O,n_4 O⟩) O ?_);rintro d1 _;dsimp only;refine qN [F4 TW 0 4 true (b++[40]++T) (WR E ps en pn d1),.dead,.box (Ex.cells ⟨k,u,o,nm,x8 ch s⟩),.dead,A8 tU8 (b++[40]++T).length] O (qD (c4 O c25 o3 (a1F a2C _ (b++[40]++T) (F5 _ _ _ _ _) 41 a4R ⟨O,O,n_4 O⟩) O ?_));intro _ _;refine c6 ?_;exact⟨_,rE0,⟨d1,(by simp only[<- H5];exact b4t (k:=5) O O H (F5 _ _ _ _ _) a3C),J⟩⟩
 .exact absurd bc (D h1)
theorem c43{np d:Nat}:∀{l:List Tr} {m:Nat} {c:Tr},wfL np d l->l[m]?=some c->c.wf np d
 | [],_,_,_,h=>by simp at h
 |t::l,0,c,h,hc=>by rw[wfL]at h;injection hc with hc;subst hc;exact h.1
 |t::l,m+1,c,h,hc=>by rw[wfL]at h;exact c43 h.2 (D hc)
theorem c7N(k o:Int):0<=a98 k o:=by
 unfold a98
 split;decide
 split
 .have:=b7q o;omega
 .decide
theorem b6S{E:List Ex}{ps:List I}{en pn:Bool}(hE:E.length<=1000000):∀(n:Nat) (t:Tr) (s:Nat),t.size<=n->b5U E t s->(∃d,t.wf ps.length d)->WEG E ps en pn t s (λ_=>True)
 |0,t,_,h,_,_=>by have:=t.size_pos;omega
 |n+1,.n k u o nm ch,s,aK,hAt,⟨dd,hw⟩=>by
  rw[Tr.wf]at hw;obtain⟨_,hn,hwl⟩:=hw;have hI:∀m c,ch[m]?=some c->WEG E ps en pn c (s+A4 (ch.take m)) (λ_=>True):=λm c hc=>by
   have:=a3g hc;rw[Tr.size]at aK;exact b6S hE n c _ G (hAt.child hc) ⟨_,c43 hwl hc⟩
  intro pl dp a b d _ bV hd hb σ q k' ao;rw[Tr.size]at hd⊢;rw[show s+(A4 ch+1) -1=s+A4 ch by omega];rw[Tr.txt]at hb⊢;by_cases bc:a98 k o<pl
  .rw [Q bc]at hb⊢;refine b1p (c65 hAt (ndT ps k u o nm (M8 ps ch (b0c k o))) pl dp bc bV G a b d hb λdp' a' b' d' h0 h1 h2 aa q' k'' hσ'=>?_) σ q k' ao;have hp0:=c7N k o;exact b1p (b3R hAt hn hE hI _ O 0 dp' G h0 h1 a' b' d' h2) aa q' k'' hσ'
  .rw [W bc]at hb⊢;exact b1p (b3R hAt hn hE hI _ O pl dp bc bV G a b d hb) σ q k' ao
def b0m(cs:List I):Nat:=(cs.map List.length).sum
theorem d0K(cs:List I):(cs.getD 0 []).length+(cs.getD 1 []).length+(cs.getD 2 []).length<=b0m cs:=by
 rcases cs with _|⟨a,_|⟨b,_|⟨c,l⟩⟩⟩<;>simp[b0m,List.getD]<;>omega
theorem a5L(sep:I):∀cs:List I,(L4 sep cs).length<=b0m cs+sep.length*cs.length
 | []=>by simp[L4]
 | [x]=>by simp[L4,b0m]
 |x::y::l=>by
  have:=a5L sep (y::l);simp only[L4,n_8,b0m,a8C,List.sum_cons,D3,Nat.mul_add]at this⊢;omega
theorem d5a(hp:∀s∈ps,s.length<=80){k:Int}{c:Nat}(hn:a0K ps.length k u o nm c)(cs:List I):(ndT ps k u o nm cs).length<=b0m cs+2*cs.length+290:=by
 have hg:=d0K cs;have hj:=a5L [44,32] cs;have hs:=c2w o;have hw:=b3T k;have bX:=hn.len;have e2:([44,32]:I).length=2:=O;rw[e2]at hj;unfold ndT
 split
 .rename_i h1;have:=hn.k1 h1;have:=a8v (n:=u) G G;omega
 split
 .have:(ps.getD u.toNat []).length<=80:=by
   rw[a7V];cases hh:ps[u.toNat]? with
   |none=>exact n_5 _
   |some x=>exact hp x (n_3 hh)
  omega
 split
 .simp only[n_8,D3,K8];omega
 split
 .simp only[n_8,D3,K8];omega
 split
 .simp only[n_8,D3,K8];omega
 split
 .simp only[n_8,D3,K8];omega
 split
 .rename_i bp;have:=hn.k10 bp;have:=a8v (n:=u) G G;simp only[n_8,D3,K8];omega
 .simp only[n_8,D3,K8];omega
mutual
theorem Tr.txt_len{ps:List I}(hp:∀s∈ps,s.length<=80):∀(t:Tr) (d:Nat) (pl:Int),t.wf ps.length d->(t.txt ps pl).length+2<=300*t.size
 | .n k u o nm ch,d,pl,h=>by
  rw[Tr.wf]at h;have h1:=d5a hp h.2.1 (M8 ps ch (b0c k o));have h2:=b3o hp ch _ (b0c k o) h.2.2;rw[b0U]at h1;rw[Tr.txt,Tr.size];have:([40]++ndT ps k u o nm (M8 ps ch (b0c k o))++[41]:I).length=(ndT ps k u o nm (M8 ps ch (b0c k o))).length+2:=by simp
  split
  .rw [this];omega
  .omega
theorem b3o{ps:List I}(hp:∀s∈ps,s.length<=80):∀(l:List Tr) (d:Nat) (cu:List Int),wfL ps.length d l->b0m (M8 ps l cu)+2*l.length<=300*A4 l
 | [],_,_,_=>by simp[M8,b0m]
 |t::l,d,cu,h=>by
  rw[wfL]at h;have h1:=Tr.txt_len hp t d (cu.headD 0) h.1;have h2:=b3o hp l d cu.tail h.2;rw[M8,A4];simp only[b0m,a8C,List.sum_cons,D3]at h2⊢;omega
end
theorem c5v(en pn:Bool)(hE:E.length<=1000000)(t:Tr)(ht:E=t.flat 0)(hw:∃d,t.wf ps.length d)(hp:∀s∈ps,s.length<=80):b8 CC 272 [(.list (E.map Ex.cv) en none),(.list (ps.map scv) pn none)] [] λr τ=>∃d:Int,X8 0 τ r (.ret (.tup [sv (t.txt ps 0),iv d]))/\True:=by
 have aK:E.length=t.size:=by rw[ht,Tr.flat_len]
 have dU:=t.size_pos;have hAt:b5U E t 0:=⟨[],[],by rw[ht];simp,O⟩;obtain⟨dd,hwd⟩:=hw;have htl:=t.txt_len hp dd 0 hwd;have hx:=b6S (en:=en) (pn:=pn) hE t.size t 0 (n_6 _) hAt ⟨dd,hwd⟩ 0 1 false [] 0 trivial G G (by simp only[K8];omega) ([F4 TW 0 1 false [] (WR E ps en pn 0)]++[.dead]) 0 1 ⟨O,O,n_4 O⟩;replace hx:=a0g hx;rw[show((0+t.size -1:Nat):Int)=(E.length:Int) -1 by omega]at hx;simp only[a7j]at hx;refine qO Tryz.func272 ?_;refine qY (A1 #[(0,2),(2,1),(3,1),(4,1)] O i7 c6D Tryz.zeroValue322 O ⟨_,O⟩ (λw=>by kernel_rfl) O O) ?_;refine qD (e0n O J j2 j4 ?_);refine qY a4k ?_;refine qY V4 ?_;refine qD (c4 O b29 ⟨J,J,O,O,J⟩ (hx) O ?_);rintro d1 _;dsimp only;refine cF [] [0,1,2,4,5,6,7] (tl:=[(3,[3,4,5,6]),(8,[3,4,5,6]),(9,[])]) ?_;refine a7n ?_;refine chf O d1P ?_;refine a7n ?_;refine chf O (c8 O d0f) ?_;refine chf O b4H ?_;refine H4 ?_;refine B6 O O O (c4 O b6M ⟨J,J⟩ (a3j (rest:=WR E ps en pn d1) (T:=TW) (F5 _ _ _ _ _) true _ (q:=0) (k:=2) ⟨O,O,n_4 O⟩) O ?_);intro _ _;refine⟨⟨D7,a0I,(by exact c8 O d0f),b4R,J⟩,?_⟩;refine E8 O O b2Q ⟨⟨D7,a0I,(by exact c8 O d0f),b4R,J⟩,?_⟩;refine b0f ?_;refine c6 ?_;exact⟨_,r8 (rs:=[.tmp 4,.tmp 5]) (cs:=[_,_]) O a0d (n_4 O),⟨d1,.ret (.old (C5 (cs:=[sv (t.txt ps 0),iv d1]) ⟨.val _,.val _,J⟩).old),J⟩⟩
theorem d2d(en pn:Bool)(hE:E.length<=1000000)(t:Tr)(ht:E=t.flat 0)(hw:∃d,t.wf ps.length d)(hp:∀s∈ps,s.length<=80)(σ:List b9):b8 CC 272 [(.list (E.map Ex.cv) en none),(.list (ps.map scv) pn none)] σ λr τ=>∃d:Int,r= .ret (.tup [sv (t.txt ps 0),iv d])/\τ=σ/\True:=
 D8 (res:=λd:Int=>.ret (.tup [sv (t.txt ps 0),iv d])) (P:=λ_=>True) hCC (λc hc=>by simp at hc;rcases hc with rfl|rfl;exact a3n _ _;exact F2 _ _) (c5v en pn hE t ht hw hp) (λd _=>C5 ⟨.val _,.val _,J⟩) σ
abbrev tSB:Nat:=264
theorem a5g:a44 tSB 2:=by unfold a44;kernel_rfl
def e0Z(T:TypeId)(rest:List CV):List b9:=[.boxT (some T) (.ptr 0 0::.list [] true (some 2)::rest),.dead,.tipT (some tU8) 0]
theorem c81{obs:List b9}:b8 CC 273 [.ptr 0 0] (.boxT (some T) (.ptr 0 0::c::rest)::obs) λr τ=>∃_:Unit,r= .ret (.tup [])/\τ= .boxT (some T) (.ptr 0 0::c::rest)::obs/\True:=by
 refine qO d3I ?_;refine qY (b9A O J O d2m) ?_;refine qC ?_ ?_<;>intro h1
 .cases h1
 .refine qY (b4z O J J O O 264 o9 o9) ?_;refine qC ?_ ?_<;>intro h2
  .cases h2
  .exact ⟨_,rE0,⟨(),O,O,J⟩⟩
theorem d6A(n:Nat)(h1:1<=n)(h2:n<=1000000000):b8 CC 310 [.ptr 0 0,iv n] [.boxT (some T) (.ptr 0 0::.list [] false none::rest),.dead] λr τ=>∃_:Unit,r= .ret (.tup [])/\τ=e0Z T rest/\True:=by
 refine cO Tryz.func310 ?_;refine F6 ?_;refine cF [] [0,1,2,3,4,5,6,7,9,10,11,12,13] (tl:=[(8,[8,9,10,11,12]),(14,[]),(15,[])]) ?_;refine a7n ?_;refine chf O (c8 O b4A) ?_;refine chf O (c8 O b82) ?_;refine chf O (c8 O (c9E O J O a0R)) ?_;refine chf O (c8 O (b7I O O J O O G G)) ?_;refine chf O S8 ?_;refine chf O (c8 O a6A) ?_;refine a7n ?_;refine chf O (c8 O b4A) ?_;refine chf O (c8 O b82) ?_;refine chf O (c8 O a9U) ?_;refine H4 ?_;refine B6 O O O (b6I (t:=159) (e:=5) O Tryz.func332 O O O O o9 J (n_7 (λz:Int=>iv z) (show(2*0+(n:Int))=n by omega)) G ?_);refine⟨⟨D7,a0I,(by exact c8 O b4A),(by exact c8 O b82),(by exact c8 O a9U),J⟩,?_⟩;refine E8 O O (c8 O (b7h O J J O O h1 a0R a2U)) ⟨J,?_⟩;refine b0f ?_;refine b4u ?_;refine cY b4A ?_;refine cY b82 ?_;refine cD (d6C O J J O O a0R a2U ?_);refine p7 ?_;refine a9A ?_;refine cY W2 ?_;refine cY b4A ?_;refine cD (j1 O J J O j2 b62 (.inl O) O O (nb O) ?_);refine p7 ?_;exact⟨_,rE0,⟨(),O,O,J⟩⟩
theorem d5w(hT:a44 T (rest.length+2))(n:Nat)(bd:1<=n)(bZ:n<=1000000000):b8 CC 274 [.ptr 0 0,iv n] (bSt T false [] rest) λr τ=>∃_:Unit,r= .ret (.tup [])/\τ=e0Z T rest/\True:=by
 refine qO Tryz.func274 ?_;refine qD (c4 O c2M ⟨J,J⟩ (b6s hT false []) O ?_);intro _ _;refine qC ?_ ?_<;>intro h1
 .exact absurd (b4J h1) G
 .refine cW 13 ?_;refine a2W ?_;refine b3x ?_;refine hY (c9E O J O a0R) ?_;refine a2W ?_;refine b3x ?_;refine hY a9U ?_;refine hY (a8s O J J O O U U) ?_;refine hY D2 ?_;refine hY a7v ?_;refine a0T ?_;refine qC ?_ ?_<;>intro h2
  .refine qD (c4 O Tryz.call310 i7 (d6A n bd bZ) O ?_);intro _ _;exact⟨_,rE0,⟨(),O,O,J⟩⟩
  .exact absurd (of_decide_eq_false h2) (by show ¬¬(0-0:Int)<n;omega)
theorem a91(s:I)(hs:s≠[])(hl:s.length<=140737488355328):b8 CC 232 [.ptr 0 0,sv s] (e0Z T rest) λr τ=>∃_:Unit,r= .ret (.tup [iv s.length,.val .nilIface])/\τ=[F4 T 0 3 true s rest,.dead,.dead,A8 tU8 s.length]/\True:=by
 refine qO Tryz.func232 ?_;refine qD (c4 O c2M ⟨J,J⟩ (c81) O ?_);intro _ _;refine qD (d4K (new:=s) (p:=2) O J J O (c0B O) a0R a2U b7a a59 O (.inr t_5) O O hs b4g ?_);refine d7u ?_;exact d8k
theorem d4X{a b:Int}(hb:0<b)(h1:0<=a)(h2:a<=9223372036854775807):b3f .quo .i64 a b=some (.int .i64 (a.tdiv b)):=by
 have ax:b≠0:=by omega
 have h0:0<=a.tdiv b:=Int.tdiv_nonneg h1 G;have h3:a.tdiv b<=a:=by rw[c7T h1];exact Int.ediv_le_self b h1
 simp only[b3f,W ax];rw[b0O G G]
theorem d1E{sep:I}{n:Int}(dh:sep.length=2)(h1:0<n)(h2:n<=1000):¬(9223372036854775807:Int).tdiv n<=(sep.length:Int):=by
 rw[dh,c7T H];have:=Int.le_ediv_of_mul_le h1 (show 1000000*n<=9223372036854775807 by omega);omega
theorem List.take_one_eq{l:List α}{x:α}(h:l[0]?=some x):l.take (0+1)=[x]:=by
 cases l with
 |nil=>simp at h
 |cons a l=>simp at h;subst h;rfl
theorem b1j{sep:I}{l:List I}(hs:sep.length=2)(hl:∀s∈l,1<=s.length/\s.length<=1000):∀m,(J0 sep l m).length<=m*1002
 |0=>by simp[J0,L4]
 |m+1=>by
  have ih:=b1j (sep:=sep) (l:=l) hs hl m;cases hg:l[m]? with
  |none=>
   have:l.length<=m:=D hg;have e:J0 sep l (m+1)=J0 sep l m:=by unfold J0;rw[U2 (show l.length<=m+1 by omega),U2 (show l.length<=m by omega)]
   rw[e];exact a1u ih (S7 _ (Nat.le_succ m))
  |some y=>
   have:=(hl y (n_3 hg)).2;rw[a6T hg,n_8,n_8]
   split
   .simp;omega
   .omega
theorem b1i(l:List I)(nn:Bool)(sep:I)(dh:sep.length=2)(hl:l.length<=1000)(da:∀s∈l,1<=s.length/\s.length<=1000)(σ:List b9):b8 CC 233 [(.list (l.map scv) nn none),(sv sep)] σ λr aa=>r= .ret (sv (L4 sep l))/\aa=σ:=by
 refine an_ Tryz.func233 ?_;refine qs 3 (qY P5 ?_);refine qC ?_ ?_<;>intro h1
 .have h0:l=[]:=D h1;refine c6 ?_;exact⟨_,rE1,_,_,O,O,a04 (by rw[h0];rfl)⟩
 .have ez:¬l.length=0:=by simp at h1;simpa using h1
  refine qC ?_ ?_<;>intro h2
  .have h1l:l.length=1:=sm_ h2;obtain⟨e0,he0⟩:∃e0,l=[e0]:=by
    rcases l with _|⟨a,_|⟨b,l⟩⟩
    .simp at h1l
    .exact ⟨a,O⟩
    .simp at h1l
   have g0:l[0]?=some e0:=by rw[he0];rfl
   refine qY (r6 O J O O O t_2 t_0 G (j5 g0) O) ?_;refine c6 ?_;exact⟨_,rE1,_,_,O,O,a04 (by rw[he0];rfl)⟩
  .have h2l:2<=l.length:=by
    have:¬(l.length:Int)=1:=D h2;omega
   refine a07 hCC (α:=Nat) (λn=>[(0,(.list (l.map scv) nn none)),(1,(sv sep)),(5,iv n)]) (λ_=>[]) (λn=>1<=n/\n<=2000) B5 uz_ ?_ ?_
   .
    refine a7d ?_;refine qC ?_ ?_<;>intro h3
    .refine qY S4 ?_;refine qY P5 ?_;refine qY V4 ?_;refine qY (a2I O O J O O (d4X G G G)) ?_;refine qC ?_ ?_<;>intro h4
     .exact absurd (b4J h4) (d1E dh G G)
     .have bA:(sep.length:Int)*((l.length:Int) -1)=2*((l.length:Int) -1):=by rw[dh];rfl
      refine qY S4 ?_;refine qY P5 ?_;refine qY V4 ?_;refine qY (b7I O J J O O (by rw[bA];omega) (by rw[bA];omega)) ?_;refine qY a6A ?_;exact⟨(2*(l.length -1)),_,⟨G,G⟩,⟨B7,B7,⟨J,(n_7 (λz:Int=>iv z) (show(0+(sep.length:Int)*((l.length:Int) -1))=((2*(l.length -1):Nat):Int) by rw[bA];omega))⟩,J⟩,O⟩
    .exact absurd (of_decide_eq_false h3) (by show ¬¬(0:Int)<sep.length;rw[dh];decide)
   .intro n ⟨bd,bZ⟩;refine b4Y ?_;refine o4 hCC (α:=Nat×Nat) (λx=>[(0,(.list (l.map scv) nn none)),(1,(sv sep)),(5,iv x.2),(39,(.list (l.map scv) nn none)),(40,iv l.length),(41,iv x.1)]) (λ_=>[]) (λx=>x.1<=l.length/\1<=x.2/\x.2<=2000+1000*x.1) (λx=>l.length -x.1) (0,n) ⟨n_5 _,bd,G⟩ tu_ (am:=[]) O B5 uz_ ?_;intro⟨i,n'⟩ ⟨hi,hn1',hn2'⟩;dsimp only at hi hn1' hn2'⊢;refine qk (qC ?_ ?_)<;> intro h5
    .have af:i<l.length:=sm_ h5;obtain⟨y,hy⟩:∃y,l[i]?=some y:=⟨l[i]'af,U⟩;have fj:=da y (n_3 hy);refine qY c9n ?_;refine qY S4 ?_;refine qY (a8s O O J O O G G) ?_;refine qC ?_ ?_<;>intro h6
     .exact absurd (b4J h6) G
     .refine qY S4 ?_;refine qY a6A ?_;refine qY o7 ?_;exact⟨(i+1,n'+y.length),_,⟨do_,do_,do_,do_⟩,tu_,O⟩
    .have gN:i=l.length:=sm_ h5;obtain⟨e0,g0⟩:=gx_ l 0;have he0:=da e0 (n_3 g0);refine j8 ?_;refine qD (b7t O Tryz.zeroValue264 O j4 ?_);refine qD (c4 O Tryz.call274 i7 ((a0g (d5w a5g n' hn1' G))) O ?_);intro _ _;refine qY (r6 O J O O O t_2 t_0 G (j5 g0) O) ?_;refine qD (c4 O a2Q i7 (a91 e0 (by intro h;rw[h]at he0;simp at he0) G) O ?_);intro _ _;refine qY (b6A (l:=1) O J O t_2 t_0 d1H ⟨O,_,_,O,G,G⟩ O a1U U) ?_;refine qY P5 ?_;refine A5 hCC 4 O (α:=Nat×Bool) (λx=>[(1,(sv sep)),(8,.ptr 0 0),(63,(.list ((l.drop 1).map scv) nn none)),(64,(iv ((l.length -1:Nat):Int))),(65,iv x.1)]) (λx=>[F4 tSB 0 (kp x.2) true (J0 sep l (x.1+1)) [],.dead,.dead,op1 x.2 (J0 sep l (x.1+1)).length,op2 x.2 (J0 sep l (x.1+1)).length]) (λx=>x.1+1<=l.length) (λx=>l.length -x.1) ⟨(0,false),[0,1,2,3,7],(show 0+1<=l.length by omega),⟨O,O⟩,⟨⟨J,ur_⟩,⟨J,ur_⟩,⟨J,(by first|exact ur_|exact .same (show CV.list (((l.map scv).take (l.map scv).length).drop 1) nn none=_ from by rw[U2 (n_6 _),List.map_drop]) uo_)⟩,⟨J,(by first|exact ur_|exact .same (show(iv ((((l.map scv).take (l.map scv).length).drop 1).length:Int))=_ from by simp) uo_)⟩,⟨J,ur_⟩,J⟩,⟨.inr ⟨_,O,a6S H O (λc hc=>by cases hc) (by rw[J0,List.take_one_eq g0];rfl)⟩,.inl O,.inl O,.inr ⟨_,O,U8 (by rw[J0,List.take_one_eq g0];rfl)⟩,.inl O,J⟩⟩ ?_;intro⟨m,ph⟩ hm;dsimp only at hm⊢;refine qk (qC ?_ ?_)<;> intro h7
     .have af:m+1<l.length:=sm_ h7;obtain⟨y,hy⟩:∃y,l[m+1]?=some y:=⟨l[m+1]'af,U⟩;have fj:=da y (n_3 hy);have iH:(l.drop 1)[m]?=some y:=by rw[a6d,Nat.add_comm];exact hy
      have es:=a6T (sep:=sep) hy;rw[W G]at es;have bS:=b1j (sep:=sep) (l:=l) dh da (m+1);have hjl2:(m+1)*1002<=1000*1002:=S7 _ G;refine qY (r6 O J J O O t_2 t_0 G (j5 iH) O) ?_;refine qD (c4 O a2Q i7 (x9 a5g _ (J0 sep l (m+1)) (λc hc=>by cases hc) sep G (σ:=_) (q:=0) (k:=kp ph) ⟨O,by cases ph<;>rfl,by cases ph<;>exact n_4 O⟩) O ?_);intro _ _;refine qN [F4 tSB 0 5 true (J0 sep l (m+1)++sep) [],.dead,.dead,.dead,.dead,A8 tU8 (J0 sep l (m+1)++sep).length] P9 ?_;refine qD (c4 O a2Q i7 (x9 a5g _ (J0 sep l (m+1)++sep) (λc hc=>by cases hc) y (by rw[O0];omega) (q:=0) (k:=5) ⟨O,O,n_4 O⟩) O ?_);intro _ _;refine qN [F4 tSB 0 6 true (J0 sep l (m+1)++sep++y) [],.dead,.dead,.dead,.dead,.dead,A8 tU8 (J0 sep l (m+1)++sep++y).length] O (qY o7 ?_);exact⟨(m+1,true),[0,1,2,3,6],(show l.length - (m+1)<l.length -m/\m+1+1<=l.length from⟨G,G⟩),⟨O,O⟩,ut_,⟨.inr ⟨_,O,a6S H O (λc hc=>by cases hc) es.symm⟩,.inl O,.inl O,.inl O,.inr ⟨_,O,U8 es.symm⟩,J⟩⟩
     .have bw:m+1=l.length:=sm_ h7;refine j8 ?_;refine qD (c4 O b6M ⟨J,J⟩ (a3j (rest:=[]) (T:=tSB) (λc hc=>by cases hc) true (J0 sep l (m+1)) (q:=0) (k:=kp ph) ⟨O,by cases ph<;>rfl,by cases ph<;>exact n_4 O⟩) O ?_);intro _ _;refine c6 ?_;exact⟨_,rE1,_,_,O,O,a04 (by rw[bw,J0,U2 (n_6 _)])⟩
open Classical in
noncomputable def a0s(d:De):I:=if h:∃t:Tr,d.body=t.flat 0/\t.wf d.params.length 1 then h.choose.txt d.params 0 else []
theorem b61{d:De}(h:DeG d):∃t:Tr,d.body=t.flat 0/\t.wf d.params.length 1/\a0s d=t.txt d.params 0:=by
 refine⟨h.tree.choose,h.tree.choose_spec.1,h.tree.choose_spec.2,?_⟩;unfold a0s;rw[dif_pos h.tree]
theorem b6U{d:De}(h:DeG d):∀s∈d.params,s.length<=80:=λs hs=>by have:=H8 (h.par s hs).1;omega
theorem b37{d:De}(h:DeG d):(a0s d).length<=76800:=by
 obtain⟨t,h1,h2,h3⟩:=b61 h;have:=t.txt_len (b6U h) 1 0 h2;have hb:=h.blen;rw[h1,Tr.flat_len]at hb;rw[h3];omega
def d9V(d:De):Src:=⟨[112],[],[⟨1,[102],d.params,d.body⟩]⟩
theorem d6S{d:De}(h:DeG d):a09 (d9V d) where
 pkg:=by show B9 [112]=true/\S6 [112]=false;decide
 imp:=λs hs=>by cases hs
 impl:=n_5 _
 impn:=List.nodup_nil
 impp:=λh=>by cases h
 dec:=λe he=>by
  simp only[d9V,J2,b0l,or_false]at he;subst he;exact {kind:=.inl O,name:=λ_=>by(show B9 [102]=true/\S6 [102]=false);decide,path:=λhk=>absurd (show(1:Int)=3 from hk) H,pars:=λhk=>absurd O hk,par:=h.par,parl:=h.parl,nod:=h.nod,tree:=h.tree,blen:=h.blen}
 decl:=by show 1<=64;decide
 decn:=by show(List.map _ [_]).Nodup;simp
theorem c64(d:De)(h:DeG d)(σ:List b9):b8 CC 231 [(.list (d.body.map Ex.cv) (gnn d.body.length) none),(.list (d.params.map scv) (gnn d.params.length) none)] σ λr aa=>r= .ret (.tup [sv (a0s d),(iv (0))])/\aa=σ:=by
 refine b8.anyw hCC pu_ pu_ (c7 (qO Tryz.func231 ?_)) σ;refine qY (A1 #[(0,1),(1,1),(2,1),(3,1)] O ⟨O,O,J,J,J⟩ b5M b2k O ⟨_,O⟩ (λw=>by kernel_rfl) O O) ?_;refine qY (A9 ([(⟨1,[102],d.params,d.body⟩:De)].map De.cv) O ⟨J,J⟩ a7D a30 b2k O O O O O O O O O) ?_;refine qY (A1 #[(0,1),(1,1),(2,1)] O ⟨O,J,J⟩ a6l a4C O ⟨_,O⟩ (λw=>by kernel_rfl) O O) ?_;refine qY (c5 O Tryz.call230 ⟨J,J⟩ (b1r (d9V d) (d6S h) _) O) ?_;refine qC ?_ ?_<;>intro h1
 .cases h1
 .obtain ⟨t,iL,iM,ht3⟩:=b61 h;refine qD (c4 O Tryz.call272 i7 (d2d (gnn d.body.length) (gnn d.params.length) (by have:=h.blen;omega) t iL ⟨1,iM⟩ (b6U h) _) O ?_);rintro dd _;dsimp only;rw[<- ht3];refine c6 ?_;exact⟨_,r8 (rs:=[.tmp 4,.tmp 5]) (cs:=[_,_]) O a0d (n_4 O),_,_,O,O,(.old (C5 (cs:=[sv (a0s d),iv 0]) ⟨.val _,.val _,J⟩).old)⟩
def V7(l:List I):I:=(l.map λs=>[105,109,112,111,114,116,32]++s++[59,10]).flatten
theorem b44{l:List I}{s:I}(h:l[m]?=some s):V7 (l.take (m+1))=V7 (l.take m)++([105,109,112,111,114,116,32]++s++[59,10]):=by
 unfold V7;rw[Z2,h];simp
def b47(d:De):I:=if d.k=1 then [102,117,110,99,32]++d.name++[40]++L4 [44,32] d.params++[41,32,61,32]else if d.k=2 then [116,101,115,116,32]++d.name++[32,61,32]else [103,101,110,32,34]++d.name++[34,32,61,32]
noncomputable def a6o(x:Src)(d:De):I:=([112,97,99,107,97,103,101,32]++x.pkg++[59,10])++V7 x.imports++b47 d++(a0s d++[59,10])
theorem b1F{l:List I}(h:∀s∈l,s.length<=80):∀m,(V7 (l.take m)).length<=100*m
 |0=>by simp[V7]
 |m+1=>by
  have ih:=b1F h m;cases hg:l[m]? with
  |none=>
   have:l.length<=m:=D hg;rw[U2 (show l.length<=m+1 by omega)];rw[U2 this]at ih;omega
  |some y=>
   have:=h y (n_3 hg);rw[b44 hg];simp only[n_8,D3,K8];omega
theorem c3v{l:List I}(h:∀s∈l,s.length<=k):b0m l<=k*l.length:=by
 induction l with
 |nil=>simp[b0m]
 |cons x l ih=>
  have h1:=h x U;have h2:=ih λs hs=>h s (by simp[hs]);simp only[b0m,a8C,List.sum_cons,D3,Nat.mul_add]at h2⊢;omega
theorem De.name_len{d:De}(h:DeG d):d.name.length<=80:=by
 by_cases h3:d.k=3
 .exact a1K (h.path h3)
 .have:=H8 (h.name h3).1;omega
def kpn(a:Nat)(ph:Bool):Nat:=match ph with|false=>a|true=>a+1
theorem c3a{q s':Nat}(hL:q<L)(hs:ak[s']?=some s)(hr:∀c∈rest,p9 c)(he:l=l'):b11 L ak (F4 T q s a l rest) (F4 T q s' a l' rest):=by
 subst he;refine .box ⟨?_,.list (λr hr c hc=>(a1T l r hr c hc).old) (λj hj=>?_),?_⟩
 .cases a
  .exact .old (.val _)
  .exact .old (.ptr hL)
 .cases hb:l.length with
  |zero=>rw[hb]at hj;cases hj
  |succ m=>rw[hb]at hj;injection hj with hj;subst hj;exact⟨s,O,hs⟩
 .have:∀l:List CV,(∀c∈l,p9 c)->b6z L l:=λl=>by
   induction l with
   |nil=>intro _;trivial
   |cons x l ih=>intro h;exact⟨(h x U).old,ih λc hc=>h c (by simp[hc])⟩
  exact a72 (this rest hr)
theorem c6H{s:I}(h:B9 s=true):1<=s.length:=by
 cases s with
 |nil=>simp[B9]at h
 |cons a l=>simp
theorem c7i(x:Src)(h:a09 x)(i:Nat)(d:De)(hx:x.decls[i]?=some d)(hd:DeG d)(hi:i<x.decls.length)(σ:List b9):b8 CC 181 [.agg x.cells,iv i] σ λr aa=>r= .ret (.tup [sv (a6o x d),(iv (0))])/\aa=σ:=by
 refine b8.anyw hCC pu_ pu_ (c7 (qO Tryz.func181 ?_)) σ;refine qD (H3 O J j2 j4 ?_);refine qY (c5 O Tryz.call230 ⟨J,J⟩ (b1r x h _) O) ?_;refine qC ?_ ?_<;>intro h1
 .cases h1
 .refine qG C9 ?_;refine qG (λhg=>j3 O J O a6l O c6k H) ?_;refine qG (λhg=>j9 O hg O b7F O O) ?_;refine qG (λhg=>X5 O hg O a7D a49 O) ?_;refine qG a9q ?_;refine qY U4 ?_;refine qC ?_ ?_<;>intro h2
  .exact absurd h2 H6
  .have dT:=De.name_len hd;have dw:=b37 hd;have du:=H8 h.pkg.1;have himl:=h.impl;have him8:∀s∈x.imports,s.length<=80:=λs hs=>by have:=H8 (h.imp s hs).1;omega
   have bS:=a5L [44,32] d.params;have dV:=c3v (b6U hd);have hprl:=hd.parl;have e2:([44,32]:I).length=2:=O;rw[e2]at bS;refine qY (r6 O J J O O a7D a30 G (j5 hx) O) ?_;refine c1n ?_;refine qY (c5 O Tryz.call231 i7 (c64 d hd _) O) ?_;refine qC ?_ ?_<;>intro h3
   .cases h3
   .refine qD (b7t O Tryz.zeroValue264 O j4 ?_);refine qY b8W ?_;refine qY b4G ?_;refine qD (c4 O a2Q i7 ((a0g (x9 a5g false [] (λc hc=>by cases hc) ([112,97,99,107,97,103,101,32]++x.pkg++[59,10]) a7i (q:=2) (k:=3) ⟨O,O,n_4 O⟩))) O ?_);intro _ _;refine qN [.box x.cells,.box d.cells,F4 tSB 2 4 true (([112,97,99,107,97,103,101,32]++x.pkg++[59,10])) [],.dead,A8 tU8 (([112,97,99,107,97,103,101,32]++x.pkg++[59,10])).length] O (qY P5 ?_);refine A5 hCC 5 O (α:=Nat×Bool) (λx'=>[(7,.ptr 1 0),(8,(sv (a0s d))),(10,.ptr 2 0),(49,(.list (x.imports.map scv) (gnn x.imports.length) none)),(50,iv x.imports.length),(51,iv x'.1)]) (λx'=>[.box x.cells,.box d.cells,F4 tSB 2 (kpn 4 x'.2) true (([112,97,99,107,97,103,101,32]++x.pkg++[59,10])++V7 (x.imports.take x'.1)) [],.dead,op1 x'.2 (([112,97,99,107,97,103,101,32]++x.pkg++[59,10])++V7 (x.imports.take x'.1)).length,op2 x'.2 (([112,97,99,107,97,103,101,32]++x.pkg++[59,10])++V7 (x.imports.take x'.1)).length]) (λx'=>x'.1<=x.imports.length) (λx'=>x.imports.length -x'.1) ⟨(0,false),[0,1,2,3,4,9],(n_5 _),⟨O,O⟩,ut_,⟨.inr ⟨_,O,.same O (Src.old x _)⟩,.inr ⟨_,O,.same O (De.old d _)⟩,.inr ⟨_,O,c3a H O (λc hc=>by cases hc) (Z7 _).symm⟩,.inl O,.inr ⟨_,O,U8 (Z7 _).symm⟩,.inl O,J⟩⟩ ?_;intro⟨m,ph⟩ hm;dsimp only at hm⊢;have bo:=b1F him8 m;refine qk ?_;refine cC ?_ ?_<;>intro h4
    .have af:m<x.imports.length:=sm_ h4;obtain⟨y,hy⟩:∃y,x.imports[m]?=some y:=⟨x.imports[m]'af,U⟩;have fj:=him8 y (n_3 hy);have es:=b44 hy;have ej:([112,97,99,107,97,103,101,32]++x.pkg++[59,10])++V7 (x.imports.take m)++([105,109,112,111,114,116,32]++y++[59,10])=([112,97,99,107,97,103,101,32]++x.pkg++[59,10])++V7 (x.imports.take (m+1)):=by rw[es];simp only[H5]
     refine qk (qY c9n ?_);refine qY b8W ?_;refine qY b4G ?_;refine qD (c4 O a2Q i7 (x9 a5g _ (([112,97,99,107,97,103,101,32]++x.pkg++[59,10])++V7 (x.imports.take m)) (λc hc=>by cases hc) ([105,109,112,111,114,116,32]++y++[59,10]) a7i (q:=2) (k:=kpn 4 ph) ⟨O,by cases ph<;>rfl,by cases ph<;>exact n_4 O⟩) O ?_);intro _ _;refine qN [.box x.cells,.box d.cells,F4 tSB 2 6 true (([112,97,99,107,97,103,101,32]++x.pkg++[59,10])++V7 (x.imports.take m)++([105,109,112,111,114,116,32]++y++[59,10])) [],.dead,.dead,.dead,A8 tU8 (([112,97,99,107,97,103,101,32]++x.pkg++[59,10])++V7 (x.imports.take m)++([105,109,112,111,114,116,32]++y++[59,10])).length] P9 ?_;refine qY o7 ?_;exact⟨(m+1,true),[0,1,2,3,4,6],(show x.imports.length - (m+1)<x.imports.length -m/\m+1<=x.imports.length from⟨G,G⟩),⟨O,O⟩,ut_,⟨.inr ⟨_,O,.same O (Src.old x _)⟩,.inr ⟨_,O,.same O (De.old d _)⟩,.inr ⟨_,O,c3a H O (λc hc=>by cases hc) ej⟩,.inl O,.inl O,.inr ⟨_,O,U8 ej⟩,J⟩⟩
    .have bw:m=x.imports.length:=sm_ h4;rw[bw]at bo;have etk:x.imports.take m=x.imports:=by rw[bw];exact U2 (n_6 _)
     rw[etk];rw[<- bw,etk]at bo;refine j8 ?_;refine qC ?_ ?_<;>intro h5
     .have u5:d.k=1:=D h5;refine cW 9 ?_;refine hY b4Q ?_;refine hY M6 ?_;refine hY b8W ?_;refine hY b4G ?_;refine hY b3V ?_;refine hY b36 ?_;refine hY (c5 O Tryz.call233 o3 (b1i d.params _ [44,32] O G (λs hs=>⟨c6H (hd.par s hs).1,by have:=b6U hd s hs;omega⟩) _) O) ?_;refine hY (L3 O J J O O a7i) ?_;refine hY b4G ?_;refine a0T ?_;refine qD (c4 O a2Q i7 (x9 a5g _ (([112,97,99,107,97,103,101,32]++x.pkg++[59,10])++V7 x.imports) (λc hc=>by cases hc) ([102,117,110,99,32]++d.name++[40]++L4 [44,32] d.params++[41,32,61,32]) a7i (q:=2) (k:=kpn 4 ph) ⟨O,by cases ph<;>rfl,by cases ph<;>exact n_4 O⟩) O ?_);intro _ _;refine qN [.box x.cells,.box d.cells,F4 tSB 2 6 true (([112,97,99,107,97,103,101,32]++x.pkg++[59,10])++V7 x.imports++([102,117,110,99,32]++d.name++[40]++L4 [44,32] d.params++[41,32,61,32])) [],.dead,.dead,.dead,A8 tU8 (([112,97,99,107,97,103,101,32]++x.pkg++[59,10])++V7 x.imports++([102,117,110,99,32]++d.name++[40]++L4 [44,32] d.params++[41,32,61,32])).length] P9 ?_;refine qY d0s ?_;refine qD (c4 O a2Q i7 (x9 a5g _ (([112,97,99,107,97,103,101,32]++x.pkg++[59,10])++V7 x.imports++([102,117,110,99,32]++d.name++[40]++L4 [44,32] d.params++[41,32,61,32])) (λc hc=>by cases hc) (a0s d++[59,10]) a7i (q:=2) (k:=6) ⟨O,O,n_4 O⟩) O ?_);intro _ _;refine qN [.box x.cells,.box d.cells,F4 tSB 2 7 true (([112,97,99,107,97,103,101,32]++x.pkg++[59,10])++V7 x.imports++([102,117,110,99,32]++d.name++[40]++L4 [44,32] d.params++[41,32,61,32])++(a0s d++[59,10])) [],.dead,.dead,.dead,.dead,A8 tU8 (([112,97,99,107,97,103,101,32]++x.pkg++[59,10])++V7 x.imports++([102,117,110,99,32]++d.name++[40]++L4 [44,32] d.params++[41,32,61,32])++(a0s d++[59,10])).length] O (qD (c4 O b6M ⟨J,J⟩ (a3j (rest:=[]) (T:=tSB) (λc hc=>by cases hc) true (([112,97,99,107,97,103,101,32]++x.pkg++[59,10])++V7 x.imports++([102,117,110,99,32]++d.name++[40]++L4 [44,32] d.params++[41,32,61,32])++(a0s d++[59,10])) (q:=2) (k:=7) ⟨O,O,n_4 O⟩) O ?_));intro _ _;refine c6 ?_;exact⟨_,r8 (rs:=[.tmp 4,.tmp 5]) (cs:=[_,_]) O a0d (n_4 O),_,_,O,O,(by rw[a6o];rw[b47,Q u5];exact .old (C5 (cs:=[sv _,iv 0]) ⟨.val _,.val _,J⟩).old)⟩
     .have u5:¬d.k=1:=D h5;refine qC ?_ ?_<;>intro h6
      .have u6:d.k=2:=D h6;refine qY b8W ?_;refine qY b4G ?_;refine qD (c4 O a2Q i7 (x9 a5g _ (([112,97,99,107,97,103,101,32]++x.pkg++[59,10])++V7 x.imports) (λc hc=>by cases hc) ([116,101,115,116,32]++d.name++[32,61,32]) a7i (q:=2) (k:=kpn 4 ph) ⟨O,by cases ph<;>rfl,by cases ph<;>exact n_4 O⟩) O ?_);intro _ _;refine qN [.box x.cells,.box d.cells,F4 tSB 2 6 true (([112,97,99,107,97,103,101,32]++x.pkg++[59,10])++V7 x.imports++([116,101,115,116,32]++d.name++[32,61,32])) [],.dead,.dead,.dead,A8 tU8 (([112,97,99,107,97,103,101,32]++x.pkg++[59,10])++V7 x.imports++([116,101,115,116,32]++d.name++[32,61,32])).length] P9 ?_;refine qY d0s ?_;refine qD (c4 O a2Q i7 (x9 a5g _ (([112,97,99,107,97,103,101,32]++x.pkg++[59,10])++V7 x.imports++([116,101,115,116,32]++d.name++[32,61,32])) (λc hc=>by cases hc) (a0s d++[59,10]) a7i (q:=2) (k:=6) ⟨O,O,n_4 O⟩) O ?_);intro _ _;refine qN [.box x.cells,.box d.cells,F4 tSB 2 7 true (([112,97,99,107,97,103,101,32]++x.pkg++[59,10])++V7 x.imports++([116,101,115,116,32]++d.name++[32,61,32])++(a0s d++[59,10])) [],.dead,.dead,.dead,.dead,A8 tU8 (([112,97,99,107,97,103,101,32]++x.pkg++[59,10])++V7 x.imports++([116,101,115,116,32]++d.name++[32,61,32])++(a0s d++[59,10])).length] O (qD (c4 O b6M ⟨J,J⟩ (a3j (rest:=[]) (T:=tSB) (λc hc=>by cases hc) true (([112,97,99,107,97,103,101,32]++x.pkg++[59,10])++V7 x.imports++([116,101,115,116,32]++d.name++[32,61,32])++(a0s d++[59,10])) (q:=2) (k:=7) ⟨O,O,n_4 O⟩) O ?_));intro _ _;refine c6 ?_;exact⟨_,r8 (rs:=[.tmp 4,.tmp 5]) (cs:=[_,_]) O a0d (n_4 O),_,_,O,O,(by rw[a6o];rw[b47,W u5,Q u6];exact .old (C5 (cs:=[sv _,iv 0]) ⟨.val _,.val _,J⟩).old)⟩
      .have u6:¬d.k=2:=D h6;refine qY b8W ?_;refine qY b4G ?_;refine qD (c4 O a2Q i7 (x9 a5g _ (([112,97,99,107,97,103,101,32]++x.pkg++[59,10])++V7 x.imports) (λc hc=>by cases hc) ([103,101,110,32,34]++d.name++[34,32,61,32]) a7i (q:=2) (k:=kpn 4 ph) ⟨O,by cases ph<;>rfl,by cases ph<;>exact n_4 O⟩) O ?_);intro _ _;refine qN [.box x.cells,.box d.cells,F4 tSB 2 6 true (([112,97,99,107,97,103,101,32]++x.pkg++[59,10])++V7 x.imports++([103,101,110,32,34]++d.name++[34,32,61,32])) [],.dead,.dead,.dead,A8 tU8 (([112,97,99,107,97,103,101,32]++x.pkg++[59,10])++V7 x.imports++([103,101,110,32,34]++d.name++[34,32,61,32])).length] P9 ?_;refine qY d0s ?_;refine qD (c4 O a2Q i7 (x9 a5g _ (([112,97,99,107,97,103,101,32]++x.pkg++[59,10])++V7 x.imports++([103,101,110,32,34]++d.name++[34,32,61,32])) (λc hc=>by cases hc) (a0s d++[59,10]) a7i (q:=2) (k:=6) ⟨O,O,n_4 O⟩) O ?_);intro _ _;refine qN [.box x.cells,.box d.cells,F4 tSB 2 7 true (([112,97,99,107,97,103,101,32]++x.pkg++[59,10])++V7 x.imports++([103,101,110,32,34]++d.name++[34,32,61,32])++(a0s d++[59,10])) [],.dead,.dead,.dead,.dead,A8 tU8 (([112,97,99,107,97,103,101,32]++x.pkg++[59,10])++V7 x.imports++([103,101,110,32,34]++d.name++[34,32,61,32])++(a0s d++[59,10])).length] O (qD (c4 O b6M ⟨J,J⟩ (a3j (rest:=[]) (T:=tSB) (λc hc=>by cases hc) true (([112,97,99,107,97,103,101,32]++x.pkg++[59,10])++V7 x.imports++([103,101,110,32,34]++d.name++[34,32,61,32])++(a0s d++[59,10])) (q:=2) (k:=7) ⟨O,O,n_4 O⟩) O ?_));intro _ _;refine c6 ?_;exact⟨_,r8 (rs:=[.tmp 4,.tmp 5]) (cs:=[_,_]) O a0d (n_4 O),_,_,O,O,(by rw[a6o];rw[b47,W u5,W u6];exact .old (C5 (cs:=[sv _,iv 0]) ⟨.val _,.val _,J⟩).old)⟩
def a3y(n:Nat):I:=if h:n<128 then [UInt8.ofNat n]else UInt8.ofNat (n%128+128)::a3y (n / 128)
termination_by n
decreasing_by omega
theorem a5T(n:Nat):a3y n=if n<128 then [UInt8.ofNat n]else UInt8.ofNat (n%128+128)::a3y (n / 128):=by
 rw[a3y]
 split<;>rfl
theorem b1D(h:n<128^(k+1)):(a3y n).length<=k+1:=by
 induction k generalizing n with
 |zero=>rw[a5T,Q (D h)];exact n_6 _
 |succ k ih=>
  rw[a5T]
  split
  .simp
  .have:=ih (n:=n / 128) (by rw[Nat.pow_succ]at h;exact Nat.div_lt_of_lt_mul (by rw[b3E];exact h));simp;omega
def a17(l s:I):I:=l++a3y s.length++s
theorem d9D:∀x:Fin 256,(x.val |||128)=x.val%128+128:=by decide
theorem e2X:(n%256) |||128=n%128+128:=by
 have h:∀x:Fin 256,(x.val |||128)=x.val%128+128:=d9D;have:=h ⟨n%256,a6i _ H⟩;simp only at this;omega
theorem d7i(h:n<256):((UInt8.ofNat n).toNat:Int)=(n:Int):=by
 rw[UInt8.toNat_ofNat',b3B (D h)]
theorem e1t(n:Nat):IntKind.u8.wrap (n:Int)=((n%256:Nat):Int):=by
 simp[IntKind.wrap,IntKind.signed,IntKind.bits]
theorem c0m{C:Ctx}{E:Env}{y:Operand}{b:UInt8}{nn:Bool}{tok:Option Nat}(ey:E.val C y= .list [bcv b] nn tok):∀M w v,Rel C M σ w->RV M w (E.val C y) v->c01 C w M ([b].map bcv) 1 v:=λM w v hr h=>(a43 ey (by intro r hr;simp at hr;subst hr;rfl) M w v hr h).any
theorem d4x{p:Nat}(hs:ak[p]?=some k):C3 L ak (a2O l k) (a2O l p):=by
 refine .list (λr hr c hc=>(a1T l r hr c hc).old) (λj hj=>?_);cases hb:l.length with
 |zero=>rw[hb]at hj;cases hj
 |succ m=>rw[hb]at hj;injection hj with hj;subst hj;exact⟨k,O,hs⟩
theorem d4A(m:Nat):CV.list [[CV.val (.int .u8 ((m%256 |||128:Nat):Int))]] true none= .list [bcv (UInt8.ofNat (m%128+128))] true none:=by
 rw[e2X,bcv,d7i G]
theorem d2Q(h:m<128):CV.list [[CV.val (.int .u8 (m:Int))]] true none= .list [bcv (UInt8.ofNat m)] true none:=by
 rw[bcv,d7i G]
def b3a(k:Nat)(g:b9):List b9:=List.replicate k .dead++[g]
theorem b7D(k:Nat)(g:b9):(b3a k g).length=k+1:=by simp[b3a]
theorem b2o(k:Nat)(g:b9):(b3a k g)[k]?=some g:=by
 rw[b3a,a1c U];simp
theorem b8k(k:Nat)(g g':b9):(b3a k g).set k .dead++[g']=b3a (k+1) g':=by
 unfold b3a
 congr 1
 rw[List.replicate_succ']
 induction k with
 |zero=>rfl
 |succ k ih=>rw[List.replicate_succ,b13,List.set_cons_succ,ih];rfl
theorem d0e{g:b9}:F0 1 ((b3a k g).set k .dead++[A8 tU8 l.length]) (.ret (a2O l (b3a k g).length)) (.ret (a2O l 1)) [.dead,A8 tU8 l.length]:=by
 rw[b8k,b7D];refine⟨[0,k+1],O,by simp[a0o],.ret (d4x O),.inl O,.inr ⟨_,b2o _ _,U8 O⟩,J⟩
theorem b88(l:I)(nn:Bool)(n:Nat)(hl:l.length<=100000000000000)(hn:n<18446744073709551616):b8 CC 236 [(.list (l.map bcv) nn none),.val (.int .u64 (n:Int))] [.dead] λr τ=>F0 1 τ r (.ret (a2O (l++a3y n) 1)) [.dead,A8 tU8 (l++a3y n).length]:=by
 refine qO Tryz.func236 ?_;refine qD (a8L (l:=[]) (new:=l) (p:=0) O O J O (λM w v hr h=>(a43 O (by intro r hr;obtain⟨b,_,rfl⟩:=D6.1 hr;rfl) M w v hr h).any) a0R a2U b7a a59 O (.inl a0R) O O b4g ?_);refine J8 (α:=I×Nat×Nat) (λx=>[(1,(.val (.int .u64 (x.2.1:Int)))),(5,(a2O x.1 x.2.2))]) (λx=>b3a x.2.2 (A8 tU8 x.1.length)) (λx=>l++a3y n=x.1++a3y x.2.1/\x.2.1<=n) (λx=>x.2.1) (l,n,1) ⟨O,n_6 _⟩ tu_ O ?_;intro⟨b,m,k⟩ _ ⟨hb,hmn⟩;dsimp only at hb hmn⊢;have aj:b.length<=l.length+10:=by
  have h1:=n_7 List.length hb;have h2:=b1D (n:=n) (k:=9) G;simp only[n_8]at h1;omega
 refine qk (qC ?_ ?_)<;> intro h1
 .have h128:¬m<128:=by have:=b4J h1;omega
  rw[a5T m,W h128]at hb;refine qY (b1c O J O d3k b6r (e1t m)) ?_;refine qY (e18 (a:=(m%256)) (b:=128) O J O O O (a6i _ H) H) ?_;refine qY (A9 [[.val (.int .u8 ((m%256 |||128:Nat):Int))]] O ⟨J,J⟩ a0R a2U a59 O O O O O O O O O) ?_;refine qD (a8L (l:=b) (new:=[UInt8.ofNat (m%128+128)]) (p:=k) O J J O (c0m (d4A m)) a0R a2U b7a a59 O (.inl a0R) O (b2o _ _) b4g ?_);refine qY (e0I (m:=7) O J O O O H (show(m:Int) / 2^7=((m / 128:Nat):Int) by omega)) ?_;exact⟨(b++[UInt8.ofNat (m%128+128)],m / 128,k+1),(show m / 128<m by omega),(show l++a3y n=(b++[UInt8.ofNat (m%128+128)])++a3y (m / 128)/\m / 128<=n from⟨by rw[hb];simp,G⟩),⟨B7,⟨J,(n_7 (a2O _) (b7D k _))⟩,J⟩,(b8k _ _ _)⟩
 .have h128:m<128:=by have:=of_decide_eq_false h1;omega
  rw[a5T m,Q h128]at hb;refine j8 ?_;refine qY (b1c O J O d3k b6r ((e1t m).trans (by rw[b3B G]))) ?_;refine qY (A9 [[.val (.int .u8 (m:Int))]] O ⟨J,J⟩ a0R a2U a59 O O O O O O O O O) ?_;refine qD (a8L (l:=b) (new:=[UInt8.ofNat m]) (p:=k) O J J O (c0m (d2Q h128)) a0R a2U b7a a59 O (.inl a0R) O (b2o _ _) b4g ?_);refine c6 ?_;exact⟨_,rE1,(by rw[hb];exact d0e)⟩
theorem e2D(h:n<18446744073709551616):IntKind.u64.wrap (n:Int)=(n:Int):=by
 simp[IntKind.wrap,IntKind.signed,IntKind.bits];omega
theorem c14(l:I)(nn:Bool)(n:Nat)(hl:l.length<=100000000000000)(hn:n<18446744073709551616)(σ:List b9):b8 CC 236 [(.list (l.map bcv) nn none),.val (.int .u64 (n:Int))] σ λr τ=>∃_:Unit,r= .ret (a2O (l++a3y n) (σ.length+1))/\τ=σ++[.dead,A8 tU8 (l++a3y n).length]/\True:=
 a6U (α:=Unit) hCC (λa ha=>by simp at ha;rcases ha with rfl|rfl;exact a7h _ _;exact .val _) (res:=λ_=>.ret (a2O (l++a3y n) 1)) (res':=λ_ m=>.ret (a2O (l++a3y n) (m+1))) (S:=λ_=>[.dead,A8 tU8 (l++a3y n).length]) (S':=λ_ _=>[.dead,A8 tU8 (l++a3y n).length]) (P:=λ_=>True)
  (a0g (K2 hCC ((b88 l nn n hl hn).mono λr τ h=>⟨_,_,h,(),O,O,J⟩))) (λ_ _=>O) (λ_ m i x h=>by
   rcases i with _|_|i
   .injection h with h;subst h;exact⟨_,O,.dead⟩
   .injection h with h;subst h;exact⟨_,O,a5U _ _⟩
   .cases h) (λ_ m=>.ret (b8E O)) σ
theorem c5Q{τ:List b9}(h:l=l'):Cls n τ (a2O l k) (.list (l'.map bcv) (gnn l'.length) none):=by
 subst h;refine .list O (λi r r' h h'=>by rw[h]at h';injection h' with h';rw[h']) (λi j r r' c c' h h' g g'=>?_);rw[h]at h';injection h' with h';subst h'
 rw[g]at g';injection g' with g';subst g'
 exact .old (a1T l r (n_3 h) c (n_3 g)).old
theorem a1E(l:I)(nn:Bool)(s:I)(hl:l.length<=100000000000)(hs:s.length<=100000000000)(σ:List b9):b8 CC 184 [(.list (l.map bcv) nn none),(sv s)] σ λr aa=>r= .ret (.list ((a17 l s).map bcv) (gnn (a17 l s).length) none)/\aa=σ:=by
 refine b8.anyw hCC pu_ pu_ (c7 (qO Tryz.func184 ?_)) σ;refine qY S4 ?_;refine qY (b1c O J O c3L d3k (e2D G)) ?_;refine qD (c4 O Tryz.call236 i7 (c14 l nn s.length G G _) O ?_);have hpu:=b1D (n:=s.length) (k:=9) G;intro _ _;refine qD (a8L (l:=(l++a3y s.length)) (new:=s) (p:=1) O J J O (c0B O) a0R a2U b7a a59 O (.inr t_5) O O (by simp only[n_8];omega) ?_);refine c6 ?_;exact⟨_,rE1,_,_,O,O,(by exact c5Q (l:=l++a3y s.length++s) (k:=2) O)⟩
theorem a5O{fl:List Fi}{nn:Bool}{br:List I}{ms:SM}{me:EM}(ao:WAt σ w q1 q2 t fl nn va br ms me)(k:Int)(p o:I):b8 CC 82 [.ptr w 0,iv k,(sv p),(sv o)] σ λr τ=>r= .ret (.agg (B3 va me k p o).cells)/\τ=σ:=
 b3y (λa h=>by simp at h;rcases h with rfl|rfl|rfl<;>exact .val _) (En.pure _) (c8u fl nn va br ms me k p o) ao
theorem c4k{fl:List Fi}{nn:Bool}{br:List I}{ms:SM}{me:EM}(ao:WAt σ w q1 q2 t fl nn va br ms me)(s:I)(bK:fl.length<=1000000):b8 CC 129 [.ptr w 0,(sv s)] σ λr τ=>r= .ret (.tup [sv ((E9 fl s).getD []),.val (.bool (E9 fl s).isSome)])/\τ=σ:=
 b3y (λa h=>by simp at h;subst h;exact .val _) (C5 (cs:=[sv _,.val _]) ⟨.val _,.val _,J⟩) (c8F fl nn va br ms me s bK) ao
def C1(ms:SM)(fl:List Fi)(pkg:I):List Fi:=fl.filter λf=>(glk ms f.p).isSome &&decide (((glk ms f.p).getD Src.z).pkg=pkg)
theorem b8l{ms:SM}{fl:List Fi}{y:Fi}(h:fl[i]?=some y)(pkg:I):C1 ms (fl.drop i) pkg=(if((glk ms y.p).isSome &&decide (((glk ms y.p).getD Src.z).pkg=pkg))=true then [y]else [])++C1 ms (fl.drop (i+1)) pkg:=by
 obtain⟨af,rfl⟩:=n_2.1 h;rw[Y0 af];unfold C1;rw[b2n]
 split<;>rfl
theorem c53(fl:List Fi)(nn va:Bool)(br:List I)(ms:SM)(me:EM)(pkg:I)(bK:fl.length<=1000000):b8 CC 183 [.ptr 0 0,(sv pkg)] (wst fl nn va br ms me) λr τ=>F0 4 τ r (.ret (.list ((C1 ms fl pkg).map Fi.cv) (gnn (C1 ms fl pkg).length) none)) (wst fl nn va br ms me):=by
 refine cO Tryz.func183 ?_;refine a5n ?_;refine a9o ?_;refine cY W2 ?_;refine cY (j3 O J O c0O O b20 H) ?_;refine cY (j3 O J O d2h O b74 H) ?_;refine cY (j9 O J O Tryz.isAgg23 O O) ?_;refine cY a08 ?_;refine a2S ?_;refine A5 hCC 4 O (α:=Nat×List Fi) (λx=>[(0,.ptr 0 0),(1,(sv pkg)),(5,(.list (x.2.map Fi.cv) (gnn x.2.length) (F1 x.2.length 4))),(14,(.list (fl.map Fi.cv) nn none)),(15,iv fl.length),(16,iv x.1)]) (λx=>[wbx fl nn va br 1 2 3,smO ms,emO me,m0 br.length,m0 x.2.length]) (λx=>x.1<=fl.length/\x.2.length<=x.1/\C1 ms fl pkg=x.2++C1 ms (fl.drop x.1) pkg) (λx=>fl.length -x.1) ⟨(0,[]),[0,1,2,3,9],⟨n_5 _,n_6 _,O⟩,⟨O,O⟩,ut_,uq_⟩ ?_;intro⟨i,out⟩ ⟨hi,jc,hr⟩;dsimp only at hi jc hr⊢;refine a2P ?_;refine cC ?_ ?_<;>intro h1
 .have af:(i:Int)<fl.length:=D h1;obtain⟨y,hb⟩:=gx_ fl i;rw[b8l hb]at hr;refine a5p ?_;refine cY d8r ?_;refine cY (U5 O J O Tryz.isAgg73 a41 (nb O)) ?_;refine cD (o6 O a68 O j4 ?_);refine cD (j1 O J J O j2 a41 j4 O O (nb O) ?_);refine a56 ?_;refine cF [] [0,1,2,3,4,5,6,7,8,9] (tl:=[(10,[0,1,2,3,4,5,6,7,8,9]),(11,[9]),(12,[])]) ?_;refine a7n ?_;refine chf O (c8 O b2F) ?_;refine chf O (c8 O b1t) ?_;refine b4E ?_;refine chf O (c8 O e2L) ?_;refine chf O S8 ?_;refine chf O a8w ?_;refine chf O a8w ?_;refine H4 ?_;refine B6 O O O (o6 O a4C O j4 ?_);refine⟨⟨D7,a0I,(by exact c8 O b2F),(by exact c8 O b1t),a6E,a4q,(by exact c8 O e2L),D7,a2G,a2G,J⟩,?_⟩;refine B6 O O O (j1 O J J O j2 a35 j4 O O (nb O) ?_);refine⟨⟨a2G,J⟩,?_⟩;refine b0f ?_;refine a1Y ?_;refine cG d3K ?_;refine cG a0J ?_;refine cG C9 ?_;refine cG b2c ?_;refine b0T ?_;refine cC ?_ ?_<;>intro h2
  .rw [Q (D h2)]at hr;refine z_9 ?_;refine cY (I8 O J O Tryz.isAgg73 a41 O (nb O)) ?_;refine cY d5p ?_;refine cD (C8 O J J O U q_3 a8S a41 c5w a68 O (.inr O) q_7 c7J G6 ((out++[y]).map Fi.cv) (out++[y]).length U U ?_);refine z_1 ?_;refine a8F ?_;exact⟨(i+1,out++[y]),[0,1,2,3,7],⟨do_,do_,by dsimp only;simp;omega,by dsimp only;rw[hr,H5]⟩,⟨O,O⟩,ut_,uq_⟩
  .rw [W (D h2),a7j]at hr;refine a9h ?_;exact⟨(i+1,out),[0,1,2,3,4],⟨do_,do_,do_,hr⟩,⟨O,O⟩,ut_,uq_⟩
 .have aH:fl.length<=i:=sm_ h1;rw[Y4 aH]at hr;replace hr:C1 ms fl pkg=out:=by rw[hr];exact Z7 _
  refine b34 ?_;exact⟨_,rE1,(by rw[hr];exact a3q O (a0z (f:=Fi.cv) (λa=>⟨.val _,.val _,J⟩) _))⟩
theorem b8F{fl:List Fi}{nn:Bool}{br:List I}{ms:SM}{me:EM}(ao:WAt σ w q1 q2 t fl nn va br ms me)(pkg:I)(bK:fl.length<=1000000):b8 CC 183 [.ptr w 0,(sv pkg)] σ λr τ=>r= .ret (.list ((C1 ms fl pkg).map Fi.cv) (gnn (C1 ms fl pkg).length) none)/\τ=σ:=
 b3y (λa h=>by simp at h;subst h;exact .val _) (D9 _ _) (c53 fl nn va br ms me pkg bK) ao
noncomputable def c3J(ms:SM)(x:En):I:=((glk ms x.pl).bind λs=>(s.decls[x.ix.toNat]?).map λd=>a6o s d).getD []
noncomputable def a1B(ms:SM)(x:En):I:=if x.ct=0 then [45]else if x.ct=1 then [61]++c3J ms x else [63]
def b21(ms:SM)(x:En):Prop:=x.ct=1->∃(s:Src) (d:De) (i:Nat),glk ms x.pl=some s/\a09 s/\x.ix=(i:Int)/\s.decls[i]?=some d
theorem c57{x:Src}{d:De}(h:a09 x)(hd:DeG d):(a6o x d).length<=100000:=by
 have dT:=De.name_len hd;have dw:=b37 hd;have du:=H8 h.pkg.1;have himl:=h.impl;have him8:∀s∈x.imports,s.length<=80:=λs hs=>by have:=H8 (h.imp s hs).1;omega
 have bo:=b1F him8 x.imports.length;rw[U2 (n_6 _)]at bo;have bS:=a5L [44,32] d.params;have dV:=c3v (b6U hd);have hprl:=hd.parl;have e2:([44,32]:I).length=2:=O;rw[e2]at bS;have hh:(b47 d).length<=1200:=by
  unfold b47
  split
  .simp only[n_8,D3,K8];omega
  .split
   .simp only[n_8,D3,K8];omega
   .simp only[n_8,D3,K8];omega
 unfold a6o;simp only[n_8,D3,K8];omega
theorem b6H(fl:List Fi)(nn va:Bool)(br:List I)(ms:SM)(me:EM)(x:En)(hx:b21 ms x):b8 CC 125 [.ptr 0 0,.agg x.cells] (wst fl nn va br ms me) λr τ=>F0 4 τ r (.ret (sv (a1B ms x))) (wst fl nn va br ms me):=by
 refine cO Tryz.func125 ?_;refine a6k ?_;refine a6r ?_;refine a75 ?_;refine b9q ?_;refine a4B ?_;refine cC ?_ ?_<;>intro h1
 .have u1:x.ct=0:=D h1;refine a4H ?_;exact⟨_,rE1,(by rw[a1B,Q u1];exact a3q O (.old (.val _)))⟩
 .have u1:¬x.ct=0:=D h1;refine a4B ?_;refine cC ?_ ?_<;>intro h2
  .have u2:x.ct=1:=D h2;obtain⟨src,d,i,hg,hsg,hix,hdi⟩:=hx u2;have hdg:=hsg.dec d (n_3 hdi);have aj:=c57 hsg hdg;have ed:c3J ms x=a6o src d:=by rw[c3J,hg,n_9,hix,a3N,hdi];rfl
   refine F6 ?_;refine cW 15 ?_;refine a2W ?_;refine hY b2F ?_;refine hY b1t ?_;refine hY d2B ?_;refine hY M6 ?_;refine hY (N3 (vc:=vcS) (l:=ms) (a:=x.pl) b5Y O J J O O b7w a4C O O (show((glk ms x.pl).map vcS).getD _=vcS src by rw[hg];rfl)) ?_;refine hY c3W ?_;refine hY a1l ?_;refine hY (c5 O Tryz.call181 i7 ((by have h:=c7i src hsg i d hdi hdg (n_2.1 hdi).1 ((wst fl nn va br ms me)++[.box x.cells]);rw[<- hix]at h;exact h)) O) ?_;refine hY D2 ?_;refine hY a9Q ?_;refine hY a9Q ?_;refine c0l ?_;refine a6g ?_;refine z_2 ?_;refine cY (L3 O O J O O (by show 1+(a6o src d).length<=_;omega)) ?_;refine a4z ?_;exact⟨_,rE1,(by rw[a1B,W u1,Q u2,ed];exact a3q O (.old (.val _)))⟩
  .have u2:¬x.ct=1:=D h2;refine w9 ?_;refine a4H ?_;exact⟨_,rE1,(by rw[a1B,W u1,W u2];exact a3q O (.old (.val _)))⟩
theorem b7g{fl:List Fi}{nn:Bool}{br:List I}{ms:SM}{me:EM}(ao:WAt σ w q1 q2 t fl nn va br ms me)(x:En)(hx:b21 ms x):b8 CC 125 [.ptr w 0,.agg x.cells] σ λr τ=>r= .ret (sv (a1B ms x))/\τ=σ:=
 b3y (λa h=>by simp at h;subst h;exact En.pure _) (.val _) (b6H fl nn va br ms me x hx) ao
theorem b9T(x:Src)(σ:List b9):b8 CC 166 [.agg x.cells] σ λr τ=>∃_:Unit,r= .ret (.clo 207 [.ptr σ.length 0])/\τ=σ++[.box x.cells]/\True:=by
 refine qO Tryz.func166 ?_;refine qD (H3 O J j2 j4 ?_);refine qY (a3v O ⟨J,J⟩) ?_;refine c6 ?_;exact⟨_,b2R O J O,(),O,O,J⟩
theorem d6a(x:Src){kb:Nat}(Jb:Nat->List b9->Prop)(Jx:List b9->Prop)(hb:∀i τ,Jb i τ->τ[kb]?=some (.box x.cells))(hy:∀i s τ,(x.pkg::x.imports)[i]?=some s->Jb i τ->a8V CC k [sv s] τ λr dZ=>(r= .ret (.val (.bool true))/\Jb (i+1) dZ)\/(r= .ret (.val (.bool false))/\Jx dZ))(hl:x.imports.length<=1000000){τ0:List b9}(h0:Jb 0 τ0):b8 CC 207 [.yld k,.ptr kb 0] τ0 λr τ=>(∃c,r= .ret c)/\(Jb (x.imports.length+1) τ\/Jx τ):=by
 refine cO Tryz.func207 ?_;refine a9t ?_;refine b7M (k:=k) (cargs:=[sv x.pkg]) (pre:=[_,_,_]) (post:=[_]) O O O O (nb O) O ?_;refine cY D2 ?_;refine cY c8z ?_;refine cY (j9 O J O t_8 (hb 0 _ h0) O) ?_;refine p7 ?_;refine⟨J,O,⟨J,J⟩,O,(hy 0 x.pkg _ O h0).mono λr τ h=>?_⟩
 rcases h with⟨rfl,h⟩|⟨rfl,h⟩
 .refine b2y ?_;refine a5C J O (λh1=>by cases h1) (λh1=>?_);refine w9 ?_;refine z_0 ?_;refine cY (j3 O J O a6l O a23 H) ?_;refine cY (j9 O J O c2n (hb 1 _ h) O) ?_;refine cY P5 ?_;refine a2S ?_;refine J8 (α:=Nat×List b9) (λa=>[(0,.yld k),(11,.list (x.imports.map scv) (gnn x.imports.length) none),(12,iv x.imports.length),(13,iv a.1)]) Prod.snd (λa=>a.1<=x.imports.length/\Jb (a.1+1) a.2) (λa=>x.imports.length -a.1) (0,τ) ⟨n_5 _,h⟩ tu_ O ?_;intro⟨i,τ1⟩ E0 ⟨hi,hj⟩;dsimp only at hi hj⊢;refine a2P ?_;refine cC ?_ ?_<;>intro h1
  .have af:i<x.imports.length:=sm_ h1;obtain⟨y,hb1⟩:∃y,x.imports[i]?=some y:=⟨x.imports[i]'af,U⟩;refine a5p ?_;refine cY (r6 O J J O O t_2 t_0 G (j5 hb1) O) ?_;refine cY a9z ?_;refine b4x ?_;refine b7M (k:=k) (cargs:=[sv y]) (pre:=[_,_]) (post:=[_]) O O O O (nb O) O ?_;refine cY D2 ?_;refine e1s ?_;refine⟨J,O,⟨J,J⟩,O,(hy (i+1) y _ (D hb1) hj).mono λr τ2 h=>?_⟩
   rcases h with⟨rfl,h⟩|⟨rfl,h⟩
   .refine b2y ?_;refine a5C J O (λh1=>by cases h1) (λh1=>?_);refine a9h ?_;exact⟨(i+1,τ2),do_,⟨do_,h⟩,tu_,O⟩
   .refine b2y ?_;refine a5C J O (λh1=>?_) (λh1=>by cases h1);refine c6 ?_;exact⟨_,rE0,⟨_,O⟩,.inr h⟩
  .have gN:i=x.imports.length:=sm_ h1;subst gN;refine j8 ?_;exact⟨_,rE0,⟨_,O⟩,.inl hj⟩
 .refine b2y ?_;refine a5C J O (λh1=>?_) (λh1=>by cases h1);refine c6 ?_;exact⟨_,rE0,⟨_,O⟩,.inr h⟩
def cN(P:I->Bool):List I->Nat
 | []=>0
 |p::l=>if P p=true then 1 else cN P l+1
theorem c8H{P:I->Bool}:∀{l:List I},(∀p∈l,P p=false)->cN P l=l.length
 | [],_=>rfl
 |p::l,h=>by
  rw[cN,W (by rw[h p b0r];decide),c8H λq hq=>h q (a13 _ hq)];rfl
theorem d9h{P:I->Bool}:∀{l:List I} {i:Nat} {y:I},l[i]?=some y->P y=true->(∀p∈l.take i,P p=false)->cN P l=i+1
 | [],i,y,h,_,_=>by cases h
 |p::l,0,y,h,hy,_=>by injection h with h;subst h;rw[cN,Q hy]
 |p::l,i+1,y,h,hy,hn=>by
  rw[cN,W (by rw[hn p U];decide),d9h (l:=l) (i:=i) (D h) hy λq hq=>hn q (by rw[a6Y];exact a13 _ hq)]
def fE(va:Bool)(me:EM)(name p:I):En:=B3 va me 1 p name
def a5f(va:Bool)(me:EM)(name p:I):Bool:=decide (0< (fE va me name p).ct)
def b2B(va:Bool)(me:EM)(name:I)(L:List I):Nat->En
 |0=>En.z
 |i+1=>match L[i]? with
  |some p=>fE va me name p
  |none=>En.z
def a4r(va:Bool)(me:EM)(name:I)(L:List I):Nat:=cN (a5f va me name) L
def a1g(va:Bool)(me:EM)(name:I)(L:List I):En:=b2B va me name L (a4r va me name L)
def W1(name:I)(L:List I)(i:Nat):List Ky:=(L.take i).map λp=>⟨1,p,name⟩
def a1h(x:En):En:=if x.ct=0 then En.z else if 1<x.ct then En.z else x
def a4m(x:En):Int:=if x.ct=0 then 11 else if 1<x.ct then 12 else 0
def c3S(va:Bool)(me:EM)(name:I)(L:List I):CV:=.tup [.agg (a1h (a1g va me name L)).cells,.list ((W1 name L (a4r va me name L)).map Ky.cv) (gnn (a4r va me name L)) none,iv (a4m (a1g va me name L))]
abbrev cSt(fl:List Fi)(nn va:Bool)(br:List I)(ms:SM)(me:EM)(x:Src)(name:I)(ks:List Ky)(i:Nat)(e:En)(Je ob:b9):List b9:=[wbx fl nn va br 1 2 3,smO ms,emO me,m0 br.length,.box [.ptr 0 0],.box x.cells,.box [sv name],.box En.z.cells,.box [.list (ks.map Ky.cv) (gnn i) (F1 i (13+i))],.box e.cells,.box x.cells,Je,ob]++(List.replicate i .dead++[m0 i])
theorem d9Y{E:Env}{o:Oper}{t e:TypeId}{x y:Operand}{Y new:List (List CV)}{q:Nat}{ti:TypeInfo}{z:Value}{K:R8->List b9->Prop}{pre:List b9}(hq:pre.length=q)(ho:o.op = .call {callee:=.builtin .append,args:=#[x,y],argTypes:=#[t,t]})(hx:E.valid x)(hy:E.valid y)(ex:E.val CC x= .list Y (gnn i) (F1 i (q+i)))(hm:i=Y.length)
 (aJ:∀M w v,Rel CC M (pre++(List.replicate i .dead++[m0 i])) w->RV M w (E.val CC y) v->Go.Cl.Src CC M w new s v)(hu:∀w,(underlying t).run CC.P w= .ok (.slice e) w)(hs:∀w,(sizeOf e).run CC.P w= .ok s w)(ca:∀w,(typeInfo e).run CC.P w= .ok ti w)(hz:∀w,(zeroValue e).run CC.P w= .ok z w)(bn:z.cells.size=s)
 (ba:∀r∈Y,r.length=s)(hn:new.length=1)(hb:(Y.length+1)*ti.bytes<=140737488355328)(aQ:Y.length+1<=9223372036854775807)(rows':List (List CV))(he:Y++new=rows')
 (hk:K (.ret (.list rows' (gnn (i+1)) (F1 (i+1) (q+(i+1))))) (pre++(List.replicate (i+1) .dead++[m0 (i+1)]))):G5 CC (pre++(List.replicate i .dead++[m0 i])) E o K:=by
 have hl:(pre++(List.replicate i b9.dead++[m0 i])).length=q+(i+1):=by simp[hq]
 have bu:(pre++(List.replicate i b9.dead++[m0 i])).set (q+i) .dead++[m0 (i+1)]=pre++(List.replicate (i+1) .dead++[m0 (i+1)]):=by
  rw[b7j _ _ G,b7j _ _ H6,List.length_replicate,hq,show q+i-q-i=0 by omega,H5,H5,List.replicate_succ',H5];rfl
 refine C8 (m:=i) (p:=q+i) ho hx hy ex hm aJ hu hs ca hz bn (.inr ?_) ba (by rw[hn];exact hb) (by rw[hn];exact aQ) rows' (i+1) he G ?_
 .rw [a1c G,a1c H6];simp[hq]
 .rw [hl,bu];exact hk
theorem c9z{P:I->Bool}{L:List I}{y:I}(h:L[i]?=some y)(hy:P y=false)(hn:∀p∈L.take i,P p=false):∀p∈L.take (i+1),P p=false:=λp hp=>by
 rw[Z2,h]at hp
 rcases T9.1 hp with hp|hp
 .exact hn p hp
 .simp at hp;subst hp;exact hy
theorem b93{name:I}{L:List I}{y:I}(h:L[i]?=some y):W1 name L (i+1)=W1 name L i++[⟨1,y,name⟩]:=d0R h _
theorem a0P{Y:List (List CV)}{nn:Bool}{tok:Option Nat}(h:∀r∈Y,O4 r):Cls n σ (.list Y nn tok) (.list Y nn none):=
 .list O (λi r r' h1 h2=>by rw[h1]at h2;injection h2 with h2;rw[h2]) λi j r r' c c' h1 h2 h3 h4=>by
  rw[h1]at h2;injection h2 with h2;subst h2
  rw[h3]at h4;injection h4 with h4;subst h4
  exact .old ((h r (n_3 h1)).all c (n_3 h3)).old
theorem b0S{a a' b b' c':CV}(h1:Cls n σ a a')(h2:Cls n σ b b')(h3:Cls n σ c c'):Cls n σ (.tup [a,b,c]) (.tup [a',b',c']):=.tup O λi x y g1 g2=>by
 rcases i with _|_|_|i
 .injection g1 with g1;injection g2 with g2;subst g1 g2;exact h1
 .injection g1 with g1;injection g2 with g2;subst g1 g2;exact h2
 .injection g1 with g1;injection g2 with g2;subst g1 g2;exact h3
 .cases g1
theorem b1f{τ:List b9}(rest:List b9){fl:List Fi}{nn:Bool}{br:List I}{ms:SM}{me:EM}:a3X 4 τ (wbx fl nn va br 1 2 3::smO ms::emO me::m0 br.length::rest) (wst fl nn va br ms me):=⟨.same a2E,.same X4,.same Y2,.same B0,by cases rest<;>trivial⟩
theorem c0W(fl:List Fi)(nn va:Bool)(br:List I)(ms:SM)(me:EM)(x:Src)(name:I)(hl:x.imports.length<=1000000):b8 CC 109 [.ptr 0 0,.agg x.cells,sv name] (wst fl nn va br ms me) λr τ=>∃_:Unit,X8 4 τ r (.ret (c3S va me name (x.pkg::x.imports)))/\a3X 4 τ τ (wst fl nn va br ms me)/\4<=4/\True:=by
 refine c2e (kD:=11) Tryz.func109 O O ?_;refine b2e ?_;refine C2 ?_;refine qD (H3 O J j2 (.inl O) ?_);refine qD (H3 O J j2 j4 ?_);refine qD (H3 O J j2 (.inl O) ?_);refine qD (o6 O a1q O j4 ?_);refine⟨O,d1O (b2e ?_)⟩;refine C2 ?_;refine qD (o6 O Tryz.zeroValue29 O (.inl O) ?_);refine⟨O,b2e ?_⟩;refine C2 ?_;refine qD (o6 O a1q O j4 ?_);refine⟨O,b2e ?_⟩;refine b7P ?_;refine⟨O,?_⟩;refine d4v λE0 hE0=>?_;refine d6n (λE' aa=>∃ob:b9,E'.is [(6,.ptr 7 0),(9,.ptr 8 0),(10,.ptr 9 0)]/\aa=cSt fl nn va br ms me x name (W1 name (x.pkg::x.imports) (a4r va me name (x.pkg::x.imports))) (a4r va me name (x.pkg::x.imports)) (a1g va me name (x.pkg::x.imports)) (.blk (.deferred (some []))) ob) ?_ ?_
 .subst hE0;refine b2e ?_;refine C2 ?_;refine qo (qD (c4 O Tryz.call166 ⟨J,J⟩ (b9T x _) O ?_));intro _ _;refine⟨O,d1R ?_⟩;refine c9t trivial O Tryz.call207 (cs:=[(3,.ptr 4 0),(5,.ptr 6 0),(9,.ptr 8 0),(10,.ptr 9 0)]) tu_ λo h1 h2 h3 h4 h5=>a0g ?_;have ho:({o with state:=.ready,pending:=none}:Loop)=o:=by cases o;simp at h1 h2;rw[h1,h2]
  refine(d6a x (k:=12) (kb:=10) (λi τ=>i<=x.imports.length+1/\(∀p∈(x.pkg::x.imports).take i,a5f va me name p=false)/\τ=cSt fl nn va br ms me x name (W1 name (x.pkg::x.imports) i) i (b2B va me name (x.pkg::x.imports) i) (.blk (.deferred (some []))) (.lp o 42 [(3,.ptr 4 0),(5,.ptr 6 0),(9,.ptr 8 0),(10,.ptr 9 0)]))
   (λτ=>∃i y,(x.pkg::x.imports)[i]?=some y/\a5f va me name y=true/\(∀p∈(x.pkg::x.imports).take i,a5f va me name p=false)/\τ=cSt fl nn va br ms me x name (W1 name (x.pkg::x.imports) (i+1)) (i+1) (b2B va me name (x.pkg::x.imports) (i+1)) (.blk (.deferred (some []))) (.lp {o with state:=.done,pending:=some (.exit 0)} 42 [(3,.ptr 4 0),(5,.ptr 6 0),(9,.ptr 8 0),(10,.ptr 9 0)])) (λi τ ⟨_,_,h⟩=>by rw[h];rfl) ?_ hl ⟨n_5 _,λp hp=>by simp at hp,O⟩).mono ?_
  .rintro i y _ hy ⟨hi,cM,rfl⟩;have hli:(W1 name (x.pkg::x.imports) i).length=i:=by
    have:=(n_2.1 hy).1;unfold W1;rw[K6,a7Y];omega
   have af:=(n_2.1 hy).1;simp only[D3]at af;have aM:b2B va me name (x.pkg::x.imports) (i+1)=fE va me name y:=by rw[b2B,hy]
   refine c6j (t:=14) (o:=o) O h1 h3 O ?_;refine d8n h4 ?_;refine a5K O ?_;refine qo ?_;refine⟨O,O,?_⟩;refine d8n h5 ?_;refine d1Z (c1T ?_);refine a5K O ?_;refine qo (qY e1d ?_);refine qY (A9 [Ky.cv (⟨1,y,name⟩:Ky)] O ⟨J,J⟩ a0k t_9 a21 O O O O O O O O O) ?_;refine qN (cSt fl nn va br ms me x name (W1 name (x.pkg::x.imports) i) i (b2B va me name (x.pkg::x.imports) i) (.blk (.deferred (some []))) (.lp {o with state:=.busy} 42 [(3,.ptr 4 0),(5,.ptr 6 0),(9,.ptr 8 0),(10,.ptr 9 0)])) rfl (qD (d9Y (q:=13) (i:=i) rfl rfl J J rfl (by rw[K6,hli]) (a43 rfl (by first|exact a2b (by intro a;rfl) _|(intro r hr;simp at hr;subst hr;rfl))) a0k t_9 c5t a21 O (by first|exact a2b (by intro a;rfl) _|(intro r hr;simp at hr;subst hr;rfl)) O (by have hb:Tryz.t49.bytes=40:=O;rw[hb,K6,hli];omega) (by rw[K6,hli];omega) ((W1 name (x.pkg::x.imports) (i+1)).map Ky.cv) (by rw[b93 hy,a3M];rfl) ?_));refine qD (j1 O J J O j2 c5j (.inl O) O O (nb O) ?_);refine c1T ?_;refine a5K O ?_;refine qo (qY (c5 O c68 ⟨J,O,J,J,J⟩ (a5O (w:=0) (q1:=1) (q2:=2) (t:=3) ⟨O,O,O,O,a1s ⟨H,H,H,H,H,H⟩⟩ 1 y name) O) ?_);refine qD (j1 O J J O j2 t_6 j4 O O (nb O) ?_);refine c1T ?_;refine a5K O ?_;refine qo ?_;refine d4J J O (λhh=>?_) (λhh=>?_)
   .have hf:a5f va me name y=true:=by unfold a5f fE;simpa using hh
    refine d5m ?_;refine⟨O,.inr ⟨O,i,y,hy,hf,cM,?_⟩⟩;rw[aM];rfl
   .have hf:a5f va me name y=false:=by unfold a5f fE;simpa using hh
    refine d5S ?_;refine⟨O,.inl ⟨O,G,c9z hy hf cM,?_⟩⟩;rw[aM,ho];rfl
  .rintro r τ ⟨hr,⟨-,cM,rfl⟩|⟨i,y,hy,hf,cM,rfl⟩⟩
   .rw [U2 U]at cM;have hN:a4r va me name (x.pkg::x.imports)=x.imports.length+1:=c8H cM;refine⟨hr,o,O,by rw[h1];decide,?_⟩;rw[h2];refine⟨O,.lp {o with state:=.exhausted,pending:=none} 42 [(3,.ptr 4 0),(5,.ptr 6 0),(9,.ptr 8 0),(10,.ptr 9 0)],tu_,?_⟩;unfold a1g;rw[hN];rfl
   .have hN:a4r va me name (x.pkg::x.imports)=i+1:=d9h hy hf cM;refine⟨hr,{o with state:=.done,pending:=some (.exit 0)},rfl,(by intro h;cases h),?_⟩;refine⟨O,.lp {o with state:=.exhausted,pending:=some (.exit 0)} 42 [(3,.ptr 4 0),(5,.ptr 6 0),(9,.ptr 8 0),(10,.ptr 9 0)],tu_,?_⟩;unfold a1g;rw[hN];rfl
 .rintro E σ ⟨ob,hE,rfl⟩ ds;refine c8K hE ?_;refine a5Q ?_;refine c7x ?_;refine a5Q ?_;refine a3Y ?_;refine qo ?_;refine b7J J O (λhh=>?_) (λhh=>?_)
  .have hx:(a1g va me name (x.pkg::x.imports)).ct=0:=D hh;refine e0A ?_;refine chf O e2w ?_;refine chf O d0M ?_;refine d6Q ?_;refine⟨⟨d0t,J⟩,?_⟩;refine c45 ?_;refine a4h ?_;refine b0s ?_;exact⟨O,_,r8 (rs:=[.cell 6 83,.tmp 7,.tmp 8]) (cs:=[_,_,_]) O e08 (n_4 O),(),.ret (b0S (J5 (n_7 (λe:En=>CV.agg e.cells) (show En.z=a1h _ from(Q hx).symm)) (En.pure _)) (a0P λr hr=>by obtain⟨k,_,rfl⟩:=D6.1 hr;exact a5m k) (B4 (show(11:Int)=a4m _ from(Q hx).symm))),b1f _,n_6 _,J⟩
  .have hx:¬(a1g va me name (x.pkg::x.imports)).ct=0:=D hh;refine a5Q ?_;refine a3Y ?_;refine qo ?_;refine b7J J O (λhh=>?_) (λhh=>?_)
   .have hy:1< (a1g va me name (x.pkg::x.imports)).ct:=D hh;refine e0A ?_;refine chf O e2w ?_;refine chf O d0M ?_;refine d6Q ?_;refine⟨⟨d0t,J⟩,?_⟩;refine c45 ?_;refine a4h ?_;refine b0s ?_;exact⟨O,_,r8 (rs:=[.cell 6 83,.tmp 7,.tmp 8]) (cs:=[_,_,_]) O e08 (n_4 O),(),.ret (b0S (J5 (n_7 (λe:En=>CV.agg e.cells) (show En.z=a1h _ by rw[a1h,W hx,Q hy])) (En.pure _)) (a0P λr hr=>by obtain⟨k,_,rfl⟩:=D6.1 hr;exact a5m k) (B4 (show(12:Int)=a4m _ by rw[a4m,W hx,Q hy]))),b1f _,n_6 _,J⟩
   .have hy:¬1< (a1g va me name (x.pkg::x.imports)).ct:=D hh;refine d1p ?_;refine e0A ?_;refine chf O (c8 O a1A) ?_;refine chf O d0M ?_;refine d6Q ?_;refine⟨⟨d0t,J⟩,?_⟩;refine c45 ?_;refine a4h ?_;refine b0s ?_;exact⟨O,_,r8 (rs:=[.cell 6 83,.tmp 7,.tmp 8]) (cs:=[_,_,_]) O e08 (n_4 O),(),.ret (b0S (J5 (n_7 (λe:En=>CV.agg e.cells) (show a1g va me name (x.pkg::x.imports)=a1h _ by rw[a1h,W hx,W hy])) (En.pure _)) (a0P λr hr=>by obtain⟨k,_,rfl⟩:=D6.1 hr;exact a5m k) (B4 (show(0:Int)=a4m _ by rw[a4m,W hx,W hy]))),b1f _,n_6 _,J⟩
theorem c6r{fl:List Fi}{nn:Bool}{br:List I}{ms:SM}{me:EM}(ao:WAt σ w q1 q2 t fl nn va br ms me)(x:Src)(name:I)(hl:x.imports.length<=1000000):b8 CC 109 [.ptr w 0,.agg x.cells,sv name] σ λr τ=>r= .ret (c3S va me name (x.pkg::x.imports))/\τ=σ:=
 (a2k [w,q1,q2,t] hCC O ao.nd (b9X ao) (.cons (.ptr O) (H9 λa h=>by simp at h;rcases h with rfl|rfl;exact o0 x.pure;exact .val _)) (c:=λ_:Unit=>c3S va me name (x.pkg::x.imports)) (P:=λ_=>True) (λ_ _=>C5 (cs:=[_,_,_]) ⟨En.pure _,.list λr hr c hc=>by
  obtain⟨k,_,rfl⟩:=D6.1 hr;exact(a5m k).all c hc,.val _,J⟩) (M4 (S:=λ_=>wst fl nn va br ms me) (res:=λ_:Unit=>.ret (c3S va me name (x.pkg::x.imports))) (P:=λ_=>True) hCC (c0W fl nn va br ms me x name hl))).mono λ_ _ ⟨_,h1,h2,_⟩=>⟨h1,h2⟩
theorem a7m{α β:Type} [DecidableEq α]{a:α}{c:β}{x:α×β}:∀{l:List (α×β)},x∈L5 l a c->x=(a,c)\/x∈l
 | [],h=>.inl (by simpa[L5]using h)
 |(b,d)::l,h=>by
  rw[L5]at h;split at h
  .rename_i df;subst df
   rcases J2.1 h with h|h
   .exact .inl h
   .exact .inr (a13 _ h)
  .rcases J2.1 h with h|h
   .exact .inr (h▸b0r)
   .exact (a7m h).imp id (a13 _)
theorem b2I{α β:Type} [DecidableEq α]{a:α}{c:β}:∀{l:List (α×β)},(L5 l a c).length<=l.length+1
 | []=>n_6 _
 |(b,d)::l=>by
  rw[L5]
  split
  .simp
  .have:=b2I (a:=a) (c:=c) (l:=l);simp only[D3];omega
theorem b2A{β:Type} [DecidableEq α]{l:List (α×β)}{a:α}{c:β}(h:glk l a=some c):(a,c)∈l:=by
 obtain⟨i,hi,_⟩:=a7U h;exact n_3 hi
structure MS where
 tr:List (Ky×Bool)
 st:Int
 ac:Int
 rn:Bool
structure MC where
 fl:List Fi
 nn:Bool
 br:List I
 ms:SM
 me:EM
 ev:List Va
 en:Bool
 wd:Int
variable{nn en:Bool}{fl:List Fi}{ms:SM}{br:List I}{me:EM}
theorem a5F{l:List α}{a:α}(h:l[i]?=some a):l.drop i=a::l.drop (i+1):=by
 obtain⟨hl,rfl⟩:=n_2.1 h;exact Y0 hl
structure Fr where
 f:Src
 d:De
 args:List Int
 an:Bool
variable{d:De}
abbrev Fr.cells(F:Fr):List CV:=[sv F.f.pkg,.list (F.f.imports.map scv) (gnn F.f.imports.length) none,.list (F.f.decls.map De.cv) (gnn F.f.decls.length) none,iv F.d.k,sv F.d.name,.list (F.d.params.map scv) (gnn F.d.params.length) none,.list (F.d.body.map Ex.cv) (gnn F.d.body.length) none,.list (F.args.map icv) F.an none]
abbrev diX(va:Bool)(me:EM)(s:I):En:=B3 va me 3 [] s
def diK(fl:List Fi)(va:Bool)(me:EM)(s:I):Int:=if(E9 fl s).isSome=true then 1 else if(diX va me s).ct=0 then 0 else if 1< (diX va me s).ct then 3 else 2
def diE(fl:List Fi)(va:Bool)(me:EM)(s:I):En:=if(E9 fl s).isSome=true then En.z else a1h (diX va me s)
def a3e(fl:List Fi)(s:I):List Ky:=if(E9 fl s).isSome=true then [⟨4,s,[]⟩]else [⟨4,s,[]⟩,⟨3,s,[]⟩]
def diC(fl:List Fi)(va:Bool)(me:EM)(s:I):Int:=if(E9 fl s).isSome=true then 0 else if(diX va me s).ct=0 then 14 else if 1< (diX va me s).ct then 12 else 0
def diV(fl:List Fi)(va:Bool)(me:EM)(s:I):CV:=.tup [iv (diK fl va me s),.agg (diE fl va me s).cells,.list ((a3e fl s).map Ky.cv) true none,iv (diC fl va me s)]
theorem c9e{a a' b b' c' d d':CV}(h1:Cls n σ a a')(h2:Cls n σ b b')(h3:Cls n σ c c')(h4:Cls n σ d d'):Cls n σ (.tup [a,b,c,d]) (.tup [a',b',c',d']):=.tup O λi x y g1 g2=>by
 rcases i with _|_|_|_|i
 .injection g1 with g1;injection g2 with g2;subst g1 g2;exact h1
 .injection g1 with g1;injection g2 with g2;subst g1 g2;exact h2
 .injection g1 with g1;injection g2 with g2;subst g1 g2;exact h3
 .injection g1 with g1;injection g2 with g2;subst g1 g2;exact h4
 .cases g1
theorem c8s(fl:List Fi)(va:Bool)(me:EM)(s:I):p9 (diV fl va me s):=C5 ⟨.val _,En.pure _,G7 _ _,.val _,J⟩
def N6(c:MC)(x:En):Option (Src×De):=(glk c.ms x.pl).bind λs=>(s.decls[x.ix.toNat]?).map λd=>(s,d)
def d0a(F:Fr):List I:=F.f.pkg::F.f.imports
def c8d(c:MC)(F:Fr)(x:Ex):List Ky:=W1 x.name (d0a F) (a4r true c.me x.name (d0a F))
def InM(v:Int):Prop:=-9007199254740992<=v/\v<=9007199254740992
def a01:List En->En->List En
 | [],e=>[e]
 |y::l,e=>if a28 y e=true then y::a01 l e else if y=e then y::l else e::y::l
def deE(L:List (I×Src))(x:I×Src):List En:=x.2.decls.map λd=>fiE L d.k x.2.pkg d.name
def c2c(L:List (I×Src)):List En:=(L.flatMap (deE L)).foldl a01 []
theorem c1y{e:En}:∀{k:Nat} {out:List En},(∀z∈out.take k,a28 z e=true)->a01 out e=out.take k++a01 (out.drop k) e
 |0,out,_=>by simp
 |k+1,[],_=>by simp
 |k+1,y::out,h=>by
  rw[a6Y,List.drop_succ_cons,a01,Q (h y U),c1y (k:=k) (out:=out) λz hz=>h z (by simp[hz])];rfl
theorem e0V(h:∀z∈out.take k,a28 z e=true)(hy:out[k]?=some e)(hb:a28 e e=false):a01 out e=out:=by
 have af:=(n_2.1 hy).1;rw[c1y h,a5F hy,a01,W (by rw[hb];decide),Q O,<- a5F hy,b4i]
theorem d4E(h:∀z∈out.take k,a28 z e=true)(hy:∀y,out[k]?=some y->a28 y e=false/\y≠e):a01 out e=out.take k++e::out.drop k:=by
 rw[c1y h];cases hk:out[k]? with
 |none=>rw[Y4 (List.getElem?_eq_none_iff.1 hk),a01]
 |some y=>
  obtain⟨h1,h2⟩:=hy y hk;rw[a5F hk,a01,W (by rw[h1];decide),W h2]
theorem d6X{y:En}(h:∀z∈out.take k,a28 z e=true)(hy:out[k]?=some y)(hb:a28 y e=true):∀z∈out.take (k+1),a28 z e=true:=λz hz=>by
 rw[Z2,hy]at hz
 rcases T9.1 hz with hz|hz
 .exact h z hz
 .simp at hz;rw[hz];exact hb
theorem d1j(l:List Fi)(nn:Bool)(hl:l.length<=1000000)(hp:∀f∈l,f.p.length<=1000000000)(dw:∀q b,E9 l q=some b->b.length<=1000000000)(hd:C7 l=0->∀f∈l,E9 l f.p=some f.b)(hLD:C7 l=0->(B8 l).length<=1000/\∀x∈B8 l,x.2.decls.length<=100000):b8 CC 37 [.agg (A0 l nn)] [] λr τ=>∃out:List En,X8 0 τ r (.ret (.list (out.map En.cells) (gnn out.length) none))/\(C7 l=0->out=c2c (B8 l)/\out.length<=100000000):=by
 refine cO Tryz.func37 ?_;refine a6k ?_;refine b2K ?_;refine a5r ?_;refine yc O d0X ⟨J,J⟩ (a63 l nn _) ?_;refine a5s ?_;refine cC ?_ ?_<;>intro h1
 .have h0:¬C7 l=0:=D h1;refine a4H ?_;exact⟨_,rE1,⟨[],.ret c9S,λh=>absurd h h0⟩⟩
 .have h0:C7 l=0:=D h1;obtain⟨hL,hD⟩:=hLD h0;have dV:((B8 l).map Prod.snd).length=(B8 l).length:=K6 _;generalize eB:B8 l=L at hL hD dV;refine w9 ?_;refine a5r ?_;refine yc O Tryz.call42 ⟨J,J⟩ (c5G eB nn h0 hl hp dw hd _) ?_;refine cD (o6 O c9U O j4 ?_);refine cD (j1 O J J O j2 c0u j4 O O (nb O) ?_);refine a74 ?_;refine cY c4N ?_;refine cY (j9 O J O c77 O O) ?_;refine cY (X5 O J O c7z a49 O) ?_;refine a2S ?_;refine A5 hCC 2 O (α:=List En×Nat) (λa=>[(3,gV a.1 2),(4,.ptr 1 0),(17,(.list ((L.map Prod.snd).map Src.cv) (gnn (L.map Prod.snd).length) none)),(18,(iv ((L.map Prod.snd).length:Int))),(19,iv a.2)]) (λa=>[.box (A0 l nn),.box (a95 (L.map Prod.fst) (L.map Prod.snd)),gO 6 En.cells a.1]) (λa=>a.2<=L.length/\a.1=((L.take a.2).flatMap (deE L)).foldl a01 []/\a.1.length<=100000*a.2) (λa=>L.length -a.2) ⟨([],0),[0,1,2],⟨n_5 _,O,n_6 _⟩,⟨O,O⟩,q_0,⟨.inr ⟨_,O,.box ⟨.old a0u,J⟩⟩,.inr ⟨_,O,.box ⟨.old N4,.old (a1k _ _ _),J⟩⟩,.inl O,J⟩⟩ ?_;intro⟨out,i⟩ ⟨hi,hP,hn⟩;dsimp only at hi hP hn⊢;refine a2P ?_;refine cC ?_ ?_<;>intro h2
  .have af:i<L.length:=sm_ h2;obtain⟨x,hb⟩:∃x,L[i]?=some x:=⟨L[i]'af,U⟩;have hxm:=n_3 hb;have gc:=hD x hxm;refine a5p ?_;refine cY (r6 O J J O O c7z a35 G (j5 (c4o hb)) O) ?_;refine cY (U5 O J O b9J a35 (nb O)) ?_;refine cD (o6 O a4C O j4 ?_);refine cD (j1 O J J O j2 a35 j4 O O (nb O) ?_);refine a7E ?_;refine cY c3Y ?_;refine cY c2u ?_;refine cY a6w ?_;refine a2S ?_;refine c7D hCC 4 O 2 3 (gV out 4) O J (d9z out 2 4) (α:=List En×Nat) (λa=>[(3,gV a.1 4),(4,.ptr 1 0),(6,.ptr 3 0),(17,(.list ((L.map Prod.snd).map Src.cv) (gnn (L.map Prod.snd).length) none)),(18,(iv ((L.map Prod.snd).length:Int))),(19,iv i),(24,(.list (x.2.decls.map De.cv) (gnn x.2.decls.length) none)),(25,iv x.2.decls.length),(26,iv a.2)]) (λa=>[.box (A0 l nn),.box (a95 (L.map Prod.fst) (L.map Prod.snd)),.dead,.box x.2.cells,gO 6 En.cells a.1]) (λa=>a.2<=x.2.decls.length/\a.1=((L.take i).flatMap (deE L)++(x.2.decls.take a.2).map λd=>fiE L d.k x.2.pkg d.name).foldl a01 []/\a.1.length<=100000*i+a.2) (λa=>x.2.decls.length -a.2) ⟨(out,0),[0,1,2,3,4],⟨n_5 _,D hP,hn⟩,⟨O,O⟩,⟨V5,V5,V5,V5,V5,V5,V5,V5,V5,J⟩,⟨.inr ⟨_,O,.box ⟨.old a0u,J⟩⟩,.inr ⟨_,O,.box ⟨.old N4,.old (a1k _ _ _),J⟩⟩,.inl O,.inr ⟨_,O,.box ⟨.old (.val _),.old N4,.old (P1 _ _ _),J⟩⟩,.inr ⟨_,O,.same O (b6m _ _)⟩,J⟩⟩ ?_;intro⟨out,j⟩ ⟨hj,hP,hn⟩;dsimp only at hj hP hn⊢;refine a2P ?_;refine cC ?_ ?_<;>intro h3
   .have hjt:j<x.2.decls.length:=sm_ h3;obtain⟨d,fU⟩:∃d,x.2.decls[j]?=some d:=⟨x.2.decls[j]'hjt,U⟩;have hdm:=n_3 fU;have cJ:((L.take i).flatMap (deE L)++(x.2.decls.take (j+1)).map λd=>fiE L d.k x.2.pkg d.name).foldl a01 []=a01 out (fiE L d.k x.2.pkg d.name):=by rw[Z2,fU,a3M,<- H5,c4w,<- hP];rfl
    refine a5p ?_;refine cY (r6 O J J O O a7D a30 G (j5 fU) O) ?_;refine d1c ?_;refine d5V ?_;refine z_0 ?_;refine cY (I8 O J O d2U c0u O (nb O)) ?_;refine b8e ?_;refine cY c8z ?_;refine cY M6 ?_;refine cY b4Q ?_;refine cY M6 ?_;refine ye O Tryz.call43 a6I (b9V L d.k x.2.pkg d.name G hD _) O ?_;by_cases ee:out=[]
    .subst ee;have hnil:([]:List En).length=0:=O;refine c6L ?_;refine b2K ?_;refine J9 ?_;refine o4 hCC (α:=Nat) (λk=>[(3,(.list [] false none)),(4,.ptr 1 0),(6,.ptr 3 0),(9,.ptr 6 0),(10,iv k),(17,(.list ((L.map Prod.snd).map Src.cv) (gnn (L.map Prod.snd).length) none)),(18,(iv ((L.map Prod.snd).length:Int))),(19,iv i),(24,(.list (x.2.decls.map De.cv) (gnn x.2.decls.length) none)),(25,iv x.2.decls.length),(26,iv j)]) (λ_=>[.box (A0 l nn),.box (a95 (L.map Prod.fst) (L.map Prod.snd)),.dead,.box x.2.cells,.dead,.box d.cells,.box (fiE L d.k x.2.pkg d.name).cells]) (λk=>k<=([]:List En).length/\∀z∈([]:List En).take k,a28 z (fiE L d.k x.2.pkg d.name)=true) (λk=>([]:List En).length -k) 0 ⟨n_5 _,λz hz=>by simp at hz⟩ tu_ (am:=[]) O B5 uz_ ?_;intro k ⟨hk,_⟩;have hk0:k=0:=D hk;subst hk0;refine a9t ?_;refine cW 12 ?_;refine a3s ?_;refine hY c5d ?_;refine b3G ?_;refine d0S ?_;refine O1 O O J O q_8 ?_;refine d9i ?_;refine O1 O O J O (λhg=>c5 O Tryz.call78 ⟨hg,hg,J⟩ (a9G (fiE L d.k x.2.pkg d.name) (fiE L d.k x.2.pkg d.name) _) O) ?_;refine hY R4 ?_;refine a6g ?_;refine cC ?_ ?_<;>intro h4
     .exfalso;simp at h4
     .refine j8 ?_;refine a9t ?_;refine cW 12 ?_;refine a3s ?_;refine hY c5d ?_;refine b3G ?_;refine d0S ?_;refine O1 O O J O q_8 ?_;refine d9i ?_;refine O1 O O J O (λhg=>b05 O hg hg (xs:=[.string (str (fiE L d.k x.2.pkg d.name).p),.string (str (fiE L d.k x.2.pkg d.name).o),.int .i64 (fiE L d.k x.2.pkg d.name).k,.string (str (fiE L d.k x.2.pkg d.name).pl),.int .i64 (fiE L d.k x.2.pkg d.name).ix,.int .i64 (fiE L d.k x.2.pkg d.name).ct]) (ys:=[.string (str (fiE L d.k x.2.pkg d.name).p),.string (str (fiE L d.k x.2.pkg d.name).o),.int .i64 (fiE L d.k x.2.pkg d.name).k,.string (str (fiE L d.k x.2.pkg d.name).pl),.int .i64 (fiE L d.k x.2.pkg d.name).ix,.int .i64 (fiE L d.k x.2.pkg d.name).ct]) O O Tryz.eqGuardType83 (d8s (fiE L d.k x.2.pkg d.name) (fiE L d.k x.2.pkg d.name))) ?_;refine hY R4 ?_;refine a6g ?_;refine cC ?_ ?_<;>intro h5
      .exfalso;simp at h5
      .have fG:[(fiE L d.k x.2.pkg d.name)]≠[]:=by simp
       have hNn:[(fiE L d.k x.2.pkg d.name)].length=1:=O;have jd:a01 [] (fiE L d.k x.2.pkg d.name)=[(fiE L d.k x.2.pkg d.name)]:=O;have hNl:[(fiE L d.k x.2.pkg d.name)].length<=100000*i+(j+1):=by rw[hNn];omega
       refine b3J ?_;refine cY a1A ?_;refine cY e1p ?_;refine cD (b5a 1 O J J O q_3 a1X t_6 c4G a1q O U (by have hb:Tryz.t83.bytes=72:=O;rw[hb];first|omega|(simp;done)|(simp;omega)) G6 U ?_);refine b4x ?_;refine cW 7 ?_;refine a3s ?_;refine hY o7 ?_;refine hY (O8 (l:=(0+1)) O J O a1X t_6 O a18 O a1U U) ?_;refine a3s ?_;refine hY (O8 (l:=0) O J O a1X t_6 O a18 O a1U U) ?_;refine a29 ?_;refine cD (b33 O J J O O a1X t_6 O G U U ?_);refine p7 ?_;refine a9A ?_;refine d8U ?_;refine cD (N5 [En.cells (fiE L d.k x.2.pkg d.name)] O J J O j2 t_6 j4 O (r:=En.cells (fiE L d.k x.2.pkg d.name)) O O (nb O) (by rfl) O ?_);refine b46 ?_;exact⟨([(fiE L d.k x.2.pkg d.name)],j+1),[0,1,2,3,7],⟨do_,do_,(by dsimp only;rw[cJ];exact jd.symm),hNl⟩,⟨O,O⟩,⟨V5,V5,V5,V5,V5,V5,V5,V5,V5,J⟩,⟨.inr ⟨_,O,.box ⟨.old a0u,J⟩⟩,.inr ⟨_,O,.box ⟨.old N4,.old (a1k _ _ _),J⟩⟩,.inl O,.inr ⟨_,O,.box ⟨.old (.val _),.old N4,.old (P1 _ _ _),J⟩⟩,.inr ⟨_,O,.same O (a7u _ [(fiE L d.k x.2.pkg d.name)])⟩,J⟩⟩
    .rw [a2B ee,c4y ee];refine c6L ?_;refine b2K ?_;refine J9 ?_;refine o4 hCC (α:=Nat) (λk=>[(3,(.vec 4 0 out.length)),(4,.ptr 1 0),(6,.ptr 3 0),(9,.ptr 6 0),(10,iv k),(17,(.list ((L.map Prod.snd).map Src.cv) (gnn (L.map Prod.snd).length) none)),(18,(iv ((L.map Prod.snd).length:Int))),(19,iv i),(24,(.list (x.2.decls.map De.cv) (gnn x.2.decls.length) none)),(25,iv x.2.decls.length),(26,iv j)]) (λ_=>[.box (A0 l nn),.box (a95 (L.map Prod.fst) (L.map Prod.snd)),.dead,.box x.2.cells,(.vec 6 (out.map En.cells)),.box d.cells,.box (fiE L d.k x.2.pkg d.name).cells]) (λk=>k<=out.length/\∀z∈out.take k,a28 z (fiE L d.k x.2.pkg d.name)=true) (λk=>out.length -k) 0 ⟨n_5 _,λz hz=>by simp at hz⟩ tu_ (am:=[]) O B5 uz_ ?_;intro k ⟨hk,hB⟩;obtain⟨y,hy⟩:∃y,k<out.length->out[k]?=some y:=⟨out.getD k En.z,λh=>by simp[h]⟩;refine a9t ?_;refine cW 12 ?_;refine a3s ?_;refine hY (a0W O J O a1X O O) ?_;refine b3G ?_;refine d0S ?_;refine O1 O O J O e2T ?_;refine O1 O O J O e1l ?_;refine O1 O O J O c9m ?_;refine O1 O O J O (λhg=>c5 O Tryz.call78 ⟨hg,hg,J⟩ (a9G y (fiE L d.k x.2.pkg d.name) _) O) ?_;refine hY R4 ?_;refine a6g ?_;refine cC ?_ ?_<;>intro h4
     .have hlt4:k<out.length:=sm_ h4;have hb4:a28 y (fiE L d.k x.2.pkg d.name)=true:=by simp at h4;exact h4.2
      refine w9 (J9 ?_);refine b10 ?_;exact⟨(k+1),_,⟨G,G,d6X hB (hy hlt4) hb4⟩,tu_,O⟩
     .have hs4:k<out.length->a28 y (fiE L d.k x.2.pkg d.name)=false:=λhh=>by simpa[hh]using h4
      refine j8 ?_;refine a9t ?_;refine cW 12 ?_;refine a3s ?_;refine hY (a0W O J O a1X O O) ?_;refine b3G ?_;refine d0S ?_;refine O1 O O J O e2T ?_;refine O1 O O J O e1l ?_;refine O1 O O J O c9m ?_;refine O1 O O J O (λhg=>b05 O hg hg (xs:=[.string (str y.p),.string (str y.o),.int .i64 y.k,.string (str y.pl),.int .i64 y.ix,.int .i64 y.ct]) (ys:=[.string (str (fiE L d.k x.2.pkg d.name).p),.string (str (fiE L d.k x.2.pkg d.name).o),.int .i64 (fiE L d.k x.2.pkg d.name).k,.string (str (fiE L d.k x.2.pkg d.name).pl),.int .i64 (fiE L d.k x.2.pkg d.name).ix,.int .i64 (fiE L d.k x.2.pkg d.name).ct]) O O Tryz.eqGuardType83 (d8s y (fiE L d.k x.2.pkg d.name))) ?_;refine hY R4 ?_;refine a6g ?_;refine cC ?_ ?_<;>intro h5
      .have h5:k<out.length/\y=(fiE L d.k x.2.pkg d.name):=D h5;have jd:a01 out (fiE L d.k x.2.pkg d.name)=out:=e0V hB (by rw[hy h5.1,h5.2]) (by have:=hs4 h5.1;rwa[h5.2]at this);refine j8 ?_;refine a8F ?_;exact⟨(out,j+1),[0,1,2,3,4],⟨do_,do_,(by dsimp only;rw[cJ];exact jd.symm),do_⟩,⟨O,O⟩,⟨V5,V5,V5,V5,V5,V5,V5,V5,V5,J⟩,⟨.inr ⟨_,O,.box ⟨.old a0u,J⟩⟩,.inr ⟨_,O,.box ⟨.old N4,.old (a1k _ _ _),J⟩⟩,.inl O,.inr ⟨_,O,.box ⟨.old (.val _),.old N4,.old (P1 _ _ _),J⟩⟩,.inr ⟨_,O,.same (c4y ee).symm (b6m _ _)⟩,J⟩⟩
      .have hNn:(out.take k++(fiE L d.k x.2.pkg d.name)::out.drop k).length=out.length+1:=by simp;omega
       have fG:(out.take k++(fiE L d.k x.2.pkg d.name)::out.drop k)≠[]:=by simp
       have jd:a01 out (fiE L d.k x.2.pkg d.name)=(out.take k++(fiE L d.k x.2.pkg d.name)::out.drop k):=d4E hB λz hz=>by
        have hlt5:=(n_2.1 hz).1;have hzy:y=z:=by rw[hy hlt5]at hz;injection hz
        subst hzy;exact⟨hs4 hlt5,λe=>by simp[hlt5,e]at h5⟩
       have hNl:(out.take k++(fiE L d.k x.2.pkg d.name)::out.drop k).length<=100000*i+(j+1):=by rw[hNn];omega
       obtain⟨z,hz⟩:∃z,(out++[(fiE L d.k x.2.pkg d.name)])[k]?=some z:=⟨(out++[(fiE L d.k x.2.pkg d.name)])[k]'H6,U⟩;have hrx:(J7 ((out++[(fiE L d.k x.2.pkg d.name)]).map En.cells) (0+(k+1)) ((((out++[(fiE L d.k x.2.pkg d.name)]).map En.cells).drop (0+k)).take (out.length+1- (k+1))))[0+(k:Int).toNat]?=some (En.cells z):=by
        rw[show 0+(k:Int).toNat=k by omega,O7,O7,show out.length+1- (k+1)=out.length -k by omega,a3M,a8C,List.map_nil,c6x (D hk)];have:((out++[(fiE L d.k x.2.pkg d.name)]).map En.cells)[k]?=some (En.cells z):=by rw[O2,hz];rfl
        simpa using this
       have aF:(J7 ((out++[(fiE L d.k x.2.pkg d.name)]).map En.cells) (0+(k+1)) ((((out++[(fiE L d.k x.2.pkg d.name)]).map En.cells).drop (0+k)).take (out.length+1- (k+1)))).set (0+(k:Int).toNat) (En.cells (fiE L d.k x.2.pkg d.name))=(out.take k++(fiE L d.k x.2.pkg d.name)::out.drop k).map En.cells:=by
        rw[show 0+(k:Int).toNat=k by omega,O7,O7,show out.length+1- (k+1)=out.length -k by omega];have:=c2p (l:=out.map En.cells) (z:=En.cells (fiE L d.k x.2.pkg d.name)) (y:=En.cells (fiE L d.k x.2.pkg d.name)) (i:=k) (D hk);simpa using this
       refine b3J ?_;refine cY a1A ?_;refine cY e1p ?_;refine cD (a9X ((out++[(fiE L d.k x.2.pkg d.name)]).map En.cells) (out.length+1) O J J O q_3 a1X t_6 c4G a1q O O U U (by have hb:Tryz.t83.bytes=72:=O;rw[hb];first|omega|(simp;done)|(simp;omega)) G6 U U ?_);refine b4x ?_;refine cW 7 ?_;refine a3s ?_;refine hY o7 ?_;refine hY (O8 (l:=(k+1)) O J O a1X t_6 O a18 O a1U U) ?_;refine a3s ?_;refine hY (O8 (l:=k) O J O a1X t_6 O a18 O a1U U) ?_;refine a29 ?_;refine cD (b33 O J J O O a1X t_6 O G H6 H6 ?_);refine p7 ?_;refine a9A ?_;refine d8U ?_;refine cD (N5 ((out.take k++(fiE L d.k x.2.pkg d.name)::out.drop k).map En.cells) O J J O j2 t_6 j4 O hrx O (nb O) (by exact aF) O ?_);refine b46 ?_;exact⟨((out.take k++(fiE L d.k x.2.pkg d.name)::out.drop k),j+1),[0,1,2,3,7],⟨do_,do_,(by dsimp only;rw[cJ];exact jd.symm),hNl⟩,⟨O,O⟩,⟨V5,V5,V5,V5,V5,V5,V5,V5,V5,J⟩,⟨.inr ⟨_,O,.box ⟨.old a0u,J⟩⟩,.inr ⟨_,O,.box ⟨.old N4,.old (a1k _ _ _),J⟩⟩,.inl O,.inr ⟨_,O,.box ⟨.old (.val _),.old N4,.old (P1 _ _ _),J⟩⟩,.inr ⟨_,O,.same (c4y fG).symm (b6m _ _)⟩,J⟩⟩
   .have bS:j=x.2.decls.length:=sm_ h3;have hP2:out=((L.take (i+1)).flatMap (deE L)).foldl a01 []:=by
     rw[Z2,hb,List.flatMap_append,hP,bS,U2 (n_6 _)];simp[deE]
    refine j8 ?_;refine a8F ?_;exact⟨(out,i+1),[0,1,4],⟨do_,do_,hP2,do_⟩,⟨O,O⟩,q_0,⟨.inr ⟨_,O,.box ⟨.old a0u,J⟩⟩,.inr ⟨_,O,.box ⟨.old N4,.old (a1k _ _ _),J⟩⟩,.inr ⟨_,O,.same O (b6m _ _)⟩,J⟩⟩
  .have bo:i=L.length:=sm_ h2;refine b34 ?_;exact⟨_,b2R O J O,⟨out,.ret (d9t (q:=2) out (n_5 _) O),λ_=>⟨by rw[hP,bo,U2 (n_6 _)];rfl,G⟩⟩⟩
theorem d6I(l:List Fi)(nn:Bool)(hl:l.length<=1000000)(hp:∀f∈l,f.p.length<=1000000000)(dw:∀q b,E9 l q=some b->b.length<=1000000000)(hd:C7 l=0->∀f∈l,E9 l f.p=some f.b)(hLD:C7 l=0->(B8 l).length<=1000/\∀x∈B8 l,x.2.decls.length<=100000)(σ:List b9):b8 CC 37 [.agg (A0 l nn)] σ λr τ=>∃out:List En,r= .ret (.list (out.map En.cells) (gnn out.length) none)/\τ=σ/\(C7 l=0->out=c2c (B8 l)/\out.length<=100000000):=
 D8 (α:=List En) (res:=λout=>.ret (.list (out.map En.cells) (gnn out.length) none)) hCC (λc h=>by simp at h;subst h;exact o0 ⟨D9 _ _,J⟩) (d1j l nn hl hp dw hd hLD) (λ_ _=>T8 _ _) σ
end Go.Proofs.YtncmhkpnclafkaaGreatDoor
namespace Go.Proofs
open Go.Shelf
def Tryz.sortKey_ren:Go.Shelf.Ren:=⟨λ|6=>114|15=>168|14=>167|28=>216|29=>217|20=>208|21=>209|22=>210|23=>211|24=>212|25=>213|26=>214|27=>215|46=>257|47=>258|48=>259|49=>260|50=>261|57=>298|n=>n,λ|22=>29|24=>49|25=>179|3=>3|39=>221|0=>0|53=>253|55=>55|4=>4|46=>247|45=>246|50=>188|5=>5|9=>9|66=>282|70=>286|76=>312|77=>313|n=>n,λ|n=>n⟩
theorem Tryz.sortKey:Go.Proofs.SlLaysF0.n6 Tryz.prog Tryz.sortKey_ren:={
 mixed:=by kernel_rfl
 f6:=⟨Tryz.f114.name,H,Tryz.func114.trans (n_7 some o9)⟩
 f14:=⟨Tryz.f167.name,H,Tryz.func167.trans (n_7 some o9)⟩
 f15:=d2P.trans (n_7 some o9)
 f20:=⟨Tryz.f208.name,H,Tryz.func208.trans (n_7 some o9)⟩
 f21:=⟨Tryz.f209.name,H,Tryz.func209.trans (n_7 some o9)⟩
 f22:=⟨Tryz.f210.name,H,Tryz.func210.trans (n_7 some o9)⟩
 f23:=⟨Tryz.f211.name,H,Tryz.func211.trans (n_7 some o9)⟩
 f24:=⟨Tryz.f212.name,H,Tryz.func212.trans (n_7 some o9)⟩
 f25:=⟨Tryz.f213.name,H,Tryz.func213.trans (n_7 some o9)⟩
 f26:=⟨Tryz.f214.name,H,Tryz.func214.trans (n_7 some o9)⟩
 f27:=⟨Tryz.f215.name,H,Tryz.func215.trans (n_7 some o9)⟩
 f28:=d0l.trans (n_7 some o9)
 f29:=c3H.trans (n_7 some o9)
 f46:=⟨Tryz.f257.name,H,Tryz.func257.trans (n_7 some o9)⟩
 f47:=d2J.trans (n_7 some o9)
 f48:=c8S.trans (n_7 some o9)
 f49:=⟨Tryz.f260.name,H,Tryz.func260.trans (n_7 some o9)⟩
 f50:=⟨Tryz.f261.name,H,Tryz.func261.trans (n_7 some o9)⟩
 f57:=⟨Tryz.f298.name,H,Tryz.func298.trans (n_7 some o9)⟩
 t0:=c4S
 a0:=c4B
 z0:=c3C
 v0:=c5b
 t3:=b8t
 a3:=a2u
 z3:=t_1
 v3:=t_7
 t4:=c2D
 a4:=b9G
 z4:=b8a
 v4:=c0b
 t5:=c2L
 a5:=c2H
 z5:=a2U
 v5:=a59
 t9:=c4I
 a9:=t_8
 z9:=t_0
 v9:=t_3
 t22:=Tryz.underlying29
 a22:=c0s
 z22:=c5j
 v22:=Tryz.zeroValue29
 t25:=Tryz.underlying179
 a25:=Tryz.isAgg179
 z25:=Tryz.sizeOf179
 v25:=Tryz.zeroValue179
 t39:=c2P
 a39:=c2T
 z39:=c2z
 v39:=c5r
 t45:=c89
 a45:=d0u
 z45:=d3p
 v45:=c9M
 t46:=d0q
 a46:=c9L
 z46:=c70
 v46:=d1u
 t50:=c9y
 a50:=d2f
 z50:=d3F
 v50:=c9K
 t53:=c3F
 a53:=c2Z
 z53:=c3B
 v53:=c5l
 t55:=c4b
 a55:=c3X
 z55:=c2x
 v55:=c3e
 t66:=c9j
 a66:=d0A
 z66:=c9g
 v66:=c8k
 t70:=d2K
 a70:=c8B
 z70:=d3H
 v70:=c8Z
 t76:=c8N
 a76:=d0d
 z76:=d0w
 v76:=d0G
 t77:=d0V
 a77:=d3S
 z77:=c8A
 v77:=c94}
end Go.Proofs
namespace Go.Proofs.YtncmhkpnclafkaaGreatDoor
open Go Go.Cl
variable{x y:Ky}
instance:Inhabited Ky:=⟨⟨0,[],[]⟩⟩
abbrev d4i(x:Ky):List Value:=[.int .i64 x.k,.string (str x.a),.string (str x.b)]
theorem b6d{a b:I}:Op.bytesLess a b=true↔Go.Lib.compareBytes a b= -1:=by rw[d2N];simp
theorem b2N{a b c:I}(h:Go.Lib.compareBytes a b= -1)(k:Go.Lib.compareBytes b c= -1):Go.Lib.compareBytes a c= -1:=b6d.1 (a7k (b6d.2 h) (b6d.2 k))
theorem b49{a b:Int}:V6 a b= -1↔a<b:=by unfold V6;split<;>(try split)<;>omega
theorem d5Z:Z8 x y= -1↔x.k <y.k\/(x.k=y.k/\(Go.Lib.compareBytes x.a y.a = -1\/(x.a=y.a/\Go.Lib.compareBytes x.b y.b = -1))):=by
 unfold Z8;by_cases h1:V6 x.k y.k=0
 .have e1:=(b0B _ _).1 h1;rw[W (by simp[h1])];by_cases h2:Go.Lib.compareBytes x.a y.a=0
  .have e2:=(b31 _ _).1 h2;rw[W (by simp[h2])];constructor
   .intro h;exact .inr ⟨e1,.inr ⟨e2,h⟩⟩
   .rintro (h|⟨-,h|⟨-,h⟩⟩)
    .omega
    .omega
    .exact h
  .rw [Q h2];constructor
   .intro h;exact .inr ⟨e1,.inl h⟩
   .rintro (h|⟨-,h|⟨h,-⟩⟩)
    .omega
    .exact h
    .exact absurd ((b31 _ _).2 h) h2
 .rw [Q h1,b49];constructor
  .intro h;exact .inl h
  .rintro (h|⟨h,-⟩)
   .exact h
   .exact absurd ((b0B _ _).2 h) h1
theorem c07{z:Ky}(h:Z8 x y= -1)(k:Z8 y z= -1):Z8 x z= -1:=by
 rw[d5Z]at*
 rcases h with h|⟨h1,h|⟨h2,h⟩⟩<;>rcases k with k|⟨k1,k|⟨k2,k⟩⟩
 .exact .inl G
 .exact .inl G
 .exact .inl G
 .exact .inl G
 .exact .inr ⟨G,.inl (b2N h k)⟩
 .exact .inr ⟨G,.inl (k2▸h)⟩
 .exact .inl G
 .exact .inr ⟨G,.inl (h2▸k)⟩
 .exact .inr ⟨G,.inr ⟨h2.trans k2,b2N h k⟩⟩
theorem a5u(x y:Ky):Go.Proofs.ltOf Z8 x y=ltK x y:=by
 unfold Go.Proofs.ltOf ltK
 rcases b0Q x y with h|h|h<;>simp[h]
theorem a3o{z:Ky}(h:ltK x y=true)(k:ltK y z=true):ltK x z=true:=by
 simp only[ltK,a2t]at*;exact c07 h k
theorem a8f(h:ltK x y=false)(k:ltK y x=false):x=y:=by
 rw[d2z]at k;simp only[ltK,b1d]at h k
 rcases b0Q x y with e|e|e
 .exact absurd e h
 .exact (b6l x y).1 e
 .exact absurd e k
theorem a8j(x:Ky):ltK x x=false:=by simp[ltK,(b6l x x).2 O]
theorem d8Y:Go.Sort.SWO (Go.Proofs.ltOf Z8) where
 irrefl x:=by rw[a5u];exact a8j x
 trans x y z h k:=by rw[a5u]at*;exact a3o h k
 ntrans x y z h k:=by
  rw[a5u]at*;cases h2:ltK x z
  .rfl
  .cases h3:ltK y x
   .have:=a8f h h3;subst this;exact h2.symm.trans k
   .exact (a3o h3 h2).symm.trans k
theorem b4P:∀g cells,CC.glob g=some cells->∀c∈cells,∃v,c=CV.val v:=λg cells h c hc=>by
 have:cells=c1M:=by
  simp only[CC]at h;split at h
  .exact (Option.some.inj h).symm
  .cases h
 subst this;obtain⟨z,_,rfl⟩:=D6.1 hc;exact⟨_,O⟩
theorem b9o{σ:List b9}{k:Nat}{l:List Ky}(ax:l≠[])(aj:l.length<=100000000)(hk:σ[k]?=some (.vec 3 (l.map Ky.cv))):b8 CC 114 [.vec k 0 l.length,.val (.func (.func 115) #[] #[])] σ λr τ=>∃_:Unit,r= .ret (.tup [])/\τ=σ.set k (.vec 3 ((a8U Z8 l).map Ky.cv))/\True:=
 (b4h (C:=CC) (f:=114) (g:=115) (enc:=d4i) (s:=3) (cf:=Z8) G Y1 (λx v hv=>by simp[d4i]at hv;rcases hv with rfl|rfl|rfl<;>rfl)
  (λblk off cap d w h1 h2 h3 h4=>Go.Proofs.AnyQ.slices_SortFunc_total Tryz.sortKey 3 b5S t_9 d4i Y1 (λx v hv=>by simp[d4i]at hv;rcases hv with rfl|rfl|rfl<;>rfl) Z8 d8Y 115 #[] blk off cap d w Tryz.call115 h1 h2 h3 h4 (λx y e1 e2=>by rw[a5u]at e1 e2;exact a8f e1 e2))
  (λx y=>c1N x y) b4P ax G hk).mono λr τ h=>⟨(),h.1,h.2,J⟩
end Go.Proofs.YtncmhkpnclafkaaGreatDoor
namespace Go.Proofs
open Go.Shelf
def Tryz.sortEn_ren:Go.Shelf.Ren:=⟨λ|6=>145|15=>168|14=>190|28=>216|29=>217|20=>241|21=>242|22=>243|23=>244|24=>245|25=>246|26=>247|27=>248|46=>293|47=>258|48=>259|49=>294|50=>295|57=>321|n=>n,λ|22=>80|24=>83|25=>201|3=>3|39=>221|0=>0|53=>253|55=>55|4=>4|46=>247|45=>246|50=>188|5=>5|9=>9|66=>282|70=>286|76=>312|77=>313|n=>n,λ|n=>n⟩
theorem Tryz.sortEn:Go.Proofs.SlLaysF0.n6 Tryz.prog Tryz.sortEn_ren:={
 mixed:=by kernel_rfl
 f6:=⟨Tryz.f145.name,H,Tryz.func145.trans (n_7 some o9)⟩
 f14:=⟨Tryz.f190.name,H,Tryz.func190.trans (n_7 some o9)⟩
 f15:=d2P.trans (n_7 some o9)
 f20:=⟨Tryz.f241.name,H,Tryz.func241.trans (n_7 some o9)⟩
 f21:=⟨Tryz.f242.name,H,Tryz.func242.trans (n_7 some o9)⟩
 f22:=⟨Tryz.f243.name,H,Tryz.func243.trans (n_7 some o9)⟩
 f23:=⟨Tryz.f244.name,H,Tryz.func244.trans (n_7 some o9)⟩
 f24:=⟨Tryz.f245.name,H,Tryz.func245.trans (n_7 some o9)⟩
 f25:=⟨Tryz.f246.name,H,Tryz.func246.trans (n_7 some o9)⟩
 f26:=⟨Tryz.f247.name,H,Tryz.func247.trans (n_7 some o9)⟩
 f27:=⟨Tryz.f248.name,H,Tryz.func248.trans (n_7 some o9)⟩
 f28:=d0l.trans (n_7 some o9)
 f29:=c3H.trans (n_7 some o9)
 f46:=⟨Tryz.f293.name,H,Tryz.func293.trans (n_7 some o9)⟩
 f47:=d2J.trans (n_7 some o9)
 f48:=c8S.trans (n_7 some o9)
 f49:=⟨Tryz.f294.name,H,Tryz.func294.trans (n_7 some o9)⟩
 f50:=⟨Tryz.f295.name,H,Tryz.func295.trans (n_7 some o9)⟩
 f57:=⟨Tryz.f321.name,H,Tryz.func321.trans (n_7 some o9)⟩
 t0:=c4S
 a0:=c4B
 z0:=c3C
 v0:=c5b
 t3:=b8t
 a3:=a2u
 z3:=t_1
 v3:=t_7
 t4:=c2D
 a4:=b9G
 z4:=b8a
 v4:=c0b
 t5:=c2L
 a5:=c2H
 z5:=a2U
 v5:=a59
 t9:=c4I
 a9:=t_8
 z9:=t_0
 v9:=t_3
 t22:=Tryz.underlying80
 a22:=d3t
 z22:=c3k
 v22:=Tryz.zeroValue80
 t25:=Tryz.underlying201
 a25:=Tryz.isAgg201
 z25:=Tryz.sizeOf201
 v25:=Tryz.zeroValue201
 t39:=c2P
 a39:=c2T
 z39:=c2z
 v39:=c5r
 t45:=c89
 a45:=d0u
 z45:=d3p
 v45:=c9M
 t46:=d0q
 a46:=c9L
 z46:=c70
 v46:=d1u
 t50:=c9y
 a50:=d2f
 z50:=d3F
 v50:=c9K
 t53:=c3F
 a53:=c2Z
 z53:=c3B
 v53:=c5l
 t55:=c4b
 a55:=c3X
 z55:=c2x
 v55:=c3e
 t66:=c9j
 a66:=d0A
 z66:=c9g
 v66:=c8k
 t70:=d2K
 a70:=c8B
 z70:=d3H
 v70:=c8Z
 t76:=c8N
 a76:=d0d
 z76:=d0w
 v76:=d0G
 t77:=d0V
 a77:=d3S
 z77:=c8A
 v77:=c94}
end Go.Proofs
namespace Go.Proofs.YtncmhkpnclafkaaGreatDoor
open Go Go.Cl
variable{α γ:Type}{me:EM}{c:α->α->Int}{pkg:I}{x:En}{ms:SM}{fl:List Fi}
structure TWc{α:Type}(c:α->α->Int):Prop where
 eq:∀x y,c x y=0↔x=y
 anti:∀x y,c y x= -c x y
 tr:∀x y z,c x y= -1->c y z= -1->c x z= -1
 val:∀x y,c x y= -1\/c x y=0\/c x y=1
def lxC{α β:Type}(c:α->α->Int)(d:β->β->Int)(x y:α×β):Int:=if c x.1 y.1≠0 then c x.1 y.1 else d x.2 y.2
theorem TWc.lex{β:Type}{d:β->β->Int}(h:TWc c)(k:TWc d):TWc (lxC c d) where
 eq x y:=by
  unfold lxC;by_cases h0:c x.1 y.1=0
  .rw [W (by simp[h0]),k.eq];have:=(h.eq _ _).1 h0;constructor
   .intro e;exact Prod.ext this e
   .intro e;rw[e]
  .rw [Q h0];exact⟨λe=>absurd e h0,λe=>absurd ((h.eq _ _).2 (by rw[e])) h0⟩
 anti x y:=by
  unfold lxC;have:=h.anti x.1 y.1;by_cases h0:c x.1 y.1=0
  .rw [W H6,W (by simp[h0])];exact k.anti _ _
  .rw [Q G,Q h0];exact this
 tr x y z h1 h2:=by
  unfold lxC at*;by_cases a:c x.1 y.1=0
  .rw [W (by simp[a])]at h1;rw[(h.eq _ _).1 a];by_cases b:c y.1 z.1=0
   .rw [W (by simp[b])]at h2⊢;exact k.tr _ _ _ h1 h2
   .rw [Q b]at h2⊢;exact h2
  .rw [Q a]at h1;by_cases b:c y.1 z.1=0
   .rw [<- (h.eq _ _).1 b,Q a];exact h1
   .rw [Q b]at h2;have:=h.tr _ _ _ h1 h2;rw[Q G];exact this
 val x y:=by
  unfold lxC
  split
  .exact h.val _ _
  .exact k.val _ _
theorem c0d:TWc V6 where
 eq:=b0B
 anti x y:=by unfold V6;split<;>split<;>(try split)<;>(try omega)
 tr x y z h k:=by rw[b49]at*;omega
 val x y:=by unfold V6;split<;>(try split)<;>simp
theorem b6a:TWc Go.Lib.compareBytes where
 eq:=b31
 anti:=b0w
 tr _ _ _ h k:=b2N h k
 val:=b6J
theorem TWc.swo(h:TWc c)(f:γ->α):Go.Sort.SWO (Go.Proofs.ltOf λx y=>c (f x) (f y)):=by
 have e:∀x y:γ,(Go.Proofs.ltOf λx y=>c (f x) (f y)) x y=decide (c (f x) (f y)= -1):=λx y=>by
  unfold Go.Proofs.ltOf
  rcases h.val (f x) (f y)with h|h|h<;>simp[h]
 refine⟨λx=>?_,λx y z h1 h2=>?_,λx y z h1 h2=>?_⟩
 .rw [e,(h.eq _ _).2 O];rfl
 .rw [e]at*;simp only[a2t]at*;exact h.tr _ _ _ h1 h2
 .rw [e]at*;simp only[b1d]at*;have a1:=h.anti (f x) (f z)
  rcases h.val (f x) (f y)with b|b|b
  .exact absurd b h1
  .rw [(h.eq _ _).1 b];exact h2
  .rcases h.val (f y) (f z)with d|d|d
   .exact absurd d h2
   .rw [<- (h.eq _ _).1 d];omega
   .intro e;have b':c (f y) (f x)= -1:=by have:=h.anti (f x) (f y);omega
    exact absurd (h.tr _ _ _ b' e) G
theorem TWc.tot(h:TWc c)(f:γ->α){x y:γ}(h1:(Go.Proofs.ltOf λx y=>c (f x) (f y)) x y=false)(h2:(Go.Proofs.ltOf λx y=>c (f x) (f y)) y x=false):f x=f y:=by
 unfold Go.Proofs.ltOf at h1 h2;simp only[b1d]at h1 h2;have:=h.anti (f x) (f y);exact(h.eq _ _).1 G
theorem TWc.srt(h:TWc c)(f:γ->α)(l:List γ):(a8U (λx y=>c (f x) (f y)) l).Pairwise λx y=>c (f y) (f x)≠-1:=by
 have sw:=h.swo f;refine List.Pairwise.imp (R:=λx y=>(!(Go.Proofs.ltOf λx y=>c (f x) (f y)) y x)=true) (λ{x y} fq e=>?_) (c37 (λx y z h1 h2=>?_) (λx y=>?_) l)
 .simp [Go.Proofs.ltOf,e]at fq
 .simp only[b9E]at*;exact sw.ntrans _ _ _ h2 h1
 .cases e1:(Go.Proofs.ltOf λx y=>c (f x) (f y)) y x with
  |false=>rfl
  |true=>
   cases e2:(Go.Proofs.ltOf λx y=>c (f x) (f y)) x y with
   |false=>rfl
   |true=>
    have:=sw.trans _ _ _ e1 e2;rw[sw.irrefl]at this;cases this
abbrev Plc:=Int×I×Int×I
def plE(x:En):Plc:=(if x.k=3 then 1 else 0,if x.k=3 then []else x.p,x.k,x.o)
def a2s:Plc->Plc->Int:=lxC V6 (lxC Go.Lib.compareBytes (lxC V6 Go.Lib.compareBytes))
theorem b2M:TWc a2s:=c0d.lex (b6a.lex (c0d.lex b6a))
abbrev c8L(x:En):List Value:=[.string (str x.p),.string (str x.o),.int .i64 x.k,.string (str x.pl),.int .i64 x.ix,.int .i64 x.ct]
theorem c5C{g:FuncId}(hg:∀args w,(callFunc g args).run CC.P w= .ok (.enter g args) w)(hc:∀x y:En,b8 CC g [.agg x.cells,.agg y.cells] [] λr τ=>r= .ret (iv (a2s (plE x) (plE y)))/\τ=[]){l:List En}(ax:l≠[])(aj:l.length<=100000000)(hd:∀x∈l,∀y∈l,plE x=plE y->x=y){σ:List b9}{k:Nat}(hk:σ[k]?=some (.vec 6 (l.map En.cells))):
 b8 CC 145 [.vec k 0 l.length,.val (.func (.func g) #[] #[])] σ λr τ=>∃m:List En,r= .ret (.tup [])/\τ=σ.set k (.vec 6 (m.map En.cells))/\m.Perm l/\m.Pairwise λx y=>a2s (plE y) (plE x)≠-1:=by
 haveI:Inhabited {x // x∈l}:=⟨⟨l.head ax,List.head_mem ax⟩⟩
 have hmap:∀m:List {x // x∈l},(m.map λx=>(c8L x.1).map CV.val)=(m.map Subtype.val).map En.cells:=λm=>by rw[List.map_map];rfl
 have ha:(l.attach.map Subtype.val)=l:=by simp
 have h:=b4h (C:=CC) (f:=145) (g:=g) (enc:=λx:{x // x∈l}=>c8L x.1) (s:=6) (cf:=λx y=>a2s (plE x.1) (plE y.1)) G Y1 (λx v hv=>by simp[c8L]at hv;rcases hv with rfl|rfl|rfl|rfl|rfl|rfl<;>rfl)
  (λblk off cap d w h1 h2 h3 h4=>Go.Proofs.AnyQ.slices_SortFunc_total Tryz.sortEn 6 b1x t_6 (λx:{x // x∈l}=>c8L x.1) Y1 (λx v hv=>by simp[c8L]at hv;rcases hv with rfl|rfl|rfl|rfl|rfl|rfl<;>rfl) _ (b2M.swo λx:{x // x∈l}=>plE x.1) g #[] blk off cap d w hg h1 h2 h3 h4 (λx y e1 e2=>Subtype.ext (hd x.1 x.2 y.1 y.2 (b2M.tot (λx:{x // x∈l}=>plE x.1) e1 e2))))
  (λx y=>hc x.1 y.1) b4P (l:=l.attach) (D ax) H6 (by rw[hmap,ha];exact hk)
 rw[List.length_attach]at h;refine h.mono λr τ ⟨h1,h2⟩=>⟨(a8U (λx y:{x // x∈l}=>a2s (plE x.1) (plE y.1)) l.attach).map Subtype.val,h1,by rw[h2,hmap],?_,?_⟩
 .have hp:=(b3U l.attach λx y=>!(Go.Proofs.ltOf λx y:{x // x∈l}=>a2s (plE x.1) (plE y.1)) y x).map Subtype.val;rw[ha]at hp;exact hp
 .rw [b3M];exact b2M.srt (λx:{x // x∈l}=>plE x.1) l.attach
theorem c1z{g:FuncId}(nn:Bool)(σ:List b9):b8 CC 145 [.list [] nn none,.val (.func (.func g) #[] #[])] σ λr τ=>r= .ret (.tup [])/\τ=σ:=λM w vs hr hn hx=>by
 have hs:vs.size=2:=hn;obtain⟨v,v2,rfl⟩:∃v v2,vs= #[v,v2]:=⟨vs[0]'G,vs[1]'G,Array.ext (by simp[hs]) λi h1 h2=>by
  have:i=0\/i=1:=by omega
  rcases this with rfl|rfl<;>simp⟩
 have h0:RV M w (.list [] nn none) v:=hx 0 _ O;cases h0 with
 |list vals g1 g2 g3 g4 g5 g6 g7 g8 g9 g10=>
  refine(Go.Proofs.AnyF.slices_SortFunc_none Tryz.sortEn _ _ v2 w).mono λe w' ⟨he,hw⟩=>?_;subst he hw;exact⟨_,_,M,Ext.refl M w',hr,.tup O (λi c h=>by simp at h),O,O⟩
theorem b94{α β:Type} [DecidableEq α]{a:α}{c:β}:∀{l:List (α×β)},(L5 l a c).map Prod.fst=if a∈l.map Prod.fst then l.map Prod.fst else l.map Prod.fst++[a]
 | []=>by simp[L5]
 |(b,d)::l=>by
  rw[L5];by_cases h:a=b
  .subst h;simp
  .rw [W h,a8C,b94 (l:=l)];by_cases h2:a∈l.map Prod.fst
   .rw [Q h2,Q (by rw[a8C];exact a13 _ h2)];rfl
   .rw [W h2,W (by rw[a8C,J2];exact λe=>e.elim h h2)];rfl
theorem d4F{β:Type} [DecidableEq α]{a:α}{c:β}{l:List (α×β)}(h:(l.map Prod.fst).Nodup):((L5 l a c).map Prod.fst).Nodup:=by
 rw[b94]
 split
 .exact h
 .rename_i hn;exact c4Q.2 ⟨h,U,λx hx y hy=>by rw[a2T.1 hy];exact λe=>hn (e▸hx)⟩
theorem b6j{α β:Type} [DecidableEq α]{a:α}{c:β}:∀{l:List (α×β)},(l.map Prod.fst).Nodup->(a,c)∈l->glk l a=some c
 | [],_,h=>by cases h
 |(b,d)::l,hn,h=>by
  rw[a8C,List.nodup_cons]at hn;rw[glk]
  rcases J2.1 h with h|h
  .injection h with h1 h2;rw[Q h1,h2]
  .rw [W]
   .exact b6j hn.2 h
   .intro e;exact hn.1 (e▸D6.2 ⟨_,h,O⟩)
structure a6c(me:EM):Prop where
 nd:(me.map Prod.fst).Nodup
 key:∀q e,(q,e)∈me->q=C0 e.k e.p e.o
theorem a6c.add(h:a6c me)(x:En):a6c (a0l me x):=by
 refine⟨d4F h.nd,λq e he=>?_⟩
 rcases a7m he with h1|h1
 .injection h1 with h1 h2
  subst h1 h2;cases hg:glk me (C0 x.k x.p x.o)with
  |none=>rfl
  |some f=>exact(h.key _ f (b2A hg):C0 x.k x.p x.o=C0 f.k f.p f.o)
 .exact h.key q e h1
theorem a6c.adds{path:I}:∀{l:List De} {k:Nat} {me:EM},a6c me->a6c (addDs me path pkg l k)
 | [],_,_,h=>h
 |_::l,k,_,h=>a6c.adds (l:=l) (k:=k+1) (h.add _)
theorem a6c.steps:∀{l:List Fi} {s:WS},a6c s.2.2->a6c (a4I l s).2.2
 | [],_,h=>h
 |f::l,s,h=>by
  refine a6c.steps (l:=l) (s:=S5 s f) ?_;unfold S5
  split
  .split
   .exact h
   .exact h.adds
  .exact h
theorem b5w(fl:List Fi):a6c (A6 fl).2.2:=by
 unfold A6
 split
 .exact a6c.steps ⟨U,λq e h=>by cases h⟩
 .exact ⟨U,λq e h=>by cases h⟩
theorem e04{y:En}(h:plE x=plE y):C0 x.k x.p x.o=C0 y.k y.p y.o:=by
 unfold plE at h;injection h with _ h
 injection h with h1 h
 injection h with h2 h3
 unfold C0;rw[h1,h2,h3]
theorem a6c.inj(h:a6c me){y:En}(hx:x∈me.map Prod.snd)(hy:y∈me.map Prod.snd)(he:plE x=plE y):x=y:=by
 obtain⟨⟨q,x⟩,h1,rfl⟩:=D6.1 hx;obtain⟨⟨q',y⟩,h2,rfl⟩:=D6.1 hy;have e1:=h.key _ _ h1;have e2:=h.key _ _ h2;have e3:q=q':=e1.trans ((e04 he).trans e2.symm);subst e3;have:=(b6j h.nd h1).symm.trans (b6j h.nd h2);injection this
def tsB(x:En):Bool:=x.k == 2&&x.ct == 1
def tsL(m:List En):List (I×I):=(m.filter tsB).map λx=>(x.p,x.o)
def c7b:I×I->I×I->Int:=lxC Go.Lib.compareBytes Go.Lib.compareBytes
theorem e2z:TWc c7b:=b6a.lex b6a
structure TsP(me:EM)(out:List (I×I)):Prop where
 mem:∀x,x∈out↔(B3 true me 2 x.1 x.2).ct=1
 srt:out.Pairwise λx y=>c7b x y= -1
theorem TsP.uniq{a b:List (I×I)}(ha:TsP me a)(hb:TsP me b):a=b:=by
 have nd:∀{l:List (I×I)},(l.Pairwise λx y=>c7b x y= -1)->l.Nodup:=λhl=>hl.imp λ{x y} fq e=>by
  rw[(e2z.eq x y).2 e]at fq;cases fq
 refine List.Perm.eq_of_pairwise (le:=λx y=>c7b x y= -1) (λx y _ _ h1 h2=>?_) ha.srt hb.srt ((d2O (nd ha.srt) (nd hb.srt)).2 λx=>(ha.mem x).trans (hb.mem x).symm);have:=e2z.anti x y;omega
theorem a4f{P:α->Prop}{R:α->α->Prop}{l:List α}(hp:∀x∈l,P x)(h:l.Pairwise R):l.Pairwise λx y=>P x/\P y/\R x y:=by
 induction l with
 |nil=>exact .nil
 |cons x l ih=>
  rw[a1D]at h⊢;exact⟨λy hy=>⟨hp x b0r,hp y (a13 _ hy),h.1 y hy⟩,ih (λy hy=>hp y (a13 _ hy)) h.2⟩
theorem e1F(h:a6c me){m:List En}(hp:m.Perm (me.map Prod.snd))(hs:m.Pairwise λx y=>a2s (plE y) (plE x)≠-1):TsP me (tsL m):=by
 have hf:∀x∈m.filter tsB,x∈me.map Prod.snd/\x.k=2/\x.ct=1:=λx hx=>by
  obtain⟨h1,h2⟩:=a7e.1 hx;simp only[tsB,T5,beq_iff_eq]at h2;exact⟨hp.mem_iff.1 h1,h2⟩
 have hglk:∀x∈me.map Prod.snd,glk me (C0 x.k x.p x.o)=some x:=λx hx=>by
  obtain⟨⟨q,x⟩,h1,rfl⟩:=D6.1 hx;have:=h.key _ _ h1;subst this;exact b6j h.nd h1
 refine⟨λx=>?_,?_⟩
 .unfold tsL;rw[D6];constructor
  .rintro ⟨e,he,rfl⟩;obtain⟨h1,h2,h3⟩:=hf e he;have hg:=hglk e h1;rw[h2]at hg;unfold B3;rw[Q O,hg];exact h3
  .intro hx;unfold B3 at hx;rw[Q O]at hx;cases hg:glk me (C0 2 x.1 x.2)with
   |none=>rw[hg]at hx;exact absurd (show(0:Int)=1 from hx) H
   |some e=>
    rw[hg]at hx;have hi:=b2A hg;have hk:=h.key _ _ hi;unfold C0 at hk;injection hk with k1 k2 k3
    rw[W H,W (by rw[<- k1];decide)]at k2;refine⟨e,a7e.2 ⟨hp.mem_iff.2 (D6.2 ⟨_,hi,O⟩),?_⟩,by rw[<- k2,<- k3]⟩;simp only[tsB,T5,beq_iff_eq];exact⟨k1.symm,hx⟩
 .unfold tsL;rw[b3M];have cb:m.Nodup:=hp.symm.nodup_iff.1 (by
   refine(c3V.1 h.nd |> λhn=>?_);rw[c3V,b3M];rw[b3M]at hn;refine(a4f (P:=λx=>x∈me) (λx hx=>hx) hn).imp λ{a b} ⟨ha,hb,df⟩ e=>df ?_;rw[h.key a.1 a.2 ha,h.key b.1 b.2 hb,e])
  have dh:=List.Pairwise.and hs (c3V.1 cb);refine(a4f (P:=λx=>x∈m.filter tsB) (λx hx=>hx) (dh.sublist List.filter_sublist)).imp λ{x y} ⟨hx,hy,fq,ax⟩=>?_;obtain⟨x1,x2,x3⟩:=hf x hx;obtain⟨y1,y2,y3⟩:=hf y hy;have hne2:plE x≠plE y:=λe=>ax (h.inj x1 y1 e);have e1:plE x=(0,x.p,2,x.o):=by unfold plE;rw[x2,W H,W H]
  have e2:plE y=(0,y.p,2,y.o):=by unfold plE;rw[y2,W H,W H]
  have c1:a2s (plE x) (plE y)= -1:=by
   have a:=b2M.anti (plE x) (plE y)
   rcases b2M.val (plE x) (plE y)with b|b|b
   .exact b
   .exact absurd ((b2M.eq _ _).1 b) hne2
   .omega
  rw[e1,e2]at c1;have z:∀a:Int,V6 a a=0:=λa=>(c0d.eq a a).2 O;unfold a2s lxC at c1;simp only[z,ne_eq,not_true,if_false]at c1;unfold c7b lxC;exact c1
theorem a9u{c:MC}{s:Src}{d:De}(h:N6 c x=some (s,d)):glk c.ms x.pl=some s/\s.decls[x.ix.toNat]?=some d:=by
 unfold N6 at h;cases hs:glk c.ms x.pl with
 |none=>rw[hs]at h;cases h
 |some s'=>
  rw[hs]at h;cases hd:s'.decls[x.ix.toNat]? with
  |none=>simp[hd]at h
  |some d'=>simp[hd]at h;obtain⟨rfl,rfl⟩:=h;exact⟨O,hd⟩
theorem DeG.ar{d:De}(h:DeG d):∀x∈d.body,a0K d.params.length x.k x.num x.op x.name x.args.length:=λx hx=>by
 obtain⟨t,h1,h2⟩:=h.tree;obtain⟨j,hj⟩:=K5.1 hx;have hl:=(n_2.1 hj).1;rw[h1,Tr.flat_len]at hl;obtain⟨y,z,ch,g⟩:=b6C h2 hl;rw[h1]at hj;obtain rfl:=Option.some.inj (hj.symm.trans g.e);exact g.ok
def b56(l:I)(fs:List Fi):I:=fs.foldl (λl f=>a17 (a17 l f.p) f.b) l
theorem c7n{fs:List Fi}{i:Nat}{y:Fi}(h:fs[i]?=some y)(l:I):b56 l (fs.drop i)=b56 (a17 (a17 l y.p) y.b) (fs.drop (i+1)):=by
 obtain⟨af,rfl⟩:=n_2.1 h;rw[Y0 af];rfl
theorem a3i{l s:I}(hs:s.length<=100000000000):(a17 l s).length<=l.length+s.length+10:=by
 have:=b1D (n:=s.length) (k:=9) G;unfold a17;simp only[n_8];omega
theorem d3c{fs:List Fi}(h:∀f∈fs,f.p.length<=100/\f.b.length<=100000)(l:I):(b56 l fs).length<=l.length+fs.length*101000:=by
 induction fs generalizing l with
 |nil=>simp[b56]
 |cons y fs ih=>
  have h1:=h y U;have h2:=ih (λf hf=>h f (by simp[hf])) (a17 (a17 l y.p) y.b);have h3:=a3i (l:=a17 l y.p) (s:=y.b) G;have h4:=a3i (l:=l) (s:=y.p) G;rw[D3,Q1];simp only[b56,b4Z]at h2⊢;omega
def a1v(ms:SM)(fl:List Fi)(pkg:I):I:=[61]++b56 [] (C1 ms fl pkg)
theorem a32{f:Fi}(h:f∈C1 ms fl pkg):f∈fl:=(a7e.1 h).1
theorem a8H(ms:SM)(fl:List Fi)(pkg:I):(C1 ms fl pkg).length<=fl.length:=b76 _ _
theorem c1l(bK:fl.length<=1000)(ic:∀f∈fl,f.p.length<=100/\f.b.length<=100000):(a1v ms fl pkg).length<=102000000:=by
 have h1:=d3c (λf hf=>ic f (a32 hf)) (fs:=C1 ms fl pkg) [];have h2:=a8H ms fl pkg;have h3:(C1 ms fl pkg).length*101000<=1000*101000:=S7 _ G;unfold a1v;simp only[n_8,D3,K8]at h1⊢;omega
theorem d4V(fl:List Fi)(nn va:Bool)(br:List I)(ms:SM)(me:EM):WAt (wst fl nn va br ms me) 0 1 2 3 fl nn va br ms me:=⟨O,O,O,O,a1s ⟨H,H,H,H,H,H⟩⟩
theorem c6C(fl:List Fi)(nn va:Bool)(br:List I)(ms:SM)(me:EM)(pkg:I)(bK:fl.length<=1000)(ic:∀f∈fl,f.p.length<=100/\f.b.length<=100000):b8 CC 134 [.ptr 0 0,(sv pkg)] (wst fl nn va br ms me) λr τ=>F0 4 τ r (.ret (sv (a1v ms fl pkg))) (wst fl nn va br ms me):=by
 have hffl:=a8H ms fl pkg;refine qO Tryz.func134 ?_;refine qY (c5 O Tryz.call183 i7 (b8F (d4V fl nn va br ms me) pkg G) O) ?_;refine qY a08 ?_;refine o4 hCC (α:=Nat×I) (λx=>[(5,(.list (x.2.map bcv) (gnn x.2.length) none)),(10,(.list ((C1 ms fl pkg).map Fi.cv) (gnn (C1 ms fl pkg).length) none)),(11,(iv ((C1 ms fl pkg).length:Int))),(12,iv x.1)]) (λ_=>(wst fl nn va br ms me)) (λx=>x.1<=(C1 ms fl pkg).length/\x.2.length<=x.1*101000/\b56 [] (C1 ms fl pkg)=b56 x.2 ((C1 ms fl pkg).drop x.1)) (λx=>(C1 ms fl pkg).length -x.1) (0,[]) ⟨n_5 _,n_5 _,O⟩ tu_ (am:=[]) O B5 uz_ ?_;intro⟨i,l⟩ ⟨hi,hl,hr⟩;dsimp only at hi hl hr⊢;refine qk (qC ?_ ?_)<;> intro h1
 .have af:(i:Int)< (C1 ms fl pkg).length:=D h1;obtain⟨y,hb⟩:∃y,(C1 ms fl pkg)[i]?=some y:=⟨(C1 ms fl pkg)[i]'G,U⟩;rw[c7n hb]at hr;obtain⟨fF,hyb⟩:=ic y (a32 (n_3 hb));have gu:=a3i (l:=l) (s:=y.p) G;have cB:=a3i (l:=a17 l y.p) (s:=y.b) G;have cK:i*101000<=1000*101000:=S7 _ G;refine b9y ?_;refine cW 8 ?_;refine hY D2 ?_;refine hY c4t ?_;refine hY M6 ?_;refine hY (c5 O c3n i7 (a1E l _ y.p G G _) O) ?_;refine hY c4t ?_;refine hY M6 ?_;refine hY (c5 O c3n i7 (a1E (a17 l y.p) _ y.b G G _) O) ?_;refine hY a0H ?_;refine a0T ?_;refine qY o7 ?_;exact⟨(i+1,a17 (a17 l y.p) y.b),_,⟨do_,do_,do_,hr⟩,tu_,O⟩
 .have aH:(C1 ms fl pkg).length<=i:=sm_ h1;rw[Y4 aH]at hr;replace hr:b56 [] (C1 ms fl pkg)=l:=hr;have cK:i*101000<=1000*101000:=S7 _ G;refine j8 ?_;refine qY d2G ?_;refine qY (L3 O O J O O (by show 1+l.length<=_;omega)) ?_;refine c6 ?_;exact⟨_,rE1,(by rw[a1v,hr];exact a3q O (.old (.val _)))⟩
theorem b8K{nn va:Bool}{br:List I}{σ:List b9}{w q1 q2 t:Nat}(ao:WAt σ w q1 q2 t fl nn va br ms me)(pkg:I)(bK:fl.length<=1000)(ic:∀f∈fl,f.p.length<=100/\f.b.length<=100000):b8 CC 134 [.ptr w 0,(sv pkg)] σ λr τ=>r= .ret (sv (a1v ms fl pkg))/\τ=σ:=
 b3y (λa h=>by simp at h;subst h;exact .val _) (.val _) (c6C fl nn va br ms me pkg bK ic) ao
end Go.Proofs.YtncmhkpnclafkaaGreatDoor
namespace Go.Proofs
open Go.Shelf
def Tryz.lays190_ren:Go.Shelf.Ren:=⟨λ|190=>185|125=>168|258=>237|128=>216|129=>217|302=>279|303=>280|304=>281|305=>282|306=>283|307=>284|308=>285|309=>286|310=>287|333=>315|329=>258|330=>259|334=>316|335=>317|336=>318|344=>335|n=>n,λ|31=>68|9=>9|3=>3|46=>221|0=>0|51=>253|53=>55|4=>4|183=>247|182=>246|131=>188|5=>5|218=>282|222=>286|228=>312|229=>313|n=>n,λ|n=>n⟩
theorem Tryz.lays190:Go.Proofs.Lays.n190 Tryz.prog Tryz.lays190_ren:={
 mixed:=by kernel_rfl
 f125:=d2P.trans (n_7 some o9)
 f128:=d0l.trans (n_7 some o9)
 f129:=c3H.trans (n_7 some o9)
 f190:=Tryz.func185.trans (n_7 some o9)
 f258:=Tryz.func237.trans (n_7 some o9)
 f302:=Tryz.func279.trans (n_7 some o9)
 f303:=Tryz.func280.trans (n_7 some o9)
 f304:=Tryz.func281.trans (n_7 some o9)
 f305:=Tryz.func282.trans (n_7 some o9)
 f306:=Tryz.func283.trans (n_7 some o9)
 f307:=Tryz.func284.trans (n_7 some o9)
 f308:=Tryz.func285.trans (n_7 some o9)
 f309:=Tryz.func286.trans (n_7 some o9)
 f310:=Tryz.func287.trans (n_7 some o9)
 f329:=d2J.trans (n_7 some o9)
 f330:=c8S.trans (n_7 some o9)
 f333:=Tryz.func315.trans (n_7 some o9)
 f334:=Tryz.func316.trans (n_7 some o9)
 f335:=Tryz.func317.trans (n_7 some o9)
 f336:=Tryz.func318.trans (n_7 some o9)
 f344:=Tryz.func335.trans (n_7 some o9)
 t0:=c4S
 a0:=c4B
 z0:=c3C
 v0:=c5b
 t3:=b8t
 a3:=a2u
 z3:=t_1
 v3:=t_7
 t4:=c2D
 a4:=b9G
 z4:=b8a
 v4:=c0b
 t5:=c2L
 a5:=c2H
 z5:=a2U
 v5:=a59
 t9:=c4I
 a9:=t_8
 z9:=t_0
 v9:=t_3
 t31:=Tryz.underlying68
 a31:=c2n
 z31:=a23
 v31:=Tryz.zeroValue68
 t46:=c2P
 a46:=c2T
 z46:=c2z
 v46:=c5r
 t51:=c3F
 a51:=c2Z
 z51:=c3B
 v51:=c5l
 t53:=c4b
 a53:=c3X
 z53:=c2x
 v53:=c3e
 t131:=c9y
 a131:=d2f
 z131:=d3F
 v131:=c9K
 t182:=c89
 a182:=d0u
 z182:=d3p
 v182:=c9M
 t183:=d0q
 a183:=c9L
 z183:=c70
 v183:=d1u
 t218:=c9j
 a218:=d0A
 z218:=c9g
 v218:=c8k
 t222:=d2K
 a222:=c8B
 z222:=d3H
 v222:=c8Z
 t228:=c8N
 a228:=d0d
 z228:=d0w
 v228:=d0G
 t229:=d0V
 a229:=d3S
 z229:=c8A
 v229:=c94}
end Go.Proofs
namespace Go.Proofs.YtncmhkpnclafkaaGreatDoor
open Go Go.Cl
variable{fl:List Fi}{ms:SM}{σ Jc Jf Jg:List b9}{me:EM}{nn:Bool}{br N:List I}{q1 q2 t:Nat}{v:b9}{pkg s:I}{f:Fi}{c:MC}
theorem b7x{k:Nat}{ss:List I}(ax:ss≠[])(aj:ss.length<=1000000)(hk:σ[k]?=some (.vec 1 (ss.map scv))):b8 CC 185 [.vec k 0 ss.length] σ λr τ=>∃_:Unit,r= .ret (.tup [])/\τ=σ.set k (.vec 1 ((W9 ss).map scv))/\True:=
 (d0c (f:=185) (λblk off cap ss w h1 h2 h3=>b9m Tryz.lays190 blk off cap ss w h1 h2 h3) ax G hk).mono λr τ h=>⟨(),h.1,h.2,J⟩
def a2g(ms:SM)(f:Fi):List I:=((glk ms f.p).getD Src.z).imports
inductive Reach(ms:SM)(fl:List Fi)(pkg:I):I->Prop where
 |base:Reach ms fl pkg pkg
 |step {n:I} {f:Fi} {s:I}:Reach ms fl pkg n->f∈C1 ms fl n->s∈a2g ms f->Reach ms fl pkg s
def allI(ms:SM)(fl:List Fi):List I:=fl.flatMap (a2g ms)
theorem d1Y{n:I}(h:Reach ms fl pkg n):n∈pkg::allI ms fl:=by
 cases h with
 |base=>simp
 |step _ hf hs=>exact a13 _ (b3c.2 ⟨_,a32 hf,hs⟩)
structure NmI(ms:SM)(fl:List Fi)(pkg:I)(N:List I):Prop where
 nd:N.Nodup
 rch:∀n∈N,Reach ms fl pkg n
 pk:pkg∈N
theorem NmI.len(h:NmI ms fl pkg N):N.length<=1+(allI ms fl).length:=by
 have:=List.Nodup.length_le_of_subset h.nd (λn hn=>d1Y (h.rch n hn));simpa[Nat.add_comm]using this
theorem NmI.snoc{n:I}(h:NmI ms fl pkg N)(hn:n∈N)(hf:f∈C1 ms fl n)(hs:s∈a2g ms f)(hsN:s∉N):NmI ms fl pkg (N++[s]) where
 nd:=a64 h.nd hsN
 rch:=λm hm=>by
  rcases T9.1 hm with hm|hm
  .exact h.rch m hm
  .simp at hm;subst hm;exact .step (h.rch n hn) hf hs
 pk:=b4F _ h.pk
theorem b53(h:NmI ms fl pkg N)(hc:∀n∈N,∀f∈C1 ms fl n,∀s∈a2g ms f,s∈N)(n:I):n∈N↔Reach ms fl pkg n:=
 ⟨h.rch n,λhr=>by
  induction hr with
  |base=>exact h.pk
  |step _ hf hs ih=>exact hc _ ih _ hf _ hs⟩
theorem b8I{A B:List I}(hA:A.Nodup)(hB:B.Nodup)(h:∀n,n∈A↔n∈B):W9 A=W9 B:=by
 have hp:A.Perm B:=(d2O hA hB).2 h;have tr:∀(a b c:I),decide (a<=b)=true->decide (b<=c)=true->decide (a<=c)=true:=λa b c h1 h2=>by
  simp only[a2t]at h1 h2⊢;exact List.le_trans h1 h2
 have to:∀(a b:I),(decide (a<=b) ||decide (b<=a))=true:=λa b=>by
  simp only[a80,a2t];exact List.le_total a b
 refine List.Perm.eq_of_pairwise (le:=λa b=>decide (a<=b)=true) (λa b _ _ h1 h2=>?_) (c37 tr to A) (c37 tr to B) ((b3U A _).trans (hp.trans (b3U B _).symm));simp only[a2t]at h1 h2;exact List.le_antisymm h1 h2
open Classical in
noncomputable def c15(ms:SM)(fl:List Fi)(pkg:I):List I:=if h:∃N:List I,N.Nodup/\∀n,n∈N↔Reach ms fl pkg n then W9 h.choose else []
theorem c6S(hN:N.Nodup)(h:∀n,n∈N↔Reach ms fl pkg n):c15 ms fl pkg=W9 N:=by
 have gg:∃N:List I,N.Nodup/\∀n,n∈N↔Reach ms fl pkg n:=⟨N,hN,h⟩;unfold c15;rw[dif_pos gg];exact b8I gg.choose_spec.1 hN λn=>(gg.choose_spec.2 n).trans (h n).symm
def c6t(ms:SM)(fl:List Fi)(l:I)(N:List I):I:=N.foldl (λl s=>a17 (a17 l s) (a1v ms fl s)) l
theorem c6b{i:Nat}{y:I}(h:N[i]?=some y)(l:I):c6t ms fl l (N.drop i)=c6t ms fl (a17 (a17 l y) (a1v ms fl y)) (N.drop (i+1)):=by
 obtain⟨af,rfl⟩:=n_2.1 h;rw[Y0 af];rfl
noncomputable def b8Z(ms:SM)(fl:List Fi)(pkg:I):I:=[61]++c6t ms fl [] (c15 ms fl pkg)
def tst(Jg Jc:List b9)(v:b9)(Jf:List b9):List b9:=Jg++Jc++v::Jf
theorem a3K(hW:Jg.length=4):(tst Jg Jc v Jf)[4+Jc.length]?=some v:=by
 rw[tst,a1c (by simp[hW])];simp[hW]
theorem c3j{v':b9}(hW:Jg.length=4):(tst Jg Jc v Jf).set (4+Jc.length) v'=tst Jg Jc v' Jf:=by
 rw[tst,b7j _ _ (by simp[hW])];simp[hW,tst]
theorem d6T{v':b9}(hW:Jg.length=4):(tst Jg Jc v Jf).set (4+Jc.length) .dead++[v']=tst Jg (Jc++.dead::Jf) v' []:=by
 rw[c3j hW];simp[tst]
theorem d4q(hW:Jg.length=4):(tst Jg Jc v Jf).length=4+(Jc++b9.dead::Jf).length:=by
 simp[tst,hW]
theorem d5I(a b:b9):(tst Jg Jc v Jf++[a]).set (tst Jg Jc v Jf).length b=tst Jg Jc v (Jf++[b]):=by
 rw[b7j _ _ (n_6 _)];simp[tst]
theorem b3i{k:Nat}(s:I)(hk:σ[k]?=some (.vec 1 (N.map scv)))(hl:N.length<=1000000):b8 CC 161 [.vec k 0 N.length,sv s] σ λr aa=>r= .ret (.val (.bool (decide (s∈N))))/\aa=σ:=by
 have h:=a7l N true s G;refine b2X (len:=N.length) (Y:=N.map scv) hCC (λa ha=>by simp at ha;subst ha;exact .val _) (λr hr c hc=>?_) U hk ?_
 .obtain ⟨x,_,rfl⟩:=D6.1 hr;simp[scv]at hc;subst hc;exact .val _
 .rw [show((N.map scv).drop 0).take N.length=N.map scv from by rw[b0k,U2 U]];exact h
theorem c4f(fl:List Fi)(nn va:Bool)(br:List I)(ms:SM)(me:EM):WAt (tst (wst fl nn va br ms me) Jc v Jf) 0 1 2 3 fl nn va br ms me:=⟨O,O,O,O,a1s ⟨H,H,H,H,H,H⟩⟩
theorem c88(h:f∈fl):(a2g ms f).length<=(allI ms fl).length:=by
 unfold allI
 induction fl with
 |nil=>cases h
 |cons x l ih=>
  rw[b35,n_8]
  rcases J2.1 h with rfl|h
  .omega
  .have:=ih h;omega
theorem d0L(fl:List Fi)(nn va:Bool)(br:List I)(ms:SM)(me:EM)(pkg:I)(bK:fl.length<=64)(ic:∀f∈fl,f.p.length<=100/\f.b.length<=100000)(dW:(allI ms fl).length<=512)(dx:∀{n:I},Reach ms fl pkg n->n.length<=100000):b8 CC 136 [.ptr 0 0,(sv pkg)] (wst fl nn va br ms me) λr τ=>F0 4 τ r (.ret (sv (b8Z ms fl pkg))) (wst fl nn va br ms me):=by
 refine qO Tryz.func136 ?_;refine qD (d5B O J O O t_2 t_0 t_3 O ?_);refine J8 (α:=Nat×List I×List b9×List b9) (λx=>[(0,.ptr 0 0),(5,.vec (4+x.2.2.1.length) 0 x.2.1.length),(6,iv x.1)]) (λx=>tst (wst fl nn va br ms me) x.2.2.1 (.vec 1 (x.2.1.map scv)) x.2.2.2) (λx=>NmI ms fl pkg x.2.1/\x.1<=x.2.1.length/\∀n∈x.2.1.take x.1,∀f∈C1 ms fl n,∀s∈a2g ms f,s∈x.2.1) (λx=>1+(allI ms fl).length -x.1) (0,[pkg],[],[]) ⟨⟨U,λn hn=>by simp at hn;subst hn;exact .base,U⟩,n_5 _,λn hn=>by simp at hn⟩ tu_ O ?_;intro⟨i,N,Jc,Jf⟩ _ ⟨hN,hi,hc⟩;dsimp only at hN hi hc⊢;have hNl:=hN.len;have gI:=dW;refine qk (qY b75 ?_);refine qC ?_ ?_<;>intro h1
 .have af:i<N.length:=sm_ h1;obtain⟨n,gn⟩:∃n,N[i]?=some n:=⟨N[i]'af,U⟩;have hffl:=a8H ms fl n;refine qY (X1 O J J O O t_2 t_0 (a3K O) G G) ?_;refine qY (P0 O J O t_8 (a3K O) (j5 (by rw[O7];exact gn)) O) ?_;refine qY (c5 O Tryz.call183 i7 (b8F (c4f fl nn va br ms me) n G) O) ?_;refine qY a08 ?_;refine J8 (α:=Nat×List I×List b9×List b9) (λx=>[(0,.ptr 0 0),(5,.vec (4+x.2.2.1.length) 0 x.2.1.length),(6,iv i),(27,(.list ((C1 ms fl n).map Fi.cv) (gnn (C1 ms fl n).length) none)),(28,(iv ((C1 ms fl n).length:Int))),(29,iv x.1)]) (λx=>tst (wst fl nn va br ms me) x.2.2.1 (.vec 1 (x.2.1.map scv)) x.2.2.2) (λx=>NmI ms fl pkg x.2.1/\(∃t,x.2.1=N++t)/\x.1<=(C1 ms fl n).length/\∀f∈(C1 ms fl n).take x.1,∀s∈a2g ms f,s∈x.2.1) (λx=>(C1 ms fl n).length -x.1) (0,N,Jc,Jf) ⟨hN,⟨[],U⟩,n_5 _,λf hf=>by simp at hf⟩ tu_ O ?_;intro⟨q,N1,G1,H1⟩ _ ⟨hN1,cH,hq,cz⟩;dsimp only at hN1 cH hq cz⊢;have hNl1:=hN1.len;refine qk (qC ?_ ?_)<;> intro h2
  .have hlq:q< (C1 ms fl n).length:=sm_ h2;obtain⟨y,hy⟩:∃y,(C1 ms fl n)[q]?=some y:=⟨(C1 ms fl n)[q]'hlq,U⟩;have fy:=n_3 hy;refine qY (r6 O J J O O a8S a41 G (j5 hy) O) ?_;refine qD (o6 O a68 O j4 ?_);refine qD (j1 O J J O j2 a41 j4 b3e O (nb O) ?_);refine b4I ?_;refine hY b2F ?_;refine hY b1t ?_;refine hY c4t ?_;refine hY (j9 O J O t_8 (by rw[b0e U]) O) ?_;refine hY (N3 (vc:=vcS) (l:=ms) (a:=y.p) b5Y O J J O O b7w a4C O O (a5J Src.z O _)) ?_;refine hY (a3x O J O a6l O c2n O) ?_;refine hY P5 ?_;refine hY d7A ?_;refine a0T ?_;refine J8 (α:=Nat×List I×List b9×List b9) (λx=>[(0,.ptr 0 0),(5,.vec (4+x.2.2.1.length) 0 x.2.1.length),(6,iv i),(27,(.list ((C1 ms fl n).map Fi.cv) (gnn (C1 ms fl n).length) none)),(28,(iv ((C1 ms fl n).length:Int))),(29,iv q),(40,(.list ((a2g ms y).map scv) (gnn (a2g ms y).length) none)),(41,(iv ((a2g ms y).length:Int))),(42,iv x.1)]) (λx=>tst (wst fl nn va br ms me) x.2.2.1 (.vec 1 (x.2.1.map scv)) x.2.2.2) (λx=>NmI ms fl pkg x.2.1/\(∃t,x.2.1=N1++t)/\x.1<=(a2g ms y).length/\∀s∈(a2g ms y).take x.1,s∈x.2.1) (λx=>(a2g ms y).length -x.1) (0,N1,G1,H1++[.box y.cells]) ⟨hN1,⟨[],U⟩,n_5 _,λf hf=>by simp at hf⟩ tu_ (d5I _ _) ?_;intro⟨r,N2,G2,H2⟩ _ ⟨hN2,gP,hr,dM⟩;dsimp only at hN2 gP hr dM⊢;have hNl2:=hN2.len;have bo:(a2g ms y).length<=(allI ms fl).length:=c88 (a32 fy);refine qk (qC ?_ ?_)<;> intro h3
   .have iB:r< (a2g ms y).length:=sm_ h3;obtain⟨s,hs⟩:∃s,(a2g ms y)[r]?=some s:=⟨(a2g ms y)[r]'iB,U⟩;have hsm:=n_3 hs;have htk:(a2g ms y).take (r+1)=(a2g ms y).take r++[s]:=by rw[Z2,hs];rfl
    refine qY (r6 O J J O O t_2 t_0 G (j5 hs) O) ?_;refine qY (c5 O d0D i7 (b3i s (a3K O) G) O) ?_;refine qC ?_ ?_<;>intro h4
    .have h4':s∉N2:=D h4;obtain⟨t1,iL⟩:=cH;obtain⟨t2,iM⟩:=gP;have hnN2:n∈N2:=by rw[iM,iL];simp[n_3 gn]
     have gz:=hN2.snoc hnN2 fy hsm h4';have hsnl:=gz.len;rw[n_8,c0i]at hsnl;refine qY (A9 [scv s] O ⟨J,J⟩ t_2 t_0 t_3 O O O O O O O O O) ?_;refine qD (a9X ((N2++[s]).map scv) (N2++[s]).length O J J O q_3 t_2 t_0 a4M t_3 O (a3K O) G6 U a6h G6 U U ?_);refine qY o7 ?_;exact⟨(r+1,N2++[s],G2++.dead::H2,[]),do_,⟨gz,⟨t2++[s],by rw[iM,H5]⟩,do_,λz hz=>by
      dsimp only at hz⊢;rw[htk]at hz
      rcases T9.1 hz with hz|hz
      .exact b4F _ (dM z hz)
      .simp at hz;subst hz;simp⟩,⟨B7,⟨J,(n_7 (λk=>CV.vec k 0 (N2++[s]).length) (d4q O))⟩,B7,B7,B7,B7,B7,B7,B7,J⟩,(d6T O)⟩
    .have h4':s∈N2:=D h4;refine qY o7 ?_;exact⟨(r+1,N2,G2,H2),do_,⟨hN2,gP,do_,λz hz=>by
      dsimp only at hz⊢;rw[htk]at hz
      rcases T9.1 hz with hz|hz
      .exact dM z hz
      .simp at hz;subst hz;exact h4'⟩,tu_,O⟩
   .have hre:r=(a2g ms y).length:=sm_ h3;obtain⟨t1,iL⟩:=cH;obtain⟨t2,iM⟩:=gP;have htk:(C1 ms fl n).take (q+1)=(C1 ms fl n).take q++[y]:=by rw[Z2,hy];rfl
    refine b39 ?_;exact⟨(q+1,N2,G2,H2),do_,⟨hN2,⟨t1++t2,by rw[iM,iL,H5]⟩,do_,λz hz s hs=>by
     dsimp only at hz⊢;rw[htk]at hz
     rcases T9.1 hz with hz|hz
     .rw [iM];exact b4F _ (cz z hz s hs)
     .simp at hz;subst hz;exact dM s (by rw[hre,U2 (n_6 _)];exact hs)⟩,tu_,O⟩
  .have hqe:q=(C1 ms fl n).length:=sm_ h2;obtain⟨t1,iL⟩:=cH;have htk:N1.take (i+1)=N.take i++[n]:=by
    rw[iL,List.take_append_of_le_length G,Z2,gn];rfl
   refine b39 ?_;exact⟨(i+1,N1,G1,H1),do_,⟨hN1,by dsimp only;rw[iL,n_8];omega,λz hz f hf s hs=>by
    dsimp only at hz⊢;rw[htk]at hz
    rcases T9.1 hz with hz|hz
    .rw [iL];exact b4F _ (hc z hz f hf s hs)
    .simp at hz;subst hz;exact cz f (by rw[hqe,U2 (n_6 _)];exact hf) s hs⟩,tu_,O⟩
 .have gN:i=N.length:=sm_ h1;have cy:=b53 hN (λn hn=>hc n (by rw[gN,U2 (n_6 _)];exact hn));have hT:=c6S hN.nd cy;have bc:(W9 N).length=N.length:=b6p _;have ax:N≠[]:=λh=>by have:=hN.pk;rw[h]at this;cases this
  refine j8 ?_;refine qD (c4 O Tryz.call185 ⟨J,J⟩ (b7x ax G (a3K O)) O ?_);intro _ _;refine qN (tst (wst fl nn va br ms me) Jc (.vec 1 ((W9 N).map scv)) Jf) (c3j O) ?_;refine qY b75 ?_;refine J8 (α:=Nat×I) (λx=>[(0,.ptr 0 0),(11,(.list (x.2.map bcv) (gnn x.2.length) none)),(58,.vec (4+Jc.length) 0 N.length),(59,iv N.length),(60,iv x.1)]) (λ_=>tst (wst fl nn va br ms me) Jc (.vec 1 ((W9 N).map scv)) Jf) (λx=>x.1<=N.length/\x.2.length<=x.1*103000000/\c6t ms fl [] (W9 N)=c6t ms fl x.2 ((W9 N).drop x.1)) (λx=>N.length -x.1) (0,[]) ⟨n_5 _,n_5 _,O⟩ tu_ O ?_;intro⟨j,l⟩ _ ⟨hj,hl,hr⟩;dsimp only at hj hl hr⊢;refine qk (qC ?_ ?_)<;> intro h5
  .have hlj:j<N.length:=sm_ h5;obtain⟨s,hs⟩:∃s,(W9 N)[j]?=some s:=⟨(W9 N)[j]'G,U⟩;rw[c6b hs]at hr;have dV:=dx (hN.rch s ((b3U N _).mem_iff.1 (n_3 hs)));have hfc:=c1l (ms:=ms) (pkg:=s) G ic;have gu:=a3i (l:=l) (s:=s) G;have cB:=a3i (l:=a17 l s) (s:=a1v ms fl s) G;have hj2:j*103000000<=600*103000000:=S7 _ G;refine qY (X1 O J J O O t_2 t_0 (a3K O) G G) ?_;refine qY (P0 O J O t_8 (a3K O) (j5 (by rw[O7];exact hs)) O) ?_;refine qY (c5 O c3n i7 (a1E l _ s G G _) O) ?_;refine qY (c5 O Tryz.call134 i7 (b8K (c4f fl nn va br ms me) s G ic) O) ?_;refine qY (c5 O c3n i7 (a1E (a17 l s) _ (a1v ms fl s) G G _) O) ?_;refine qY o7 ?_;exact⟨(j+1,a17 (a17 l s) (a1v ms fl s)),do_,⟨do_,do_,hr⟩,tu_,O⟩
  .have hje:j=N.length:=sm_ h5;rw[hje,<- bc,b8V]at hr;replace hr:c6t ms fl [] (W9 N)=l:=hr;have hj2:j*103000000<=600*103000000:=S7 _ G;refine j8 ?_;refine qY d2G ?_;refine qY (L3 O O J O O (by show 1+l.length<=_;omega)) ?_;refine c6 ?_;exact⟨_,rE1,(by rw[b8Z,hT,hr];exact a3q O (.old (.val _)))⟩
theorem d5D{va:Bool}{w:Nat}(ao:WAt σ w q1 q2 t fl nn va br ms me)(pkg:I)(bK:fl.length<=64)(ic:∀f∈fl,f.p.length<=100/\f.b.length<=100000)(dW:(allI ms fl).length<=512)(dx:∀{n:I},Reach ms fl pkg n->n.length<=100000):b8 CC 136 [.ptr w 0,(sv pkg)] σ λr τ=>r= .ret (sv (b8Z ms fl pkg))/\τ=σ:=
 b3y (λa h=>by simp at h;subst h;exact .val _) (.val _) (d0L fl nn va br ms me pkg bK ic dW dx) ao
theorem a34{va:Bool}{w:Nat}(ao:WAt σ w q1 q2 t fl nn va br ms me)(l:List b9):WAt (σ++l) w q1 q2 t fl nn va br ms me:=⟨I2 ao.hw l,I2 ao.hs l,I2 ao.he l,I2 ao.ht l,ao.nd⟩
structure WOk(fl:List Fi)(ms:SM)(me:EM):Prop where
 len:fl.length<=64
 fb:∀f∈fl,f.p.length<=100/\f.b.length<=100000
 src:∀p s,glk ms p=some s->a09 s
 ent:∀k e,glk me k=some e->b21 ms e
theorem WOk.find(h:WOk fl ms me)(k:Int)(p o:I):b21 ms (B3 true me k p o):=by
 unfold B3;rw[Q O]
 split
 .rename_i x hx;exact h.ent _ _ hx
 .intro h1;cases h1
theorem WOk.imp(h:WOk fl ms me)(f:Fi):(a2g ms f).length<=8/\∀s∈a2g ms f,s.length<=24:=by
 unfold a2g;cases hg:glk ms f.p with
 |none=>exact⟨n_5 _,λs hs=>by cases hs⟩
 |some x=>
  have:=h.src _ _ hg;exact⟨this.impl,λs hs=>H8 (this.imp s hs).1⟩
theorem WOk.allI{fl:List Fi}{ms:SM}{me:EM}(h:WOk fl ms me):(allI ms fl).length<=512:=by
 have:∀l:List Fi,(Go.Proofs.YtncmhkpnclafkaaGreatDoor.allI ms l).length<=8*l.length:=λl=>by
  induction l with
  |nil=>exact n_5 _
  |cons x l ih=>
   have:=(h.imp x).1;unfold Go.Proofs.YtncmhkpnclafkaaGreatDoor.allI at ih⊢;rw[b35,n_8,D3];omega
 have h1:=this fl;have h2:=h.len;omega
theorem WOk.reach{fl:List Fi}{ms:SM}{me:EM}(h:WOk fl ms me){pkg:I}(hp:pkg.length<=100){n:I}(hr:Reach ms fl pkg n):n.length<=100000:=by
 cases hr with
 |base=>omega
 | @step _ f _ _ _ hs=>have:=(h.imp f).2 _ hs;omega
noncomputable def a0e(fl:List Fi)(ms:SM)(me:EM)(ev:List Va)(k:Ky):I:=
 if k.k=1 then a1B ms (B3 true me 1 k.a k.b)else if k.k=2 then a1B ms (B3 true me 2 k.a k.b)else if k.k=3 then a1B ms (B3 true me 3 [] k.a)
 else if k.k=4 then(if(E9 fl k.a).isSome then [61]++(E9 fl k.a).getD []else [45])else if k.k=5 then(if(a6L ev k.a).isSome then [61]++Lib.itoa ((a6L ev k.a).getD 0)else [45])
 else if k.k=6 then a1v ms fl k.a else b8Z ms fl k.a
theorem b4V{b:I}(h:E9 fl s=some b):∃f∈fl,f.b=b:=by
 unfold E9 at h;rw[Q3]at h;obtain⟨f,hf,rfl⟩:=h;exact⟨f,c49 hf,O⟩
theorem c8G{ev:List Va}{v:Int}(iK:∀v∈ev,-9223372036854775808<=v.v/\v.v<=9223372036854775807)(h:a6L ev s=some v): -9223372036854775808<=v/\v<=9223372036854775807:=by
 unfold a6L at h;rw[Q3]at h;obtain⟨x,hx,rfl⟩:=h;exact iK x (c49 hx)
theorem e19{w:Nat}(ao:WAt σ w q1 q2 t fl nn true br ms me)(bz:WOk fl ms me)(k:Ky):b8 CC 124 [.ptr w 0,.agg k.cells] σ λr τ=>r= .ret (sv (a1B ms (B3 true me 1 k.a k.b)))/\τ=σ:=by
 refine c7 (cO Tryz.func124 ?_);refine b3h ?_;refine a1Y ?_;refine cY a2F ?_;refine cY (j9 O J O t_8 b3e O) ?_;refine cY a2F ?_;refine qY (j9 O J O t_8 b3e O) ?_;refine qY (c5 O c68 ⟨J,O,J,J,J⟩ (a5O (a34 ao _) 1 k.a k.b) O) ?_;refine qY d1S ?_;exact d3z
theorem e2J{w:Nat}(ao:WAt σ w q1 q2 t fl nn true br ms me)(bz:WOk fl ms me)(k:Ky):b8 CC 126 [.ptr w 0,.agg k.cells] σ λr τ=>r= .ret (sv (a1B ms (B3 true me 2 k.a k.b)))/\τ=σ:=by
 refine c7 (cO Tryz.func126 ?_);refine b3h ?_;refine a1Y ?_;refine cY a2F ?_;refine cY (j9 O J O t_8 b3e O) ?_;refine cY a2F ?_;refine qY (j9 O J O t_8 b3e O) ?_;refine qY (c5 O c68 ⟨J,O,J,J,J⟩ (a5O (a34 ao _) 2 k.a k.b) O) ?_;refine qY d1S ?_;exact d3z
theorem e2N{w:Nat}(ao:WAt σ w q1 q2 t fl nn true br ms me)(bz:WOk fl ms me)(k:Ky):b8 CC 127 [.ptr w 0,.agg k.cells] σ λr τ=>r= .ret (sv (a1B ms (B3 true me 3 [] k.a)))/\τ=σ:=by
 refine c7 (cO Tryz.func127 ?_);refine b3h ?_;refine a1Y ?_;refine cY a2F ?_;refine qY (j9 O J O t_8 b3e O) ?_;refine qY (c5 O c68 ⟨J,O,O,J,J⟩ (a5O (a34 ao _) 3 [] k.a) O) ?_;refine qY d1S ?_;exact d3z
theorem e2d{w:Nat}(ao:WAt σ w q1 q2 t fl nn true br ms me)(bz:WOk fl ms me)(k:Ky):b8 CC 128 [.ptr w 0,.agg k.cells] σ λr τ=>r= .ret (sv (if(E9 fl k.a).isSome then [61]++(E9 fl k.a).getD []else [45]))/\τ=σ:=by
 refine c7 (cO Tryz.func128 ?_);refine b3h ?_;refine z_2 ?_;refine cY a2F ?_;refine qY (j9 O J O t_8 b3e O) ?_;refine qY (c5 O Tryz.call129 i7 (c4k (a34 ao _) k.a (by have:=bz.len;omega)) O) ?_;refine qk ?_;refine cC ?_ ?_<;>intro h1
 .have u1:(E9 fl k.a).isSome=false:=D h1;refine qk ?_;refine c6 ?_;exact⟨_,rE1,_,_,O,O,a04 (by rw[u1];rfl)⟩
 .have u1:(E9 fl k.a).isSome=true:=D h1;obtain⟨b,hb⟩:=b1Y.1 u1;obtain⟨f,hf,ic⟩:=b4V hb;have aj:=(bz.fb f hf).2;rw[hb];refine qk (qY (L3 O O J O O (by show 1+b.length<=_;rw[<- ic];omega)) ?_);refine c6 ?_;exact⟨_,rE1,_,_,O,O,a04 (show str ([61]++(some b).getD [])=_ from O)⟩
theorem e1R{w:Nat}(ao:WAt σ w q1 q2 t fl nn true br ms me)(bz:WOk fl ms me)(k:Ky):b8 CC 133 [.ptr w 0,.agg k.cells] σ λr τ=>r= .ret (sv (a1v ms fl k.a))/\τ=σ:=by
 refine c7 (cO Tryz.func133 ?_);refine b3h ?_;refine z_2 ?_;refine cY a2F ?_;refine qY (j9 O J O t_8 b3e O) ?_;refine qY (c5 O Tryz.call134 i7 (b8K (a34 ao _) k.a (by have:=bz.len;omega) bz.fb) O) ?_;exact d3z
theorem e1z{w:Nat}(ao:WAt σ w q1 q2 t fl nn true br ms me)(bz:WOk fl ms me)(k:Ky)(hka:k.a.length<=100):b8 CC 135 [.ptr w 0,.agg k.cells] σ λr τ=>r= .ret (sv (b8Z ms fl k.a))/\τ=σ:=by
 refine c7 (cO Tryz.func135 ?_);refine b3h ?_;refine z_2 ?_;refine cY a2F ?_;refine qY (j9 O J O t_8 b3e O) ?_;refine qY (c5 O Tryz.call136 i7 (d5D (a34 ao _) k.a bz.len bz.fb bz.allI (bz.reach hka)) O) ?_;exact d3z
theorem e25{w q:Nat}{ev:List Va}(hq:σ[q]?=some (.box (a0n ev nn)))(iK:∀v∈ev,-9223372036854775808<=v.v/\v.v<=9223372036854775807)(gC:ev.length<=1000000000)(k:Ky):b8 CC 130 [.ptr w 0,.agg k.cells,.ptr q 0] σ λr τ=>r= .ret (sv (if(a6L ev k.a).isSome then [61]++Lib.itoa ((a6L ev k.a).getD 0)else [45]))/\τ=σ:=by
 refine c7 (cO Tryz.func130 ?_);refine b3h ?_;refine z_0 ?_;refine cY (I8 O J O c4H c3I (I2 hq _) (nb O)) ?_;refine cY a2F ?_;refine qY (j9 O J O t_8 b3e O) ?_;refine qY (c5 O Tryz.call131 i7 (b3b ev nn k.a gC _) O) ?_;refine qk ?_;refine cC ?_ ?_<;>intro h1
 .have u1:(a6L ev k.a).isSome=false:=D h1;refine qk ?_;refine c6 ?_;exact⟨_,rE1,_,_,O,O,a04 (by rw[u1];rfl)⟩
 .have u1:(a6L ev k.a).isSome=true:=D h1;obtain⟨v,hv⟩:=b1Y.1 u1;have ie:=c8G iK hv;rw[hv];have bo:=a8v ie.1 ie.2;refine qk (qY (c5 O c7Y ⟨J,J⟩ (c1O v ie.1 ie.2 _) O) ?_);refine qY (L3 O O J O O (by show 1+(Lib.itoa v).length<=_;omega)) ?_;refine c6 ?_;exact⟨_,rE1,_,_,O,O,a04 (show str ([61]++Lib.itoa v)=_ from O)⟩
theorem b5H:∀{pv:Option Fi} {l:List Fi},rvE pv l=0->(∀g,pv=some g->∀f∈l,g.p <f.p)/\l.Pairwise λa b=>a.p <b.p
 |_,[],_=>⟨λ_ _ f hf=>(by cases hf),List.Pairwise.nil⟩
 |pv,x::l,h=>by
  rw[rvE]at h;split at h
  .rename_i hs;obtain⟨h1,h2⟩:=b5H h;have hx:∀g,pv=some g->g.p <x.p:=λg hg=>by
    subst hg;unfold J6 at hs;split at hs
    .cases hs
    .split at hs
     .cases hs
     .rename_i h3;split at hs
      .cases hs
      .rename_i h4;simp only[Option.any_some,a2t]at h3 h4;rw[bytesLess_eq,a2t]at h4
       rcases List.le_total g.p x.p with h5|h5
       .rcases Decidable.em (g.p <x.p)with h6|h6
        .exact h6
        .exact absurd (List.le_antisymm h5 (List.not_lt.1 h6)).symm h3
       .rcases Decidable.em (g.p <x.p)with h6|h6
        .exact h6
        .exact absurd (List.le_antisymm h5 (List.not_lt.1 h4)) h3
   refine⟨λg hg f hf=>?_,.cons (λf hf=>h1 x O f hf) h2⟩
   rcases J2.1 hf with rfl|hf
   .exact hx g hg
   .exact List.lt_trans (hx g hg) (h1 x O f hf)
  .rename_i hs;exact absurd h hs
structure WI(seen:List I)(ms:SM)(me:EM):Prop where
 src:∀p x,glk ms p=some x->a09 x/\p∈seen
 ent:∀k e,glk me k=some e->1<=e.ct/\b21 ms e
theorem b9D{ms:SM}{path:I}{x:Src}(hg:glk ms path=some x)(hx:a09 x):∀(n k:Nat) (me:EM),x.decls.length -k=n->(∀k e,glk me k=some e->1<=e.ct/\b21 ms e)->∀q e,glk (addDs me path x.pkg (x.decls.drop k) k) q=some e->1<=e.ct/\b21 ms e
 |0,k,me,hn,h,q,e,he=>by
  rw[Y4 G,addDs]at he;exact h q e he
 |n+1,k,me,hn,h,q,e,he=>by
  obtain⟨d,hd⟩:=gx_ x.decls k;rw[a3Q hd]at he;refine b9D hg hx n (k+1) _ G (λq e he=>?_) q e he;rw[a0l,G8]at he;split at he
  .injection he with he
   subst he
   split
   .rename_i f hf;obtain⟨h1,_⟩:=h _ _ hf;exact⟨by simp only;omega,λhc=>by simp only at hc;omega⟩
   .exact ⟨b0a _,λ_=>⟨x,d,k,hg,hx,O,hd⟩⟩
  .exact h q e he
theorem b21.put{e:En}{path:I}{x:Src}(h:b21 ms e)(hp:glk ms path=none):b21 (L5 ms path x) e:=λhc=>by
 obtain⟨s,d,i,h1,h2⟩:=h hc;refine⟨s,d,i,?_,h2⟩;rw[G8,W]
 .exact h1
 .intro he;rw[he,hp]at h1;cases h1
theorem d0C{seen:List I}{s:WS}(h:WI seen s.2.1 s.2.2)(hf:f.p∉seen):WI (f.p::seen) (S5 s f).2.1 (S5 s f).2.2:=by
 have hw:WI (f.p::seen) s.2.1 s.2.2:=⟨λp x hp=>⟨(h.src p x hp).1,a13 _ (h.src p x hp).2⟩,h.ent⟩;unfold S5
 split
 .split
  .exact hw
  .rename_i x hx;have hn:glk s.2.1 f.p=none:=by
    cases hg:glk s.2.1 f.p with
    |none=>rfl
    |some y=>exact absurd (h.src _ _ hg).2 hf
   have bz:=a5P hx;refine⟨λp y hp=>?_,?_⟩
   .simp only[G8]at hp;split at hp
    .rename_i e;injection hp with hp
     subst hp;exact⟨bz,by rw[e];simp⟩
    .exact ⟨(h.src p y hp).1,a13 _ (h.src p y hp).2⟩
   .have hg:glk (L5 s.2.1 f.p x) f.p=some x:=by rw[G8,Q O]
    have:=b9D hg bz _ 0 s.2.2 O (λk e he=>⟨(h.ent k e he).1,(h.ent k e he).2.put hn⟩);simpa using this
 .exact hw
theorem c32:∀{l:List Fi} {seen:List I} {s:WS},WI seen s.2.1 s.2.2->(∀f∈l,f.p∉seen)->(l.Pairwise λa b=>a.p <b.p)->∃je,WI je (a4I l s).2.1 (a4I l s).2.2
 | [],seen,s,h,_,_=>⟨seen,h⟩
 |f::l,seen,s,h,hn,hp=>by
  have h1:=d0C h (hn f U);refine c32 (l:=l) h1 (λg hg hm=>?_) (a1D.1 hp).2
  rcases J2.1 hm with hm|hm
  .have:=(a1D.1 hp).1 g hg;rw[hm]at this;exact absurd this (List.lt_irrefl _)
  .exact hn g (by simp[hg]) hm
theorem b6h(h:C7 fl=0):WOk fl (A6 fl).2.1 (A6 fl).2.2:=by
 obtain⟨h1,h2⟩:=a7q h;have h0:rvE none fl=0:=by
  unfold C7 at h;split at h
  .cases h
  .exact h
 obtain⟨seen,h3⟩:=c32 (l:=fl) (seen:=[]) (s:=([],[],[])) ⟨λp x hp=>(by cases hp),λk e he=>(by cases he)⟩ (λf _ hm=>(by cases hm)) (b5H h0).2;rw[A6,Q h];exact⟨h1,λf hf=>by have:=a1K (h2 f hf).1;have:=(h2 f hf).2;omega,λp s hp=>(h3.src p s hp).1,λk e he=>(h3.ent k e he).2⟩
def EnK(ms:SM)(q:Nm)(e:En):Prop:=q.k=e.k/\q.o=e.o/\1<=e.ct/\(e.ct=1->∃(s:Src) (d:De) (i:Nat),glk ms e.pl=some s/\a09 s/\e.ix=(i:Int)/\s.decls[i]?=some d/\d.k=e.k/\d.name=e.o/\q=C0 d.k s.pkg d.name)
structure WI2(seen:List I)(ms:SM)(me:EM):Prop where
 src:∀p x,glk ms p=some x->a09 x/\p∈seen
 ent:∀k e,glk me k=some e->EnK ms k e
theorem c4V{ms:SM}{path:I}{x:Src}(hg:glk ms path=some x)(hx:a09 x):∀(n k:Nat) (me:EM),x.decls.length -k=n->(∀k e,glk me k=some e->EnK ms k e)->∀q e,glk (addDs me path x.pkg (x.decls.drop k) k) q=some e->EnK ms q e
 |0,k,me,hn,h,q,e,he=>by
  rw[Y4 G,addDs]at he;exact h q e he
 |n+1,k,me,hn,h,q,e,he=>by
  obtain⟨d,hd⟩:=gx_ x.decls k;rw[a3Q hd]at he;refine c4V hg hx n (k+1) _ G (λq e he=>?_) q e he;rw[a0l,G8]at he;split at he
  .rename_i hq;injection he with he
   subst he
   split
   .rename_i f hf;obtain⟨h1,h2,h3,_⟩:=h _ _ hf;rw[hq];exact⟨h1,h2,by simp only;omega,λhc=>by simp only at hc;omega⟩
   .rw [hq];exact⟨O,O,b0a _,λ_=>⟨x,d,k,hg,hx,O,hd,O,O,O⟩⟩
  .exact h q e he
theorem EnK.put{q:Nm}{e:En}{path:I}{x:Src}(h:EnK ms q e)(hp:glk ms path=none):EnK (L5 ms path x) q e:=by
 obtain⟨h1,h2,h3,h4⟩:=h;refine⟨h1,h2,h3,λhc=>?_⟩;obtain⟨s,d,i,h5,h6⟩:=h4 hc;refine⟨s,d,i,?_,h6⟩;rw[G8,W]
 .exact h5
 .intro he;rw[he,hp]at h5;cases h5
theorem d6i{seen:List I}{s:WS}(h:WI2 seen s.2.1 s.2.2)(hf:f.p∉seen):WI2 (f.p::seen) (S5 s f).2.1 (S5 s f).2.2:=by
 have hw:WI2 (f.p::seen) s.2.1 s.2.2:=⟨λp x hp=>⟨(h.src p x hp).1,a13 _ (h.src p x hp).2⟩,h.ent⟩;unfold S5
 split
 .split
  .exact hw
  .rename_i x hx;have hn:glk s.2.1 f.p=none:=by
    cases hg:glk s.2.1 f.p with
    |none=>rfl
    |some y=>exact absurd (h.src _ _ hg).2 hf
   have bz:=a5P hx;refine⟨λp y hp=>?_,?_⟩
   .simp only[G8]at hp;split at hp
    .rename_i e;injection hp with hp
     subst hp;exact⟨bz,by rw[e];simp⟩
    .exact ⟨(h.src p y hp).1,a13 _ (h.src p y hp).2⟩
   .have hg:glk (L5 s.2.1 f.p x) f.p=some x:=by rw[G8,Q O]
    have:=c4V hg bz _ 0 s.2.2 O (λk e he=>(h.ent k e he).put hn);simpa using this
 .exact hw
theorem c83:∀{l:List Fi} {seen:List I} {s:WS},WI2 seen s.2.1 s.2.2->(∀f∈l,f.p∉seen)->(l.Pairwise λa b=>a.p <b.p)->∃je,WI2 je (a4I l s).2.1 (a4I l s).2.2
 | [],seen,s,h,_,_=>⟨seen,h⟩
 |f::l,seen,s,h,hn,hp=>by
  have h1:=d6i h (hn f U);refine c83 (l:=l) h1 (λg hg hm=>?_) (a1D.1 hp).2
  rcases J2.1 hm with hm|hm
  .have:=(a1D.1 hp).1 g hg;rw[hm]at this;exact absurd this (List.lt_irrefl _)
  .exact hn g (by simp[hg]) hm
theorem c8U(h:C7 fl=0):∀q e,glk (A6 fl).2.2 q=some e->EnK (A6 fl).2.1 q e:=by
 have h0:rvE none fl=0:=by
  unfold C7 at h;split at h
  .cases h
  .exact h
 obtain⟨seen,h3⟩:=c83 (l:=fl) (seen:=[]) (s:=([],[],[])) ⟨λp x hp=>(by cases hp),λk e he=>(by cases he)⟩ (λf _ hm=>(by cases hm)) (b5H h0).2;rw[A6,Q h];exact h3.ent
structure McG(c:MC):Prop where
 w:WOk c.fl c.ms c.me
 k:∀q e,glk c.me q=some e->EnK c.ms q e
 ev:c.ev.length<=1000000/\∀v∈c.ev,InM v.v
 wd:0<=c.wd/\c.wd <18446744073709551616
variable{w:Nat}
theorem McG.find(h:McG c){k:Int}{p o:I}(h1:(B3 true c.me k p o).ct=1):∃(s:Src) (d:De),0<=(B3 true c.me k p o).ix/\N6 c (B3 true c.me k p o)=some (s,d)/\a09 s/\d∈s.decls/\d.k=k/\d.name=o:=by
 unfold B3 at h1⊢;rw[Q O]at h1⊢;cases hg:glk c.me (C0 k p o)with
 |none=>rw[hg]at h1;simp at h1
 |some e=>
  rw[hg]at h1;dsimp only at h1⊢;obtain⟨h2,h3,_,h4⟩:=h.k _ _ hg;obtain⟨s,d,i,h5,h6,h7,h8,h9,bp,_⟩:=h4 h1;refine⟨s,d,by rw[h7];exact Int.natCast_nonneg _,?_,h6,n_3 h8,h9.trans h2.symm,bp.trans h3.symm⟩;unfold N6;rw[h5,h7];simp[h8]
theorem McG.ct(h:McG c)(k:Int)(p o:I):0<=(B3 true c.me k p o).ct:=by
 unfold B3;rw[Q O];cases hg:glk c.me (C0 k p o)with
 |none=>exact b0a _
 |some e=>have:=(h.k _ _ hg).2.2.1;dsimp only;omega
theorem e27{p o:I}(hp:B9 p=true)(ho:B9 o=true):I1 ⟨1,p,o⟩=true:=by simp[I1,hp,ho]
def kys(S:MS):List Ky:=S.tr.map Prod.fst
def TrB(S:MS):Prop:=(∀k∈kys S,I1 k=true)/\(S.tr.length:Int)<=2+9*S.st
def TrS(S:MS):Prop:=(∀k∈kys S,I1 k=true)/\(S.tr.length:Int)+9<=2+9*S.st
theorem TrS.b{S:MS}(h:TrS S):TrB S:=⟨h.1,by have:=h.2;omega⟩
structure FrW(F:Fr):Prop where
 src:a09 F.f
 de:DeG F.d
theorem d4b(hc:McG c){x:En}{s:Src}{d:De}(h:N6 c x=some (s,d)):a09 s/\DeG d:=by
 obtain⟨h1,h2⟩:=a9u h;have:=hc.w.src _ _ h1;exact⟨this,this.dec d (n_3 h2)⟩
theorem c9F{F:Fr}(hF:FrW F){x:Ex}(hn:B9 x.name=true):(∀k∈c8d c F x,I1 k=true)/\(c8d c F x).length<=9:=by
 have hi:=hF.src.impl;refine⟨λk hk=>?_,?_⟩
 .obtain ⟨p,hp,rfl⟩:=D6.1 hk;refine e27 ?_ hn
  rcases J2.1 (a8P hp)with rfl|hp
  .exact hF.src.pkg.1
  .exact (hF.src.imp p hp).1
 .unfold c8d W1 d0a;rw[K6,a7Y,D3];omega
theorem d4B(hs:F8 s=true):(∀k∈a3e fl s,I1 k=true)/\(a3e fl s).length<=9:=by
 have k4:I1 ⟨4,s,[]⟩=true:=by simp[I1,hs]
 have k3:I1 ⟨3,s,[]⟩=true:=by simp[I1,hs]
 unfold a3e
 split
 .exact ⟨λk hk=>by simp at hk;subst hk;exact k4,U⟩
 .exact ⟨λk hk=>by simp at hk;rcases hk with rfl|rfl;exact k4;exact k3,U⟩
end Go.Proofs.YtncmhkpnclafkaaGreatDoor
