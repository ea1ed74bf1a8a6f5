/- Part 4 of what the claim needs: values without addresses, and what the program's functions do with them. -/
import Derived.Test.YtlppbmfecjabeaaGreatDoorD3
set_option linter.all false
set_option maxRecDepth 100000
set_option maxHeartbeats 4000000
namespace Go.Proofs.YtlppbmfecjabeaaGreatDoor
open Go Go.Cl
variable{T:List Tok}{ps cs:List I}{s s' pkg:I}{α β:Type}{k e2 u o pl e1 e' a v:Int}{σ τ:List b9}{q i w q1 q2 t L f0 n':Nat}{y:α}{ch:List Tr}{va:Bool}{tok:Option Nat}{R:Nat->Nat->Prop}{F:PF}{cv:α->CV}{z:Int×Nat×List Ex}{ao:List Nat}{N:α->Nat}{A E:α->Int}{P:α->Prop}
def S9(k o:Int):Int:=if k=5 then 0 else if k=4 then H6 o else 4
def sgn(o:Int):I:=(glk S0 o).getD []
def a74(k:Int):I:=if k=7 then [115,105,122,101]else if k=8 then [104,97,115]else if k=9 then [101,110,118]else []
def K2(eV:I):List I->I
 | []=>[]
 | [x]=>x
 |x::y::l=>x++eV++K2 eV (y::l)
def ndT(ps:List I)(k u o:Int)(nm:I)(cs:List I):I:=
 if k=1 then Lib.itoa u else if k=2 then ps.getD u.toNat []else if k=4 then cs.getD 0 []++([32]++sgn o++[32])++cs.getD 1 []else if k=5 then [105,102,32]++cs.getD 0 []++[32,116,104,101,110,32]++cs.getD 1 []++[32,101,108,115,101,32]++cs.getD 2 []
 else if k=3 then nm++[40]++K2 [44,32] cs++[41]else if k=6 then [114,101,97,100,40,34]++nm++[34,44,32]++cs.getD 0 []++[41]else if k=10 then [102,108,105,112,40]++Lib.itoa u++[41]else a74 k++([40,34]++nm++[34,41])
def a1D(k o:Int):List Int:=if k=4 then [if H6 o=1 then H6 o+1 else H6 o,H6 o+1]else []
mutual
def Tr.txt(ps:List I):Tr->Int->I
 | .n k u o nm ch,pl=>if S9 k o<pl then [40]++ndT ps k u o nm (P1 ps ch (a1D k o))++[41]else ndT ps k u o nm (P1 ps ch (a1D k o))
def P1(ps:List I):List Tr->List Int->List I
 | [],_=>[]
 |t::l,co=>t.txt ps (co.headD 0)::P1 ps l co.tail
end
theorem a7Q(ps:List I):∀(l:List Tr) (co:List Int),(P1 ps l co).length=l.length
 | [],_=>rfl
 |t::l,co=>by rw[P1,n_9,a7Q ps l,n_9]
theorem b56(ps:List I):∀(l:List Tr) (co:List Int) (m:Nat) (c:Tr),l[m]?=some c->(P1 ps l co)[m]?=some (c.txt ps (co.getD m 0))
 | [],_,_,_,h=>by simp at h
 |t::l,co,0,c,h=>by
  injection h with h
  subst h;rw[P1];cases co<;>rfl
 |t::l,co,m+1,c,h=>by
  rw[P1,c7K,b56 ps l co.tail m c h];cases co<;>rfl
def b4O(E:List Ex)(t:Tr)(s:Nat):Prop:=∃E0 E1,E=E0++t.flat s++E1/\E0.length=s
theorem b4O.node{E:List Ex}{nm:I}{s:Nat}(h:b4O E (.n k u o nm ch) s):E[s+C2 ch]?=some ⟨k,u,o,nm,C0 ch s⟩:=by
 obtain⟨E0,E1,rfl,rfl⟩:=h;rw[Tr.flat,H4,a3i J,H4,a3i (by rw[V9];omega),V9];rw[show E0.length+C2 ch-E0.length -C2 ch=0 by omega];rfl
theorem a88:∀(l:List Tr) (m s:Nat) (c:Tr),l[m]?=some c->∃X,L7 l s=L7 (l.take m) s++c.flat (s+C2 (l.take m))++X
 | [],_,_,_,h=>by simp at h
 |t::l,0,s,c,h=>by
  injection h with h
  subst h;exact⟨_,O⟩
 |t::l,m+1,s,c,h=>by
  obtain⟨X,hX⟩:=a88 l m (s+t.size) c h;refine⟨X,?_⟩;rw[L7,hX,a8g,L7,C2,a9x];simp only[H4]
theorem b4O.child{E:List Ex}{nm:I}{s m:Nat}{c:Tr}(h:b4O E (.n k u o nm ch) s)(hc:ch[m]?=some c):b4O E c (s+C2 (ch.take m)):=by
 obtain⟨E0,E1,rfl,rfl⟩:=h;obtain⟨X,hX⟩:=a88 ch m E0.length c hc;refine⟨E0++L7 (ch.take m) E0.length,X++[⟨k,u,o,nm,C0 ch E0.length⟩]++E1,?_,?_⟩
 .rw [Tr.flat,hX];simp only[H4]
 .rw [n_8,V9]
theorem c6H{l:List Tr}{m:Nat}{c:Tr}(h:l[m]?=some c):c.size<=C2 l:=by
 induction l generalizing m with
 |nil=>simp at h
 |cons t l ih=>
  rw[C2]
  rcases m with _|m
  .injection h with h;subst h;omega
  .have:=ih h;omega
def a2T(eV:I)(cs:List I)(m:Nat):I:=K2 eV (cs.take m)
theorem a3K{eV:I}{m:Nat}{c:I}(h:cs[m]?=some c):a2T eV cs (m+1)=a2T eV cs m++(if m=0 then []else eV)++c:=by
 unfold a2T;have:∀(cs:List I) (m:Nat) (c:I),cs[m]?=some c->K2 eV (cs.take (m+1))=K2 eV (cs.take m)++(if m=0 then []else eV)++c:=by
  intro cs
  induction cs with
  |nil=>intro m c h;simp at h
  |cons x l ih=>
   intro m c h
   rcases m with _|m
   .simp at h;subst h;simp[K2]
   .rw [a8g,a8g];have:=ih m c (H h)
    rcases l with _|⟨y,l⟩
    .simp at h
    .rcases m with _|m
     .simp only[a8g,List.take_zero,K2]at this⊢;simp at this⊢;simpa using h
     .simp only[a8g,K2]at this⊢;rw[this];simp
 exact this cs m c h
theorem c0G{β:Type}{k:Int}{y:β}:∀{l:List (Int×β)},glk l k=some y->(k,y)∈l
 | [],h=>by cases h
 |(b,c)::l,h=>by
  rw[glk]at h;split at h
  .rename_i e;injection h with h
   subst h e;simp
  .exact X6 _ (c0G h)
theorem c4l{l l':I}(he:l=l'):b40 L ao (a1W tU8 l.length) (a1W tU8 l'.length):=he▸ .same O (c4K _ _ _)
theorem d2i(o:Int):(sgn o).length<=100:=by
 unfold sgn;cases hg:glk S0 o with
 |none=>exact n_4 _
 |some y=>
  have:∀x∈S0,x.2.length<=100:=by decide
  exact this _ (c0G hg)
theorem b2z(eV:I)(cs:List I)(m:Nat):(a2T eV cs m).length<=(K2 eV cs).length:=by
 unfold a2T
 induction cs generalizing m with
 |nil=>simp
 |cons x l ih=>
  rcases m with _|m
  .simp [K2]
  .rw [a8g]
   rcases l with _|⟨y,l⟩
   .simp
   .rcases m with _|m
    .simp [K2]
    .have:=ih (m+1);rw[a8g]at this⊢;simp only[K2,n_8]at this⊢;omega
theorem c4X(k:Int):(a74 k).length<=4:=by
 unfold a74
 split;decide
 split;decide
 split<;>decide
theorem a6Z{np d:Nat}:∀{l:List Tr} {m:Nat} {c:Tr},wfL np d l->l[m]?=some c->c.wf np d
 | [],_,_,_,h=>by simp at h
 |t::l,0,c,h,hc=>by rw[wfL]at h;injection hc with hc;subst hc;exact h.1
 |t::l,m+1,c,h,hc=>by rw[wfL]at h;exact a6Z h.2 (H hc)
def a9n(cs:List I):Nat:=(cs.map List.length).sum
theorem c9x(cs:List I):(cs.getD 0 []).length+(cs.getD 1 []).length+(cs.getD 2 []).length<=a9n cs:=by
 rcases cs with _|⟨a,_|⟨b,_|⟨c,l⟩⟩⟩<;>simp[a9n,List.getD]<;>omega
theorem a5B(eV:I):∀cs:List I,(K2 eV cs).length<=a9n cs+eV.length*cs.length
 | []=>by simp[K2]
 | [x]=>by simp[K2,a9n]
 |x::y::l=>by
  have:=a5B eV (y::l);simp only[K2,n_8,a9n,a8w,List.sum_cons,n_9,Nat.mul_add]at this⊢;omega
theorem c1M(hp:∀s∈ps,s.length<=80){nm:I}{c:Nat}(hn:P3 ps.length k u o nm c)(cs:List I):(ndT ps k u o nm cs).length<=a9n cs+2*cs.length+290:=by
 have hg:=c9x cs;have hj:=a5B [44,32] cs;have hs:=d2i o;have hw:=c4X k;have cw:=hn.len;have e2:([44,32]:I).length=2:=O;rw[e2]at hj;unfold ndT
 split
 .rename_i h1;have:=hn.k1 h1;have:=b0D (n:=u) J J;omega
 split
 .have:(ps.getD u.toNat []).length<=80:=by
   rw[a9A];cases hh:ps[u.toNat]? with
   |none=>exact n_4 _
   |some x=>exact hp x (n_2 hh)
  omega
 split
 .simp only[n_8,n_9,R1];omega
 split
 .simp only[n_8,n_9,R1];omega
 split
 .simp only[n_8,n_9,R1];omega
 split
 .simp only[n_8,n_9,R1];omega
 split
 .rename_i bj;have:=hn.k10 bj;have:=b0D (n:=u) J J;simp only[n_8,n_9,R1];omega
 .simp only[n_8,n_9,R1];omega
mutual
theorem Tr.txt_len{ps:List I}(hp:∀s∈ps,s.length<=80):∀(t:Tr) (d:Nat) (pl:Int),t.wf ps.length d->(t.txt ps pl).length+2<=300*t.size
 | .n k u o nm ch,d,pl,h=>by
  rw[Tr.wf]at h;have h1:=c1M hp h.2.1 (P1 ps ch (a1D k o));have h2:=a8G hp ch _ (a1D k o) h.2.2;rw[a7Q]at h1;rw[Tr.txt,Tr.size];have:([40]++ndT ps k u o nm (P1 ps ch (a1D k o))++[41]:I).length=(ndT ps k u o nm (P1 ps ch (a1D k o))).length+2:=by simp
  split
  .rw [this];omega
  .omega
theorem a8G{ps:List I}(hp:∀s∈ps,s.length<=80):∀(l:List Tr) (d:Nat) (co:List Int),wfL ps.length d l->a9n (P1 ps l co)+2*l.length<=300*C2 l
 | [],_,_,_=>by simp[P1,a9n]
 |t::l,d,co,h=>by
  rw[wfL]at h;have h1:=Tr.txt_len hp t d (co.headD 0) h.1;have h2:=a8G hp l d co.tail h.2;rw[P1,C2];simp only[a9n,a8w,List.sum_cons,n_9]at h2⊢;omega
end
open Classical in
noncomputable def a6e(d:De):I:=if h:∃t:Tr,d.body=t.flat 0/\t.wf d.params.length 1 then h.choose.txt d.params 0 else []
theorem a7p{d:De}(h:DeG d):∃t:Tr,d.body=t.flat 0/\t.wf d.params.length 1/\a6e d=t.txt d.params 0:=by
 refine⟨h.tree.choose,h.tree.choose_spec.1,h.tree.choose_spec.2,?_⟩;unfold a6e;rw[dif_pos h.tree]
theorem c6Z{d:De}(h:DeG d):∀s∈d.params,s.length<=80:=λs hs=>by have:=C9 (h.par s hs).1;omega
theorem b3g{d:De}(h:DeG d):(a6e d).length<=76800:=by
 obtain⟨t,h1,h2,h3⟩:=a7p h;have:=t.txt_len (c6Z h) 1 0 h2;have hb:=h.blen;rw[h1,Tr.flat_len]at hb;rw[h3];omega
def a0n(l:List I):I:=(l.map λs=>[105,109,112,111,114,116,32]++s++[59,10]).flatten
theorem c5n{l:List I}{m:Nat}(h:l[m]?=some s):a0n (l.take (m+1))=a0n (l.take m)++([105,109,112,111,114,116,32]++s++[59,10]):=by
 unfold a0n;rw[a8n,h];simp
def X9(d:De):I:=if d.k=1 then [102,117,110,99,32]++d.name++[40]++K2 [44,32] d.params++[41,32,61,32]else if d.k=2 then [116,101,115,116,32]++d.name++[32,61,32]else [103,101,110,32,34]++d.name++[34,32,61,32]
noncomputable def a33(x:Src)(d:De):I:=([112,97,99,107,97,103,101,32]++x.pkg++[59,10])++a0n x.imports++X9 d++(a6e d++[59,10])
theorem b1j{l:List I}(h:∀s∈l,s.length<=80):∀m,(a0n (l.take m)).length<=100*m
 |0=>by simp[a0n]
 |m+1=>by
  have ih:=b1j h m;cases hg:l[m]? with
  |none=>
   have:l.length<=m:=H hg;rw[a1i (show l.length<=m+1 by omega)];rw[a1i this]at ih;omega
  |some y=>
   have:=h y (n_2 hg);rw[c5n hg];simp only[n_8,n_9,R1];omega
theorem c2f{l:List I}{k:Nat}(h:∀s∈l,s.length<=k):a9n l<=k*l.length:=by
 induction l with
 |nil=>simp[a9n]
 |cons x l ih=>
  have h1:=h x Q;have h2:=ih λs hs=>h s (by simp[hs]);simp only[a9n,a8w,List.sum_cons,n_9,Nat.mul_add]at h2⊢;omega
theorem De.name_len{d:De}(h:DeG d):d.name.length<=80:=by
 by_cases h3:d.k=3
 .exact Q1 (h.path h3)
 .have:=C9 (h.name h3).1;omega
theorem d7b{np d:Nat}{l:List Tr}(hl:wfL np d l){t:Tr}(h:t∈l):t.wf np d:=by
 induction l with
 |nil=>cases h
 |cons a l ih=>
  rcases J6.1 h with rfl|h
  .exact hl.1
  .exact ih hl.2 h
abbrev isW(b:UInt8):Bool:=inK [1,2,3] b
def NW(s:I):Prop:=∀b r,s=b::r->isW b=false
theorem a5o{w w':I}(h1:w.all isW=true)(h2:w'.all isW=true)(n1:NW s)(n2:NW s')(h:w++s=w'++s'):w=w'/\s=s':=by
 induction w generalizing w' with
 |nil=>
  cases w' with
  |nil=>exact⟨O,h⟩
  |cons b w'=>
   have h3:=n1 b (w'++s') h;simp only[b1F,O5]at h2;rw[h2.1]at h3;cases h3
 |cons b w ih=>
  simp only[b1F,O5]at h1;cases w' with
  |nil=>
   have h3:=n2 b (w++s) h.symm;rw[h1.1]at h3;cases h3
  |cons b' w'=>
   simp only[b1F,O5]at h2;injection h with e1 e2
   obtain⟨h4,h5⟩:=ih h1.2 h2.2 e2;exact⟨by rw[e1,h4],h5⟩
theorem a7P{c:UInt8}{w w':I}(h1:c∉w)(h2:c∉w')(h:w++c::s=w'++c::s'):w=w'/\s=s':=by
 induction w generalizing w' with
 |nil=>
  cases w' with
  |nil=>injection h with _ h;exact⟨O,h⟩
  |cons b w'=>injection h with h _;exact absurd (h▸a1l) h2
 |cons b w ih=>
  cases w' with
  |nil=>injection h with h _;exact absurd (h▸a1l) h1
  |cons b' w'=>
   injection h with e1 e2
   obtain⟨h4,h5⟩:=ih (λhm=>h1 (X6 _ hm)) (λhm=>h2 (X6 _ hm)) e2;exact⟨by rw[e1,h4],h5⟩
def b2q(s:I):Prop:=∀b r,s=b::r->b=41\/b=44\/b=59\/b=32
def Stop(pl:Int)(s:I):Prop:=b2q s/\∀o r,1<=o->o<=7->pl<=H6 o->s≠[32]++sgn o++[32]++r
theorem Stop.up{q:Int}(h:Stop pl s)(hq:pl<=q):Stop q s:=⟨h.1,λo r h1 h2 h3=>h.2 o r h1 h2 (Int.le_trans hq h3)⟩
theorem a2A{b:UInt8}(h:b=41\/b=44\/b=59):Stop pl (b::s):=by
 refine⟨λb' r e=>?_,λo r _ _ _ e=>?_⟩
 .injection e with e _;subst e;rcases h with h|h|h<;>simp[h]
 .injection e with e _;subst e;rcases h with h|h|h<;>cases h
theorem d7K(h1:1<=o)(h2:o<=7):o=1\/o=2\/o=3\/o=4\/o=5\/o=6\/o=7:=by omega
theorem c2H{q:Int}{r r':I}(h1:1<=o)(h2:o<=7)(k1:1<=q)(k2:q<=7)(h:[32]++sgn o++[32]++r=[32]++sgn q++[32]++r'):o=q/\r=r':=by
 rcases d7K h1 h2 with rfl|rfl|rfl|rfl|rfl|rfl|rfl<;>rcases d7K k1 k2 with rfl|rfl|rfl|rfl|rfl|rfl|rfl<;>first|exact⟨O,H h⟩|(exfalso;revert h;simp[sgn,glk,S0])
theorem a5D{b:UInt8}(h:isW b=true):Stop pl (32::b::s):=by
 refine⟨λb' r e=>?_,λo r h1 h2 _ e=>?_⟩
 .injection e with e _;subst e;simp
 .have hb:∃x y,sgn o++[32]++r=x::y/\isW x=false:=by
   rcases d7K h1 h2 with rfl|rfl|rfl|rfl|rfl|rfl|rfl<;>exact⟨_,_,O,U⟩
  obtain⟨x,y,h3,h4⟩:=hb;have e':b::s=x::y:=by
   injection e with _ e
   rw[<- h3];exact e
  injection e' with e1 _
  rw[<- e1,h]at h4;cases h4
theorem b2q.nw(h:b2q s):NW s:=λb r e=>by
 rcases h b r e with rfl|rfl|rfl|rfl<;>decide
def d8c(l:I):Nat:=l.foldl (λa b=>10*a+(b.toNat -48)) 0
theorem d3f:∀k,k<10->(UInt8.ofNat (48+k)).toNat=48+k:=by decide
theorem b77(u:Nat):d8c (Lib.decDigits u)=u:=by
 induction u using Nat.strongRecOn with
 |_ u ih=>
  rw[Lib.decDigits]
  split
  .rename_i h;simp only[d8c,List.foldl_cons,List.foldl_nil,d3f u h];omega
  .rename_i h;have h1:=ih (u / 10) J;unfold d8c at h1⊢;rw[c20,h1];simp only[List.foldl_cons,List.foldl_nil,d3f (u%10) (a4L _ J)];omega
theorem d1i{u v:Nat}(h:Lib.decDigits u=Lib.decDigits v):u=v:=by rw[<- b77 u,h,b77]
theorem b4F(u:Nat):∀b∈Lib.decDigits u,48<=b.toNat/\b.toNat<=57:=by
 intro b hb
 induction u using Nat.strongRecOn with
 |_ u ih=>
  rw[Lib.decDigits]at hb;split at hb
  .rename_i h;simp only[J6,a5J,or_false]at hb;subst hb;rw[d3f u h];omega
  .rename_i h
   rcases W0.1 hb with hb|hb
   .exact ih _ J hb
   .simp only[J6,a5J,or_false]at hb;subst hb;rw[d3f (u%10) (a4L _ J)];omega
theorem d5C(u:Nat):(Lib.decDigits u).all isW=true:=a2d.2 λb hb=>by
 have h:=b4F u b hb;have hk:j8 b.toNat=2:=by unfold j8;rw[G J,W J]
 simp[inK,hk]
theorem c8l(u:Nat):Lib.decDigits u≠[]:=λh=>by
 have:=D9 List.length h;rw[Lib.decDigits_length]at this;have h2:=Lib.nDigits_pos u;simp at this;omega
theorem V6(h:B5 s=true):s.all isW=true/\∃b r,s=b::r/\j8 b.toNat=1:=by
 cases s with
 |nil=>cases h
 |cons b r=>
  simp only[B5,O5,a1z]at h;exact⟨h.2,b,r,O,h.1.2⟩
theorem w_q(h:s.all isW=true):(34:UInt8)∉s:=λhm=>by
 have:=a2d.1 h _ hm;exact absurd this U
theorem c0g{p:I}(h:E9 p=true):(34:UInt8)∉p:=by
 have key:∀(l:I),((B0 47 l).all λq=>q.all (inK [1,2,3,4]))=true->(34:UInt8)∉l:=by
  intro l
  induction l with
  |nil=>intro _ h;cases h
  |cons b l ih=>
   intro h hm;rw[B0]at h;split at h
   .rename_i hb
    rcases J6.1 hm with e|hm
    .rw [<- e]at hb;cases hb
    .simp only[b1F,O5]at h;exact ih h.2 hm
   .cases hs:B0 47 l with
    |nil=>exact absurd hs (a0e _ _)
    |cons q t=>
     rw[hs]at h ih;simp only[b1F,O5]at h ih
     rcases J6.1 hm with e|hm
     .rw [<- e]at h;exact absurd h.1.1 U
     .exact ih ⟨h.1.2,h.2⟩ hm
 simp only[E9,O5]at h;refine key p (a2d.2 λq hq=>?_);have:=a2d.1 h.2 q hq;simp only[a2X,O5]at this;exact this.2
def a5U:Tr->Int
 | .n k _ o _ _=>S9 k o
def kT:Tr->Int
 | .n k _ _ _ _=>k
theorem b4r(o:Int):1<=H6 o/\H6 o<=3:=by unfold H6;split<;>(try split)<;>omega
theorem c9T(k o:Int):0<=S9 k o/\S9 k o<=4:=by have:=b4r o;unfold S9;split<;>(try split)<;>omega
theorem b4o(t:Tr):0<=a5U t/\a5U t<=4:=by cases t;exact c9T _ _
section
theorem a3w{t:Tr}(h:a5U t<pl):t.txt ps pl=[40]++t.txt ps 0++[41]:=by
 obtain⟨k,u,o,nm,ch⟩:=t;have:=(c9T k o).1;have h:S9 k o<pl:=h;rw[Tr.txt,Tr.txt,W h,G J]
theorem b0F{t:Tr}{q:Int}(h:pl<=a5U t)(h2:q<=a5U t):t.txt ps pl=t.txt ps q:=by
 obtain⟨k,u,o,nm,ch⟩:=t;have h:pl<=S9 k o:=h;have h2:q<=S9 k o:=h2;rw[Tr.txt,Tr.txt,G J,G J]
def a4e(ps:List I)(pl:Int)(C:List (Int×Tr)):I:=(C.map λx=>[32]++sgn x.1++[32]++x.2.txt ps (pl+1)).flatten
def d5k(h:Tr)(C:List (Int×Tr)):Tr:=C.foldl (λa x=>.n 4 0 x.1 [] [a,x.2]) h
structure b2x(ps:List I)(pl:Int)(n:Nat)(C:List (Int×Tr)):Prop where
 op:∀x∈C,1<=x.1/\x.1<=7/\H6 x.1=pl
 wf:∀x∈C,∃d,x.2.wf ps.length d
 sz:∀x∈C,x.2.size <n
theorem two{l:List Tr}(h:l.length=2):∃a b,l=[a,b]:=by
 match l,h with
 | [a,b],_=>exact⟨a,b,O⟩
theorem d4d{l:List Tr}(h:l.length=3):∃a b c,l=[a,b,c]:=by
 match l,h with
 | [a,b,c],_=>exact⟨a,b,c,O⟩
theorem one{l:List Tr}(h:l.length=1):∃a,l=[a]:=by
 match l,h with
 | [a],_=>exact⟨a,O⟩
theorem c7Q{d:Nat}{nm:I}(h:(Tr.n 4 u o nm ch).wf ps.length d):∃a b,u=0/\nm=[]/\ch=[a,b]/\1<=o/\o<=7/\a.wf ps.length d/\b.wf ps.length d:=by
 obtain⟨_,hn,hc⟩:=h;obtain⟨a,b,rfl⟩:=two (hn.cnt.trans (W O));rw[W O]at hc;exact⟨a,b,hn.num U U U,hn.name Q,O,(hn.k4 O).1,(hn.k4 O).2,hc.1,hc.2.1⟩
theorem b36{a b:Tr}(h:pl<=H6 o):(Tr.n 4 0 o [] [a,b]).txt ps pl=a.txt ps (if H6 o=1 then 2 else H6 o)++([32]++sgn o++[32]++b.txt ps (H6 o+1)):=by
 have e:S9 4 o=H6 o:=O;rw[Tr.txt,G J,ndT];simp only[show ¬(4:Int)=1 by decide,show ¬(4:Int)=2 by decide,if_false,if_true,P1,a1D,List.headD_cons,List.tail_cons,List.getD_cons_zero,List.getD_cons_succ]
 split<;>rename_i h1<;>simp[h1]
theorem c8a(o:Int)(a b:Tr):a.size < (Tr.n 4 0 o [] [a,b]).size/\b.size < (Tr.n 4 0 o [] [a,b]).size:=by
 simp only[Tr.size,C2];have:=a.size_pos;have:=b.size_pos;omega
theorem c7o{pl:Int}(h1:1<=pl)(h3:pl<=3):∀(t:Tr) (d:Nat),t.wf ps.length d->∃h C,t=d5k h C/\t.txt ps pl=h.txt ps (pl+1)++a4e ps pl C/\b2x ps pl t.size C/\(∃d,h.wf ps.length d)/\(h=t/\a5U t≠pl\/h.size <t.size)
 | .n k u o nm ch,d,hw=>by
  by_cases hl:S9 k o=pl
  .have hk:k=4:=by
    unfold S9 at hl;split at hl
    .omega
    .split at hl
     .assumption
     .omega
   subst hk;obtain⟨a,b,rfl,rfl,rfl,ho1,ho2,ha,hb⟩:=c7Q hw;have hl:H6 o=pl:=hl;obtain⟨s1,s2⟩:=c8a o a b;by_cases h2:pl=1
   .refine ⟨a,[(o,b)],O,?_,⟨λx hx=>?_,λx hx=>?_,λx hx=>?_⟩,⟨d,ha⟩,.inr s1⟩
    .rw [b36 J,hl,W h2,h2];simp[a4e]
    all_goals (simp only[J6,a5J,or_false]at hx;subst hx)
    .exact ⟨ho1,ho2,hl⟩
    .exact ⟨d,hb⟩
    .exact s2
   .obtain ⟨h,C,e1,e2,e3,e4,e5⟩:=c7o h1 h3 a d ha;have hs:h.size < (Tr.n 4 0 o [] [a,b]).size:=by rcases e5 with⟨rfl,_⟩|e5<;>omega
    refine⟨h,C++[(o,b)],by rw[d5k,c20,show List.foldl _ h C=a from e1.symm];rfl,?_,⟨λx hx=>?_,λx hx=>?_,λx hx=>?_⟩,e4,.inr hs⟩
    .rw [b36 J,hl,G h2,e2];simp[a4e]
    all_goals (rcases W0.1 hx with hx|hx)
    .exact e3.op x hx
    .simp only[J6,a5J,or_false]at hx;subst hx;exact⟨ho1,ho2,hl⟩
    .exact e3.wf x hx
    .simp only[J6,a5J,or_false]at hx;subst hx;exact⟨d,hb⟩
    .exact Nat.lt_trans (e3.sz x hx) s1
    .simp only[J6,a5J,or_false]at hx;subst hx;exact s2
  .refine ⟨.n k u o nm ch,[],O,?_,⟨λ_ h=>(by cases h),λ_ h=>(by cases h),λ_ h=>(by cases h)⟩,⟨d,hw⟩,.inl ⟨O,hl⟩⟩;rw[show a4e ps pl []=[]from O,a1f];by_cases ah:S9 k o<pl
   .rw [a3w (show a5U (.n k u o nm ch)<pl from ah),a3w (show a5U (.n k u o nm ch)<pl+1 by show S9 k o<pl+1;omega)]
   .exact b0F (show pl<=S9 k o by omega) (show pl+1<=S9 k o by omega)
theorem a73{n:Nat}{C:List (Int×Tr)}(hC:b2x ps pl n C)(hs:Stop pl s):Stop (pl+1) (a4e ps pl C++s):=by
 cases C with
 |nil=>exact hs.up J
 |cons x C=>
  obtain⟨h1,h2,h3⟩:=hC.op x a1l;refine⟨λb r e=>?_,λo r g1 g2 g3 e=>?_⟩
  .injection e with e _;subst e;simp
  .have e':[32]++sgn x.1++[32]++(x.2.txt ps (pl+1)++(a4e ps pl C++s))=[32]++sgn o++[32]++r:=by rw[<- e];simp[a4e]
   obtain⟨rfl,_⟩:=c2H h1 h2 g1 g2 e';omega
def Uq(ps:List I)(t:Tr)(pl:Int):Prop:=∀(t':Tr) (d':Nat) (s s':I),t'.wf ps.length d'->Stop pl s->Stop pl s'->t.txt ps pl++s=t'.txt ps pl++s'->t=t'/\s=s'
theorem b7W{pl:Int}{n n':Nat}{s s':I}(hs:Stop pl s)(aI:Stop pl s'):∀{C C':List (Int×Tr)},b2x ps pl n C->b2x ps pl n' C'->(∀x∈C,Uq ps x.2 (pl+1))->a4e ps pl C++s=a4e ps pl C'++s'->C=C'/\s=s'
 | [],[],_,_,_,e=>⟨O,e⟩
 | [],x::C',_,h',_,e=>by
  obtain⟨g1,g2,g3⟩:=h'.op x a1l;exact absurd (show s=[32]++sgn x.1++[32]++(x.2.txt ps (pl+1)++(a4e ps pl C'++s')) by rw[show s=a4e ps pl []++s from O,e];simp[a4e]) (hs.2 _ _ g1 g2 J)
 |x::C,[],h,_,_,e=>by
  obtain⟨g1,g2,g3⟩:=h.op x a1l;exact absurd (show s'=[32]++sgn x.1++[32]++(x.2.txt ps (pl+1)++(a4e ps pl C++s)) by rw[show s'=a4e ps pl []++s' from O,<- e];simp[a4e]) (aI.2 _ _ g1 g2 J)
 |x::C,y::C',h,h',hu,e=>by
  obtain⟨g1,g2,g3⟩:=h.op x a1l;obtain⟨k1,k2,k3⟩:=h'.op y a1l;have hC:b2x ps pl n C:=⟨λz hz=>h.op z (X6 _ hz),λz hz=>h.wf z (X6 _ hz),λz hz=>h.sz z (X6 _ hz)⟩;have hC':b2x ps pl n' C':=⟨λz hz=>h'.op z (X6 _ hz),λz hz=>h'.wf z (X6 _ hz),λz hz=>h'.sz z (X6 _ hz)⟩;have e':[32]++sgn x.1++[32]++(x.2.txt ps (pl+1)++(a4e ps pl C++s))=[32]++sgn y.1++[32]++(y.2.txt ps (pl+1)++(a4e ps pl C'++s')):=by
   have:=e;simp only[a4e,a8w,c1o,H4]at this⊢;exact this
  obtain⟨e1,e2⟩:=c2H g1 g2 k1 k2 e';obtain⟨d',cp⟩:=h'.wf y a1l;obtain⟨e3,e4⟩:=hu x a1l y.2 d' _ _ cp (a73 hC hs) (a73 hC' aI) e2;obtain⟨e5,e6⟩:=b7W hs aI hC hC' (λz hz=>hu z (X6 _ hz)) e4;exact⟨by rw[e5,show x=y from Prod.ext e1 e3],e6⟩
structure b9O(ps:List I):Prop where
 nm:∀s∈ps,B5 s=true/\Q2 s=false
 nd:ps.Nodup
def a4u(ps:List I)(k u:Int)(nm:I):I:=if k=2 then ps.getD u.toNat []else if k=3 then nm else if k=6 then [114,101,97,100]else if k=10 then [102,108,105,112]else a74 k
def a7w(k u:Int)(nm:I)(cs:List I):I:=if k=2 then []else if k=3 then 40::(K2 [44,32] cs++[41])else if k=6 then 40::34::(nm++34::44::32::(cs.getD 0 []++[41]))else if k=10 then 40::(Lib.itoa u++[41])else 40::34::(nm++[34,41])
theorem a7W{nm:I}(h4:k≠4)(h5:k≠5)(hp:pl<=4)(h1:k≠1):(Tr.n k u o nm ch).txt ps pl=a4u ps k u nm++a7w k u nm (P1 ps ch []):=by
 have e:S9 k o=4:=by rw[S9,G h5,G h4]
 rw[Tr.txt,G J,ndT,G h1,a1D,G h4,a4u,a7w];by_cases k2:k=2
 .simp [k2]
 by_cases k3:k=3
 .subst k3;simp
 by_cases k6:k=6
 .subst k6;simp
 by_cases k10:k=10
 .subst k10;simp
 simp[k2,k3,k6,k10,h5]
theorem a6R{nm:I}(hp:pl<=4):(Tr.n 1 u o nm ch).txt ps pl=Lib.itoa u:=by
 have e:S9 1 o=4:=O;rw[Tr.txt,G J,ndT,W O]
theorem b4D(ba:b9O ps){nm:I}{c:Nat}(hn:P3 ps.length k u o nm c)(h2:k=2):∃p,ps[u.toNat]?=some p/\ps.getD u.toNat []=p/\B5 p=true/\Q2 p=false:=by
 have:=hn.k2 h2;have ah:u.toNat <ps.length:=by omega
 refine⟨ps[u.toNat],a1C ah,by simp[ah],ba.nm _ (b9D ah)⟩
theorem a90(ba:b9O ps){nm:I}{c:Nat}(hn:P3 ps.length k u o nm c)(h4:k≠4)(h5:k≠5)(h1:k≠1):(a4u ps k u nm).all isW=true/\(∃b r,a4u ps k u nm=b::r/\j8 b.toNat=1)/\a4u ps k u nm≠[105,102]:=by
 unfold a4u;by_cases k2:k=2
 .obtain ⟨p,_,e,hp,hr⟩:=b4D ba hn k2;rw[W k2,e];exact⟨(V6 hp).1,(V6 hp).2,λh=>by rw[h]at hr;exact absurd hr U⟩
 rw[G k2];by_cases k3:k=3
 .obtain ⟨hp,hr⟩:=hn.k3 k3;rw[W k3];exact⟨(V6 hp).1,(V6 hp).2,λh=>by rw[h]at hr;exact absurd hr U⟩
 rw[G k3];have:=hn.kind;have hk:k=6\/k=7\/k=8\/k=9\/k=10:=by omega
 rcases hk with rfl|rfl|rfl|rfl|rfl<;>exact⟨U,⟨_,_,O,U⟩,U⟩
theorem b33{nm:I}(hs:b2q s):NW (a7w k u nm cs++s):=by
 have h40:∀(x:I),NW ((40::x)++s):=λx b r e=>by injection e with e _;subst e;decide
 unfold a7w
 split
 .exact hs.nw
 repeat' (first|exact h40 _|split)
theorem a8A(u:Int):∃b r,Lib.itoa u=b::r/\(b=45\/48<=b.toNat/\b.toNat<=57):=by
 unfold Lib.itoa
 split
 .exact ⟨_,_,O,.inl O⟩
 .cases h:Lib.decDigits u.toNat with
  |nil=>exact absurd h (c8l _)
  |cons b r=>exact⟨b,r,O,.inr (b4F _ b (by rw[h];exact a1l))⟩
theorem a7V{b:UInt8}(h:b=45\/48<=b.toNat/\b.toNat<=57):¬j8 b.toNat=1/\b≠40/\b≠41:=by
 rcases h with rfl|h
 .decide
 .refine ⟨?_,λe=>by subst e;simp at h,λe=>by subst e;simp at h⟩;unfold j8;rw[G J,W J];decide
theorem a9G{b:UInt8}(h:j8 b.toNat=1):b≠40/\b≠41:=⟨λe=>by subst e;exact absurd h U,λe=>by subst e;exact absurd h U⟩
theorem a1a(ba:b9O ps){s:I}:∀(t:Tr) (d:Nat) (pl:Int),t.wf ps.length d->pl<=4->b2q s->(∃b r,t.txt ps pl=b::r/\b≠41/\(a5U t=4->b≠40))/\(¬(kT t=5/\pl<=0)->∀r,t.txt ps pl++s≠[105,102,32]++r)
 | .n k u o nm ch,d,pl,hw,hp,hs=>by
  by_cases hl:S9 k o<pl
  .rw [a3w (show a5U (.n k u o nm ch)<pl from hl)];exact⟨⟨40,_,O,U,λh=>by have:S9 k o=4:=h;omega⟩,λ_ r e=>by injection e with e _;cases e⟩
  .by_cases k5:k=5
   .subst k5;have h0:S9 5 o=0:=O;refine⟨?_,λh=>absurd ⟨O,J⟩ h⟩;rw[Tr.txt,G hl,ndT];exact⟨105,_,O,U,λ_=>by decide⟩
   .by_cases k4:k=4
    .subst k4;obtain⟨a,b,rfl,rfl,rfl,ho1,ho2,ha,hb⟩:=c7Q hw;have bU:=b4r o;have bw:pl<=H6 o:=by have:S9 4 o=H6 o:=O;omega
     rw[b36 bw];have hq:¬(kT a=5/\(if H6 o=1 then 2 else H6 o)<=0):=λh=>by have:=h.2;split at this<;>omega
     have dY:(if H6 o=1 then 2 else H6 o)<=4:=by split<;>omega
     obtain⟨⟨x,y,g1,g2,_⟩,_⟩:=a1a (s:=[]) ba a d _ ha dY (λ_ _ h=>by cases h);refine⟨⟨x,y++_,by rw[g1];rfl,g2,λh=>by have:H6 o=4:=h;omega⟩,λ_ r e=>?_⟩;obtain⟨_,g3⟩:=a1a (s:=[32]++sgn o++[32]++b.txt ps (H6 o+1)++s) ba a d _ ha dY (λb' r' h=>by injection h with h _;subst h;simp);exact g3 hq r (by rw[<- e];simp)
    .by_cases k1:k=1
     .subst k1;rw[a6R hp];obtain⟨b,r,e,hb⟩:=a8A u;refine⟨⟨b,r,e,(a7V hb).2.2,λ_=>(a7V hb).2.1⟩,λ_ r' e'=>?_⟩;rw[e]at e';injection e' with e' _
      subst e';exact absurd hb U
     .rw [a7W k4 k5 hp k1];obtain⟨w1,⟨b,r,w2,w3⟩,w4⟩:=a90 ba hw.2.1 k4 k5 k1;refine⟨⟨b,r++_,by rw[w2];rfl,(a9G w3).2,λ_=>(a9G w3).1⟩,λ_ r' e=>?_⟩;rw[H4]at e;exact w4 (a5o (s:=a7w k u nm (P1 ps ch [])++s) (w':=[105,102]) (s':=32::r') w1 U (b33 hs) (λb' r' h=>by injection h with h _;subst h;decide) e).1
theorem a0b(x:I)(l:List I):K2 [44,32] (x::l)=x++(match l with| []=>[]|_::_=>[44,32]++K2 [44,32] l):=by
 cases l with
 |nil=>simp[K2]
 |cons y l=>simp[K2]
theorem c2t(ba:b9O ps){s s':I}:∀{l l':List Tr} {d d':Nat},wfL ps.length d l->wfL ps.length d' l'->(∀t∈l,Uq ps t 0)->K2 [44,32] (P1 ps l [])++41::s=K2 [44,32] (P1 ps l' [])++41::s'->l=l'/\s=s'
 | [],[],_,_,_,_,_,e=>by injection e with _ e;exact⟨O,e⟩
 | [],y::l',_,_,_,h',_,e=>by
  obtain⟨⟨b,r,g1,g2,_⟩,_⟩:=a1a (s:=[]) ba y _ 0 h'.1 U (λ_ _ h=>by cases h);rw[P1,P1,a0b,List.headD_nil,g1]at e;injection e with e _;exact absurd e.symm g2
 |x::l,[],_,_,h,_,_,e=>by
  obtain⟨⟨b,r,g1,g2,_⟩,_⟩:=a1a (s:=[]) ba x _ 0 h.1 U (λ_ _ h=>by cases h);rw[P1,P1,a0b,List.headD_nil,g1]at e;injection e with e _;exact absurd e g2
 |x::l,y::l',d,d',h,h',hu,e=>by
  rw[P1,P1,a0b,a0b,List.headD_nil,H4,H4]at e;have aP:∀(m:List Tr) (z:I),Stop 0 ((match P1 ps m (List.tail [])with| []=>[]|_::_=>[44,32]++K2 [44,32] (P1 ps m (List.tail [])))++41::z):=λm z=>by
   cases m with
   |nil=>exact a2A Q
   |cons c m=>exact a2A (b:=44) Q
  obtain⟨e1,e2⟩:=hu x a1l y _ _ _ h'.1 (aP l s) (aP l' s') e;subst e1;cases l with
  |nil=>
   cases l' with
   |nil=>injection e2 with _ e2;exact⟨O,e2⟩
   |cons c m=>injection e2 with e2 _;cases e2
  |cons c m=>
   cases l' with
   |nil=>injection e2 with e2 _;cases e2
   |cons c' m'=>
    obtain⟨e3,e4⟩:=c2t (s:=s) (s':=s') ba h.2 h'.2 (λt ht=>hu t (X6 _ ht)) (by injection e2 with _ e2;injection e2);exact⟨by rw[e3],e4⟩
theorem b8X{u':Int}(hs:NW s)(aI:NW s')(e:Lib.itoa u++s=Lib.itoa u'++s'):u=u'/\s=s':=by
 have key:∀{m n:Nat},Lib.decDigits m++s=Lib.decDigits n++s'->m=n/\s=s':=λ{m n} h=>by
  obtain⟨h1,h2⟩:=a5o (d5C m) (d5C n) hs aI h;exact⟨d1i h1,h2⟩
 have h45:∀(n:Nat) (x y:I),Lib.decDigits n++x≠45::y:=λn x y h=>by
  cases hd:Lib.decDigits n with
  |nil=>exact c8l _ hd
  |cons b r=>
   rw[hd]at h;injection h with h _
   have:=b4F n b (by rw[hd];exact a1l);subst h;simp at this
 unfold Lib.itoa at e;split at e<;>split at e
 .injection e with _ e
  obtain⟨h1,h2⟩:=key e;exact⟨J,h2⟩
 .exact absurd e.symm (h45 _ _ _)
 .exact absurd e (h45 _ _ _)
 .obtain ⟨h1,h2⟩:=key e;exact⟨J,h2⟩
theorem c9A{nm:I}(h:k≠2):∃x,a7w k u nm cs=40::x:=by
 unfold a7w;rw[G h]
 repeat' (first|exact⟨_,O⟩|split)
theorem d1h(ba:b9O ps){k' u' o':Int}{nm gu:I}{fZ:List Tr}{d d':Nat}(hw:(Tr.n k u o nm ch).wf ps.length d)(dO:(Tr.n k' u' o' gu fZ).wf ps.length d')(h4:k≠4)(h5:k≠5)(fC:k'≠4)(h5':k'≠5)(hu:∀c∈ch,Uq ps c 0)(hs:Stop 4 s)(aI:Stop 4 s')
 (e:(Tr.n k u o nm ch).txt ps 4++s=(Tr.n k' u' o' gu fZ).txt ps 4++s'):Tr.n k u o nm ch=Tr.n k' u' o' gu fZ/\s=s':=by
 obtain⟨_,hn,hc⟩:=hw;obtain⟨_,du,aM⟩:=dO;have o0:=hn.op h4;have o0':=du.op fC;subst o0 o0';have nil:∀{l:List Tr} {k u o:Int} {nm:I},P3 ps.length k u o nm l.length->k≠4->k≠5->k≠6->k≠3->l=[]:=λhn a b c d=>List.length_eq_zero_iff.1 (by rw[hn.cnt,G a,G b,G c,G d]);by_cases k1:k=1
 .subst k1;rw[a6R U]at e;by_cases k1':k'=1
  .subst k1';rw[a6R U]at e;obtain⟨rfl,e2⟩:=b8X hs.1.nw aI.1.nw e;rw[hn.name Q,du.name Q,nil hn U U U U,nil du U U U U];exact⟨O,e2⟩
  .rw [a7W fC h5' U k1']at e;obtain⟨_,⟨b,r,w2,w3⟩,_⟩:=a90 ba du fC h5' k1';obtain⟨b',r',v2,v3⟩:=a8A u;rw[w2,v2]at e;injection e with e _
   subst e;exact absurd w3 (a7V v3).1
 rw[a7W h4 h5 U k1]at e;obtain⟨w1,⟨b,r,w2,w3⟩,_⟩:=a90 ba hn h4 h5 k1;by_cases k1':k'=1
 .subst k1';rw[a6R U]at e;obtain⟨b',r',v2,v3⟩:=a8A u';rw[w2,v2]at e;injection e with e _
  subst e;exact absurd w3 (a7V v3).1
 rw[a7W fC h5' U k1',H4,H4]at e;obtain⟨v1,_,_⟩:=a90 ba du fC h5' k1';obtain⟨hW,hT⟩:=a5o w1 v1 (b33 hs.1) (b33 aI.1) e;have no40:∀{z:I} {x y:I},b2q z->z≠(40::x)++y:=λh e=>by have:=h 40 _ e;simp at this
 by_cases k2:k=2
 .by_cases k2':k'=2
  .subst k2 k2';obtain⟨p,g1,g2,_⟩:=b4D ba hn O;obtain⟨q,f1,f2,_⟩:=b4D ba du O;have hpq:p=q:=by rw[<- g2,<- f2];exact hW
   subst hpq;have hi:u.toNat=u'.toNat:=by
    obtain⟨a1,a2⟩:=n_3.1 g1;obtain⟨b1,b2⟩:=n_3.1 f1;exact(List.getElem_inj ba.nd (h₀:=a1) (h₁:=b1)).1 (a2.trans b2.symm)
   have h1:=hn.k2 O;have h2:=du.k2 O;obtain rfl:u=u':=by omega
   rw[hn.name Q,du.name Q,nil hn U U U U,nil du U U U U];exact⟨O,hT⟩
  .obtain ⟨x,hx⟩:=c9A (u:=u') (nm:=gu) (cs:=P1 ps fZ []) k2';rw[hx]at hT;subst k2;exact absurd hT (no40 hs.1)
 by_cases k2':k'=2
 .obtain ⟨x,hx⟩:=c9A (u:=u) (nm:=nm) (cs:=P1 ps ch []) k2;rw[hx]at hT;subst k2';exact absurd hT.symm (no40 aI.1)
 have u0:∀{k u o:Int} {nm:I} {c:Nat},P3 ps.length k u o nm c->k≠1->k≠2->k≠10->u=0:=λhn a b c=>hn.num a b c;have kw:∀{k u o k' u' o':Int} {nm gu:I} {c c':Nat},P3 ps.length k u o nm c->P3 ps.length k' u' o' gu c'->k=3->k'≠1->k'≠2->k'≠3->k'≠4->k'≠5->a4u ps k u nm≠a4u ps k' u' gu:=λ{k u o k' u' o' nm gu c c'} hn du a b1 b2 b3 b4 b5 h=>by
  have hr:=(hn.k3 a).2;subst a;have h:nm=a4u ps k' u' gu:=h;have:=du.kind;have hk:k'=6\/k'=7\/k'=8\/k'=9\/k'=10:=by omega
  rw[h]at hr
  rcases hk with rfl|rfl|rfl|rfl|rfl<;>exact absurd hr (by simp[a4u,a74,Q2])
 by_cases k3:k=3
 .by_cases k3':k'=3
  .subst k3 k3';have hW:nm=gu:=hW;subst hW;have hT:40::(K2 [44,32] (P1 ps ch [])++[41])++s=40::(K2 [44,32] (P1 ps fZ [])++[41])++s':=hT;injection hT with _ hT
   obtain⟨e1,e2⟩:=c2t (s:=s) (s':=s') ba hc aM hu (H hT);rw[e1,u0 hn U U U,u0 du U U U];exact⟨O,e2⟩
  .exact absurd hW (kw hn du k3 k1' k2' k3' fC h5')
 by_cases k3':k'=3
 .exact absurd hW.symm (kw du hn k3' k1 k2 k3 h4 h5)
 have hq:∀{k u o:Int} {nm:I} {c:Nat},P3 ps.length k u o nm c->(k=6\/k=7\/k=8)\/k=9->(34:UInt8)∉nm:=λhn h=>by
  rcases h with h|h
  .exact c0g (hn.k678 h)
  .exact w_q (V6 (hn.k9 h)).1
 have a1:=hn.kind;have a2:=du.kind;have hk:k=6\/k=7\/k=8\/k=9\/k=10:=by omega
 have aL:k'=6\/k'=7\/k'=8\/k'=9\/k'=10:=by omega
 have gd:k=k':=by
  rcases hk with rfl|rfl|rfl|rfl|rfl<;>rcases aL with rfl|rfl|rfl|rfl|rfl<;>first|rfl|(exfalso;revert hW;simp[a4u,a74])
 subst gd;by_cases k10:k=10
 .subst k10;have hT:40::(Lib.itoa u++[41])++s=40::(Lib.itoa u'++[41])++s':=hT;injection hT with _ hT
  have n41:∀z:I,NW (41::z):=λz b r e=>by injection e with e _;subst e;decide
  obtain⟨rfl,e2⟩:=b8X (s:=41::s) (s':=41::s') (n41 _) (n41 _) (H hT);injection e2 with _ e2
  rw[hn.name Q,du.name Q,nil hn U U U U,nil du U U U U];exact⟨O,e2⟩
 rw[u0 hn k1 k2 k10,u0 du k1' k2' k10];by_cases k6:k=6
 .subst k6;obtain⟨c,rfl⟩:=one (hn.cnt.trans O);obtain⟨c',rfl⟩:=one (du.cnt.trans O);have hT:40::34::(nm++34::44::32::(c.txt ps 0++[41]))++s=40::34::(gu++34::44::32::(c'.txt ps 0++[41]))++s':=hT;injection hT with _ hT
  injection hT with _ hT
  obtain⟨rfl,e1⟩:=a7P (c:=34) (s:=44::32::(c.txt ps 0++41::s)) (s':=44::32::(c'.txt ps 0++41::s')) (hq hn (.inl (.inl O))) (hq du (.inl (.inl O))) (H hT);injection e1 with _ e1
  injection e1 with _ e1
  obtain⟨rfl,e2⟩:=hu c a1l c' _ _ _ aM.1 (a2A Q) (a2A Q) e1;injection e2 with _ e2
  exact⟨O,e2⟩
 .have ht:∀(nm:I) (cs:List I) (u:Int),a7w k u nm cs=40::34::(nm++[34,41]):=λnm cs u=>by rw[a7w,G k2,G k3,G k6,G k10]
  rw[ht,ht]at hT;injection hT with _ hT
  injection hT with _ hT
  obtain⟨rfl,e1⟩:=a7P (c:=34) (s:=41::s) (s':=41::s') (hq hn J) (hq du J) (H hT);injection e1 with _ e1
  rw[nil hn h4 h5 k6 k3,nil du h4 h5 k6 k3];exact⟨O,e1⟩
def rk(t:Tr)(pl:Int):Nat:=if a5U t<pl then(10-pl).toNat else(a5U t-pl).toNat
theorem uq(ba:b9O ps):∀(n:Nat) (t:Tr) (d:Nat) (pl:Int),16*t.size+rk t pl<n->t.wf ps.length d->0<=pl->pl<=4->Uq ps t pl
 |0,_,_,_,hn,_,_,_=>by omega
 |n+1,t,d,pl,hn,hw,p0,p4=>λt' d' s s' dO hs aI e=>by
  have hb:=b4o t;have gS:=b4o t';have kid:∀{k u o:Int} {nm:I} {ch:List Tr},t= .n k u o nm ch->∀c∈ch,Uq ps c 0:=λ{k u o nm ch} ht c hc=>by
   subst ht;obtain⟨m,hm⟩:=M5.1 hc;have h1:=c6H hm;have h2:rk c 0<=4:=by have:=b4o c;unfold rk;split<;>omega
   exact uq ba n c _ 0 (by rw[Tr.size]at hn;omega) (d7b hw.2.2 hc) J J
  by_cases h4:pl=4
  .subst h4;by_cases hl:a5U t<4<;>by_cases bw:a5U t'<4
   .rw [a3w hl,a3w bw]at e;injection e with _ e
    obtain⟨e1,e2⟩:=uq ba n t d 0 (by unfold rk at hn⊢;rw[W hl]at hn;rw[G J];omega) hw J J t' d' (41::s) (41::s') dO (a2A Q) (a2A Q) (H e);injection e2 with _ e2
    exact⟨e1,e2⟩
   .obtain ⟨⟨b,r,g1,_,g2⟩,_⟩:=a1a (s:=[]) ba t' _ 4 dO U (λ_ _ h=>by cases h);rw[a3w hl,g1]at e;injection e with e _;exact absurd e.symm (g2 J)
   .obtain ⟨⟨b,r,g1,_,g2⟩,_⟩:=a1a (s:=[]) ba t _ 4 hw U (λ_ _ h=>by cases h);rw[a3w bw,g1]at e;injection e with e _;exact absurd e (g2 J)
   .have hk:∀{x:Tr},¬a5U x<4->∃k u o nm ch,x= .n k u o nm ch/\k≠4/\k≠5:=λ{x} h=>by
     obtain⟨k,u,o,nm,ch⟩:=x;have h:¬S9 k o<4:=h;have:=b4r o;exact⟨k,u,o,nm,ch,O,λhk=>h (by rw[S9,G J,W hk];omega),λhk=>h (by rw[S9,W hk];omega)⟩
    obtain⟨k,u,o,nm,ch,rfl,a1,a2⟩:=hk hl;obtain⟨k',u',o',gu,fZ,rfl,b1,b2⟩:=hk bw;exact d1h ba hw dO a1 a2 b1 b2 (kid O) hs aI e
  .by_cases h0:pl=0
   .subst h0;have hif:∀{x:Tr},kT x=5->∃u o nm ch,x= .n 5 u o nm ch/\∃r,x.txt ps 0=[105,102,32]++r:=λ{x} h=>by
     obtain⟨k,u,o,nm,ch⟩:=x;have h:k=5:=h;subst h;exact⟨u,o,nm,ch,O,_,by rw[Tr.txt,G (by rw[S9,W O];omega),ndT];simp;rfl⟩
    have cH:∀{x:Tr},kT x≠5->1<=a5U x:=λ{x} h=>by
     obtain⟨k,u,o,nm,ch⟩:=x;have h:k≠5:=h;show 1<=S9 k o;have:=b4r o;unfold S9;rw[G h];split<;>omega
    by_cases k5:kT t=5<;>by_cases k5':kT t'=5
    .obtain ⟨u,o,nm,ch,rfl,_⟩:=hif k5;obtain⟨u',o',gu,fZ,rfl,_⟩:=hif k5';obtain⟨_,bk,hc⟩:=hw;obtain⟨_,bT,aM⟩:=dO;obtain⟨a,b,c,rfl⟩:=d4d (bk.cnt.trans O);obtain⟨a',b',c',rfl⟩:=d4d (bT.cnt.trans O);have ht:∀(u o:Int) (nm:I) (a b c:Tr),(Tr.n 5 u o nm [a,b,c]).txt ps 0=105::102::32::(a.txt ps 0++(32::116::([104,101,110,32]++(b.txt ps 0++(32::101::([108,115,101,32]++c.txt ps 0)))))):=λu o nm a b c=>by
      rw[Tr.txt,G (by rw[S9,W O];omega),ndT];simp[P1,a1D]
     rw[ht,ht]at e;injection e with _ e
     injection e with _ e
     injection e with _ e
     obtain⟨e1,e2⟩:=kid O a Q a' _ (32::116::([104,101,110,32]++(b.txt ps 0++(32::101::([108,115,101,32]++c.txt ps 0++s))))) (32::116::([104,101,110,32]++(b'.txt ps 0++(32::101::([108,115,101,32]++c'.txt ps 0++s'))))) aM.1 (a5D U) (a5D U) (H e);obtain⟨e3,e4⟩:=kid O b Q b' _ (32::101::([108,115,101,32]++c.txt ps 0++s)) (32::101::([108,115,101,32]++c'.txt ps 0++s')) aM.2.1 (a5D U) (a5D U) (H e2);obtain⟨e5,e6⟩:=kid O c Q c' _ s s' aM.2.2.1 hs aI (H e4);rw[e1,e3,e5,bk.num U U U,bT.num U U U,bk.op U,bT.op U,bk.name Q,bT.name Q];exact⟨O,e6⟩
    .obtain ⟨_,_,_,_,_,r,hr⟩:=hif k5;rw[hr,H4]at e;exact absurd e.symm ((a1a ba t' _ 0 dO U aI.1).2 (λh=>k5' h.1) _)
    .obtain ⟨_,_,_,_,_,r,hr⟩:=hif k5';rw[hr,H4]at e;exact absurd e ((a1a ba t _ 0 hw U hs.1).2 (λh=>k5 h.1) _)
    .have l1:=cH k5;have l2:=cH k5';rw[b0F (q:=1) J l1,b0F (q:=1) J l2]at e;exact uq ba n t d 1 (by unfold rk at hn⊢;rw[G J]at hn⊢;omega) hw J J t' d' s s' dO (hs.up J) (aI.up J) e
   .obtain ⟨h,C,a1,a2,a3,⟨dh,a4⟩,a5⟩:=c7o (ps:=ps) (show 1<=pl by omega) J t d hw;obtain⟨h',C',b1,b2,b3,⟨dh',b4⟩,_⟩:=c7o (ps:=ps) (show 1<=pl by omega) J t' d' dO;rw[a2,b2,H4,H4]at e;have hr:∀{x:Tr},rk x (pl+1)<=9:=λ{x}=>by have:=b4o x;unfold rk;split<;>omega
    have hh:16*h.size+rk h (pl+1)<n:=by
     rcases a5 with⟨rfl,a5⟩|a5
     .have:rk h (pl+1)<rk h pl:=by unfold rk;split<;>split<;>omega
      omega
     .have:=hr (x:=h);omega
    obtain⟨e1,e2⟩:=uq ba n h dh (pl+1) hh a4 J J h' dh' _ _ b4 (a73 a3 hs) (a73 b3 aI) e;obtain⟨e3,e4⟩:=b7W hs aI a3 b3 (λx hx=>by
     obtain⟨dx,bv⟩:=a3.wf x hx;have h1:=a3.sz x hx;have h2:=hr (x:=x.2);exact uq ba n x.2 dx (pl+1) J bv J J) e2
    exact⟨by rw[a1,b1,e1,e3],e4⟩
theorem d2n(ba:b9O ps){t t':Tr}{d d':Nat}(hw:t.wf ps.length d)(dO:t'.wf ps.length d')(e:t.txt ps 0++59::s=t'.txt ps 0++59::s'):t=t'/\s=s':=by
 obtain⟨h1,h2⟩:=uq ba _ t d 0 (Nat.lt_succ_self _) hw J J t' d' _ _ dO (a2A Q) (a2A Q) e;injection h2 with _ h2
 exact⟨h1,h2⟩
end
variable{nm:I}
theorem b4R(h:s.all isW=true):(59:UInt8)∉s:=λhm=>by
 have:=a2d.1 h _ hm;exact absurd this U
theorem c03{r r':I}(hr:∀z,r≠105::z)(bl:∀z,r'≠105::z):∀{l l':List I},(∀s∈l,B5 s=true)->(∀s∈l',B5 s=true)->a0n l++r=a0n l'++r'->l=l'/\r=r'
 | [],[],_,_,e=>⟨O,e⟩
 | [],y::l',_,_,e=>absurd (show r=105::([109,112,111,114,116,32]++y++[59,10]++(a0n l'++r')) by rw[show r=a0n []++r from O,e];simp[a0n]) (hr _)
 |x::l,[],_,_,e=>absurd (show r'=105::([109,112,111,114,116,32]++x++[59,10]++(a0n l++r)) by rw[show r'=a0n []++r' from O,<- e];simp[a0n]) (bl _)
 |x::l,y::l',h,h',e=>by
  have e1:x++59::10::(a0n l++r)=y++59::10::(a0n l'++r'):=by
   have:[105,109,112,111,114,116,32]++(x++59::10::(a0n l++r))=[105,109,112,111,114,116,32]++(y++59::10::(a0n l'++r')):=by
    have e:=e;simp only[a0n,a8w,c1o,H4,b1t,b4Y]at e⊢;exact e
   exact c5U this
  obtain⟨e2,e3⟩:=a7P (b4R (V6 (h x a1l)).1) (b4R (V6 (h' y a1l)).1) e1;injection e3 with _ e3
  obtain⟨e4,e5⟩:=c03 hr bl (λs hs=>h s (X6 _ hs)) (λs hs=>h' s (X6 _ hs)) e3;exact⟨by rw[e2,e4],e5⟩
theorem c3I{b:UInt8}(h:isW b=false):NW (b::s):=λc r e=>by injection e with e _;rw[<- e];exact h
theorem c1K{s s':I}:∀{l l':List I},(∀s∈l,B5 s=true)->(∀s∈l',B5 s=true)->K2 [44,32] l++41::s=K2 [44,32] l'++41::s'->l=l'/\s=s'
 | [],[],_,_,e=>by injection e with _ e;exact⟨O,e⟩
 | [],y::l',_,h',e=>by
  obtain⟨_,b,r,g,hb⟩:=V6 (h' y a1l);rw[a0b,g]at e;injection e with e _;exact absurd e.symm (a9G hb).2
 |x::l,[],h,_,e=>by
  obtain⟨_,b,r,g,hb⟩:=V6 (h x a1l);rw[a0b,g]at e;injection e with e _;exact absurd e (a9G hb).2
 |x::l,y::l',h,h',e=>by
  rw[a0b,a0b,H4,H4]at e;have aP:∀(m:List I) (z:I),NW ((match m with| []=>[]|_::_=>[44,32]++K2 [44,32] m)++41::z):=λm z=>by
   cases m with
   |nil=>exact c3I U
   |cons c m=>exact c3I U
  obtain⟨e1,e2⟩:=a5o (V6 (h x a1l)).1 (V6 (h' y a1l)).1 (aP l s) (aP l' s') e;subst e1;cases l with
  |nil=>
   cases l' with
   |nil=>injection e2 with _ e2;exact⟨O,e2⟩
   |cons c m=>injection e2 with e2 _;cases e2
  |cons c m=>
   cases l' with
   |nil=>injection e2 with e2 _;cases e2
   |cons c' m'=>
    obtain⟨e3,e4⟩:=c1K (s:=s) (s':=s') (λt ht=>h t (X6 _ ht)) (λt ht=>h' t (X6 _ ht)) (by injection e2 with _ e2;injection e2);exact⟨by rw[e3],e4⟩
theorem a3U{d:De}(h:d.k=1)(r:I):X9 d++r=102::117::110::99::32::(d.name++40::(K2 [44,32] d.params++41::32::61::32::r)):=by
 rw[X9,W h];simp
theorem a3T{d:De}(h:d.k=2)(r:I):X9 d++r=116::101::115::116::32::(d.name++32::61::32::r):=by
 rw[X9,G J,W h];simp
theorem a3J{d:De}(h:d.k=3)(r:I):X9 d++r=103::101::110::32::34::(d.name++34::32::61::32::r):=by
 rw[X9,G J,G J];simp
theorem c08{d:De}(hd:DeG d)(r z:I):X9 d++r≠105::z:=by
 rcases hd.kind with h|h|h
 .rw [a3U h];intro e;injection e with e _;cases e
 .rw [a3T h];intro e;injection e with e _;cases e
 .rw [a3J h];intro e;injection e with e _;cases e
theorem c8b{d d':De}(hd:DeG d)(cp:DeG d'){r r':I}(e:X9 d++r=X9 d'++r'):d.k=d'.k/\d.name=d'.name/\d.params=d'.params/\r=r':=by
 rcases hd.kind with h|h|h<;>rcases cp.kind with h'|h'|h'
 .rw [a3U h,a3U h']at e;simp only[List.cons.injEq,true_and]at e;obtain⟨e1,e2⟩:=a5o (V6 (hd.name J).1).1 (V6 (cp.name J).1).1 (c3I U) (c3I U) e;injection e2 with _ e2
  obtain⟨e3,e4⟩:=c1K (λs hs=>(hd.par s hs).1) (λs hs=>(cp.par s hs).1) e2;simp only[List.cons.injEq,true_and]at e4;exact⟨h.trans h'.symm,e1,e3,e4⟩
 .rw [a3U h,a3T h']at e;injection e with e _;cases e
 .rw [a3U h,a3J h']at e;injection e with e _;cases e
 .rw [a3T h,a3U h']at e;injection e with e _;cases e
 .rw [a3T h,a3T h']at e;simp only[List.cons.injEq,true_and]at e;obtain⟨e1,e2⟩:=a5o (V6 (hd.name J).1).1 (V6 (cp.name J).1).1 (c3I U) (c3I U) e;simp only[List.cons.injEq,true_and]at e2;exact⟨h.trans h'.symm,e1,(hd.pars J).trans (cp.pars J).symm,e2⟩
 .rw [a3T h,a3J h']at e;injection e with e _;cases e
 .rw [a3J h,a3U h']at e;injection e with e _;cases e
 .rw [a3J h,a3T h']at e;injection e with e _;cases e
 .rw [a3J h,a3J h']at e;simp only[List.cons.injEq,true_and]at e;obtain⟨e1,e2⟩:=a7P (c0g (hd.path h)) (c0g (cp.path h')) e;simp only[List.cons.injEq,true_and]at e2;exact⟨h.trans h'.symm,e1,(hd.pars J).trans (cp.pars J).symm,e2⟩
theorem c4z{x x':Src}{d d':De}(hx:a0i x)(aC:a0i x')(hd:DeG d)(cp:DeG d')(h:a33 x d=a33 x' d'):x.pkg=x'.pkg/\x.imports=x'.imports/\d=d':=by
 have e:x.pkg++59::10::(a0n x.imports++(X9 d++(a6e d++[59,10])))=x'.pkg++59::10::(a0n x'.imports++(X9 d'++(a6e d'++[59,10]))):=by
  have:[112,97,99,107,97,103,101,32]++(x.pkg++59::10::(a0n x.imports++(X9 d++(a6e d++[59,10]))))=[112,97,99,107,97,103,101,32]++(x'.pkg++59::10::(a0n x'.imports++(X9 d'++(a6e d'++[59,10])))):=by
   have h:=h;simp only[a33,H4,b1t,b4Y]at h⊢;exact h
  exact c5U this
 obtain⟨e1,e2⟩:=a7P (b4R (V6 hx.pkg.1).1) (b4R (V6 aC.pkg.1).1) e;injection e2 with _ e2
 obtain⟨e3,e4⟩:=c03 (c08 hd _) (c08 cp _) (λs hs=>(hx.imp s hs).1) (λs hs=>(aC.imp s hs).1) e2;obtain⟨e5,e6,e7,e8⟩:=c8b hd cp e4;obtain⟨t,h1,h2,h3⟩:=a7p hd;obtain⟨t',dy,cI,h3'⟩:=a7p cp;rw[h3,h3',<- e7]at e8;rw[<- e7]at cI;obtain⟨rfl,_⟩:=d2n (ps:=d.params) ⟨hd.par,hd.nod⟩ h2 cI e8;refine⟨e1,e3,?_⟩;obtain⟨k,nm,pr,bd⟩:=d;obtain⟨k',gu,pr',bd'⟩:=d';simp only at e5 e6 e7 h1 dy;subst e5 e6 e7 h1 dy;rfl
theorem a40(a:Ky):P5 (Ky.cv a):=⟨.val _,.val _,.val _,D⟩
theorem c7c{l:List α}{j:Nat}{s:α}(h:l[j]?=some s)(g:α->β):(l.take (j+1)).map g=(l.take j).map g++[g s]:=by
 rw[a8n,h,b42];rfl
def a2R(n:Nat):I:=if h:n<128 then [UInt8.ofNat n]else UInt8.ofNat (n%128+128)::a2R (n / 128)
termination_by n
decreasing_by omega
theorem a5A(n:Nat):a2R n=if n<128 then [UInt8.ofNat n]else UInt8.ofNat (n%128+128)::a2R (n / 128):=by
 rw[a2R]
 split<;>rfl
theorem b00{n k:Nat}(h:n<128^(k+1)):(a2R n).length<=k+1:=by
 induction k generalizing n with
 |zero=>rw[a5A,W (H h)];exact n_6 _
 |succ k ih=>
  rw[a5A]
  split
  .simp
  .have:=ih (n:=n / 128) (by rw[Nat.pow_succ]at h;exact Nat.div_lt_of_lt_mul (by rw[b2K];exact h));simp;omega
def T5(l s:I):I:=l++a2R s.length++s
theorem d4y{n:Nat}(h:n<256):((UInt8.ofNat n).toNat:Int)=(n:Int):=by
 rw[UInt8.toNat_ofNat',b9c (H h)]
theorem e0K(n:Nat):IntKind.u8.wrap (n:Int)=((n%256:Nat):Int):=by
 simp[IntKind.wrap,IntKind.signed,IntKind.bits]
theorem b51{C:Ctx}{E:Env}{y:Operand}{b:UInt8}{nn:Bool}(ey:E.val C y= .list [bcv b] nn tok):∀M w v,Rel C M σ w->RV M w (E.val C y) v->b9S C w M ([b].map bcv) 1 v:=λM w v hr h=>(a20 ey (by intro r hr;simp at hr;subst hr;rfl) M w v hr h).any
theorem d1B{l:I}{k p:Nat}(hs:ao[p]?=some k):D5 L ao (a4b l k) (a4b l p):=by
 refine .list (λr hr c hc=>(a8z l r hr c hc).old) (λj hj=>?_);cases hb:l.length with
 |zero=>rw[hb]at hj;cases hj
 |succ m=>rw[hb]at hj;injection hj with hj;subst hj;exact⟨k,O,hs⟩
theorem d0F{m:Nat}(h:m<128):CV.list [[CV.val (.int .u8 (m:Int))]] true none= .list [bcv (UInt8.ofNat m)] true none:=by
 rw[bcv,d4y J]
def b2i(k:Nat)(g:b9):List b9:=List.replicate k .dead++[g]
theorem b7s(k:Nat)(g:b9):(b2i k g).length=k+1:=by simp[b2i]
theorem b1h(k:Nat)(g:b9):(b2i k g)[k]?=some g:=by
 rw[b2i,a3i Q];simp
theorem b5V(k:Nat)(g g':b9):(b2i k g).set k .dead++[g']=b2i (k+1) g':=by
 unfold b2i
 congr 1
 rw[List.replicate_succ']
 induction k with
 |zero=>rfl
 |succ k ih=>rw[List.replicate_succ,b1t,List.set_cons_succ,ih];rfl
theorem c8x{k:Nat}{g:b9}{l:I}:F7 1 ((b2i k g).set k .dead++[a1W tU8 l.length]) (.ret (a4b l (b2i k g).length)) (.ret (a4b l 1)) [.dead,a1W tU8 l.length]:=by
 rw[b5V,b7s];refine⟨[0,k+1],O,by simp[a0r],.ret (d1B O),.inl O,.inr ⟨_,b1h _ _,c4l O⟩,D⟩
theorem b3y{n:Nat}(h:n<18446744073709551616):IntKind.u64.wrap (n:Int)=(n:Int):=by
 simp[IntKind.wrap,IntKind.signed,IntKind.bits];omega
theorem c3o{n:Nat}{l l':I}{k:Nat}(h:l=l'):Cls n τ (a4b l k) (.list (l'.map bcv) (gnn l'.length) none):=by
 subst h;refine .list O (λi r r' h h'=>by rw[h]at h';injection h' with h';rw[h']) (λi j r r' c c' h h' g g'=>?_);rw[h]at h';injection h' with h';subst h'
 rw[g]at g';injection g' with g';subst g'
 exact .old (a8z l r (n_2 h) c (n_2 g)).old
theorem a9S{fl:List Fi}{nn:Bool}{br:List I}{ms:SM}{me:EM}(au:WAt σ w q1 q2 t fl nn va br ms me)(k:Int)(p o:I):b8 CC 90 [.ptr w 0,iv k,(sv p),(sv o)] σ λr τ=>r= .ret (.agg (C3 va me k p o).cells)/\τ=σ:=
 d4j (λa h=>by simp at h;rcases h with rfl|rfl|rfl<;>exact .val _) (En.pure _) (c6B fl nn va br ms me k p o) au
theorem c2A{fl:List Fi}{nn:Bool}{br:List I}{ms:SM}{me:EM}(au:WAt σ w q1 q2 t fl nn va br ms me)(s:I)(cl:fl.length<=1000000):b8 CC 110 [.ptr w 0,(sv s)] σ λr τ=>r= .ret (.tup [sv ((o8 fl s).getD []),.val (.bool (o8 fl s).isSome)])/\τ=σ:=
 d4j (λa h=>by simp at h;subst h;exact .val _) (B3 (cs:=[sv _,.val _]) ⟨.val _,.val _,D⟩) (c7U fl nn va br ms me s cl) au
def a8u(ms:SM)(fl:List Fi)(pkg:I):List Fi:=fl.filter λf=>(glk ms f.p).isSome &&decide (((glk ms f.p).getD Src.z).pkg=pkg)
noncomputable def c15(ms:SM)(x:En):I:=((glk ms x.pl).bind λs=>(s.decls[x.ix.toNat]?).map λd=>a33 s d).getD []
noncomputable def Y5(ms:SM)(x:En):I:=if x.ct=0 then [45]else if x.ct=1 then [61]++c15 ms x else [63]
def c0l(ms:SM)(x:En):Prop:=x.ct=1->∃(s:Src) (d:De) (i:Nat),glk ms x.pl=some s/\a0i s/\x.ix=(i:Int)/\s.decls[i]?=some d
theorem b2Q{x:Src}{d:De}(h:a0i x)(hd:DeG d):(a33 x d).length<=100000:=by
 have gE:=De.name_len hd;have hbl:=b3g hd;have eu:=C9 h.pkg.1;have himl:=h.impl;have him8:∀s∈x.imports,s.length<=80:=λs hs=>by have:=C9 (h.imp s hs).1;omega
 have bM:=b1j him8 x.imports.length;rw[a1i (n_6 _)]at bM;have cg:=a5B [44,32] d.params;have ez:=c2f (c6Z hd);have hprl:=hd.parl;have e2:([44,32]:I).length=2:=O;rw[e2]at cg;have hh:(X9 d).length<=1200:=by
  unfold X9
  split
  .simp only[n_8,n_9,R1];omega
  .split
   .simp only[n_8,n_9,R1];omega
   .simp only[n_8,n_9,R1];omega
 unfold a33;simp only[n_8,n_9,R1];omega
theorem b7m(x:Src)(σ:List b9):b8 CC 125 [.agg x.cells] σ λr τ=>∃_:Unit,r= .ret (.clo 164 [.ptr σ.length 0])/\τ=σ++[.box x.cells]/\True:=by
 refine qO Tryz.func125 ?_;refine qD (F1 O D j3 j1 ?_);refine V (a7c O ⟨D,D⟩) ?_;refine c6 ?_;exact⟨_,a1w O D O,(),O,O,D⟩
theorem d2H(x:Src){k kb:Nat}(Jc:Nat->List b9->Prop)(Jx:List b9->Prop)(hb:∀i τ,Jc i τ->τ[kb]?=some (.box x.cells))(hy:∀i s τ,(x.pkg::x.imports)[i]?=some s->Jc i τ->a8E CC k [sv s] τ λr fU=>(r= .ret (.val (.bool true))/\Jc (i+1) fU)\/(r= .ret (.val (.bool false))/\Jx fU))(hl:x.imports.length<=1000000){τ0:List b9}(h0:Jc 0 τ0):b8 CC 164 [.yld k,.ptr kb 0] τ0 λr τ=>(∃c,r= .ret c)/\(Jc (x.imports.length+1) τ\/Jx τ):=by
 refine cO Tryz.func164 ?_;refine J2 (J2 ?_);refine b7y (k:=k) (cargs:=[sv x.pkg]) (pre:=[_,_,_]) (post:=[_]) O O O O (nb O) O ?_;refine cY A3 ?_;refine cY b5P ?_;refine cY (o5 O D O a2J (hb 0 _ h0) O) ?_;refine A6 ?_;refine⟨D,O,⟨D,D⟩,O,(hy 0 x.pkg _ O h0).mono λr τ h=>?_⟩
 rcases h with⟨rfl,h⟩|⟨rfl,h⟩
 .refine a67 ?_;refine a2C D O (λh1=>by cases h1) (λh1=>?_);refine D8 ?_;refine z_0 ?_;refine cY (j2 O D O a79 O a2E U) ?_;refine cY (o5 O D O b7J (hb 1 _ h) O) ?_;refine cY K6 ?_;refine b8w ?_;refine Q6 (α:=Nat×List b9) (λa=>[(0,.yld k),(11,.list (x.imports.map scv) (gnn x.imports.length) none),(12,iv x.imports.length),(13,iv a.1)]) Prod.snd (λa=>a.1<=x.imports.length/\Jc (a.1+1) a.2) (λa=>x.imports.length -a.1) (0,τ) ⟨n_4 _,h⟩ tu_ O ?_;intro⟨i,τ1⟩ E0 ⟨hi,hj⟩;dsimp only at hi hj⊢;refine z_0 ?_;refine b5I ?_;refine cC ?_ ?_<;>intro h1
  .have ah:i<x.imports.length:=sm_ h1;obtain⟨y,hb1⟩:∃y,x.imports[i]?=some y:=⟨x.imports[i]'ah,Q⟩;refine b7D ?_;refine z_0 ?_;refine cY (z8 O D D O O t_2 t_0 J (o7 hb1) O) ?_;refine cY a68 ?_;refine b3r ?_;refine b7y (k:=k) (cargs:=[sv y]) (pre:=[_,_]) (post:=[_]) O O O O (nb O) O ?_;refine cY A3 ?_;refine d4G ?_;refine⟨D,O,⟨D,D⟩,O,(hy (i+1) y _ (H hb1) hj).mono λr τ2 h=>?_⟩
   rcases h with⟨rfl,h⟩|⟨rfl,h⟩
   .refine a67 ?_;refine a2C D O (λh1=>by cases h1) (λh1=>?_);refine D8 ?_;refine a8P ?_;exact⟨(i+1,τ2),do_,⟨do_,h⟩,tu_,O⟩
   .refine a67 ?_;refine a2C D O (λh1=>?_) (λh1=>by cases h1);refine c6 ?_;exact⟨_,rE0,⟨_,O⟩,.inr h⟩
  .have hie:i=x.imports.length:=sm_ h1;subst hie;refine l9 ?_;exact⟨_,rE0,⟨_,O⟩,.inl hj⟩
 .refine a67 ?_;refine a2C D O (λh1=>?_) (λh1=>by cases h1);refine c6 ?_;exact⟨_,rE0,⟨_,O⟩,.inr h⟩
def cN(P:I->Bool):List I->Nat
 | []=>0
 |p::l=>if P p=true then 1 else cN P l+1
theorem c8d{P:I->Bool}:∀{l:List I},(∀p∈l,P p=false)->cN P l=l.length
 | [],_=>rfl
 |p::l,h=>by
  rw[cN,G (by rw[h p a1l];decide),c8d λq hq=>h q (X6 _ hq)];rfl
theorem d5L{P:I->Bool}:∀{l:List I} {i:Nat} {y:I},l[i]?=some y->P y=true->(∀p∈l.take i,P p=false)->cN P l=i+1
 | [],i,y,h,_,_=>by cases h
 |p::l,0,y,h,hy,_=>by injection h with h;subst h;rw[cN,W hy]
 |p::l,i+1,y,h,hy,hn=>by
  rw[cN,G (by rw[hn p Q];decide),d5L (l:=l) (i:=i) (H h) hy λq hq=>hn q (by rw[a8g];exact X6 _ hq)]
def fE(va:Bool)(me:EM)(name p:I):En:=C3 va me 1 p name
def a3M(va:Bool)(me:EM)(name p:I):Bool:=decide (0< (fE va me name p).ct)
def a6c(va:Bool)(me:EM)(name:I)(L:List I):Nat->En
 |0=>En.z
 |i+1=>match L[i]? with
  |some p=>fE va me name p
  |none=>En.z
def a1p(va:Bool)(me:EM)(name:I)(L:List I):Nat:=cN (a3M va me name) L
def a3d(va:Bool)(me:EM)(name:I)(L:List I):En:=a6c va me name L (a1p va me name L)
def a0S(name:I)(L:List I)(i:Nat):List Ky:=(L.take i).map λp=>⟨1,p,name⟩
def U3(x:En):En:=if x.ct=0 then En.z else if 1<x.ct then En.z else x
def W8(x:En):Int:=if x.ct=0 then 11 else if 1<x.ct then 12 else 0
def c2O(va:Bool)(me:EM)(name:I)(L:List I):CV:=.tup [.agg (U3 (a3d va me name L)).cells,.list ((a0S name L (a1p va me name L)).map Ky.cv) (gnn (a1p va me name L)) none,iv (W8 (a3d va me name L))]
abbrev cSt(fl:List Fi)(nn va:Bool)(br:List I)(ms:SM)(me:EM)(x:Src)(name:I)(ks:List Ky)(i:Nat)(e:En)(Jb ob:b9):List b9:=[wbx fl nn va br 1 2 3,smO ms,emO me,p7 br.length,.box [.ptr 0 0],.box x.cells,.box [sv name],.box En.z.cells,.box [.list (ks.map Ky.cv) (gnn i) (G9 i (13+i))],.box e.cells,.box x.cells,Jb,ob]++(List.replicate i .dead++[p7 i])
theorem d6U{E:Env}{o:Oper}{t e:TypeId}{x y:Operand}{Y new:List (List CV)}{s:Nat}{ti:TypeInfo}{z:Value}{K:N8->List b9->Prop}{pre:List b9}(hq:pre.length=q)(ho:o.op = .call {callee:=.builtin .append,args:=#[x,y],argTypes:=#[t,t]})(hx:E.valid x)(hy:E.valid y)(ex:E.val CC x= .list Y (gnn i) (G9 i (q+i)))(hm:i=Y.length)
 (aW:∀M w v,Rel CC M (pre++(List.replicate i .dead++[p7 i])) w->RV M w (E.val CC y) v->Go.Cl.Src CC M w new s v)(hu:∀w,(underlying t).run CC.P w= .ok (.slice e) w)(hs:∀w,(sizeOf e).run CC.P w= .ok s w)(dm:∀w,(typeInfo e).run CC.P w= .ok ti w)(hz:∀w,(zeroValue e).run CC.P w= .ok z w)(ca:z.cells.size=s)
 (aZ:∀r∈Y,r.length=s)(hn:new.length=1)(hb:(Y.length+1)*ti.bytes<=140737488355328)(bm:Y.length+1<=9223372036854775807)(ax:List (List CV))(he:Y++new=ax)
 (hk:K (.ret (.list ax (gnn (i+1)) (G9 (i+1) (q+(i+1))))) (pre++(List.replicate (i+1) .dead++[p7 (i+1)]))):D3 CC (pre++(List.replicate i .dead++[p7 i])) E o K:=by
 have hl:(pre++(List.replicate i b9.dead++[p7 i])).length=q+(i+1):=by simp[hq]
 have bu:(pre++(List.replicate i b9.dead++[p7 i])).set (q+i) .dead++[p7 (i+1)]=pre++(List.replicate (i+1) .dead++[p7 (i+1)]):=by
  rw[b20 _ _ J,b20 _ _ N4,List.length_replicate,hq,show q+i-q-i=0 by omega,H4,H4,List.replicate_succ',H4];rfl
 refine D6 (m:=i) (p:=q+i) ho hx hy ex hm aW hu hs dm hz ca (.inr ?_) aZ (by rw[hn];exact hb) (by rw[hn];exact bm) ax (i+1) he J ?_
 .rw [a3i J,a3i N4];simp[hq]
 .rw [hl,bu];exact hk
theorem d0B{P:I->Bool}{L:List I}{y:I}(h:L[i]?=some y)(hy:P y=false)(hn:∀p∈L.take i,P p=false):∀p∈L.take (i+1),P p=false:=λp hp=>by
 rw[a8n,h]at hp
 rcases W0.1 hp with hp|hp
 .exact hn p hp
 .simp at hp;subst hp;exact hy
theorem b8j{name:I}{L:List I}{y:I}(h:L[i]?=some y):a0S name L (i+1)=a0S name L i++[⟨1,y,name⟩]:=c7c h _
theorem a5j{n:Nat}{Y:List (List CV)}{nn:Bool}(h:∀r∈Y,P5 r):Cls n σ (.list Y nn tok) (.list Y nn none):=
 .list O (λi r r' h1 h2=>by rw[h1]at h2;injection h2 with h2;rw[h2]) λi j r r' c c' h1 h2 h3 h4=>by
  rw[h1]at h2;injection h2 with h2;subst h2
  rw[h3]at h4;injection h4 with h4;subst h4
  exact .old ((h r (n_2 h1)).all c (n_2 h3)).old
theorem b1g{n:Nat}{a a' b b' c c':CV}(h1:Cls n σ a a')(h2:Cls n σ b b')(h3:Cls n σ c c'):Cls n σ (.tup [a,b,c]) (.tup [a',b',c']):=.tup O λi x y g1 g2=>by
 rcases i with _|_|_|i
 .injection g1 with g1;injection g2 with g2;subst g1 g2;exact h1
 .injection g1 with g1;injection g2 with g2;subst g1 g2;exact h2
 .injection g1 with g1;injection g2 with g2;subst g1 g2;exact h3
 .cases g1
theorem b4g(rest:List b9){fl:List Fi}{nn:Bool}{br:List I}{ms:SM}{me:EM}:a5T 4 τ (wbx fl nn va br 1 2 3::smO ms::emO me::p7 br.length::rest) (wst fl nn va br ms me):=⟨.same (a9R U U U),.same (Y9 _ _),.same (Z2 _ _),.same F0,by cases rest<;>trivial⟩
theorem c0E(fl:List Fi)(nn va:Bool)(br:List I)(ms:SM)(me:EM)(x:Src)(name:I)(hl:x.imports.length<=1000000):b8 CC 75 [.ptr 0 0,.agg x.cells,sv name] (wst fl nn va br ms me) λr τ=>∃_:Unit,a03 4 τ r (.ret (c2O va me name (x.pkg::x.imports)))/\a5T 4 τ τ (wst fl nn va br ms me)/\4<=4/\True:=by
 refine c0r (kD:=11) Tryz.func75 O O ?_;refine b1a ?_;refine C6 ?_;refine qD (F1 O D j3 (.inl O) ?_);refine qD (F1 O D j3 j1 ?_);refine qD (F1 O D j3 (.inl O) ?_);refine qD (l8 O a4r O j1 ?_);refine⟨O,c8B (b1a ?_)⟩;refine C6 ?_;refine qD (l8 O Tryz.zeroValue36 O (.inl O) ?_);refine⟨O,b1a ?_⟩;refine C6 ?_;refine qD (l8 O a4r O j1 ?_);refine⟨O,b1a ?_⟩;refine b7f ?_;refine⟨O,?_⟩;refine d1H λE0 hE0=>?_;refine d1T (λE' aa=>∃ob:b9,E'.is [(6,.ptr 7 0),(9,.ptr 8 0),(10,.ptr 9 0)]/\aa=cSt fl nn va br ms me x name (a0S name (x.pkg::x.imports) (a1p va me name (x.pkg::x.imports))) (a1p va me name (x.pkg::x.imports)) (a3d va me name (x.pkg::x.imports)) (.blk (.deferred (some []))) ob) ?_ ?_
 .subst hE0;refine b1a ?_;refine C6 ?_;refine qo (qD (c5 O Tryz.call125 ⟨D,D⟩ (b7m x _) O ?_));intro _ _;refine⟨O,d0j ?_⟩;refine c7e trivial O Tryz.call164 (cs:=[(3,.ptr 4 0),(5,.ptr 6 0),(9,.ptr 8 0),(10,.ptr 9 0)]) tu_ λo h1 h2 h3 h4 h5=>a4V ?_;have ho:({o with state:=.ready,pending:=none}:Loop)=o:=by cases o;simp at h1 h2;rw[h1,h2]
  refine(d2H x (k:=12) (kb:=10) (λi τ=>i<=x.imports.length+1/\(∀p∈(x.pkg::x.imports).take i,a3M va me name p=false)/\τ=cSt fl nn va br ms me x name (a0S name (x.pkg::x.imports) i) i (a6c va me name (x.pkg::x.imports) i) (.blk (.deferred (some []))) (.lp o 42 [(3,.ptr 4 0),(5,.ptr 6 0),(9,.ptr 8 0),(10,.ptr 9 0)]))
   (λτ=>∃i y,(x.pkg::x.imports)[i]?=some y/\a3M va me name y=true/\(∀p∈(x.pkg::x.imports).take i,a3M va me name p=false)/\τ=cSt fl nn va br ms me x name (a0S name (x.pkg::x.imports) (i+1)) (i+1) (a6c va me name (x.pkg::x.imports) (i+1)) (.blk (.deferred (some []))) (.lp {o with state:=.done,pending:=some (.exit 0)} 42 [(3,.ptr 4 0),(5,.ptr 6 0),(9,.ptr 8 0),(10,.ptr 9 0)])) (λi τ ⟨_,_,h⟩=>by rw[h];rfl) ?_ hl ⟨n_4 _,λp hp=>by simp at hp,O⟩).mono ?_
  .rintro i y _ hy ⟨hi,cA,rfl⟩;have hli:(a0S name (x.pkg::x.imports) i).length=i:=by
    have:=(n_3.1 hy).1;unfold a0S;rw[a02,b0N];omega
   have ah:=(n_3.1 hy).1;simp only[n_9]at ah;have aR:a6c va me name (x.pkg::x.imports) (i+1)=fE va me name y:=by rw[a6c,hy]
   refine c4g (t:=14) (o:=o) O h1 h3 O ?_;refine d4H h4 ?_;refine a5q O ?_;refine qo ?_;refine⟨O,O,?_⟩;refine d4H h5 ?_;refine c8T (b9P ?_);refine a5q O ?_;refine qo (V e0O ?_);refine V (B4 [Ky.cv (⟨1,y,name⟩:Ky)] O ⟨D,D⟩ a8c a3Z a7t O O O O O O O O O) ?_;refine qN (cSt fl nn va br ms me x name (a0S name (x.pkg::x.imports) i) i (a6c va me name (x.pkg::x.imports) i) (.blk (.deferred (some []))) (.lp {o with state:=.busy} 42 [(3,.ptr 4 0),(5,.ptr 6 0),(9,.ptr 8 0),(10,.ptr 9 0)])) rfl (qD (d6U (q:=13) (i:=i) rfl rfl D D rfl (by rw[a02,hli]) (a20 rfl (by first|exact a1M (by intro a;rfl) _|(intro r hr;simp at hr;subst hr;rfl))) a8c a3Z c2x a7t O (by first|exact a1M (by intro a;rfl) _|(intro r hr;simp at hr;subst hr;rfl)) O (by have hb:Tryz.t39.bytes=40:=O;rw[hb,a02,hli];omega) (by rw[a02,hli];omega) ((a0S name (x.pkg::x.imports) (i+1)).map Ky.cv) (by rw[b8j hy,b42];rfl) ?_));refine qD (i9 O D D O j3 c1x (.inl O) O O (nb O) ?_);refine b9P ?_;refine a5q O ?_;refine qo (V (c4 O c9j ⟨D,O,D,D,D⟩ (a9S (w:=0) (q1:=1) (q2:=2) (t:=3) ⟨O,O,O,O,a3v ⟨U,U,U,U,U,U⟩⟩ 1 y name) O) ?_);refine qD (i9 O D D O j3 t_7 j1 O O (nb O) ?_);refine b9P ?_;refine a5q O ?_;refine qo ?_;refine d2c D O (λhh=>?_) (λhh=>?_)
   .have hf:a3M va me name y=true:=by unfold a3M fE;simpa using hh
    refine d1W ?_;refine⟨O,.inr ⟨O,i,y,hy,hf,cA,?_⟩⟩;rw[aR];rfl
   .have hf:a3M va me name y=false:=by unfold a3M fE;simpa using hh
    refine d2z ?_;refine⟨O,.inl ⟨O,J,d0B hy hf cA,?_⟩⟩;rw[aR,ho];rfl
  .rintro r τ ⟨hr,⟨-,cA,rfl⟩|⟨i,y,hy,hf,cA,rfl⟩⟩
   .rw [a1i Q]at cA;have hN:a1p va me name (x.pkg::x.imports)=x.imports.length+1:=c8d cA;refine⟨hr,o,O,by rw[h1];decide,?_⟩;rw[h2];refine⟨O,.lp {o with state:=.exhausted,pending:=none} 42 [(3,.ptr 4 0),(5,.ptr 6 0),(9,.ptr 8 0),(10,.ptr 9 0)],tu_,?_⟩;unfold a3d;rw[hN];rfl
   .have hN:a1p va me name (x.pkg::x.imports)=i+1:=d5L hy hf cA;refine⟨hr,{o with state:=.done,pending:=some (.exit 0)},rfl,(by intro h;cases h),?_⟩;refine⟨O,.lp {o with state:=.exhausted,pending:=some (.exit 0)} 42 [(3,.ptr 4 0),(5,.ptr 6 0),(9,.ptr 8 0),(10,.ptr 9 0)],tu_,?_⟩;unfold a3d;rw[hN];rfl
 .rintro E σ ⟨ob,hE,rfl⟩ ds;refine c8j hE ?_;refine a9M ?_;refine c4T ?_;refine c3c ?_;refine qo ?_;refine b1n D O (λhh=>?_) (λhh=>?_)
  .have hx:(a3d va me name (x.pkg::x.imports)).ct=0:=H hh;refine d8q ?_;refine chf O d9m ?_;refine chf O c8g ?_;refine c7w ?_;refine⟨⟨d0f,D⟩,?_⟩;refine d3u ?_;refine a2s ?_;refine a5E ?_;exact⟨O,_,r8 (rs:=[.cell 6 59,.tmp 7,.tmp 8]) (cs:=[_,_,_]) O d8k (n_5 O),(),.ret (b1g (Z7 (D9 (λe:En=>CV.agg e.cells) (show En.z=U3 _ from(W hx).symm)) (En.pure _)) (a5j λr hr=>by obtain⟨k,_,rfl⟩:=H9.1 hr;exact a40 k) (C8 (show(11:Int)=W8 _ from(W hx).symm))),b4g _,n_6 _,D⟩
  .have hx:¬(a3d va me name (x.pkg::x.imports)).ct=0:=H hh;refine c3c ?_;refine qo ?_;refine b1n D O (λhh=>?_) (λhh=>?_)
   .have hy:1< (a3d va me name (x.pkg::x.imports)).ct:=H hh;refine d8q ?_;refine chf O d9m ?_;refine chf O c8g ?_;refine c7w ?_;refine⟨⟨d0f,D⟩,?_⟩;refine d3u ?_;refine a2s ?_;refine a5E ?_;exact⟨O,_,r8 (rs:=[.cell 6 59,.tmp 7,.tmp 8]) (cs:=[_,_,_]) O d8k (n_5 O),(),.ret (b1g (Z7 (D9 (λe:En=>CV.agg e.cells) (show En.z=U3 _ by rw[U3,G hx,W hy])) (En.pure _)) (a5j λr hr=>by obtain⟨k,_,rfl⟩:=H9.1 hr;exact a40 k) (C8 (show(12:Int)=W8 _ by rw[W8,G hx,W hy]))),b4g _,n_6 _,D⟩
   .have hy:¬1< (a3d va me name (x.pkg::x.imports)).ct:=H hh;refine b7S ?_;refine d8q ?_;refine chf O c5R ?_;refine chf O c8g ?_;refine c7w ?_;refine⟨⟨d0f,D⟩,?_⟩;refine d3u ?_;refine a2s ?_;refine a5E ?_;exact⟨O,_,r8 (rs:=[.cell 6 59,.tmp 7,.tmp 8]) (cs:=[_,_,_]) O d8k (n_5 O),(),.ret (b1g (Z7 (D9 (λe:En=>CV.agg e.cells) (show a3d va me name (x.pkg::x.imports)=U3 _ by rw[U3,G hx,G hy])) (En.pure _)) (a5j λr hr=>by obtain⟨k,_,rfl⟩:=H9.1 hr;exact a40 k) (C8 (show(0:Int)=W8 _ by rw[W8,G hx,G hy]))),b4g _,n_6 _,D⟩
theorem c4d{fl:List Fi}{nn:Bool}{br:List I}{ms:SM}{me:EM}(au:WAt σ w q1 q2 t fl nn va br ms me)(x:Src)(name:I)(hl:x.imports.length<=1000000):b8 CC 75 [.ptr w 0,.agg x.cells,sv name] σ λr τ=>r= .ret (c2O va me name (x.pkg::x.imports))/\τ=σ:=
 (a3I [w,q1,q2,t] hCC O au.nd (c1G au) (.cons (.ptr O) (L9 λa h=>by simp at h;rcases h with rfl|rfl;exact j4 x.pure;exact .val _)) (c:=λ_:Unit=>c2O va me name (x.pkg::x.imports)) (P:=λ_=>True) (λ_ _=>B3 (cs:=[_,_,_]) ⟨En.pure _,.list λr hr c hc=>by
  obtain⟨k,_,rfl⟩:=H9.1 hr;exact(a40 k).all c hc,.val _,D⟩) (P4 (S:=λ_=>wst fl nn va br ms me) (res:=λ_:Unit=>.ret (c2O va me name (x.pkg::x.imports))) (P:=λ_=>True) hCC (c0E fl nn va br ms me x name hl))).mono λ_ _ ⟨_,h1,h2,_⟩=>⟨h1,h2⟩
def d6z(l:I)(fs:List Fi):I:=fs.foldl (λl f=>T5 (T5 l f.p) f.b) l
def b9u(ms:SM)(fl:List Fi)(pkg:I):I:=[61]++d6z [] (a8u ms fl pkg)
theorem c0y{ms:SM}{fl:List Fi}{f:Fi}(h:f∈a8u ms fl pkg):f∈fl:=(b1Y.1 h).1
def b9N(ms:SM)(f:Fi):List I:=((glk ms f.p).getD Src.z).imports
inductive Reach(ms:SM)(fl:List Fi)(pkg:I):I->Prop where
 |base:Reach ms fl pkg pkg
 |step {n:I} {f:Fi} {s:I}:Reach ms fl pkg n->f∈a8u ms fl n->s∈b9N ms f->Reach ms fl pkg s
def allI(ms:SM)(fl:List Fi):List I:=fl.flatMap (b9N ms)
theorem c8z{ms:SM}{fl:List Fi}{n:I}(h:Reach ms fl pkg n):n∈pkg::allI ms fl:=by
 cases h with
 |base=>simp
 |step _ hf hs=>exact X6 _ (c2P.2 ⟨_,c0y hf,hs⟩)
structure NmI(ms:SM)(fl:List Fi)(pkg:I)(N:List I):Prop where
 nd:N.Nodup
 rch:∀n∈N,Reach ms fl pkg n
 pk:pkg∈N
theorem NmI.len{ms:SM}{fl:List Fi}{N:List I}(h:NmI ms fl pkg N):N.length<=1+(allI ms fl).length:=by
 have:=List.Nodup.length_le_of_subset h.nd (λn hn=>c8z (h.rch n hn));simpa[b5w]using this
theorem a9a{A B:List I}(hA:A.Nodup)(hB:B.Nodup)(h:∀n,n∈A↔n∈B):b2m A=b2m B:=by
 have hp:A.Perm B:=(List.perm_ext_iff_of_nodup hA hB).2 h;have tr:∀(a b c:I),decide (a<=b)=true->decide (b<=c)=true->decide (a<=c)=true:=λa b c h1 h2=>by
  simp only[a1z]at h1 h2⊢;exact List.le_trans h1 h2
 have to:∀(a b:I),(decide (a<=b) ||decide (b<=a))=true:=λa b=>by
  simp only[b2p,a1z];exact List.le_total a b
 refine List.Perm.eq_of_pairwise (le:=λa b=>decide (a<=b)=true) (λa b _ _ h1 h2=>?_) (c17 tr to A) (c17 tr to B) ((b0t A _).trans (hp.trans (b0t B _).symm));simp only[a1z]at h1 h2;exact c0Q h1 h2
open Classical in
noncomputable def b1B(ms:SM)(fl:List Fi)(pkg:I):List I:=if h:∃N:List I,N.Nodup/\∀n,n∈N↔Reach ms fl pkg n then b2m h.choose else []
theorem c4E{ms:SM}{fl:List Fi}{N:List I}(hN:N.Nodup)(h:∀n,n∈N↔Reach ms fl pkg n):b1B ms fl pkg=b2m N:=by
 have dM:∃N:List I,N.Nodup/\∀n,n∈N↔Reach ms fl pkg n:=⟨N,hN,h⟩;unfold b1B;rw[dif_pos dM];exact a9a dM.choose_spec.1 hN λn=>(dM.choose_spec.2 n).trans (h n).symm
def d6O(ms:SM)(fl:List Fi)(l:I)(N:List I):I:=N.foldl (λl s=>T5 (T5 l s) (b9u ms fl s)) l
noncomputable def d8V(ms:SM)(fl:List Fi)(pkg:I):I:=[61]++d6O ms fl [] (b1B ms fl pkg)
def tst(Jh Je:List b9)(v:b9)(Jg:List b9):List b9:=Jh++Je++v::Jg
theorem d3s{Jh Je:List b9}{v:b9}{Jg:List b9}(a b:b9):(tst Jh Je v Jg++[a]).set (tst Jh Je v Jg).length b=tst Jh Je v (Jg++[b]):=by
 rw[b20 _ _ (n_6 _)];simp[tst]
structure WOk(fl:List Fi)(ms:SM)(me:EM):Prop where
 len:fl.length<=64
 fb:∀f∈fl,f.p.length<=100/\f.b.length<=100000
 src:∀p s,glk ms p=some s->a0i s
 ent:∀k e,glk me k=some e->c0l ms e
theorem WOk.imp{fl:List Fi}{ms:SM}{me:EM}(h:WOk fl ms me)(f:Fi):(b9N ms f).length<=8/\∀s∈b9N ms f,s.length<=24:=by
 unfold b9N;cases hg:glk ms f.p with
 |none=>exact⟨n_4 _,λs hs=>by cases hs⟩
 |some x=>
  have:=h.src _ _ hg;exact⟨this.impl,λs hs=>C9 (this.imp s hs).1⟩
theorem WOk.allI{fl:List Fi}{ms:SM}{me:EM}(h:WOk fl ms me):(allI ms fl).length<=512:=by
 have:∀l:List Fi,(Go.Proofs.YtlppbmfecjabeaaGreatDoor.allI ms l).length<=8*l.length:=λl=>by
  induction l with
  |nil=>exact n_4 _
  |cons x l ih=>
   have:=(h.imp x).1;unfold Go.Proofs.YtlppbmfecjabeaaGreatDoor.allI at ih⊢;rw[c1J,n_8,n_9];omega
 have h1:=this fl;have h2:=h.len;omega
noncomputable def a1X(fl:List Fi)(ms:SM)(me:EM)(ev:List Va)(k:Ky):I:=
 if k.k=1 then Y5 ms (C3 true me 1 k.a k.b)else if k.k=2 then Y5 ms (C3 true me 2 k.a k.b)else if k.k=3 then Y5 ms (C3 true me 3 [] k.a)
 else if k.k=4 then(if(o8 fl k.a).isSome then [61]++(o8 fl k.a).getD []else [45])else if k.k=5 then(if(Y2 ev k.a).isSome then [61]++Lib.itoa ((Y2 ev k.a).getD 0)else [45])
 else if k.k=6 then b9u ms fl k.a else d8V ms fl k.a
theorem b2E{fl:List Fi}{b:I}(h:o8 fl s=some b):∃f∈fl,f.b=b:=by
 unfold o8 at h;rw[M6]at h;obtain⟨f,hf,rfl⟩:=h;exact⟨f,b22 hf,O⟩
theorem b0k:∀{pv:Option Fi} {l:List Fi},rvE pv l=0->(∀g,pv=some g->∀f∈l,g.p <f.p)/\l.Pairwise λa b=>a.p <b.p
 |_,[],_=>⟨λ_ _ f hf=>(by cases hf),List.Pairwise.nil⟩
 |pv,x::l,h=>by
  rw[rvE]at h;split at h
  .rename_i hs;obtain⟨h1,h2⟩:=b0k h;have hx:∀g,pv=some g->g.p <x.p:=λg hg=>by
    subst hg;unfold I6 at hs;split at hs
    .cases hs
    .split at hs
     .cases hs
     .rename_i h3;split at hs
      .cases hs
      .rename_i h4;simp only[Option.any_some,a1z]at h3 h4;rw[bytesLess_eq,a1z]at h4
       rcases List.le_total g.p x.p with h5|h5
       .rcases Decidable.em (g.p <x.p)with h6|h6
        .exact h6
        .exact absurd (c0Q h5 (List.not_lt.1 h6)).symm h3
       .rcases Decidable.em (g.p <x.p)with h6|h6
        .exact h6
        .exact absurd (c0Q h5 (List.not_lt.1 h4)) h3
   refine⟨λg hg f hf=>?_,.cons (λf hf=>h1 x O f hf) h2⟩
   rcases J6.1 hf with rfl|hf
   .exact hx g hg
   .exact List.lt_trans (hx g hg) (h1 x O f hf)
  .rename_i hs;exact absurd h hs
structure WI(seen:List I)(ms:SM)(me:EM):Prop where
 src:∀p x,glk ms p=some x->a0i x/\p∈seen
 ent:∀k e,glk me k=some e->1<=e.ct/\c0l ms e
theorem b6i{ms:SM}{path:I}{x:Src}(hg:glk ms path=some x)(hx:a0i x):∀(n k:Nat) (me:EM),x.decls.length -k=n->(∀k e,glk me k=some e->1<=e.ct/\c0l ms e)->∀q e,glk (addDs me path x.pkg (x.decls.drop k) k) q=some e->1<=e.ct/\c0l ms e
 |0,k,me,hn,h,q,e,he=>by
  rw[U4 J,addDs]at he;exact h q e he
 |n+1,k,me,hn,h,q,e,he=>by
  obtain⟨d,hd⟩:=gx_ x.decls k;rw[a3G hd]at he;refine b6i hg hx n (k+1) _ J (λq e he=>?_) q e he;rw[a2e,I8]at he;split at he
  .injection he with he
   subst he
   split
   .rename_i f hf;obtain⟨h1,_⟩:=h _ _ hf;exact⟨by simp only;omega,λhc=>by simp only at hc;omega⟩
   .exact ⟨a7G _,λ_=>⟨x,d,k,hg,hx,O,hd⟩⟩
  .exact h q e he
theorem c0l.put{ms:SM}{e:En}{path:I}{x:Src}(h:c0l ms e)(hp:glk ms path=none):c0l (J5 ms path x) e:=λhc=>by
 obtain⟨s,d,i,h1,h2⟩:=h hc;refine⟨s,d,i,?_,h2⟩;rw[I8,G]
 .exact h1
 .intro he;rw[he,hp]at h1;cases h1
theorem c9e{seen:List I}{s:WS}{f:Fi}(h:WI seen s.2.1 s.2.2)(hf:f.p∉seen):WI (f.p::seen) (Y6 s f).2.1 (Y6 s f).2.2:=by
 have hw:WI (f.p::seen) s.2.1 s.2.2:=⟨λp x hp=>⟨(h.src p x hp).1,X6 _ (h.src p x hp).2⟩,h.ent⟩;unfold Y6
 split
 .split
  .exact hw
  .rename_i x hx;have hn:glk s.2.1 f.p=none:=by
    cases hg:glk s.2.1 f.p with
    |none=>rfl
    |some y=>exact absurd (h.src _ _ hg).2 hf
   have cy:=a5w hx;refine⟨λp y hp=>?_,?_⟩
   .simp only[I8]at hp;split at hp
    .rename_i e;injection hp with hp
     subst hp;exact⟨cy,by rw[e];simp⟩
    .exact ⟨(h.src p y hp).1,X6 _ (h.src p y hp).2⟩
   .have hg:glk (J5 s.2.1 f.p x) f.p=some x:=by rw[I8,W O]
    have:=b6i hg cy _ 0 s.2.2 O (λk e he=>⟨(h.ent k e he).1,(h.ent k e he).2.put hn⟩);simpa using this
 .exact hw
theorem c0P:∀{l:List Fi} {seen:List I} {s:WS},WI seen s.2.1 s.2.2->(∀f∈l,f.p∉seen)->(l.Pairwise λa b=>a.p <b.p)->∃iH,WI iH (a60 l s).2.1 (a60 l s).2.2
 | [],seen,s,h,_,_=>⟨seen,h⟩
 |f::l,seen,s,h,hn,hp=>by
  have h1:=c9e h (hn f Q);refine c0P (l:=l) h1 (λg hg hm=>?_) (a6m.1 hp).2
  rcases J6.1 hm with hm|hm
  .have:=(a6m.1 hp).1 g hg;rw[hm]at this;exact absurd this (b8A _)
  .exact hn g (by simp[hg]) hm
theorem d3H{fl:List Fi}(h:B1 fl=0):WOk fl (F5 fl).2.1 (F5 fl).2.2:=by
 obtain⟨h1,h2⟩:=a78 h;have h0:rvE none fl=0:=by
  unfold B1 at h;split at h
  .cases h
  .exact h
 obtain⟨seen,h3⟩:=c0P (l:=fl) (seen:=[]) (s:=([],[],[])) ⟨λp x hp=>(by cases hp),λk e he=>(by cases he)⟩ (λf _ hm=>(by cases hm)) (b0k h0).2;rw[F5,W h];exact⟨h1,λf hf=>by have:=Q1 (h2 f hf).1;have:=(h2 f hf).2;omega,λp s hp=>(h3.src p s hp).1,λk e he=>(h3.ent k e he).2⟩
abbrev fv(f:FuncId):CV:=.val (.func (.func f) #[] #[])
noncomputable def a13(fl:List Fi)(ev:List Va)(l:List Ky):Option (List I):=
 if B1 fl=0/\a2N ev=true/\l.all S5=true then some (l.map (a1X fl (F5 fl).2.1 (F5 fl).2.2 ev))else none
def c2i(o:Option (List I)):CV:=.tup [.list ((o.getD []).map scv) (gnn (o.getD []).length) none,iv (if o.isSome then 0 else 1)]
theorem c5A{p:Ky->Bool}{l:List Ky}{y:Ky}(h:l[i]?=some y)(ha:(l.take i).all p=true)(hy:p y=true):(l.take (i+1)).all p=true:=by
 rw[a8n,h,List.all_append,ha];simp[hy]
theorem c6x{p:Ky->Bool}{l:List Ky}{y:Ky}(h:l[i]?=some y)(hy:p y=false):l.all p≠true:=λhh=>by
 rw[a2d]at hh;rw[hh y (n_2 h)]at hy;cases hy
theorem b98(o:Option (List I)):r9 (c2i o):=B3 (cs:=[_,_]) ⟨o6 _ _,.val _,D⟩
def Ky.kc(x:Ky):CV:=.agg x.cells
def Ky.kv(x:Ky):Value:=.agg #[.int .i64 x.k,.string (str x.a),.string (str x.b)]
theorem Ky.kpure(x:Ky):r9 x.kc:=j4 ⟨.val _,.val _,.val _,D⟩
theorem d8o(x y:Ky):∀w,(Op.equal 39 x.kv y.kv).run CC.P w= .ok (decide (x=y)) w:=by
 intro w;show(Op.equal _ _ _).run Tryz.prog w=_;simp[Op.equal,Op.maxDepth,go_sem,Ky.kv,U9];obtain⟨a,b,c⟩:=x;obtain⟨a',b',c'⟩:=y;by_cases h1:a=a'<;>by_cases h2:b=b'<;>by_cases h3:c=c'<;>simp[h1,h2,h3]
theorem c51:c1P (α:=Ky) CC.P 39 Ky.kc Ky.kv where
 rv _ _ _ _ h:=a06 (l:=[.int .i64 _,.string (str _),.string (str _)]) h
 rv' _ _ a:=by
  refine .agg O (λc hc=>?_) λi c hc=>?_
  .simp at hc
   rcases hc with rfl|rfl|rfl<;>rfl
  .rcases i with _|_|_|i
   .injection hc with hc;subst hc;exact .val _
   .injection hc with hc;subst hc;exact .val _
   .injection hc with hc;subst hc;exact .val _
   .cases hc
 check b a w:=by
  have:∀n,(Instr.checkKey b (n+2) 39 a.kv).run Tryz.prog w= .ok () w:=λn=>by simp[Instr.checkKey,Ky.kv,go_sem]
  exact this 9998
 eq a b w:=d8o a b w
 now:=⟨_,c34,λa b=>O⟩
 bits a:=by
  have:∀n,Instr.sameBits (n+2) a.kv a.kv=true:=λn=>by simp[Instr.sameBits,Ky.kv,a9N]
  exact this 9998
theorem e0J:R5 (α:=Ky) CC.P 39 Ky.kc Ky.kv:=c51.find
def vcB(b:Bool):CV:=.val (.bool b)
structure MS where
 tr:List (Ky×Bool)
 st:Int
 ac:Int
 rn:Bool
variable{S:MS}
structure MC where
 fl:List Fi
 nn:Bool
 br:List I
 ms:SM
 me:EM
 ev:List Va
 en:Bool
 wd:Int
variable{fl:List Fi}{ms:SM}{c:MC}{nn:Bool}{me:EM}{br:List I}
abbrev trO(l:List (Ky×Bool)):b9:=.map (gm Ky.kc vcB l)
def ndL:List (Int×CV):=[(1,fv 134),(2,fv 135),(3,fv 136),(4,fv 137),(5,fv 138),(6,fv 139),(7,fv 140),(8,fv 141),(9,fv 142),(10,fv 143)]
abbrev ndO:b9:=.map (gm kv (λc=>c) ndL)
abbrev mbx(c:MC)(S:MS)(w tr nd:Nat):b9:=.box [.ptr w 0,.list (c.ev.map Va.cv) c.en none,.val (.int .u64 c.wd),.map tr,iv S.st,iv S.ac,.val (.bool S.rn),.map nd]
abbrev mat(c:MC)(S:MS)(w q1 q2 t tr nd:Nat):List b9:=[mbx c S w tr nd,wbx c.fl c.nn true c.br q1 q2 t,smO c.ms,emO c.me,p7 c.br.length,trO S.tr,ndO]
abbrev mst(c:MC)(S:MS):List b9:=mat c S 1 2 3 4 5 6
abbrev b5r(e:Int):CV:=.val (.iface 221 (.agg #[.int .i64 e]))
def c5t{α:Type}(cv:α->CV):α ⊕ Int->N8
 | .inl a=>.ret (cv a)
 | .inr e=>.pan (b5r e)
def MM{α:Type}(f:FuncId)(args:List CV)(cv:α->CV)(c:MC)(S:MS)(o:(α ⊕ Int)×MS):Prop:=b8 CC f (.ptr 0 0::args) (mst c S) λr τ=>F7 7 τ r (c5t cv o.1) (mst c o.2)
theorem a6H:a2M ndO:=λx hx=>by
 obtain⟨y,hy,rfl⟩:=H9.1 hx;refine⟨.val _,?_⟩;simp only[ndL,J6,a5J,or_false]at hy
 rcases hy with rfl|rfl|rfl|rfl|rfl|rfl|rfl|rfl|rfl|rfl<;>exact .val _
theorem d1g(l:List (Ky×Bool)):I5 R (trO l) (trO l):=a3N Ky.kpure (λ_=>.val _) l
theorem b4Q{tr nd w' q1' q2' t' tr' nd':Nat}(h:R w w'/\R q1 q1'/\R q2 q2'/\R t t'/\R tr tr'/\R nd nd')(i:Nat)(ob:b9)(ho:(mat c S w q1 q2 t tr nd)[i]?=some ob):∃aG,(mat c S w' q1' q2' t' tr' nd')[i]?=some aG/\I5 R ob aG:=by
 obtain⟨h1,h2,h3,h4,h5,h6⟩:=h
 rcases i with _|_|_|_|_|_|_|i
 .injection ho with ho;subst ho
  exact⟨_,O,.box (.cons (.ptr h1) (.cons (.pure (H3 _ _)) (.cons (.pure (.val _)) (.cons (.map h5) (.cons (.pure (.val _)) (.cons (.pure (.val _)) (.cons (.pure (.val _)) (.cons (.map h6) .nil))))))))⟩
 .injection ho with ho;subst ho;exact⟨_,O,a91 h2 h3 h4⟩
 .injection ho with ho;subst ho;exact⟨_,O,a3N a7s a4C _⟩
 .injection ho with ho;subst ho;exact⟨_,O,a3N Nm.pure En.pure _⟩
 .injection ho with ho;subst ho;exact⟨_,O,a1d _⟩
 .injection ho with ho;subst ho;exact⟨_,O,d1g _⟩
 .injection ho with ho;subst ho;exact⟨_,O,a6H.ren⟩
 .cases ho
def MAt(σ:List b9)(q w q1 q2 t tr nd:Nat)(c:MC)(S:MS):Prop:=a0r [q,w,q1,q2,t,tr,nd]=true/\∀(i k:Nat) (ob:b9),[q,w,q1,q2,t,tr,nd][i]?=some k->(mat c S w q1 q2 t tr nd)[i]?=some ob->σ[k]?=some ob
theorem c04{f:FuncId}{args:List CV}{o:(α ⊕ Int)×MS}(aq:∀a∈args,r9 a)(hcv:∀a,r9 (cv a))(h:MM f args cv c S o){tr nd:Nat}(au:MAt σ q w q1 q2 t tr nd c S):
 b8 CC f (.ptr q 0::args) σ λr τ=>∃_:Unit,r=c5t cv o.1/\τ=a8i σ [q,w,q1,q2,t,tr,nd] (mat c o.2 w q1 q2 t tr nd)/\True:=
 a3W (α:=Unit) (obs:=mst c S) (res:=λ_=>c5t cv o.1) (res':=λ_=>c5t cv o.1) (S:=λ_=>mst c o.2) (S':=λ_=>mat c o.2 w q1 q2 t tr nd) (P:=λ_=>True) [q,w,q1,q2,t,tr,nd] hCC O (a3s au.1) (λi k ob h1 h2=>by
  obtain⟨aG,h3,h4⟩:=b4Q (R:=λi k=>[q,w,q1,q2,t,tr,nd][i]?=some k) (w':=w) (q1':=q1) (q2':=q2) (t':=t) (tr':=tr) (nd':=nd) ⟨O,O,O,O,O,O⟩ i ob h2;exact⟨aG,au.2 i k aG h1 h3,h4.symm λ_ _ h=>h⟩) (.cons (.ptr O) (L9 aq)) (N3 hCC (h.mono λ_ _ h=>⟨_,_,h,(),O,O,D⟩)) W9 (λ_ i k x h1 h2=>b4Q (R:=λi k=>[q,w,q1,q2,t,tr,nd][i]?=some k) ⟨O,O,O,O,O,O⟩ i x h2) λ_=>by
  cases o.1 with
  |inl a=>exact .ret (.pure (hcv a))
  |inr e=>exact .pan (.pure (.val _))
theorem a3y{f:FuncId}{args:List CV}{o:(α ⊕ Int)×MS}(h:MM f args cv c S o)(rest:List b9)(aq:∀a∈args,r9 a)(hcv:∀a,r9 (cv a)):
 b8 CC f (.ptr 0 0::args) (mst c S++rest) λr τ=>(∃a:α,r= .ret (cv a)/\τ=mst c o.2++rest/\o.1 = .inl a)\/∃e:Int,r= .pan (b5r e)/\τ=mst c o.2++rest/\o.1 = .inr e:=
 (c04 (q:=0) (w:=1) (q1:=2) (q2:=3) (t:=4) (tr:=5) (nd:=6) aq hcv h ⟨O,λi k ob h1 h2=>by
  rcases i with _|_|_|_|_|_|_|i<;>first|(injection h1 with h1;injection h2 with h2;subst h1 h2;rfl)|cases h1⟩).mono λr τ ⟨_,h1,h2,_⟩=>by
  cases ho:o.1 with
  |inl a=>rw[ho]at h1;exact .inl ⟨a,h1,h2,O⟩
  |inr e=>rw[ho]at h1;exact .inr ⟨e,h1,h2,O⟩
theorem c2X(rest:List b9):b3Z 7 [0,1,2,3,4,5,6] (mst c S++rest) [0,1,2,3,4,5,6] (mst c S):=
 uq_
theorem c9n(rest:List b9){x:CV}(hx:r9 x)(eH:τ=mst c S++rest):F7 7 τ (.ret x) (.ret x) (mst c S):=by
 subst eH;exact⟨[0,1,2,3,4,5,6],O,O,.ret (.old hx.old),c2X rest⟩
theorem d8b(rest:List b9){e:Int}(eH:τ=mst c S++rest):F7 7 τ (.pan (b5r e)) (.pan (b5r e)) (mst c S):=by
 subst eH;exact⟨[0,1,2,3,4,5,6],O,O,.pan (.old (.val _)),c2X rest⟩
def bindM{α β:Type}(o:(α ⊕ Int)×MS)(k:α->MS->(β ⊕ Int)×MS):(β ⊕ Int)×MS:=match o with
 |(.inl a,S)=>k a S
 |(.inr e,S)=>(.inr e,S)
theorem N6{o:(α ⊕ Int)×MS}{a:α}(h:o.1 = .inl a)(k:α->MS->(β ⊕ Int)×MS):bindM o k=k a o.2:=by
 obtain⟨x,S⟩:=o;subst h;rfl
theorem R8{o:(α ⊕ Int)×MS}{e:Int}(h:o.1 = .inr e)(k:α->MS->(β ⊕ Int)×MS):bindM o k=(.inr e,o.2):=by
 obtain⟨x,S⟩:=o;subst h;rfl
theorem d6r(h:0<=a/\a<18446744073709551616)(n:Nat):0<=a / 2^n/\a / 2^n<18446744073709551616:=
 ⟨Int.ediv_nonneg h.1 (Int.pow_nonneg J),Int.lt_of_le_of_lt (Int.ediv_le_self _ h.1) h.2⟩
theorem c1d{l:List α}{a:α}(h:l[i]?=some a):l.drop i=a::l.drop (i+1):=by
 obtain⟨hl,rfl⟩:=n_3.1 h;exact U5 hl
structure Fr where
 f:Src
 d:De
 args:List Int
 an:Bool
variable{d f:Nat}{args:List CV}
abbrev Fr.cells(F:Fr):List CV:=[sv F.f.pkg,.list (F.f.imports.map scv) (gnn F.f.imports.length) none,.list (F.f.decls.map De.cv) (gnn F.f.decls.length) none,iv F.d.k,sv F.d.name,.list (F.d.params.map scv) (gnn F.d.params.length) none,.list (F.d.body.map Ex.cv) (gnn F.d.body.length) none,.list (F.args.map icv) F.an none]
theorem Fr.pure(F:Fr):r9 (.agg F.cells):=j4 ⟨.val _,o6 _ _,a1L _ _,.val _,.val _,o6 _ _,F8 _ _,F4 _ _,D⟩
theorem Ex.pureA(x:Ex):r9 (.agg x.cells):=j4 x.pure
def ivc(v:Int):CV:=iv v
def MS.look(S:MS)(ks:List Ky):MS:={S with tr:=ks.foldl (λt k=>J5 t k true) S.tr}
theorem c8o(b:Bool)(σ:List b9):b8 CC 174 [(.val (.bool b))] σ λr τ=>r= .ret (ivc (if b=true then 1 else 0))/\τ=σ:=by
 refine qO Tryz.func174 ?_;refine qC ?_ ?_<;>intro h1
 .refine c6 ?_;exact⟨_,rE1,(by subst h1;exact⟨O,O⟩)⟩
 .refine c6 ?_;exact⟨_,rE1,(by subst h1;exact⟨O,O⟩)⟩
theorem b4G(e:Int)(σ:List b9):b8 CC 170 [iv e] σ λr τ=>(∃_:Unit,r= .ret (.tup [])/\τ=σ/\e=0)\/∃_:Unit,r= .pan (b5r e)/\τ=σ/\e≠0:=by
 refine qO Tryz.func170 ?_;refine qC ?_ ?_<;>intro h1
 .refine d4Y ?_;exact a1P O O (b4A O D O (λM w v h=>⟨_,_,p8 h⟩) (.inr ⟨(),O,O,H h1⟩))
 .exact ⟨_,rE0,.inl ⟨(),O,O,H h1⟩⟩
theorem T1(b:Bool)(e:Int)(σ:List b9):b8 CC 172 [(.val (.bool b)),iv e] σ λr τ=>(∃_:Unit,r= .ret (.tup [])/\τ=σ/\b=false)\/∃_:Unit,r= .pan (b5r e)/\τ=σ/\b=true:=by
 refine qO Tryz.func172 ?_;refine qC ?_ ?_<;>intro h1
 .refine d4Y ?_;exact a1P O O (b4A O D O (λM w v h=>⟨_,_,p8 h⟩) (.inr ⟨(),O,O,h1⟩))
 .exact ⟨_,rE0,.inl ⟨(),O,O,h1⟩⟩
theorem c3u(F:Fr)(x:Ex)(c:MC)(S:MS):MM 134 [.agg F.cells,.agg x.cells] ivc c S (.inl x.num,S):=by
 unfold MM;refine qO Tryz.func134 ?_;refine z_6 ?_;exact c7L
theorem c61(F:Fr)(x:Ex)(i:Nat)(hi:x.num=(i:Int))(v:Int)(hv:F.args[i]?=some v)(c:MC)(S:MS):MM 135 [.agg F.cells,.agg x.cells] ivc c S (.inl v,S):=by
 unfold MM;refine qO Tryz.func135 ?_;refine z_6 ?_;refine V (z8 O D D O O t_3 t_1 J (by rw[hi];exact o7 hv) O) ?_;exact c7L
theorem a9O(ks:List Ky)(nn:Bool)(hk:ks.length<=1000000000)(c:MC)(S:MS):MM 92 [(.list (ks.map Ky.cv) nn none)] (λ_:Unit=>.tup []) c S (.inl (),S.look ks):=by
 unfold MM;refine qO Tryz.func92 ?_;refine V c9c ?_;refine m0 hCC (α:=Nat×List (Ky×Bool)) (λa=>[(0,.ptr 0 0),(6,(.list (ks.map Ky.cv) nn none)),(7,iv ks.length),(8,iv a.1)]) (λa=>[mbx c ({S with tr:=a.2}) 1 5 6,wbx c.fl c.nn true c.br 2 3 4,smO c.ms,emO c.me,p7 c.br.length,trO ({S with tr:=a.2}).tr,ndO]) (λa=>a.1<=ks.length/\((ks.drop a.1).foldl (λt k=>J5 t k true) a.2)=(S.look ks).tr) (λa=>ks.length -a.1) (0,S.tr) ⟨n_4 _,O⟩ tu_ (aj:=[]) O A7 uz_ ?_;intro⟨i,t⟩ ⟨hi,ht⟩;dsimp only at hi ht⊢;refine qk (qC ?_ ?_)<;> intro h1
 .have ah:i<ks.length:=sm_ h1;obtain⟨k,hb⟩:∃k,ks[i]?=some k:=⟨ks[i]'ah,Q⟩;rw[c1d hb]at ht;refine V c9a ?_;refine d5P ?_;refine cW 5 ?_;refine a3X ?_;refine hY (j2 O D O b31 O Tryz.sizeOf178 U) ?_;refine hY (o5 O D O Tryz.isAgg178 O O) ?_;refine hY (J7 O D O c5J a3Z O (nb O)) ?_;refine a2b ?_;refine qD (j9 (kc:=Ky.kc) (vc:=vcB) (l:=t) (a:=k) (b:=true) e0J (.inl O) D D O O O O Tryz.runUnderlying178 O ?_);refine V r6 ?_;exact⟨(i+1,J5 t k true),_,⟨do_,do_,ht⟩,tu_,O⟩
 .have aH:ks.length<=i:=sm_ h1;rw[U4 aH]at ht;replace ht:t=(S.look ks).tr:=ht;subst ht;refine l9 ?_;exact⟨_,rE0,(by exact c9n [] (.tup λc hc=>by cases hc) O)⟩
theorem d2R(F:Fr)(x:Ex)(i:Nat)(hi:x.num=(i:Int))(gK:i<64)(c:MC)(S:MS)(hw:0<=c.wd/\c.wd <18446744073709551616):MM 143 [.agg F.cells,.agg x.cells] ivc c S (.inl (c.wd / 2^i%2),{S with rn:=true}):=by
 unfold MM
 skip
 have hq:=d6r hw i;refine qO Tryz.func143 ?_;refine z_6 ?_;refine qD (i9 O D O O j3 c5T (.inl O) O O (nb O) ?_);refine cW 10 ?_;refine a3X ?_;refine hY (j2 O D O b31 O Tryz.sizeOf86 U) ?_;refine hY (o5 O D O Tryz.isAgg86 O O) ?_;refine hY c6n ?_;refine hY V3 ?_;refine hY (d6p (n:=i) O D D O (D9 (λz:Int=>iv z) hi) (Nat.le_of_lt gK) O) ?_;refine hY (d3h O D O O O hq) ?_;refine hY (a2K O D O c3P b7r (a4v J J)) ?_;refine a85 ?_;exact c7L
abbrev diX(va:Bool)(me:EM)(s:I):En:=C3 va me 3 [] s
def diK(fl:List Fi)(va:Bool)(me:EM)(s:I):Int:=if(o8 fl s).isSome=true then 1 else if(diX va me s).ct=0 then 0 else if 1< (diX va me s).ct then 3 else 2
def diE(fl:List Fi)(va:Bool)(me:EM)(s:I):En:=if(o8 fl s).isSome=true then En.z else U3 (diX va me s)
def K8(fl:List Fi)(s:I):List Ky:=if(o8 fl s).isSome=true then [⟨4,s,[]⟩]else [⟨4,s,[]⟩,⟨3,s,[]⟩]
def diC(fl:List Fi)(va:Bool)(me:EM)(s:I):Int:=if(o8 fl s).isSome=true then 0 else if(diX va me s).ct=0 then 14 else if 1< (diX va me s).ct then 12 else 0
def diV(fl:List Fi)(va:Bool)(me:EM)(s:I):CV:=.tup [iv (diK fl va me s),.agg (diE fl va me s).cells,.list ((K8 fl s).map Ky.cv) true none,iv (diC fl va me s)]
theorem c8V{n:Nat}{a a' b b' c c' d d':CV}(h1:Cls n σ a a')(h2:Cls n σ b b')(h3:Cls n σ c c')(h4:Cls n σ d d'):Cls n σ (.tup [a,b,c,d]) (.tup [a',b',c',d']):=.tup O λi x y g1 g2=>by
 rcases i with _|_|_|_|i
 .injection g1 with g1;injection g2 with g2;subst g1 g2;exact h1
 .injection g1 with g1;injection g2 with g2;subst g1 g2;exact h2
 .injection g1 with g1;injection g2 with g2;subst g1 g2;exact h3
 .injection g1 with g1;injection g2 with g2;subst g1 g2;exact h4
 .cases g1
theorem c7j(fl:List Fi)(va:Bool)(me:EM)(s:I):r9 (diV fl va me s):=B3 ⟨.val _,En.pure _,C1 _ _,.val _,D⟩
theorem b4u{rest:List b9}{e:Int}{x:En}{ks:List Ky}(hv:diV fl va me s= .tup [iv k,.agg x.cells,.list (ks.map Ky.cv) true none,iv e])(eH:τ=wbx fl nn va br 1 2 3::smO ms::emO me::p7 br.length::rest):
 ∃_:Unit,a03 4 τ (.ret (.tup [iv k,.agg x.cells,.list (ks.map Ky.cv) true tok,iv e])) (.ret (diV fl va me s))/\a5T 4 τ τ (wst fl nn va br ms me)/\4<=4/\True:=by
 subst eH;rw[hv];exact⟨(),.ret (c8V (.old (.val _)) (.old (En.pure _).old) (a5j λr hr=>by obtain⟨k,_,rfl⟩:=H9.1 hr;exact a40 k) (.old (.val _))),b4g _,n_6 _,D⟩
theorem c0A(fl:List Fi)(nn va:Bool)(br:List I)(ms:SM)(me:EM)(s:I)(cl:fl.length<=1000000):b8 CC 220 [.ptr 0 0,(sv s)] (wst fl nn va br ms me) λr τ=>∃_:Unit,a03 4 τ r (.ret (diV fl va me s))/\a5T 4 τ τ (wst fl nn va br ms me)/\4<=4/\True:=by
 refine qO Tryz.func220 ?_;refine qD (l8 O a4r O j1 ?_);refine V d7t ?_;refine qD (d2U O D O ⟨O,O,O⟩ a8c a3Z a7t ?_);refine V (c4 O Tryz.call110 j7 (c2A (w:=0) (q1:=1) (q2:=2) (t:=3) ⟨O,O,O,O,a3v ⟨U,U,U,U,U,U⟩⟩ s cl) O) ?_;refine qC ?_ ?_<;>intro h1
 .have hd:(o8 fl s).isSome=true:=h1;have e1:diV fl va me s= .tup [(iv (1)),.agg (En.z).cells,.list (([⟨4,s,[]⟩]:List Ky).map Ky.cv) true none,(iv (0))]:=by
   unfold diV diK diE K8 diC U3;simp only[hd,if_true]
  refine V d3C ?_;refine d1d ?_;exact⟨_,r8 (rs:=[.tmp 4,.cell 5 59,.tmp 6,.tmp 7]) (cs:=[_,_,_,_]) O c6Q (n_5 O),(by exact b4u (ks:=[⟨4,s,[]⟩]) (x:=En.z) e1 O)⟩
 .have hd:(o8 fl s).isSome=false:=h1;refine V d7t ?_;refine V (B4 [Ky.cv (⟨3,s,[]⟩:Ky)] O ⟨D,D⟩ a8c a3Z a7t O O O O O O O O O) ?_;refine qD (D6 (m:=1) O D D O O q_3 a8c a3Z c2x a7t O (.inr O) q_8 (by have hb:Tryz.t39.bytes=40:=O;rw[hb];first|omega|(simp;done)|(simp;omega)) G0 (([⟨4,s,[]⟩,⟨3,s,[]⟩]:List Ky).map Ky.cv) 2 O O ?_);refine V (c4 O c9j ⟨D,O,O,D,D⟩ (a9S (w:=0) (q1:=1) (q2:=2) (t:=3) ⟨O,O,O,O,a3v ⟨U,U,U,U,U,U⟩⟩ 3 [] s) O) ?_;refine z_7 ?_;refine qC ?_ ?_<;>intro h2
  .have hc:(diX va me s).ct=0:=H h2;have e2:diV fl va me s= .tup [(iv (0)),.agg (En.z).cells,.list (([⟨4,s,[]⟩,⟨3,s,[]⟩]:List Ky).map Ky.cv) true none,(iv (14))]:=by
    unfold diV diK diE K8 diC U3;simp only[hd,hc,if_true,if_false,b7N]
   refine V d3C ?_;refine d1d ?_;exact⟨_,r8 (rs:=[.tmp 4,.cell 5 59,.tmp 6,.tmp 7]) (cs:=[_,_,_,_]) O c6Q (n_5 O),(by exact b4u (ks:=[⟨4,s,[]⟩,⟨3,s,[]⟩]) (x:=En.z) e2 O)⟩
  .have hc:¬(diX va me s).ct=0:=H h2;refine qC ?_ ?_<;>intro h3
   .have hm:1< (diX va me s).ct:=H h3;have e3:diV fl va me s= .tup [(iv (3)),.agg (En.z).cells,.list (([⟨4,s,[]⟩,⟨3,s,[]⟩]:List Ky).map Ky.cv) true none,(iv (12))]:=by
     unfold diV diK diE K8 diC U3;simp only[hd,hc,hm,if_true,if_false,b7N]
    refine V d3C ?_;refine d1d ?_;exact⟨_,r8 (rs:=[.tmp 4,.cell 5 59,.tmp 6,.tmp 7]) (cs:=[_,_,_,_]) O c6Q (n_5 O),(by exact b4u (ks:=[⟨4,s,[]⟩,⟨3,s,[]⟩]) (x:=En.z) e3 O)⟩
   .have hm:¬1< (diX va me s).ct:=H h3;have e4:diV fl va me s= .tup [(iv (2)),.agg (diX va me s).cells,.list (([⟨4,s,[]⟩,⟨3,s,[]⟩]:List Ky).map Ky.cv) true none,(iv (0))]:=by
     unfold diV diK diE K8 diC U3;simp only[hd,hc,hm,if_false,b7N]
    refine cF [] [0,1,2] (tl:=[(3,[1]),(4,[]),(5,[])]) ?_;refine chf O c5R ?_;refine chf O U7 ?_;refine chf O d4M ?_;refine c7w ?_;refine⟨⟨G3,D⟩,?_⟩;refine d3u ?_;refine a2s (c6 ?_);exact⟨_,r8 (rs:=[.tmp 4,.cell 5 59,.tmp 6,.tmp 7]) (cs:=[_,_,_,_]) O c6Q (n_5 O),(by exact b4u (ks:=[⟨4,s,[]⟩,⟨3,s,[]⟩]) (x:=diX va me s) e4 O)⟩
theorem c4Y(au:WAt σ w q1 q2 t fl nn va br ms me)(s:I)(cl:fl.length<=1000000):b8 CC 220 [.ptr w 0,(sv s)] σ λr τ=>r= .ret (diV fl va me s)/\τ=σ:=
 (a3I [w,q1,q2,t] hCC O au.nd (c1G au) (.cons (.ptr O) (L9 λa h=>by simp at h;subst h;exact .val _)) (c:=λ_:Unit=>diV fl va me s) (P:=λ_=>True) (λ_ _=>c7j fl va me s) (P4 (S:=λ_=>wst fl nn va br ms me) (res:=λ_:Unit=>.ret (diV fl va me s)) (P:=λ_=>True) hCC (c0A fl nn va br ms me s cl))).mono λ_ _ ⟨_,h1,h2,_⟩=>⟨h1,h2⟩
def b19(c:MC)(s:I):Int ⊕ Int:=match Y2 c.ev s with
 |some v=>.inl v
 |none=>.inr 15
def dtc(a:Bool×En×I×Int):CV:=.tup [.val (.bool a.1),.agg a.2.1.cells,sv a.2.2.1,iv a.2.2.2]
theorem a7j(a:Bool×En×I×Int):r9 (dtc a):=B3 (cs:=[_,_,_,_]) ⟨.val _,En.pure _,.val _,.val _,D⟩
def a3b(c:MC)(s:I):Bool×En×I×Int:=(!(o8 c.fl s).isSome,diE c.fl true c.me s,(o8 c.fl s).getD [],diC c.fl true c.me s)
def d8H(c:MC)(S:MS)(s:I):((Bool×En×I×Int) ⊕ Int)×MS:=(.inl (a3b c s),S.look (K8 c.fl s))
def a4K(c:MC)(s:I):Int ⊕ Int:=if diC c.fl true c.me s≠0 then .inr (diC c.fl true c.me s)else if(o8 c.fl s).isSome=true then .inl ((o8 c.fl s).getD []).length else .inl 1
def c0a(c:MC)(s:I):Int:=if(diC c.fl true c.me s != 14)=true then 1 else 0
theorem c8W(fl:List Fi)(s:I):(K8 fl s).length<=1000000000:=by
 unfold K8;split<;>simp
theorem b4p(_:Unit):r9 (.tup []):=.tup λc hc=>by cases hc
theorem H5{o:(α ⊕ Int)×MS}{e:Int}(rest:List b9)(ho:o=(.inr e,S))(eH:τ=mst c S++rest):F7 7 τ (.pan (b5r e)) (c5t cv o.1) (mst c o.2):=by
 subst ho;exact d8b rest eH
theorem U2{o:(α ⊕ Int)×MS}{a:α}(rest:List b9)(ho:o=(.inl a,S))(hp:r9 (cv a))(eH:τ=mst c S++rest):F7 7 τ (.ret (cv a)) (c5t cv o.1) (mst c o.2):=by
 subst ho;exact c9n rest hp eH
theorem b7c(F:Fr)(x:Ex)(c:MC)(S:MS)(hev:c.ev.length<=1000000000):MM 142 [.agg F.cells,.agg x.cells] ivc c S (b19 c x.name,S.look [⟨5,x.name,[]⟩]):=by
 unfold MM;refine cO Tryz.func142 ?_;refine b5k ?_;refine d0k ?_;refine a4h ?_;refine cY b7T ?_;refine cY U0 ?_;refine cY d7t ?_;refine cY (B4 [Ky.cv (⟨5,x.name,[]⟩:Ky)] O ⟨D,D⟩ a8c a3Z a7t O O O O O O O O O) ?_;refine cD (j5 O c1F j7 (a3y (a9O [⟨5,x.name,[]⟩] true (nb O) c S) [.box F.cells,.box x.cells] (λa h=>by simp at h;subst h;first|exact C1 _ _|exact C1 [_] _) b4p) O (λ_ he=>by cases he) ?_);intro _ _;refine G8 [mbx c (S.look [⟨5,x.name,[]⟩]) 1 5 6,wbx c.fl c.nn true c.br 2 3 4,smO c.ms,emO c.me,p7 c.br.length,trO (S.look [⟨5,x.name,[]⟩]).tr,ndO,.box F.cells,.box x.cells] O ?_;refine a4f ?_;refine cW 12 ?_;refine a3X ?_;refine hY (j2 O D O b31 O b1D U) ?_;refine hY a2V ?_;refine hY b7T ?_;refine hY U0 ?_;refine hY (c4 O Tryz.call112 j7 (b13 c.ev c.en x.name hev _) O) ?_;refine hY A3 ?_;refine hY a08 ?_;refine hY a08 ?_;refine hY a2Z ?_;refine hY a2Z ?_;refine a1m ?_;refine a4h ?_;refine cY b5X ?_;refine cD (j5 O b2b o4 (T1 _ 15 _) O (λ_ hb=>H5 [_,_] (by rw[b19,show Y2 c.ev x.name=none by simpa using hb]) O) ?_);intro _ hb;obtain⟨v,hv⟩:∃v,Y2 c.ev x.name=some v:=by
  cases h:Y2 c.ev x.name with
  |none=>rw[h]at hb;cases hb
  |some v=>exact⟨v,O⟩
 refine a4h ?_;refine b1l ?_;exact⟨_,rE1,(by exact U2 (cv:=ivc) (a:=(Y2 c.ev x.name).getD 0) [_,_] (by rw[b19,hv];rfl) (.val _) O)⟩
theorem b4L(s:I)(c:MC)(S:MS)(cl:c.fl.length<=1000000):MM 175 [(sv s)] dtc c S (d8H c S s):=by
 unfold MM;refine qO Tryz.func175 ?_;refine qD (l8 O a4r O j1 ?_);refine V (c4 O Tryz.call220 j7 (c4Y (w:=1) (q1:=2) (q2:=3) (t:=4) ⟨O,O,O,O,a3v ⟨U,U,U,U,U,U⟩⟩ s cl) O) ?_;refine qD (i9 O D D O j3 t_7 j1 O O (nb O) ?_);refine qD (j5 O c1F j7 (a3y (a9O (K8 c.fl s) true (c8W _ _) c S) [.box (diE c.fl true c.me s).cells] (λa h=>by simp at h;subst h;first|exact C1 _ _|exact C1 [_] _) b4p) O (λ_ he=>by cases he) ?_);intro _ _;refine qN [mbx c (S.look (K8 c.fl s)) 1 5 6,wbx c.fl c.nn true c.br 2 3 4,smO c.ms,emO c.me,p7 c.br.length,trO (S.look (K8 c.fl s)).tr,ndO,.box (diE c.fl true c.me s).cells] O (V (c4 O Tryz.call110 j7 (c2A (w:=1) (q1:=2) (q2:=3) (t:=4) ⟨O,O,O,O,a3v ⟨U,U,U,U,U,U⟩⟩ s cl) O) ?_);refine cF [] [0,1,2,3,4,5] (tl:=[(6,[3,4]),(7,[4]),(8,[])]) ?_;refine chf O U7 ?_;refine chf O (c7 O b5X) ?_;refine chf O c5R ?_;refine a5R ?_;refine chf O a9f ?_;refine c7w ?_;refine⟨⟨G3,G3,D⟩,?_⟩;refine E8 O O a9f ⟨⟨G3,D⟩,?_⟩;refine b3J ?_;exact⟨_,r8 (rs:=[.tmp 4,.cell 5 59,.tmp 6,.tmp 7]) (cs:=[_,_,_,_]) O c6Q (n_5 O),(by exact U2 (cv:=dtc) (a:=a3b c s) [_] O (a7j _) O)⟩
theorem d3p(F:Fr)(x:Ex)(c:MC)(S:MS)(cl:c.fl.length<=1000000):MM 140 [.agg F.cells,.agg x.cells] ivc c S (a4K c x.name,S.look (K8 c.fl x.name)):=by
 unfold MM;refine qO Tryz.func140 ?_;refine z_6 ?_;refine qD (j5 O c9g j7 (a3y (b4L x.name c S cl) [.box F.cells,.box x.cells] (λa h=>by simp at h;subst h;exact .val _) a7j) O (λ_ he=>by cases he) ?_);intro a ha;have bR:a3b c x.name=a:=Sum.inl.inj ha;subst bR;refine d9s ?_;refine qD (j5 O c6u ⟨D,D⟩ (b4G _ _) O (λ_ hb=>H5 [_,_,_] (by rw[a4K,W (show diC c.fl true c.me x.name≠0 from hb)];rfl) O) ?_);intro _ hb;refine qC ?_ ?_<;>intro h1
 .have hd:(o8 c.fl x.name).isSome=false:=by simpa[a3b]using h1
  refine c6 ?_;exact⟨_,rE1,(by exact U2 (cv:=ivc) (a:=1) [_,_,_] (by rw[a4K,G (show ¬diC c.fl true c.me x.name≠0 from λh=>h hb),G (by rw[hd];decide)]) (.val _) O)⟩
 .have hd:(o8 c.fl x.name).isSome=true:=by simpa[a3b]using h1
  refine V T7 ?_;refine c6 ?_;exact⟨_,rE1,(by exact U2 (cv:=ivc) (a:=(((o8 c.fl x.name).getD []).length:Int)) [_,_,_] (by rw[a4K,G (show ¬diC c.fl true c.me x.name≠0 from λh=>h hb),W hd]) (.val _) O)⟩
theorem d7d(F:Fr)(x:Ex)(c:MC)(S:MS)(cl:c.fl.length<=1000000):MM 141 [.agg F.cells,.agg x.cells] ivc c S (.inl (c0a c x.name),S.look (K8 c.fl x.name)):=by
 unfold MM;refine qO Tryz.func141 ?_;refine z_6 ?_;refine qD (j5 O c9g j7 (a3y (b4L x.name c S cl) [.box F.cells,.box x.cells] (λa h=>by simp at h;subst h;exact .val _) a7j) O (λ_ he=>by cases he) ?_);intro a ha;have bR:a3b c x.name=a:=Sum.inl.inj ha;subst bR;refine d9s ?_;refine V c95 ?_;refine c6 ?_;exact⟨_,rE1,(by exact U2 (cv:=ivc) (a:=c0a c x.name) [_,_,_] O (.val _) O)⟩
abbrev Rs(α:Type):=(α ⊕ Int)×MS
def O8(c:MC)(x:En):Option (Src×De):=(glk c.ms x.pl).bind λs=>(s.decls[x.ix.toNat]?).map λd=>(s,d)
def a01(rec:Int->MS->Rs Int):List Int->List Int->MS->Rs (List Int)
 |acc,[],S=>(.inl acc,S)
 |acc,a::l,S=>bindM (rec a S) λv S1=>a01 rec (acc++[v]) l S1
def J0(rec:Fr->Int->MS->Rs Int)(c:MC)(x:En)(args:List Int)(an:Bool)(S:MS):Rs Int:=
 if S.ac=64 then(.inr 17,S)else match O8 c x with
 |none=>(.inl 0,S)
 |some y=>bindM (rec ⟨y.1,y.2,args,an⟩ ((y.2.body.length:Int) -1) {S with ac:=S.ac+1}) λv S2=>(.inl v,{S2 with ac:=S2.ac -1})
def Y3(F:Fr):List I:=F.f.pkg::F.f.imports
def E7(c:MC)(F:Fr)(x:Ex):En:=a3d true c.me x.name (Y3 F)
def T6(c:MC)(F:Fr)(x:Ex):List Ky:=a0S x.name (Y3 F) (a1p true c.me x.name (Y3 F))
def a9z(c:MC)(x:En):Nat:=((O8 c x).map λy=>y.2.params.length).getD 0
def a07(rec:Fr->Int->MS->Rs Int)(c:MC)(F:Fr)(x:Ex)(S:MS):Rs Int:=
 if W8 (E7 c F x)≠0 then(.inr (W8 (E7 c F x)),S.look (T6 c F x))else
 bindM (a01 (rec F) [] x.args (S.look (T6 c F x))) λvs S2=>if vs.length≠a9z c (E7 c F x)then(.inr 13,S2)else J0 rec c (E7 c F x) vs (gnn vs.length) S2
def a3j(v:Int):Int ⊕ Int:=if(-9007199254740992<=v/\v<=9007199254740992)then .inl v else .inr 3
def biV(o a b:Int):Int ⊕ Int:=
 if o=1 then a3j (a+b)else if o=2 then a3j (a-b)else
 if o=3 then(if b≠0/\9007199254740992 / max b (-b)<max a (-a)then .inr 3 else a3j (a*b))else
 if o=4 then(if b=0 then .inr 4 else a3j (a.tdiv b))else if o=5 then(if b=0 then .inr 4 else a3j (a.tmod b))else
 if o=6 then .inl (if a<b then 1 else 0)else .inl (if a=b then 1 else 0)
def biS(rec:Int->MS->Rs Int)(x:Ex)(S:MS):Rs Int:=bindM (rec (x.args.getD 0 0) S) λa S1=>bindM (rec (x.args.getD 1 0) S1) λb S2=>(biV x.op a b,S2)
def a0W(rec:Int->MS->Rs Int)(x:Ex)(S:MS):Rs Int:=bindM (rec (x.args.getD 0 0) S) λv S1=>if v≠0 then rec (x.args.getD 1 0) S1 else rec (x.args.getD 2 0) S1
def a1q(rec:Fr->Int->MS->Rs Int)(c:MC)(F:Fr)(x:Ex)(S:MS):Rs Int:=
 if diC c.fl true c.me x.name≠0 then(.inr (diC c.fl true c.me x.name),S.look (K8 c.fl x.name))else
 bindM (rec F (x.args.getD 0 0) (S.look (K8 c.fl x.name))) λi S2=>
  if i<0\/(match o8 c.fl x.name with|some b=>(b.length:Int)|none=>1)<=i then(.inr 3,S2)else match o8 c.fl x.name with
  |some b=>(.inl ((b.getD i.toNat 0).toNat:Int),S2)
  |none=>bindM (J0 rec c (diE c.fl true c.me x.name) [] false S2) λv S3=>(.inl ((v.tmod 256+256).tmod 256),S3)
def N0(rec:Fr->Int->MS->Rs Int)(c:MC)(F:Fr)(x:Ex)(S:MS):Rs Int:=
 if x.k=1 then(.inl x.num,S)else if x.k=2 then(.inl (F.args.getD x.num.toNat 0),S)else if x.k=3 then a07 rec c F x S else if x.k=4 then biS (rec F) x S else
 if x.k=5 then a0W (rec F) x S else if x.k=6 then a1q rec c F x S else if x.k=7 then(a4K c x.name,S.look (K8 c.fl x.name))else if x.k=8 then(.inl (c0a c x.name),S.look (K8 c.fl x.name))else
 if x.k=9 then(b19 c x.name,S.look [⟨5,x.name,[]⟩])else(.inl (c.wd / 2^x.num.toNat%2),{S with rn:=true})
def b8C(rec:Fr->Int->MS->Rs Int)(c:MC)(F:Fr)(i:Int)(S:MS):Rs Int:=
 if S.st=20000 then(.inr 16,S)else match F.d.body[i.toNat]? with
 |none=>(.inl 0,S)
 |some x=>N0 rec c F x {S with st:=S.st+1}
def evN(c:MC):Nat->Fr->Int->MS->Rs Int
 |0,_,_,S=>(.inr 16,S)
 |n+1,F,i,S=>b8C (evN c n) c F i S
def InM(v:Int):Prop:=-9007199254740992<=v/\v<=9007199254740992
def SB(S0 S:MS):Prop:=S0.st<=S.st/\S.st<=20000/\S.ac=S0.ac
def Gd(S:MS)(o:Rs Int):Prop:=S.st<=o.2.st/\o.2.st<=20000/\∀v,o.1 = .inl v->InM v/\o.2.ac=S.ac
theorem SB.refl(h:S.st<=20000):SB S S:=⟨a7G _,h,O⟩
theorem SB.next{S0:MS}{o:Rs Int}(h:SB S0 S)(hg:Gd S o)(hv:o.1 = .inl v):SB S0 o.2:=⟨Int.le_trans h.1 hg.1,hg.2.1,(hg.2.2 v hv).2.trans h.2.2⟩
def a6f(c:MC)(F:Fr)(rec:Int->MS->Rs Int)(S0:MS)(L:List Int):Prop:=∀i∈L,∀S:MS,SB S0 S->MM 171 [.agg F.cells,iv i] ivc c S (rec i S)/\Gd S (rec i S)
theorem o_l{o:Rs α}{a:α}(h:o.1 = .inl a):o=(.inl a,o.2):=Prod.ext h O
theorem o_r{o:Rs α}(h:o.1 = .inr a):o=(.inr a,o.2):=Prod.ext h O
theorem a0g(F:Fr)(i:Int):∀a∈([.agg F.cells,iv i]:List CV),r9 a:=λa h=>by
 simp at h
 rcases h with rfl|rfl
 .exact F.pure
 .exact .val _
theorem S7(v:Int):r9 (ivc v):=.val _
theorem d3W{l:List Int}(h:l.length=3):∃a b d,l=[a,b,d]:=by
 rcases l with _|⟨a,_|⟨b,_|⟨d,_|⟨e,l⟩⟩⟩⟩<;>simp at h
 exact⟨a,b,d,O⟩
theorem d4m{l:List Int}(h:l.length=2):∃a b,l=[a,b]:=by
 rcases l with _|⟨a,_|⟨b,_|⟨d,l⟩⟩⟩<;>simp at h
 exact⟨a,b,O⟩
theorem d6d{l:List Int}(h:l.length=1):∃a,l=[a]:=by
 rcases l with _|⟨a,_|⟨b,l⟩⟩<;>simp at h
 exact⟨a,O⟩
theorem c4Z(F:Fr)(x:Ex)(rec:Int->MS->Rs Int)(h3:x.args.length=3)(c:MC)(S:MS)(hs:S.st<=20000)(HR:a6f c F rec S x.args):MM 138 [.agg F.cells,.agg x.cells] ivc c S (a0W rec x S):=by
 unfold MM;obtain⟨a0,a1,a2,e⟩:=d3W h3;have g0:x.args.getD 0 0=a0:=by rw[e];rfl
 have g1:x.args.getD 1 0=a1:=by rw[e];rfl
 have g2:x.args.getD 2 0=a2:=by rw[e];rfl
 refine qO Tryz.func138 ?_;refine z_6 ?_;refine b1J ?_;refine hY d2X ?_;refine b5M ?_;refine qD (j5 O b6s B7 (a3y (HR a0 a1b S (SB.refl hs)).1 [.box F.cells,.box x.cells] (a0g _ _) S7) O (λer he=>H5 [_,_] (by rw[a0W,g0,R8 he]) O) ?_);intro v hv;have hm:=(SB.refl hs).next (HR a0 a1b S (SB.refl hs)).2 hv;refine qN [mbx c ((rec a0 S).2) 1 5 6,wbx c.fl c.nn true c.br 2 3 4,smO c.ms,emO c.me,p7 c.br.length,trO ((rec a0 S).2).tr,ndO,.box F.cells,.box x.cells] O (qC ?_ ?_)<;> intro h1
 .have aB:v≠0:=H h1;have eo:a0W rec x S=rec a1 (rec a0 S).2:=by rw[a0W,g0,N6 hv,W aB,g1]
  refine b1J ?_;refine hY d9p ?_;refine b5M ?_;refine qD (j5 O b6s B7 (a3y (HR a1 a1b (rec a0 S).2 hm).1 [.box F.cells,.box x.cells] (a0g _ _) S7) O (λer he=>H5 [_,_] (eo.trans (o_r he)) O) ?_);intro u hu;exact d3Z
 .have aB:¬v≠0:=H h1;have eo:a0W rec x S=rec a2 (rec a0 S).2:=by rw[a0W,g0,N6 hv,G aB,g2]
  refine b1J ?_;refine hY (z8 O D O O O t_3 t_1 J (o7 (show x.args[2]?=some a2 by rw[e];rfl)) O) ?_;refine b5M ?_;refine qD (j5 O b6s B7 (a3y (HR a2 a1b (rec a0 S).2 hm).1 [.box F.cells,.box x.cells] (a0g _ _) S7) O (λer he=>H5 [_,_] (eo.trans (o_r he)) O) ?_);intro u hu;exact d3Z
theorem d2s(F:Fr)(x:Ex):∀a∈([.agg F.cells,.agg x.cells]:List CV),r9 a:=λa h=>by
 simp at h
 rcases h with rfl|rfl
 .exact F.pure
 .exact x.pureA
theorem a2l{x:En}{s:Src}{d:De}(h:O8 c x=some (s,d)):glk c.ms x.pl=some s/\s.decls[x.ix.toNat]?=some d:=by
 unfold O8 at h;cases hs:glk c.ms x.pl with
 |none=>rw[hs]at h;cases h
 |some s'=>
  rw[hs]at h;cases hd:s'.decls[x.ix.toNat]? with
  |none=>simp[hd]at h
  |some d'=>simp[hd]at h;obtain⟨rfl,rfl⟩:=h;exact⟨O,hd⟩
theorem c21(F:Fr)(i:Int)(x:Ex)(hi:0<=i)(hx:F.d.body[i.toNat]?=some x)(g:FuncId)(hg:glk ndL x.k=some (fv g))(az:∀args w,(callFunc g args).run CC.P w= .ok (.enter g args) w)(c:MC)(S:MS)(o:Rs Int)(aP:0<=S.st/\S.st<=20000)(HK:S.st≠20000->MM g [.agg F.cells,.agg x.cells] ivc c {S with st:=S.st+1} o):MM 171 [.agg F.cells,iv i] ivc c S (if S.st=20000 then(.inr 16,S)else o):=by
 unfold MM;refine qO Tryz.func171 ?_;refine qD (F1 O D j3 j1 ?_);refine qD (j5 O b2b o4 (T1 _ 16 _) O (λ_ hb=>H5 [_] (by rw[W (show S.st=20000 by simpa using hb)]) O) ?_);intro _ hb;have aB:S.st≠20000:=H hb;refine z_4 ?_;refine V (z8 O D D O O b6a b5j J (o7 hx) O) ?_;refine b86 ?_;refine cW 10 ?_;refine a3X ?_;refine hY (j2 O D O b31 O Tryz.sizeOf181 U) ?_;refine hY (o5 O D O Tryz.isAgg181 O O) ?_;refine hY c6n ?_;refine hY V3 ?_;refine hY (S4 (kc:=kv) (vc:=λc=>c) (l:=ndL) (a:=x.k) (c:=fv g) a0C O D D O O b0h Tryz.zeroValue179 O O (show((glk ndL x.k).map λc=>c).getD _=fv g by rw[hg];rfl)) ?_;refine d4W ?_;refine hY c7g ?_;refine a2b ?_;refine qD (c0e O D O az B7 (a3y (HK aB) [.box F.cells,.box x.cells] (d2s _ _) S7) O (λer he=>H5 [_,_] ((G aB).trans (o_r he)) O) ?_);intro v hv;refine c6 ?_;exact⟨_,rE1,(by exact U2 (cv:=ivc) [_,_] ((G aB).trans (o_l hv)) (.val _) O)⟩
theorem c6E(x:En)(args:List Int)(an:Bool)(rec:Fr->Int->MS->Rs Int)(s:Src)(d:De)(c:MC)(S:MS)(hix:0<=x.ix)(hd:O8 c x=some (s,d))(hbl:d.body.length<=1000)(hac:0<=S.ac/\S.ac<=64)(HR:S.ac≠64->MM 171 [.agg (⟨s,d,args,an⟩:Fr).cells,iv ((d.body.length:Int) -1)] ivc c {S with ac:=S.ac+1} (rec (⟨s,d,args,an⟩:Fr) ((d.body.length:Int) -1) {S with ac:=S.ac+1})/\∀v,(rec (⟨s,d,args,an⟩:Fr) ((d.body.length:Int) -1) {S with ac:=S.ac+1}).1 = .inl v->(rec (⟨s,d,args,an⟩:Fr) ((d.body.length:Int) -1) {S with ac:=S.ac+1}).2.ac=S.ac+1):MM 173 [.agg x.cells,(.list (args.map icv) an none)] ivc c S (J0 rec c x args an S):=by
 unfold MM;obtain⟨gL,hd2⟩:=a2l hd;refine cO Tryz.func173 ?_;refine b5k ?_;refine cY a54 ?_;refine b8u ?_;refine cY b8E ?_;refine cY V3 ?_;refine cY a1s ?_;refine cD (j5 O b2b o4 (T1 _ 17 _) O (λ_ hb=>H5 [_] (by rw[J0,W (show S.ac=64 by simpa using hb)]) O) ?_);intro _ hb;have aB:S.ac≠64:=H hb;have eo:J0 rec c x args an S=bindM (rec (⟨s,d,args,an⟩:Fr) ((d.body.length:Int) -1) {S with ac:=S.ac+1}) λv S2=>(.inl v,{S2 with ac:=S2.ac -1}):=by rw[J0,G aB,hd]
 refine b8u ?_;refine cY b8E ?_;refine cY V3 ?_;refine b5U ?_;refine d5l ?_;refine a4f ?_;refine cF [] [0,1,2,3,4,5,6,7,8,9] (tl:=[(10,[0,1,2,3,4,5,6,7,8,9]),(11,[])]) ?_;refine b3u ?_;refine chf O (c7 O b7g) ?_;refine chf O (c7 O b7B) ?_;refine chf O b3m ?_;refine chf O (c7 O c1m) ?_;refine chf O (c7 O c2p) ?_;refine chf O c5X ?_;refine chf O b8c ?_;refine chf O (c7 O d8I) ?_;refine G4 ?_;refine B9 O O O (l8 O a4S O j1 ?_);refine⟨⟨G3,a82,(by exact c7 O b7g),(by exact c7 O b7B),a82,(by exact c7 O c1m),(by exact c7 O c2p),(by exact c7 O b7d),a31,(by exact c7 O d8I),D⟩,?_⟩;refine B9 O O O (i9 O D D O j3 t_8 j1 O O (nb O) ?_);refine a8r ?_;refine z_0 ?_;refine cY b7b ?_;refine cY b7Q ?_;refine cY a9b ?_;refine cY V3 ?_;refine cY (z8 O D D O O a9h a5M J (o7 hd2) O) ?_;refine cY d0n ?_;refine cD (l8 O b2l O j1 ?_);refine cD (i9 O D D O j3 a5M j1 O O (nb O) ?_);refine a4h ?_;refine cY b7K ?_;refine cY d0y ?_;refine cY A3 ?_;refine cY (B2 #[(0,3),(3,4),(7,1)] O B7 c79 Tryz.zeroValue210 O ⟨_,O⟩ (λw=>by kernel_rfl) O O) ?_;refine cY (j2 O D O a9y O a9r U) ?_;refine cY c13 ?_;refine cY a8V ?_;refine cY a0k ?_;refine cD (j5 O b6s B7 (a3y (HR aB).1 [.box x.cells,.box s.cells,.box d.cells] (a0g _ _) S7) O (λer he=>H5 [_,_,_] (eo.trans (R8 he _)) O) ?_);intro v hv;have hac2:=(HR aB).2 v hv;refine G8 [mbx c ((rec (⟨s,d,args,an⟩:Fr) ((d.body.length:Int) -1) {S with ac:=S.ac+1}).2) 1 5 6,wbx c.fl c.nn true c.br 2 3 4,smO c.ms,emO c.me,p7 c.br.length,trO ((rec (⟨s,d,args,an⟩:Fr) ((d.body.length:Int) -1) {S with ac:=S.ac+1}).2).tr,ndO,.box x.cells,.box s.cells,.box d.cells] rfl ?_;refine a24 ?_;refine a6O ?_;refine cY b8E ?_;refine cY V3 ?_;refine cY a0k ?_;refine cY a57 ?_;refine d5l ?_;refine a4h ?_;refine b1l ?_;exact⟨_,rE1,(by exact U2 (cv:=ivc) (S:={(rec (⟨s,d,args,an⟩:Fr) ((d.body.length:Int) -1) {S with ac:=S.ac+1}).2 with ac:=(rec (⟨s,d,args,an⟩:Fr) ((d.body.length:Int) -1) {S with ac:=S.ac+1}).2.ac -1}) [_,_,_] (eo.trans (N6 hv _)) (.val _) rfl)⟩
theorem b85{rec:Int->MS->Rs Int}{acc l:List Int}(h:l[i]?=some a):a01 rec acc (l.drop i) S=bindM (rec a S) λv S1=>a01 rec (acc++[v]) (l.drop (i+1)) S1:=by
 rw[c1d h];rfl
theorem c4J(n:Nat)(F:Fr):G7 n (.box F.cells):=A0 ⟨.val _,(o6 _ _).old,(a1L _ _).old,.val _,.val _,(o6 _ _).old,(F8 _ _).old,(F4 _ _).old,D⟩
theorem b08(x:En)(l:List Int)(an:Bool):∀a∈([.agg x.cells,.list (l.map icv) an none]:List CV),r9 a:=λa h=>by
 simp at h
 rcases h with rfl|rfl
 .exact En.pure _
 .exact F4 _ _
theorem d3n(n:Nat)(x:Ex):G7 n (.box x.cells):=A0 ⟨.val _,.val _,.val _,.val _,(F4 _ _).old,D⟩
theorem d8g(n:Nat)(x:En):G7 n (.box x.cells):=A0 ⟨.val _,.val _,.val _,.val _,.val _,.val _,D⟩
theorem d2D(F:Fr)(x:Ex)(rec:Fr->Int->MS->Rs Int)(c:MC)(S:MS)(him:F.f.imports.length<=1000000)(fL:(T6 c F x).length<=1000000000)(hal8:x.args.length<=1000)(hE:W8 (E7 c F x)=0->U3 (E7 c F x)=E7 c F x/\∃(s:Src) (d:De),0<=(E7 c F x).ix/\O8 c (E7 c F x)=some (s,d)/\d.body.length<=1000/\d.params.length<=1000)(hs:S.st<=20000)(HR:a6f c F (rec F) S x.args)(HE:W8 (E7 c F x)=0->∀s d,O8 c (E7 c F x)=some (s,d)->∀(l:List Int) (an:Bool) (S1:MS),l.length=a9z c (E7 c F x)->SB S S1->a01 (rec F) [] x.args (S.look (T6 c F x))=(.inl l,S1)->MM 173 [.agg (U3 (E7 c F x)).cells,.list (l.map icv) an none] ivc c S1 (J0 rec c (E7 c F x) l an S1)):MM 136 [.agg F.cells,.agg x.cells] ivc c S (a07 rec c F x S):=by
 unfold MM;refine cO Tryz.func136 ?_;refine b5k ?_;refine d0k ?_;refine a4f ?_;refine cF [] [0,1,2,3,4,5,6,7,8,9,10,11,12] (tl:=[(13,[0,1,2,3,4,5,6,7,8,9,10,11,12]),(14,[11,12]),(15,[12]),(16,[])]) ?_;refine b3u ?_;refine chf O (c7 O b7g) ?_;refine chf O (c7 O b7B) ?_;refine chf O (c7 O (j2 O D O c79 O t_8 U)) ?_;refine chf O c87 ?_;refine chf O (c7 O b7T) ?_;refine chf O b8c ?_;refine chf O (c7 O e0b) ?_;refine chf O U7 ?_;refine chf O b06 ?_;refine chf O b06 ?_;refine chf O b06 ?_;refine c9S ?_;refine⟨⟨G3,a82,(by exact c7 O b7g),(by exact c7 O b7B),(by exact c7 O (j2 O D O c79 O t_8 U)),(by exact c7 O b7K),(by exact c7 O b7T),a31,(by exact c7 O e0b),G3,a4t,a4t,a4t,D⟩,?_⟩;refine B9 O O O (i9 O D D O j3 t_7 j1 O O (nb O) ?_);refine⟨⟨a4t,a4t,D⟩,?_⟩;refine E8 O O a9f ⟨⟨a4t,D⟩,?_⟩;refine c5q ?_;refine z_3 ?_;refine cY A3 ?_;refine cD (j5 O c1F j7 (a3y (a9O (T6 c F x) (gnn (a1p true c.me x.name (Y3 F))) fL c S) [.box F.cells,.box x.cells,.box (U3 (E7 c F x)).cells] (λa h=>by simp at h;subst h;exact C1 _ _) b4p) O (λ_ he=>by cases he) ?_);intro _ _;refine G8 [mbx c ((S.look (T6 c F x))) 1 5 6,wbx c.fl c.nn true c.br 2 3 4,smO c.ms,emO c.me,p7 c.br.length,trO ((S.look (T6 c F x))).tr,ndO,.box F.cells,.box x.cells,.box (U3 (E7 c F x)).cells] O ?_;refine a4h ?_;refine cD (j5 O c6u ⟨D,D⟩ (b4G (W8 (E7 c F x)) _) O (λ_ hb=>H5 [_,_,_] (by rw[a07,W hb]) O) ?_);intro _ hb;have cT:=hb;have gS:¬W8 (E7 c F x)≠0:=λh=>h hb;refine a7B ?_;refine cY a54 ?_;refine a4f ?_;refine z_0 ?_;refine cY d6h ?_;refine cY c2o ?_;refine cY a1Q ?_;refine b8w ?_;refine C5 hCC 10 O (α:=Nat×List Int×MS) (λa=>[(0,.ptr 0 0),(4,.ptr 7 0),(7,.ptr 9 0),(10,(.list (a.2.1.map icv) (gnn a.2.1.length) (G9 a.2.1.length 10))),(32,(.list (x.args.map icv) (gnn x.args.length) none)),(33,iv x.args.length),(34,iv a.1)]) (λa=>[mbx c (a.2.2) 1 5 6,wbx c.fl c.nn true c.br 2 3 4,smO c.ms,emO c.me,p7 c.br.length,trO (a.2.2).tr,ndO,.box F.cells,.box x.cells,.box (U3 (E7 c F x)).cells,p7 a.2.1.length]) (λa=>a.1<=x.args.length/\a.2.1.length=a.1/\SB S a.2.2/\a01 (rec F) [] x.args (S.look (T6 c F x))=a01 (rec F) a.2.1 (x.args.drop a.1) a.2.2) (λa=>x.args.length -a.1) ⟨(0,[],(S.look (T6 c F x))),[0,1,2,3,4,5,6,7,8,9,99],⟨n_4 _,O,SB.refl hs,O⟩,⟨O,O⟩,ut_,uq_⟩ ?_;intro⟨k,acc,S1⟩ ⟨hk,gF,aP,hr⟩;dsimp only at hk gF aP hr⊢;refine z_0 ?_;refine b5I ?_;refine cC ?_ ?_<;>intro h1
 .have ah:k<x.args.length:=sm_ h1;obtain⟨a,hb1⟩:∃a,x.args[k]?=some a:=⟨x.args[k]'ah,Q⟩;have bo:a∈x.args:=n_2 hb1;rw[b85 hb1]at hr;refine b7D ?_;refine z_0 ?_;refine cY (z8 O D D O O t_3 t_1 J (o7 hb1) O) ?_;refine cY a3r ?_;refine a24 ?_;refine a8t ?_;refine cY A3 ?_;refine cY d4q ?_;refine cY A3 ?_;refine cD (j5 O b6s B7 (a3y (HR a bo S1 aP).1 [.box F.cells,.box x.cells,.box (U3 (E7 c F x)).cells,p7 acc.length] (a0g _ _) S7) O (λer he=>H5 [_,_,_,_] (by rw[a07,G gS,hr,R8 he];rfl) O) ?_);intro v hv;rw[N6 hv]at hr;have hmo:=aP.next (HR a bo S1 aP).2 hv;refine G8 [mbx c ((rec F a S1).2) 1 5 6,wbx c.fl c.nn true c.br 2 3 4,smO c.ms,emO c.me,p7 c.br.length,trO ((rec F a S1).2).tr,ndO,.box F.cells,.box x.cells,.box (U3 (E7 c F x)).cells,p7 acc.length] O ?_;refine cY (B4 [icv v] O ⟨D,D⟩ t_3 t_1 t_6 O O O O O O O O O) ?_;refine cD (D6 O D D O Q q_3 t_3 t_1 c5r t_6 O (.inr O) q_8 b3i G0 ((acc++[v]).map icv) (acc++[v]).length Q Q ?_);refine a24 ?_;refine a8P ?_;exact⟨(k+1,acc++[v],(rec F a S1).2),[0,1,2,3,4,5,6,7,8,9,11],⟨do_,do_,by dsimp only;simp;omega,hmo,hr⟩,⟨O,O⟩,ut_,uq_⟩
 .have aH:x.args.length<=k:=sm_ h1;rw[U4 aH]at hr;replace hr:a01 (rec F) [] x.args (S.look (T6 c F x))=(.inl acc,S1):=hr;have hka:acc.length=x.args.length:=by omega
  obtain⟨iI,hfin2⟩:=hE hb;obtain⟨s,d,hix,hd,hbl,bf⟩:=hfin2;obtain⟨gL,hd2⟩:=a2l hd;have hix2:0<=(U3 (E7 c F x)).ix:=by rw[iI];exact hix
  have eo:a07 rec c F x S=if acc.length≠a9z c (E7 c F x)then(.inr 13,S1)else J0 rec c (E7 c F x) acc (gnn acc.length) S1:=by rw[a07,G gS,hr];rfl
  have hnp:a9z c (E7 c F x)=d.params.length:=by rw[a9z,hd];rfl
  rw[hnp]at eo;refine l9 (J2 ?_);refine cW 20 ?_;refine hY A3 ?_;refine hY a1Q ?_;refine a3X ?_;refine hY b7g ?_;refine hY b7B ?_;refine hY a57 ?_;refine hY c1m ?_;refine hY c2p ?_;refine hY b7d ?_;refine hY U0 ?_;refine hY (S4 (kc:=sv) (vc:=vcS) (l:=c.ms) (a:=(U3 (E7 c F x)).pl) (c:=vcS s) b8e O D D O O c7i a4S O O (show((glk c.ms _).map vcS).getD _=vcS s by rw[iI,gL];rfl)) ?_;refine hY (a28 O D O a79 O c6Y O) ?_;refine hY a9b ?_;refine hY V3 ?_;refine hY (z8 O D D O O a9h a5M J (o7 (show s.decls[_]?=some d by rw[iI];exact hd2)) O) ?_;refine hY (a2U O D O a9y O a2E U) ?_;refine hY (a0L O D O b7J O) ?_;refine hY K6 ?_;refine hY a51 ?_;refine a1m ?_;refine cD (j5 O b2b o4 (T1 _ 13 _) O (λ_ hb=>H5 [_,_,_,_] (by rw[eo,W (show acc.length≠d.params.length by simp at hb;omega)]) O) ?_);intro _ hb;have hln:acc.length=d.params.length:=sm_ hb;rw[G (λh=>h hln)]at eo;refine a4h ?_;refine cY b05 ?_;refine cY A3 ?_;refine cD (j5 O c73 B7 (a3y (HE cT s d hd acc (gnn acc.length) S1 (hln.trans hnp.symm) aP (by rw[hr])) [.box F.cells,.box x.cells,.box (U3 (E7 c F x)).cells,p7 acc.length] (b08 _ _ _) S7) O (λer he=>H5 [_,_,_,_] (eo.trans (o_r he)) O) ?_);intro v hv;refine b1l ?_;exact⟨_,rE1,(by exact U2 (cv:=ivc) [_,_,_,_] (eo.trans (o_l hv)) (.val _) O)⟩
theorem c1O(v:Int): -256<v.tmod 256/\v.tmod 256<256:=by
 rcases Int.le_total 0 v with h|h
 .rw [b5x h];omega
 .obtain ⟨m,rfl⟩:∃m:Int,v= -m:=⟨-v,J⟩;rw[Int.neg_tmod,b5x J];omega
theorem d2Z(F:Fr)(x:Ex)(rec:Fr->Int->MS->Rs Int)(dy:x.args.length=1)(c:MC)(S:MS)(cl:c.fl.length<=1000000)(hs:S.st<=20000)(HR:a6f c F (rec F) S x.args)(HEN:diC c.fl true c.me x.name=0->o8 c.fl x.name=none->∀S1:MS,SB S S1->MM 173 [.agg (diE c.fl true c.me x.name).cells,.list (([]:List Int).map icv) false none] ivc c S1 (J0 rec c (diE c.fl true c.me x.name) [] false S1)):MM 139 [.agg F.cells,.agg x.cells] ivc c S (a1q rec c F x S):=by
 unfold MM;obtain⟨a0,e⟩:=d6d dy;have g0:x.args.getD 0 0=a0:=by rw[e];rfl
 refine qO Tryz.func139 ?_;refine z_6 ?_;refine qD (j5 O c9g j7 (a3y (b4L x.name c S cl) [.box F.cells,.box x.cells] (λa h=>by simp at h;subst h;exact .val _) a7j) O (λ_ he=>by cases he) ?_);intro a ha;have bR:a3b c x.name=a:=Sum.inl.inj ha;subst bR;refine qN [mbx c ((S.look (K8 c.fl x.name))) 1 5 6,wbx c.fl c.nn true c.br 2 3 4,smO c.ms,emO c.me,p7 c.br.length,trO ((S.look (K8 c.fl x.name))).tr,ndO,.box F.cells,.box x.cells] O ?_;refine z_7 ?_;refine qD (j5 O c6u ⟨D,D⟩ (b4G (diC c.fl true c.me x.name) _) O (λ_ hb=>H5 [_,_,_] (by rw[a1q,W hb]) O) ?_);intro _ hb;have cT:=hb;have bX:¬diC c.fl true c.me x.name≠0:=λh=>h hb;have eo:a1q rec c F x S=bindM (rec F a0 (S.look (K8 c.fl x.name))) λi S2=>if i<0\/(match o8 c.fl x.name with|some b=>(b.length:Int)|none=>1)<=i then(.inr 3,S2)else match o8 c.fl x.name with
  |some b=>(.inl ((b.getD i.toNat 0).toNat:Int),S2)
  |none=>bindM (J0 rec c (diE c.fl true c.me x.name) [] false S2) λv S3=>(.inl ((v.tmod 256+256).tmod 256),S3):=by
  rw[a1q,G bX,g0];all_goals rfl
 refine V T7 ?_;refine qC ?_ ?_<;>intro h1
 .have hd:o8 c.fl x.name=none:=by simpa[a3b]using h1
  rw[hd]at eo;refine b1J ?_;refine hY d2X ?_;refine hY a3r ?_;refine d8y ?_;intro v hv;have hm:SB S (rec F a0 (S.look (K8 c.fl x.name))).2:=(show SB S (S.look (K8 c.fl x.name))from SB.refl hs).next (HR a0 a1b (S.look (K8 c.fl x.name)) (SB.refl hs)).2 hv;rw[N6 hv]at eo;refine e0A ?_;refine b0C ?_;refine qD (j5 O b2b o4 (T1 _ 3 _) O (λ_ hb=>H5 [_,_,_] (eo.trans (W (by simp at hb;simp;omega))) O) ?_);intro _ hb;rw[G (by simp at hb;simp;omega)]at eo;dsimp only at eo;refine qC ?_ ?_<;>intro h2
  .exfalso;simp[a3b,hd]at h2
  .refine qD (j5 O c73 a2j (a3y (HEN cT hd (rec F a0 (S.look (K8 c.fl x.name))).2 hm) [.box F.cells,.box x.cells,.box (diE c.fl true c.me x.name).cells] (b08 _ [] _) S7) O (λer he=>H5 [_,_,_] (eo.trans (R8 he _)) O) ?_);intro u hu;rw[N6 hu]at eo;have hbd:=c1O u;refine V (T9 O D O O O (b0W U)) ?_;refine V r6 ?_;refine V (T9 O D O O O (b0W U)) ?_;exact d3X
 .have hd:(o8 c.fl x.name).isSome=true:=by simpa[a3b]using h1
  obtain⟨bs,gD⟩:=c0C.1 hd;have hgd:(o8 c.fl x.name).getD []=bs:=by rw[gD];rfl
  rw[gD]at eo;refine b1J ?_;refine hY d2X ?_;refine hY a3r ?_;refine d8y ?_;intro v hv;have hm:SB S (rec F a0 (S.look (K8 c.fl x.name))).2:=(show SB S (S.look (K8 c.fl x.name))from SB.refl hs).next (HR a0 a1b (S.look (K8 c.fl x.name)) (SB.refl hs)).2 hv;rw[N6 hv]at eo;refine e0A ?_;refine b0C ?_;refine qD (j5 O b2b o4 (T1 _ 3 _) O (λ_ hb=>H5 [_,_,_] (eo.trans (W (by simp[a3b,hgd]at hb;simp;omega))) O) ?_);intro _ hb;have bY:0<=v/\v< (bs.length:Int):=by simp[a3b,hgd]at hb;omega
  rw[G N4]at eo;dsimp only at eo;obtain⟨j,rfl⟩:∃j:Nat,v=(j:Int):=⟨v.toNat,J⟩;obtain⟨b,hb3⟩:=gx_ bs j;have hb4:=b.toNat_lt;have eb:bs.getD (j:Int).toNat 0=b:=by simp[hb3]
  rw[eb]at eo;refine qC ?_ ?_<;>intro h3
  .refine V (J8 O D D O O t_5 J (show((o8 c.fl x.name).getD [])[j]?=some b by rw[hgd];exact hb3)) ?_;refine V (a2K O D O b2e b7r (a4v J J)) ?_;exact d3X
  .exfalso;simp[a3b,gD]at h3
theorem d6A(h:(!(decide (-9007199254740992<=v)&&decide (v<=9007199254740992)))=true):a3j v= .inr 3:=by
 rw[a3j,G (sm_ h)]
theorem d1P(h:(!(decide (-9007199254740992<=v)&&decide (v<=9007199254740992)))=false):a3j v= .inl v:=by
 rw[a3j,W (sm_ h)]
theorem d5F(b:Prop) [Decidable b]:a3j (if b then 1 else 0)= .inl (if b then 1 else 0):=by
 split<;>rfl
theorem d7h{b:Int}(hb:InM b)(h:b=0\/max a (-a)<=9007199254740992 / max b (-b)): -9223372036854775808<=a*b/\a*b<=9223372036854775807:=by
 rcases h with rfl|h
 .simp
 .by_cases h0:b=0
  .subst h0;simp
  .have hp:0<max b (-b):=by omega
   have h1:=(Int.le_ediv_iff_mul_le hp).1 h;have e1:max a (-a)=(a.natAbs:Int):=by omega
   have e2:max b (-b)=(b.natAbs:Int):=by omega
   rw[e1,e2]at h1;have e3:((a*b).natAbs:Int)=(a.natAbs:Int)*(b.natAbs:Int):=by rw[Int.natAbs_mul];rfl
   rw[<- e3]at h1;omega
theorem d3c{b:Int}(ha:InM a): -9223372036854775808<=a.tdiv b/\a.tdiv b<=9223372036854775807:=by
 have h1:=Int.natAbs_tdiv_le_natAbs a b;obtain⟨h2,h3⟩:=ha;omega
theorem c74{b:Int}(ha:InM a)(hb:b≠0):a7C .quo .i64 a b=some (.int .i64 (a.tdiv b)):=by
 have h:=d3c (b:=b) ha;simp only[a7C,G hb];rw[a4v J J]
theorem c49(F:Fr)(x:Ex)(rec:Int->MS->Rs Int)(cI:x.args.length=2)(c:MC)(S:MS)(hs:S.st<=20000)(HR:a6f c F rec S x.args):MM 137 [.agg F.cells,.agg x.cells] ivc c S (biS rec x S):=by
 unfold MM;obtain⟨a0,a1,e⟩:=d4m cI;have g0:x.args.getD 0 0=a0:=by rw[e];rfl
 have g1:x.args.getD 1 0=a1:=by rw[e];rfl
 refine qO Tryz.func137 ?_;refine z_6 ?_;refine b1J ?_;refine hY d2X ?_;refine b5M ?_;refine qD (j5 O b6s B7 (a3y (HR a0 a1b S (SB.refl hs)).1 [.box F.cells,.box x.cells] (a0g _ _) S7) O (λer he=>H5 [_,_] (by rw[biS,g0,R8 he]) O) ?_);intro a ha;have bQ:=(HR a0 a1b S (SB.refl hs)).2;have hm:=(SB.refl hs).next bQ ha;have ck:=(bQ.2.2 a ha).1;refine qN [mbx c ((rec a0 S).2) 1 5 6,wbx c.fl c.nn true c.br 2 3 4,smO c.ms,emO c.me,p7 c.br.length,trO ((rec a0 S).2).tr,ndO,.box F.cells,.box x.cells] O ?_;refine b1J ?_;refine hY d9p ?_;refine b5M ?_;refine qD (j5 O b6s B7 (a3y (HR a1 a1b (rec a0 S).2 hm).1 [.box F.cells,.box x.cells] (a0g _ _) S7) O (λer he=>H5 [_,_] (by rw[biS,g0,N6 ha,g1,R8 he]) O) ?_);intro b hb;have hbb:=((HR a1 a1b (rec a0 S).2 hm).2.2.2 b hb).1;have eo:biS rec x S=(biV x.op a b,(rec a1 (rec a0 S).2).2):=by rw[biS,g0,N6 ha,g1,N6 hb]
 obtain⟨hab1,hab2⟩:=ck;obtain⟨hbb1,hbb2⟩:=hbb;refine qN [mbx c ((rec a1 (rec a0 S).2).2) 1 5 6,wbx c.fl c.nn true c.br 2 3 4,smO c.ms,emO c.me,p7 c.br.length,trO ((rec a1 (rec a0 S).2).2).tr,ndO,.box F.cells,.box x.cells] O (qC ?_ ?_)<;> intro h1
 .have n1:x.op=1:=H h1;have hv:biV x.op a b=a3j (a+b):=by rw[biV,W n1]
  refine V a5Z ?_;refine b9Z ?_;intro _ hq;exact c0D
 .have n1:¬x.op=1:=H h1;refine qC ?_ ?_<;>intro h2
  .have n2:x.op=2:=H h2;have hv:biV x.op a b=a3j (a-b):=by rw[biV,G n1,W n2]
   refine V a8d ?_;refine b9Z ?_;intro _ hq;exact c0D
  .have n2:¬x.op=2:=H h2;refine qC ?_ ?_<;>intro h3
   .have n3:x.op=3:=H h3;have hv0:biV x.op a b=if b≠0/\9007199254740992 / max b (-b)<max a (-a)then .inr 3 else a3j (a*b):=by rw[biV,G n1,G n2,W n3]
    have wa:IntKind.i64.wrap (-a)= -a:=a4v J J;have wb:IntKind.i64.wrap (-b)= -b:=a4v J J;have wb0:IntKind.i64.wrap (0-b)= -b:=by rw[a4v J J];omega
    refine a1u ?_;refine qG (λhg=>b8r O hg O) ?_;refine qG (λhg=>b6W O hg hg O O) ?_;refine a1u ?_;refine qG (λhg=>b8r O hg O) ?_;refine qG (λhg=>b6W O hg hg O O) ?_;refine qG (λhg=>T9 O O hg O O (d8a J (by simp at hg;rw[wb0];omega) J)) ?_;refine qG b2y ?_;refine V S6 ?_;refine qD (j5 O b2b o4 (T1 _ 3 _) O (λ_ hq=>H5 [_,_] (eo.trans (by rw[hv0,W (by simp[wa,wb]at hq;exact hq)])) O) ?_);intro _ hq;have dZ:¬(b≠0/\9007199254740992 / max b (-b)<max a (-a)):=by
     simp[wa,wb]at hq;rintro⟨q1,q2⟩;have:=hq q1;omega
    have hv:biV x.op a b=a3j (a*b):=by rw[hv0,G dZ]
    have hmb:=d7h ⟨hbb1,hbb2⟩ (by by_cases q:b=0;exact .inl q;exact .inr (Int.not_lt.1 λq2=>dZ ⟨q,q2⟩));refine V (c05 O D D O O J J) ?_;refine b9Z ?_;intro _ hq;exact c0D
   .have n3:¬x.op=3:=H h3;refine qC ?_ ?_<;>intro h4
    .have n4:x.op=4:=H h4;refine qC ?_ ?_<;>intro h5
     .refine qD (j5 O b2b o4 (T1 _ 4 _) O (λ_ hq=>H5 [_,_] (eo.trans (by rw[biV,G n1,G n2,G n3,W n4,W (H hq)])) O) ?_);intro _ hq;have hb0:b≠0:=H hq;have hv:biV x.op a b=a3j (a.tdiv b):=by rw[biV,G n1,G n2,G n3,W n4,G hb0]
      refine V (T9 O D D O O (c74 ⟨hab1,hab2⟩ hb0)) ?_;refine qC ?_ ?_<;>intro h6
      .exfalso;simp[n4]at h6
      .refine b9Z ?_;intro _ hq;exact c0D
     .exfalso;simp[n4]at h5
    .have n4:¬x.op=4:=H h4;refine qC ?_ ?_<;>intro h8
     .have n5:x.op=5:=H h8;refine qD (j5 O b2b o4 (T1 _ 4 _) O (λ_ hq=>H5 [_,_] (eo.trans (by rw[biV,G n1,G n2,G n3,G n4,W n5,W (H hq)])) O) ?_);intro _ hq;have hb0:b≠0:=H hq;have hv:biV x.op a b=a3j (a.tmod b):=by rw[biV,G n1,G n2,G n3,G n4,W n5,G hb0]
      refine V (T9 O D D O O (c74 ⟨hab1,hab2⟩ hb0)) ?_;refine qC ?_ ?_<;>intro h9
      .refine V (T9 O D D O O (b0W hb0)) ?_;refine b9Z ?_;intro _ hq;exact c0D
      .exfalso;simp[n5]at h9
     .have n5:¬x.op=5:=H h8;refine qC ?_ ?_<;>intro bj
      .have n6:x.op=6:=H bj;have hv:biV x.op a b=a3j (if decide (a<b)=true then 1 else 0):=by rw[biV,G n1,G n2,G n3,G n4,G n5,W n6,d5F];simp
       refine V c95 ?_;refine b9Z ?_;intro _ hq;exact c0D
      .have n6:¬x.op=6:=H bj;have hv:biV x.op a b=a3j (if(a == b)=true then 1 else 0):=by rw[biV,G n1,G n2,G n3,G n4,G n5,G n6,d5F];simp
       refine V c95 ?_;refine b9Z ?_;intro _ hq;exact c0D
theorem b0K(l:List Fi)(nn:Bool)(σ:List b9):b8 CC 52 [.agg (A9 l nn)] σ λr aa=>r= .ret (iv (B1 l))/\aa=σ:=by
 refine b8.anyw hCC pu_ pu_ (c9 (qO Tryz.func52 ?_)) σ;refine qD (F1 O D j3 j1 ?_);refine V a2r ?_;refine qC ?_ ?_<;>intro h1
 .have am:64<l.length:=sm_ h1;exact d3V
 .have am:¬64<l.length:=sm_ h1;refine V a2r ?_;refine m0 hCC (α:=Nat) (λi=>[(1,.ptr 0 0),(10,(.list (l.map Fi.cv) nn none)),(11,iv l.length),(12,iv i)]) (λ_=>[.box (A9 l nn)]) (λi=>i<=l.length/\B1 l=rvE (prv l i) (l.drop i)) (λi=>l.length -i) 0 ⟨n_4 _,by rw[B1,G am];rfl⟩ tu_ (aj:=[]) O A7 uz_ ?_;intro i ⟨hi,hr⟩;refine qk (qC ?_ ?_)<;> intro h2
  .have ah:(i:Int)<l.length:=H h2;obtain⟨y,hb⟩:=gx_ l i;obtain⟨p,hp⟩:=b4k (l:=l) (i:=i) J;have fq:0<i->l[i-1]?=some p:=λh=>(hp h).2;rw[b8f hb]at hr;refine c3D ?_;refine V (c4 O c3A ⟨D,D⟩ (a1I y.p _) O) ?_;refine qC ?_ ?_<;>intro h3
   .have u3:E9 y.p=false:=H h3;have us:I6 (prv l i) y=6:=by rw[I6,W u3]
    rw[us]at hr;exact b6j
   .have u3:¬E9 y.p=false:=H h3;refine cW 14 ?_;refine b6b ?_;refine hY A3 ?_;refine c1b ?_;refine c2L ?_;refine c1C ?_;refine c2r ?_;refine L8 O O D O b2v ?_;refine b2L ?_;refine qC ?_ ?_<;>intro h4
    .have u4:((prv l i).any λg=>decide (y.p=g.p))=true:=by rw[Z1 fq];exact h4
     have us:I6 (prv l i) y=10:=by rw[I6,G u3,W u4]
     rw[us]at hr;exact b6j
    .have u4:¬((prv l i).any λg=>decide (y.p=g.p))=true:=by rw[Z1 fq];simpa using h4
     refine cW 14 ?_;refine b6b ?_;refine hY A3 ?_;refine c1b ?_;refine c2L ?_;refine c1C ?_;refine c2r ?_;refine c6G ?_;refine a2b ?_;refine qC ?_ ?_<;>intro h5
     .have u5:((prv l i).any λg=>Op.bytesLess y.p g.p)=true:=by rw[Z1 fq];exact h5
      have us:I6 (prv l i) y=6:=by rw[I6,G u3,G u4,W u5]
      rw[us]at hr;exact b6j
     .have u5:¬((prv l i).any λg=>Op.bytesLess y.p g.p)=true:=by rw[Z1 fq];simpa using h5
      refine V T7 ?_;refine qC ?_ ?_<;>intro h6
      .have u6:16384<y.b.length:=sm_ h6;have us:I6 (prv l i) y=2:=by rw[I6,G u3,G u4,G u5,W u6]
       rw[us]at hr;exact b6j
      .have u6:¬16384<y.b.length:=sm_ h6;have us:I6 (prv l i) y=0:=by rw[I6,G u3,G u4,G u5,G u6]
       rw[us,W O]at hr;exact b0P
  .exact d6l
theorem c3S(s:I):((E9 s&&decide ((s.length:Int) > 4))&&decide (((s.take s.length).drop (s.length -4))=[46,115,114,99]))=a38 s:=by
 rw[a38,a98,a9q];by_cases h:(s.length:Int) > 4
 .have h4:([46,115,114,99]:I).length=4:=O;have h5:decide ((4:Nat)<=s.length)=true:=a2h J;rw[c0c,h4,h5,b6g]
 .rw [a2c h];rfl
theorem b10(s:I)(hs:s.length<=1000000000)(σ:List b9):b8 CC 24 [(sv s)] σ λr aa=>r= .ret (.val (.bool (a38 s)))/\aa=σ:=by
 refine b8.anyw hCC pu_ pu_ (c9 (qO Tryz.func24 ?_)) σ;refine V (c4 O c3A ⟨D,D⟩ (a1I s _) O) ?_;refine b5o ?_;refine a2g ?_;refine a1u ?_;refine qG c0V ?_;refine qG d0O ?_;refine qG (λhg=>I9 (a:=(s.length -4)) O hg O t_5 ⟨hg,_,_,O,by first|omega|(simp at hg;omega),by first|omega|(simp at hg;omega)⟩ O (sm_ hg) (sm_ hg)) ?_;refine qG b29 ?_;refine b4T ?_;exact⟨_,rE1,_,_,O,O,o3 (c3S _)⟩
theorem a8p(l:List Fi)(nn:Bool)(p:I)(hl:l.length<=1000000)(σ:List b9):b8 CC 87 [.agg (A9 l nn),(sv p)] σ λr aa=>r= .ret (.tup [sv ((if B1 l=0 then o8 l p else none).getD []),.val (.bool (if B1 l=0 then o8 l p else none).isSome)])/\aa=σ:=by
 refine b8.anyw hCC pu_ pu_ (c9 (qO Tryz.func87 ?_)) σ;refine qD (F1 O D j3 j1 ?_);refine V c98 ?_;refine qC ?_ ?_<;>intro h1
 .have h0:¬B1 l=0:=H h1;refine c6 ?_;exact⟨_,r8 (rs:=[.tmp 4,.tmp 5]) (cs:=[_,_]) O a2w (n_5 O),_,_,O,O,(by rw[G h0];exact .tups ⟨.old (.val _),.old (.val _),D⟩)⟩
 .have h0:B1 l=0:=H h1;refine V a2r ?_;refine m0 hCC (α:=Nat) (λi=>[(1,(sv p)),(12,(.list (l.map Fi.cv) nn none)),(13,iv l.length),(14,iv i)]) (λ_=>[.box (A9 l nn)]) (λi=>i<=l.length/\o8 l p=o8 (l.drop i) p) (λi=>l.length -i) 0 ⟨n_4 _,O⟩ tu_ (aj:=[]) O A7 uz_ ?_;intro i ⟨hi,hr⟩;refine qk (qC ?_ ?_)<;> intro h2
  .have ah:(i:Int)<l.length:=H h2;obtain⟨y,hb⟩:=gx_ l i;rw[b0T hb]at hr;refine b3B ?_;refine qC ?_ ?_<;>intro h3
   .have u2:y.p=p:=H h3;rw[W u2]at hr;refine c6 ?_;exact⟨_,r8 (rs:=[.tmp 4,.tmp 5]) (cs:=[_,_]) O a2w (n_5 O),_,_,O,O,(by rw[W h0,hr];exact .tups ⟨.old (.val _),.old (.val _),D⟩)⟩
   .have u2:¬y.p=p:=H h3;rw[G u2]at hr;exact b0P
  .have aH:l.length<=i:=sm_ h2;rw[U4 aH]at hr;refine W5 ?_;exact⟨_,r8 (rs:=[.tmp 4,.tmp 5]) (cs:=[_,_]) O a2w (n_5 O),_,_,O,O,(by rw[W h0,hr];exact .tups ⟨.old (.val _),.old (.val _),D⟩)⟩
def tkE(e:Int)(m s:Nat):Option Nat:=if e=0 then G9 m s else none
def o9(e:Int)(m:Nat):b9:=if e=0 then p7 m else .dead
abbrev rbx(T:List Tok)(n:Nat)(at_ e:Int)(ps:List I)(b:List Ex)(s:Nat):b9:=.box [.list (T.map Tok.cv) true none,iv n,iv at_,iv e,.list (ps.map scv) (gnn ps.length) none,.list (b.map Ex.cv) (gnn b.length) (tkE e b.length s),.list [] false none]
abbrev rst(T:List Tok)(n:Nat)(at_ e:Int)(ps:List I)(b:List Ex):List b9:=[rbx T n at_ e ps b 1,o9 e b.length]
abbrev a6n(T:List Tok)(n:Nat)(at_ e:Int)(ps:List I)(b:List Ex):List b9:=[rbx T n at_ e ps b 2,.dead,o9 e b.length]
theorem c46{b:List Ex}{e:Int}{s s':Nat}(h:R s s'):P7 R (.list (b.map Ex.cv) (gnn b.length) (tkE e b.length s)) (.list (b.map Ex.cv) (gnn b.length) (tkE e b.length s')):=by
 refine .list O (λi r r' h1 h2=>by rw[h1]at h2;injection h2 with h2;rw[h2]) (λi j r r' c c' h1 h2 h3 h4=>?_) ?_
 .rw [h1]at h2;injection h2 with h2;subst h2;rw[h3]at h4;injection h4 with h4;subst h4
  exact .pure (C7 (f:=Ex.cv) (λa=>(Ex.pure a).all) _ r (n_2 h1) c (n_2 h3))
 .unfold tkE
  split
  .cases hb:b.length with
   |zero=>exact .inl ⟨O,O⟩
   |succ m=>exact .inr ⟨s,s',O,O,h⟩
  .exact .inl ⟨O,O⟩
theorem a7b{n:Nat}{at_ e:Int}{b:List Ex}{s s':Nat}(h:R s s'):I5 R (rbx T n at_ e ps b s) (rbx T n at_ e ps b s'):=
 .box (.cons (.pure (a3a _ _)) (.cons (.pure (.val _)) (.cons (.pure (.val _)) (.cons (.pure (.val _)) (.cons (.pure (o6 _ _)) (.cons (c46 h) (.cons (.pure (F8 [] false)) .nil)))))))
theorem a4H(e:Int)(m:Nat):I5 R (o9 e m) (o9 e m):=by
 unfold o9
 split
 .exact a1d m
 .exact .dead
def RAt(σ:List b9)(q s:Nat)(T:List Tok)(n:Nat)(at_ e:Int)(ps:List I)(b:List Ex):Prop:=σ[q]?=some (rbx T n at_ e ps b s)/\σ[s]?=some (o9 e b.length)/\q≠s
theorem a8s{f:FuncId}{c:α->CV}{B:α->List Ex}{g:α->Bool}{n:Nat}{at_ e:Int}{b:List Ex}(aq:∀a∈args,r9 a)(hc:∀a,r9 (c a))
 (h:b8 CC f (.ptr 0 0::args) (rst T n at_ e ps b) λr τ=>∃a,F7 2 τ r (.ret (c a)) (if g a=true then a6n T (N a) (A a) (E a) ps (B a)else rst T (N a) (A a) (E a) ps (B a))/\P a){σ:List b9}{q s:Nat}(au:RAt σ q s T n at_ e ps b):
 b8 CC f (.ptr q 0::args) σ λr τ=>∃a,r= .ret (c a)/\τ=(if g a=true then(σ.set q (rbx T (N a) (A a) (E a) ps (B a) σ.length)).set s .dead++[o9 (E a) (B a).length]else(σ.set q (rbx T (N a) (A a) (E a) ps (B a) s)).set s (o9 (E a) (B a).length))/\P a:=by
 obtain⟨h1,h2,h3⟩:=au;have hq:=(n_3.1 h1).1;have hs:=(n_3.1 h2).1;have h':b8 CC f (.ptr 0 0::args) (rst T n at_ e ps b) λr τ=>∃a,r= .ret (c a)/\τ=(if g a=true then a6n T (N a) (A a) (E a) ps (B a)else rst T (N a) (A a) (E a) ps (B a))/\P a:=
  N3 hCC (h.mono λr τ ⟨a,k1,k2⟩=>⟨_,_,k1,a,O,O,k2⟩)
 refine P0 [q,s] hCC O (λi j k g1 g2=>?_) (λi k ob g1 g2=>?_) (.cons (.ptr O) (L9 aq)) h' λr τ hk=>?_
 .rcases i with _|_|i<;>rcases j with _|_|j<;>simp at g1 g2<;>first|rfl|(exfalso;exact h3 (g1.trans g2.symm))|(exfalso;exact h3 (g2.trans g1.symm))
 .rcases i with _|_|i
  .simp at g1 g2;subst g1 g2;exact⟨_,h1,a7b O⟩
  .simp at g1 g2;subst g1 g2;exact⟨_,h2,a4H _ _⟩
  .simp at g1
 .obtain ⟨a,rfl,rfl,hp⟩:=hk;refine⟨by split<;>simp,.ret (c a),(if g a=true then(σ.set q (rbx T (N a) (A a) (E a) ps (B a) σ.length)).set s .dead++[o9 (E a) (B a).length]else(σ.set q (rbx T (N a) (A a) (E a) ps (B a) s)).set s (o9 (E a) (B a).length)),.ret (.pure (hc a)),by split<;>simp,λk hk bS=>?_,λi k x ha hx=>?_,a,O,O,hp⟩
  .have n1:q≠k:=λe=>bS (by simp[e]);have n2:s≠k:=λe=>bS (by simp[e])
   split
   .rw [X1 (H hk)];simp[n1,n2]
   .simp [n1,n2]
  .split at hx<;>rename_i hg
   .rcases ha with ha|⟨ha,rfl⟩
    .rcases i with _|_|i
     .simp at ha hx;subst ha hx;refine⟨rbx T (N a) (A a) (E a) ps (B a) σ.length,?_,a7b (.inr ⟨Q,Q⟩)⟩;rw[W hg,X1 (H hq),a5I h3.symm];simp[hq]
     .simp at ha hx;subst ha hx;refine⟨.dead,?_,.dead⟩;rw[W hg,X1 (H hs)];simp[hs]
     .simp at ha
    .rcases i with _|_|_|i
     .simp at ha
     .simp at ha
     .simp at hx;subst hx;refine⟨o9 (E a) (B a).length,?_,a4H _ _⟩;rw[W hg,a3i Q];simp
     .simp at hx
   .rcases ha with ha|⟨ha,rfl⟩
    .rcases i with _|_|i
     .simp at ha hx;subst ha hx;refine⟨rbx T (N a) (A a) (E a) ps (B a) s,?_,a7b (.inl O)⟩;rw[G hg,a5I h3.symm];simp[hq]
     .simp at ha hx;subst ha hx;refine⟨o9 (E a) (B a).length,?_,a4H _ _⟩;rw[G hg];simp[hs]
     .simp at ha
    .rcases i with _|_|i
     .simp at ha
     .simp at ha
     .simp at hx
def Ok{α:Type}(e:Int)(o:Option α)(e':Int)(y:α):Prop:=(e=0->(o=some y/\e'=0)\/(o=none/\e'≠0))/\(e≠0->e'≠0)
theorem Ok.bind{e:Int}{o:Option α}{f:α->Option β}{z:β}(h:Ok e o e1 y)(k:Ok e1 (f y) e2 z):Ok e (o.bind f) e2 z:=by
 refine⟨λh0=>?_,λh0=>k.2 (h.2 h0)⟩
 rcases h.1 h0 with⟨rfl,h1⟩|⟨rfl,h1⟩
 .exact k.1 h1
 .exact .inr ⟨O,k.2 h1⟩
theorem Ok.none{e:Int}(h:e'≠0):Ok e (Option.none:Option α) e' y:=⟨λ_=>.inr ⟨O,h⟩,λ_=>h⟩
theorem Ok.some{e:Int}:Ok e (Option.some y) e y:=⟨λh=>.inl ⟨O,h⟩,λh=>h⟩
theorem Ok.dead{e:Int}{o:Option α}(h:e≠0)(h':e'≠0):Ok e o e' y:=⟨λh0=>absurd h0 h,λ_=>h'⟩
theorem d3r{b:List Ex}{e:Int}{s:Nat}(h:s<L):Old L (.list (b.map Ex.cv) (gnn b.length) (tkE e b.length s)):=
 .list (λi j r c h1 h2=>(C7 (f:=Ex.cv) (λa=>(Ex.pure a).all) _ r (n_2 h1) c (n_2 h2)).old) (λk hk=>by
  unfold tkE at hk;split at hk
  .cases hb:b.length with
   |zero=>rw[hb]at hk;cases hk
   |succ m=>rw[hb]at hk;injection hk with hk;omega
  .cases hk)
theorem b0p(n:Nat)(e:Int)(m:Nat):G7 n (o9 e m):=by
 unfold o9
 split
 .exact a5b _ _
 .trivial
theorem b4c{n:Nat}{at_ e:Int}{b:List Ex}{s:Nat}(h:s<L):G7 L (rbx T n at_ e ps b s):=A0 ⟨V2 _ _ _,.val _,.val _,.val _,B8 _ _ _,d3r h,O4 _ [] false,D⟩
theorem a17{rest:List b9}{n:Nat}{at_ e:Int}{b:List Ex}{c:CV}(eH:τ=rbx T n at_ e ps b 1::o9 e b.length::rest)(hc:Old 2 c):F7 2 τ (.ret c) (.ret c) (rst T n at_ e ps b):=by
 subst eH;exact⟨[0,1],O,O,.ret (.old hc),.inr ⟨_,O,.same O (b4c U)⟩,.inr ⟨_,O,.same O V5⟩,D⟩
theorem d7z{n:Nat}{at_ e:Int}{b:List Ex}{c:CV}(he:e≠0)(h0:τ[0]?=some (.box [.list (T.map Tok.cv) true none,iv n,iv at_,iv e,.list (ps.map scv) (gnn ps.length) none,.list (b.map Ex.cv) (gnn b.length) tok,.list [] false none]))(hc:Old 2 c):F7 2 τ (.ret c) (.ret c) (rst T n at_ e ps b):=by
 have ht:∀m s,tkE e m s=none:=λm s=>G he;have hp:o9 e b.length = .dead:=G he;refine⟨[0,1],O,O,.ret (.old hc),.inr ⟨_,h0,.box ⟨.old a1c,.old (.val _),.old (.val _),.old (.val _),.old M8,.list (λr hr c hc=>(C7 (f:=Ex.cv) (λa=>(Ex.pure a).all) _ r hr c hc).old) (λj hj=>by rw[ht]at hj;cases hj),.old a21,D⟩⟩,.inl hp,D⟩
theorem d2M{f:FuncId}{c:CV}{n:Nat}{at_ e:Int}{b:List Ex}(aq:∀a∈args,r9 a)(hc:r9 c)
 (h:b8 CC f (.ptr 0 0::args) (rst T n at_ e ps b) λr τ=>F7 2 τ r (.ret c) (rst T n at_ e ps b)){σ:List b9}{q s:Nat}(au:RAt σ q s T n at_ e ps b):b8 CC f (.ptr q 0::args) σ λr τ=>r= .ret c/\τ=σ:=by
 refine(a8s (α:=Unit) (c:=λ_=>c) (N:=λ_=>n) (A:=λ_=>at_) (E:=λ_=>e) (B:=λ_=>b) (g:=λ_=>false) (P:=λ_=>True) aq (λ_=>hc) (h.mono λr τ hh=>⟨(),hh,D⟩) au).mono λr τ hh=>?_;obtain⟨_,h1,h2,_⟩:=hh;refine⟨h1,h2.trans ?_⟩;show(σ.set q _).set s _=σ;rw[a4o au.1,a4o au.2.1]
abbrev rS0(σ:List b9)(q s:Nat)(T:List Tok)(n:Nat)(at_ e:Int)(ps:List I)(b:List Ex):List b9:=(σ.set q (rbx T n at_ e ps b s)).set s (o9 e b.length)
theorem Z6{f:FuncId}{c:α->CV}{n:Nat}{at_ e:Int}{b:List Ex}(aq:∀a∈args,r9 a)(hc:∀a,r9 (c a))
 (h:b8 CC f (.ptr 0 0::args) (rst T n at_ e ps b) λr τ=>∃a,F7 2 τ r (.ret (c a)) (rst T (N a) (A a) (E a) ps b)/\P a){σ:List b9}{q s:Nat}(au:RAt σ q s T n at_ e ps b):
 b8 CC f (.ptr q 0::args) σ λr τ=>∃a,r= .ret (c a)/\τ=rS0 σ q s T (N a) (A a) (E a) ps b/\P a:=
 a8s (c:=c) (N:=N) (A:=A) (E:=E) (B:=λ_=>b) (g:=λ_=>false) (P:=P) aq hc (h.mono λ_ _ ⟨a,h1,h2⟩=>⟨a,h1,h2⟩) au
theorem d1K(T:List Tok)(n:Nat)(at_ e:Int)(ps:List I)(b:List Ex)(_:T.length<=1000000)(hn:n<T.length):b8 CC 183 [.ptr 0 0] (rst T n at_ e ps b) (λr τ=>F7 2 τ r (.ret (.agg (tk T n).cells)) (rst T n at_ e ps b)):=by
 refine qO Tryz.func183 ?_;refine qD (l8 O t_9 O j1 ?_);refine cW 10 ?_;refine a3X ?_;refine hY (j2 O D O b7j O Tryz.sizeOf191 U) ?_;refine hY (o5 O D O Tryz.isAgg191 O O) ?_;refine a3X ?_;refine hY c92 ?_;refine hY V3 ?_;refine d4t ?_;refine a2b ?_;refine z_2 ?_;exact⟨_,C4 O b3e,a17 O (a5i _ _)⟩
theorem a0t{n:Nat}{at_ e:Int}{b:List Ex}(hT:T.length<=1000000)(hn:n<T.length){s:Nat}(au:RAt σ q s T n at_ e ps b):b8 CC 183 [.ptr q 0] σ λr τ=>r= .ret (.agg (tk T n).cells)/\τ=σ:=d2M (λ_ h=>by cases h) (a0z _) (d1K T n at_ e ps b hT hn) au
theorem c9p(T:List Tok)(n:Nat)(at_ e:Int)(ps:List I)(b:List Ex)(x y:Int)(hy:y≠0):b8 CC 182 [.ptr 0 0,iv x,iv y] (rst T n at_ e ps b) (λr τ=>∃a:Int×Int,F7 2 τ r (.ret (.tup [])) (rst T n a.1 a.2 ps b)/\a.2≠0):=by
 refine qO Tryz.func182 ?_;refine qC ?_ ?_<;>intro h1
 .have he:e=0:=H h1;refine qD (i9 O D D O j3 t_1 (.inl O) O O (nb O) ?_);refine qD (i9 O D D O j3 b6R (.inl O) O O (nb O) ?_);exact⟨_,rE0,(by exact⟨(x,y),d7z hy O (.tup λi c h=>by simp at h),hy⟩)⟩
 .have he:e≠0:=H h1;exact⟨_,rE0,(by exact⟨(at_,e),a17 O (.tup λi c h=>by simp at h),he⟩)⟩
theorem a0s{n:Nat}{at_ e:Int}{b:List Ex}(x y:Int)(hy:y≠0){s:Nat}(au:RAt σ q s T n at_ e ps b):b8 CC 182 [.ptr q 0,iv x,iv y] σ λr τ=>∃a:Int×Int,r= .ret (.tup [])/\τ=rS0 σ q s T n a.1 a.2 ps b/\a.2≠0:=
 Z6 (c:=λ_:Int×Int=>.tup []) (N:=λ_=>n) (A:=λa=>a.1) (E:=λa=>a.2) (λ_ h=>by simp at h;rcases h with rfl|rfl<;>exact .val _) (λ_=>B3 trivial) (c9p T n at_ e ps b x y hy) au
def sgB(T:List Tok)(n:Nat)(e:Int)(k:Int)(u:I):Bool:=decide (e=0)&&isT (tk T n) k u
theorem T8{n:Nat}{e:Int}{u:I}(h:sgB T n e k u=true):e=0/\isT (tk T n) k u=true:=by
 simpa[sgB]using h
theorem a9I{n:Nat}{e:Int}{u:I}(h:sgB T n e k u=true):Ok e (pIs T n k u) e (n+1):=by
 obtain⟨h1,h2⟩:=T8 h;rw[pIs,W h2];exact .some
theorem a9Y{n:Nat}{e:Int}{u:I}{y:Nat}(h:sgB T n e k u=false)(h2:e2≠0):Ok e (pIs T n k u) e2 y:=by
 by_cases he:e=0
 .have:isT (tk T n) k u=false:=by simpa[sgB,he]using h
  rw[pIs,G (by rw[this];decide)];exact .none h2
 .exact .dead he h2
theorem c8u(T:List Tok)(n:Nat)(at_ e:Int)(ps:List I)(b:List Ex)(hT:T.length<=1000000)(hn:n<T.length)(_:a0V T)(u:I):b8 CC 230 [.ptr 0 0,(sv u)] (rst T n at_ e ps b) (λr τ=>F7 2 τ r (.ret (.val (.bool (sgB T n e 4 u)))) (rst T (if(sgB T n e 4 u)=true then n+1 else n) at_ e ps b)):=by
 refine qO Tryz.func230 ?_;refine qG D2 ?_;refine qG c10 ?_;refine qG c23 ?_;refine a2g ?_;refine qG D2 ?_;refine qG c10 ?_;refine qG c7f ?_;refine b3z ?_;refine cC ?_ ?_<;>intro h1
 .have hv:(sgB T n e 4 u)=true:=by simpa[sgB,isT,a98]using h1
  rw[hv,W O];refine qk ?_;refine z_4 ?_;exact d2d
 .have hv:(sgB T n e 4 u)=false:=by simpa[sgB,isT,a98]using h1
  rw[hv,G U];refine qk ?_;exact d2d
theorem W6{n:Nat}{at_ e:Int}{b:List Ex}(hT:T.length<=1000000)(hn:n<T.length)(hW:a0V T)(u:I){s:Nat}(au:RAt σ q s T n at_ e ps b):b8 CC 230 [.ptr q 0,(sv u)] σ λr τ=>∃a:Bool×Nat,r= .ret (.val (.bool a.1))/\τ=rS0 σ q s T a.2 at_ e ps b/\(a.1=(sgB T n e 4 u)/\(a.1=true->a.2=n+1)/\(a.1=false->a.2=n)/\a.2 <T.length):=
 Z6 (c:=λa:Bool×Nat=>.val (.bool a.1)) (N:=λa=>a.2) (A:=λ_=>at_) (E:=λ_=>e) (λ_ h=>by simp at h;subst h;exact .val _) (λ_=>.val _) ((c8u T n at_ e ps b hT hn hW u).mono λr τ h=>⟨((sgB T n e 4 u),if(sgB T n e 4 u)=true then n+1 else n),h,O,λh=>W h,λh=>G (by dsimp only at h;rw[h];decide),by
  dsimp only
  split
  .rename_i h2;exact hW n hn (a6o (T8 h2).2 U)
  .exact hn⟩) au
theorem c5Z(T:List Tok)(n:Nat)(at_ e:Int)(ps:List I)(b:List Ex)(hT:T.length<=1000000)(hn:n<T.length)(_:a0V T)(u:I):b8 CC 181 [.ptr 0 0,(sv u)] (rst T n at_ e ps b) (λr τ=>F7 2 τ r (.ret (.val (.bool (sgB T n e 1 u)))) (rst T (if(sgB T n e 1 u)=true then n+1 else n) at_ e ps b)):=by
 refine qO Tryz.func181 ?_;refine qG D2 ?_;refine qG c10 ?_;refine qG c23 ?_;refine a2g ?_;refine qG D2 ?_;refine qG c10 ?_;refine qG c7f ?_;refine b3z ?_;refine cC ?_ ?_<;>intro h1
 .have hv:(sgB T n e 1 u)=true:=by simpa[sgB,isT,a98]using h1
  rw[hv,W O];refine qk ?_;refine z_4 ?_;exact d2d
 .have hv:(sgB T n e 1 u)=false:=by simpa[sgB,isT,a98]using h1
  rw[hv,G U];refine qk ?_;exact d2d
theorem Z4{n:Nat}{at_ e:Int}{b:List Ex}(hT:T.length<=1000000)(hn:n<T.length)(hW:a0V T)(u:I){s:Nat}(au:RAt σ q s T n at_ e ps b):b8 CC 181 [.ptr q 0,(sv u)] σ λr τ=>∃a:Bool×Nat,r= .ret (.val (.bool a.1))/\τ=rS0 σ q s T a.2 at_ e ps b/\(a.1=(sgB T n e 1 u)/\(a.1=true->a.2=n+1)/\(a.1=false->a.2=n)/\a.2 <T.length):=
 Z6 (c:=λa:Bool×Nat=>.val (.bool a.1)) (N:=λa=>a.2) (A:=λ_=>at_) (E:=λ_=>e) (λ_ h=>by simp at h;subst h;exact .val _) (λ_=>.val _) ((c5Z T n at_ e ps b hT hn hW u).mono λr τ h=>⟨((sgB T n e 1 u),if(sgB T n e 1 u)=true then n+1 else n),h,O,λh=>W h,λh=>G (by dsimp only at h;rw[h];decide),by
  dsimp only
  split
  .rename_i h2;exact hW n hn (a6o (T8 h2).2 U)
  .exact hn⟩) au
theorem c8E(T:List Tok)(n:Nat)(at_ e:Int)(ps:List I)(b:List Ex)(hT:T.length<=1000000)(hn:n<T.length)(hW:a0V T)(u:I):b8 CC 185 [.ptr 0 0,(sv u)] (rst T n at_ e ps b) (λr τ=>∃a:Nat×Int×Int,F7 2 τ r (.ret (.tup [])) (rst T a.1 a.2.1 a.2.2 ps b)/\(Ok e (pIs T n 4 u) a.2.2 a.1/\a.1 <T.length)):=by
 refine qO Tryz.func185 ?_;refine qD (c5 O a8k j7 (W6 hT hn hW u ⟨O,O,U⟩) O ?_);rintro⟨v,m⟩ ⟨hv,dz,ce,hm⟩;dsimp only at hv dz ce hm⊢;refine qN [rbx T m at_ e ps b 1,o9 e b.length] O (qC ?_ ?_)<;> intro h1
 .have hvf:v=false:=H h1;rw[hvf]at hv;refine V (c4 O a7Y ⟨D,D⟩ (a0t hT hm ⟨O,O,U⟩) O) ?_;refine d9k ?_;rintro⟨x,y⟩ hy;dsimp only at hy⊢;refine qN [rbx T m x y ps b 1,o9 y b.length] O ?_;exact⟨_,rE0,(by exact⟨(m,x,y),a17 O (.tup λi c h=>by simp at h),a9Y hv.symm hy,hm⟩)⟩
 .have hvt:v=true:=H h1;rw[hvt]at hv;exact⟨_,rE0,(by exact⟨(m,at_,e),a17 O (.tup λi c h=>by simp at h),by dsimp only;rw[dz hvt];exact a9I hv.symm,hm⟩)⟩
theorem N7{n:Nat}{at_ e:Int}{b:List Ex}(hT:T.length<=1000000)(hn:n<T.length)(hW:a0V T)(u:I){s:Nat}(au:RAt σ q s T n at_ e ps b):b8 CC 185 [.ptr q 0,(sv u)] σ λr τ=>∃a:Nat×Int×Int,r= .ret (.tup [])/\τ=rS0 σ q s T a.1 a.2.1 a.2.2 ps b/\(Ok e (pIs T n 4 u) a.2.2 a.1/\a.1 <T.length):=
 Z6 (c:=λ_:Nat×Int×Int=>.tup []) (N:=λa=>a.1) (A:=λa=>a.2.1) (E:=λa=>a.2.2) (λ_ h=>by simp at h;subst h;exact .val _) (λ_=>B3 trivial) (c8E T n at_ e ps b hT hn hW u) au
abbrev a7U:List I:=[[112,97,99,107,97,103,101],[105,109,112,111,114,116],[102,117,110,99],[116,101,115,116],[103,101,110],[105,102],[116,104,101,110],[101,108,115,101],[114,101,97,100],[115,105,122,101],[104,97,115],[101,110,118],[102,108,105,112]]
theorem b8v{l:List I}{u w:I}(h:l[i]?=some w)(hd:decide (u∈l)=decide (u∈l.drop i))(aB:¬w=u):decide (u∈l)=decide (u∈l.drop (i+1)):=by
 obtain⟨ah,rfl⟩:=n_3.1 h;rw[hd,U5 ah];have:¬u=l[i]:=λe=>aB e.symm;exact b0u.2 ⟨λh=>(J6.1 h).resolve_left this,X6 _⟩
theorem a7k(l:List I)(nn:Bool)(u:I)(hl:l.length<=1000000)(σ:List b9):b8 CC 186 [(.list (l.map scv) nn none),(sv u)] σ λr aa=>r= .ret (.val (.bool (decide (u∈l))))/\aa=σ:=by
 refine b8.anyw hCC pu_ pu_ (c9 (qO Tryz.func186 ?_)) σ;refine e0l ?_;intro i ⟨hi,hd⟩;refine qk (qC ?_ ?_)<;> intro h1
 .have ah:i<l.length:=sm_ h1;obtain⟨w,hb⟩:∃w,l[i]?=some w:=⟨l[i]'ah,Q⟩;refine b3F ?_;refine qC ?_ ?_<;>intro h2
  .have hw:w=u:=H h2;exact d4a
  .have hw:¬w=u:=H h2;exact d5a
 .have aH:l.length<=i:=sm_ h1;refine W5 ?_;exact⟨_,rE1,_,_,O,O,o3 (show false=decide (u∈l) by rw[hd,U4 aH];simp)⟩
theorem a59(u:I)(σ:List b9):b8 CC 229 [(sv u)] σ λr aa=>r= .ret (.val (.bool (Q2 u)))/\aa=σ:=by
 refine b8.anyw hCC pu_ pu_ (c9 (qO Tryz.func229 ?_)) σ;refine V (B4 (a7U.map scv) O ⟨O,O,O,O,O,O,O,O,O,O,O,O,O,D⟩ t_2 t_0 t_4 O O O O O O O O O) ?_;refine V K6 ?_;refine m0 hCC (α:=Nat) (λi=>[(0,(sv u)),(5,(.list (a7U.map scv) true none)),(6,iv a7U.length),(7,iv i)]) (λ_=>[]) (λi=>i<=a7U.length/\decide (u∈a7U)=decide (u∈a7U.drop i)) (λi=>a7U.length -i) 0 ⟨n_4 _,O⟩ tu_ (aj:=[]) O A7 uz_ ?_;intro i ⟨hi,hd⟩;have hL:a7U.length=13:=O;refine qk (qC ?_ ?_)<;> intro h1
 .have ah:i<a7U.length:=sm_ h1;obtain⟨w,hb⟩:∃w,a7U[i]?=some w:=⟨a7U[i]'ah,a1C ah⟩;refine b3F ?_;refine qC ?_ ?_<;>intro h2
  .have hw:u=w:=H h2;refine c6 ?_;exact⟨_,rE1,_,_,O,O,o3 (show true=decide (u∈a7U)from(a2h (hw▸n_2 hb)).symm)⟩
  .have hw:¬u=w:=H h2;refine V r6 ?_;exact⟨(i+1),_,⟨J,J,b8v hb hd (λe=>hw e.symm)⟩,tu_,O⟩
 .have aH:a7U.length<=i:=sm_ h1;refine W5 ?_;exact⟨_,rE1,_,_,O,O,o3 (show false=decide (u∈a7U) by rw[hd,U4 aH];simp)⟩
def a1r(T:List Tok)(path:Bool)(n:Nat):Option (Tok×Nat):=(F2 T n 3).bind λx=>if(if path=true then E9 x.1.t else B5 x.1.t)=true then some x else none
theorem a3A(T:List Tok)(n:Nat):a1r T true n=a0H T n:=by simp[a1r,a0H]
theorem c3h{n:Nat}{e:Int}{y:I×Nat}(h:e≠0\/(tk T n).k≠1\/Q2 (tk T n).t=true)(h2:e2≠0):Ok e ((J3 T n).map λx=>(x.1.t,x.2)) e2 y:=by
 by_cases he:e=0
 .have hn:J3 T n=none:=by
   unfold J3 F2
   split
   .rename_i hk
    rcases h with h|h|h
    .exact absurd he h
    .exact absurd hk h
    .simp [h]
   .rfl
  rw[hn];exact .none h2
 .exact .dead he h2
theorem c4F{n:Nat}{e:Int}(h:(tk T n).k=1/\Q2 (tk T n).t=false):Ok e ((J3 T n).map λx=>(x.1.t,x.2)) e ((tk T n).t,n+1):=by
 have hn:J3 T n=some (tk T n,n+1):=by
  unfold J3 F2;rw[W h.1];simp[h.2]
 rw[hn];exact .some
theorem c9h(T:List Tok)(n:Nat)(at_ e:Int)(ps:List I)(b:List Ex)(hT:T.length<=1000000)(hn:n<T.length)(hW:a0V T):b8 CC 184 [.ptr 0 0] (rst T n at_ e ps b) (λr τ=>∃a:I×Nat×Int×Int,F7 2 τ r (.ret (sv a.1)) (rst T a.2.1 a.2.2.1 a.2.2.2 ps b)/\(Ok e ((J3 T n).map λx=>(x.1.t,x.2)) a.2.2.2 (a.1,a.2.1)/\a.2.1 <T.length)):=by
 refine qO Tryz.func184 ?_;refine V b7p ?_;refine z_1 ?_;refine qG c8H ?_;refine qG a32 ?_;refine a3l ?_;refine qG b8L ?_;refine qG a26 ?_;refine qG (λhg=>c4 O Tryz.call229 ⟨hg,D⟩ (a59 _ _) O) ?_;refine V U8 ?_;refine qC ?_ ?_<;>intro h1
 .have hv:e≠0\/(tk T n).k≠1\/Q2 (tk T n).t=true:=by simpa[or_assoc]using h1
  refine qD (c5 O b1y a2j (a0s _ _ U ⟨O,O,U⟩) O ?_);rintro⟨x,y⟩ hy;dsimp only at hy⊢;refine c7I ?_;exact⟨_,rE1,(by exact⟨([],n,x,y),a17 O (.val _),c3h hv hy,hn⟩)⟩
 .have hv:e=0/\(tk T n).k=1/\Q2 (tk T n).t=false:=by simpa[and_assoc]using h1
  refine z_4 ?_;refine c6 ?_;exact⟨_,rE1,(by exact⟨((tk T n).t,n+1,at_,e),a17 O (.val _),c4F hv.2,hW n hn (by rw[hv.2.1];decide)⟩)⟩
theorem a7E{n:Nat}{at_ e:Int}{b:List Ex}(hT:T.length<=1000000)(hn:n<T.length)(hW:a0V T){s:Nat}(au:RAt σ q s T n at_ e ps b):b8 CC 184 [.ptr q 0] σ λr τ=>∃a:I×Nat×Int×Int,r= .ret (sv a.1)/\τ=rS0 σ q s T a.2.1 a.2.2.1 a.2.2.2 ps b/\(Ok e ((J3 T n).map λx=>(x.1.t,x.2)) a.2.2.2 (a.1,a.2.1)/\a.2.1 <T.length):=
 Z6 (c:=λa:I×Nat×Int×Int=>(sv a.1)) (N:=λa=>a.2.1) (A:=λa=>a.2.2.1) (E:=λa=>a.2.2.2) (λ_ h=>by simp at h;try(subst h;exact .val _)) (λ_=>.val _) (c9h T n at_ e ps b hT hn hW) au
theorem c4m{n:Nat}{e:Int}{path:Bool}{y:I×Nat}(h:e≠0\/(tk T n).k≠3\/(if path=true then E9 (tk T n).t else B5 (tk T n).t)=false)(h2:e2≠0):Ok e ((a1r T path n).map λx=>(x.1.t,x.2)) e2 y:=by
 by_cases he:e=0
 .have hn:a1r T path n=none:=by
   unfold a1r F2
   split
   .rename_i hk
    rcases h with h|h|h
    .exact absurd he h
    .exact absurd hk h
    .cases path<;>simp_all
   .rfl
  rw[hn];exact .none h2
 .exact .dead he h2
theorem c5p{n:Nat}{e:Int}{path:Bool}(h:(tk T n).k=3/\(if path=true then E9 (tk T n).t else B5 (tk T n).t)=true):Ok e ((a1r T path n).map λx=>(x.1.t,x.2)) e ((tk T n).t,n+1):=by
 have hn:a1r T path n=some (tk T n,n+1):=by
  unfold a1r F2;rw[W h.1];have h2:=h.2;cases path<;>simp_all
 rw[hn];exact .some
theorem c8y(T:List Tok)(n:Nat)(at_ e:Int)(ps:List I)(b:List Ex)(hT:T.length<=1000000)(hn:n<T.length)(hW:a0V T)(path:Bool)(hL:c7T T):b8 CC 231 [.ptr 0 0,(.val (.bool path))] (rst T n at_ e ps b) (λr τ=>∃a:I×Nat×Int×Int,F7 2 τ r (.ret (sv a.1)) (rst T a.2.1 a.2.2.1 a.2.2.2 ps b)/\(Ok e ((a1r T path n).map λx=>(x.1.t,x.2)) a.2.2.2 (a.1,a.2.1)/\a.2.1 <T.length)):=by
 refine qO Tryz.func231 ?_;refine V b7p ?_;refine z_1 ?_;refine qG c8H ?_;refine qG a32 ?_;refine a3l ?_;refine qG D2 ?_;refine qG a84 ?_;refine d5t ?_;refine qH O O (λhk hg=>c4 O c3A ⟨⟨hk,hg⟩,D⟩ (a1I _ _) O) ?_;refine d0R ?_;refine V U8 ?_;refine qG D2 ?_;refine qG a4a ?_;refine qG a84 ?_;refine d5t ?_;refine qH O O (λhk hg=>c4 O c3U ⟨⟨hk,hg⟩,D⟩ (a1E _ _) O) ?_;refine d0R ?_;refine V U8 ?_;refine qC ?_ ?_<;>intro h1
 .have hv:e≠0\/(tk T n).k≠3\/(if path=true then E9 (tk T n).t else B5 (tk T n).t)=false:=by
   cases path<;>simpa[or_assoc]using h1
  refine qD (c5 O b1y a2j (a0s _ _ U ⟨O,O,U⟩) O ?_);rintro⟨x,y⟩ hy;dsimp only at hy⊢;refine c7I ?_;exact⟨_,rE1,(by exact⟨([],n,x,y),a17 O (.val _),c4m hv hy,hn⟩)⟩
 .have hv:e=0/\(tk T n).k=3/\(if path=true then E9 (tk T n).t else B5 (tk T n).t)=true:=by
   cases path<;>simpa[and_assoc]using h1
  refine z_4 ?_;refine c6 ?_;exact⟨_,rE1,(by exact⟨((tk T n).t,n+1,at_,e),a17 O (.val _),c5p hv.2,hW n hn (by rw[hv.2.1];decide)⟩)⟩
theorem a9V{n:Nat}{at_ e:Int}{b:List Ex}(hT:T.length<=1000000)(hn:n<T.length)(hW:a0V T)(path:Bool)(hL:c7T T){s:Nat}(au:RAt σ q s T n at_ e ps b):b8 CC 231 [.ptr q 0,(.val (.bool path))] σ λr τ=>∃a:I×Nat×Int×Int,r= .ret (sv a.1)/\τ=rS0 σ q s T a.2.1 a.2.2.1 a.2.2.2 ps b/\(Ok e ((a1r T path n).map λx=>(x.1.t,x.2)) a.2.2.2 (a.1,a.2.1)/\a.2.1 <T.length):=
 Z6 (c:=λa:I×Nat×Int×Int=>(sv a.1)) (N:=λa=>a.2.1) (A:=λa=>a.2.2.1) (E:=λa=>a.2.2.2) (λ_ h=>by simp at h;try(subst h;exact .val _)) (λ_=>.val _) (c8y T n at_ e ps b hT hn hW path hL) au
theorem b8P{n:Nat}{e:Int}{y:Int×Nat}(h:e≠0\/(tk T n).k≠2)(h2:e2≠0):Ok e ((F2 T n 2).map λx=>(x.1.n,x.2)) e2 y:=by
 by_cases he:e=0
 .have hn:F2 T n 2=none:=by
   unfold F2
   split
   .rename_i hk
    rcases h with h|h
    .exact absurd he h
    .exact absurd hk h
   .rfl
  rw[hn];exact .none h2
 .exact .dead he h2
theorem b6B{n:Nat}{e:Int}(h:(tk T n).k=2):Ok e ((F2 T n 2).map λx=>(x.1.n,x.2)) e ((tk T n).n,n+1):=by
 have hn:F2 T n 2=some (tk T n,n+1):=by
  unfold F2;rw[W h];rfl
 rw[hn];exact .some
theorem b9h(T:List Tok)(n:Nat)(at_ e:Int)(ps:List I)(b:List Ex)(hT:T.length<=1000000)(hn:n<T.length)(hW:a0V T)(hN:∀i,0<=(tk T i).n/\(tk T i).n<=9007199254740993):b8 CC 322 [.ptr 0 0] (rst T n at_ e ps b) (λr τ=>∃a:Int×Nat×Int×Int,F7 2 τ r (.ret (iv a.1)) (rst T a.2.1 a.2.2.1 a.2.2.2 ps b)/\(Ok e ((F2 T n 2).map λx=>(x.1.n,x.2)) a.2.2.2 (a.1,a.2.1)/\a.2.1 <T.length/\-9007199254740993<=a.1/\a.1<=9007199254740993)):=by
 refine qO Tryz.func322 ?_;refine V b7p ?_;refine z_1 ?_;refine qG c8H ?_;refine qG a32 ?_;refine a3l ?_;refine qC ?_ ?_<;>intro h1
 .have hv:e≠0\/(tk T n).k≠2:=H h1;refine qD (c5 O b1y a2j (a0s _ _ U ⟨O,O,U⟩) O ?_);rintro⟨x,y⟩ hy;dsimp only at hy⊢;refine c7I ?_;exact⟨_,rE1,(by exact⟨(0,n,x,y),a17 O (.val _),b8P hv hy,hn,do_,do_⟩)⟩
 .have hv:e=0/\(tk T n).k=2:=H h1;refine z_4 ?_;refine c6 ?_;exact⟨_,rE1,(by exact⟨((tk T n).n,n+1,at_,e),a17 O (.val _),b6B hv.2,hW n hn (by rw[hv.2];decide),by have:=hN n;dsimp only;omega,by have:=hN n;dsimp only;omega⟩)⟩
theorem a8N{n:Nat}{at_ e:Int}{b:List Ex}(hT:T.length<=1000000)(hn:n<T.length)(hW:a0V T)(hN:∀i,0<=(tk T i).n/\(tk T i).n<=9007199254740993){s:Nat}(au:RAt σ q s T n at_ e ps b):b8 CC 322 [.ptr q 0] σ λr τ=>∃a:Int×Nat×Int×Int,r= .ret (iv a.1)/\τ=rS0 σ q s T a.2.1 a.2.2.1 a.2.2.2 ps b/\(Ok e ((F2 T n 2).map λx=>(x.1.n,x.2)) a.2.2.2 (a.1,a.2.1)/\a.2.1 <T.length/\-9007199254740993<=a.1/\a.1<=9007199254740993):=
 Z6 (c:=λa:Int×Nat×Int×Int=>(iv a.1)) (N:=λa=>a.2.1) (A:=λa=>a.2.2.1) (E:=λa=>a.2.2.2) (λ_ h=>by cases h) (λ_=>.val _) (b9h T n at_ e ps b hT hn hW hN) au
theorem d0v{n k:Nat}{at_:Int}{b:List Ex}{c:CV}(h0:τ[0]?=some (.box [.list (T.map Tok.cv) true none,iv n,iv at_,iv 0,.list (ps.map scv) (gnn ps.length) none,.list (b.map Ex.cv) (gnn b.length) (G9 b.length k),.list [] false none]))(hk:τ[k]?=some (p7 b.length))(h2:2<=k)(hc:Old 2 c):F7 2 τ (.ret c) (.ret c) (a6n T n at_ 0 ps b):=by
 have k1:a7I 2 [0,1,k]=true:=O;have k2:a0r [0,1,k]=true:=by
  simp[a0r];omega
 refine⟨[0,1,k],k1,k2,.ret (.old hc),.inr ⟨_,h0,.box ?_⟩,.inl O,.inr ⟨_,hk,.same O F0⟩,D⟩;refine⟨.old a1c,.old (.val _),.old (.val _),.old (.val _),.old M8,.list (λr hr c hc=>(C7 (f:=Ex.cv) (λa=>(Ex.pure a).all) _ r hr c hc).old) ?_,.old a21,D⟩;intro j hj;have dG:G9 b.length 2=some j:=hj;cases hb:b.length with
 |zero=>rw[hb]at dG;cases dG
 |succ m=>rw[hb]at dG;injection dG with dG;subst dG;exact⟨k,O,O⟩
theorem a5s{n:Nat}{at_ e:Int}{b:List Ex}{c:CV}(he:e≠0)(h0:τ[0]?=some (.box [.list (T.map Tok.cv) true none,iv n,iv at_,iv e,.list (ps.map scv) (gnn ps.length) none,.list (b.map Ex.cv) (gnn b.length) tok,.list [] false none]))(hc:Old 2 c):F7 2 τ (.ret c) (.ret c) (a6n T n at_ e ps b):=by
 have ht:∀m s,tkE e m s=none:=λm s=>G he;have hp:o9 e b.length = .dead:=G he;refine⟨[0,1,τ.length+2],O,by simp[a0r],.ret (.old hc),.inr ⟨_,h0,.box ⟨.old a1c,.old (.val _),.old (.val _),.old (.val _),.old M8,.list (λr hr c hc=>(C7 (f:=Ex.cv) (λa=>(Ex.pure a).all) _ r hr c hc).old) (λj hj=>by rw[ht]at hj;cases hj),.old a21,D⟩⟩,.inl O,.inl hp,D⟩
abbrev rS1(σ:List b9)(q s:Nat)(T:List Tok)(n:Nat)(at_ e:Int)(ps:List I)(b:List Ex):List b9:=(σ.set q (rbx T n at_ e ps b σ.length)).set s .dead++[o9 e b.length]
theorem a18{f:FuncId}{c:α->CV}{B:α->List Ex}{n:Nat}{at_ e:Int}{b:List Ex}(aq:∀a∈args,r9 a)(hc:∀a,r9 (c a))
 (h:b8 CC f (.ptr 0 0::args) (rst T n at_ e ps b) λr τ=>∃a,F7 2 τ r (.ret (c a)) (a6n T (N a) (A a) (E a) ps (B a))/\P a){σ:List b9}{q s:Nat}(au:RAt σ q s T n at_ e ps b):
 b8 CC f (.ptr q 0::args) σ λr τ=>∃a,r= .ret (c a)/\τ=rS1 σ q s T (N a) (A a) (E a) ps (B a)/\P a:=
 a8s (c:=c) (N:=N) (A:=A) (E:=E) (B:=B) (g:=λ_=>true) (P:=P) aq hc (h.mono λ_ _ ⟨a,h1,h2⟩=>⟨a,h1,h2⟩) au
abbrev a8U(w:Nat×List Ex):Int×List Ex:=((w.1:Int),w.2)
theorem c2y{e:Int}{b:List Ex}{x:Ex}{y:Int×List Ex}(h:(e=0->(b.length=256/\e2≠0)\/(b.length≠256/\e2=0))/\(e≠0->e2≠0))(hy:e2=0->y=((b.length:Int),b++[x])):Ok e ((X0 b x).map a8U) e2 y:=by
 refine⟨λh0=>?_,h.2⟩;unfold X0
 rcases h.1 h0 with⟨h1,h2⟩|⟨h1,h2⟩
 .rw [W h1];exact .inr ⟨O,h2⟩
 .rw [G h1,hy h2];exact .inl ⟨O,h2⟩
theorem c9E(T:List Tok)(n:Nat)(at_ e:Int)(ps:List I)(b:List Ex)(hb:b.length<=256)(x:Ex)(z:Int):b8 CC 272 [.ptr 0 0,.agg x.cells,iv z] (rst T n at_ e ps b) (λr τ=>∃a:Int×Int×Int×List Ex,F7 2 τ r (.ret (iv a.1)) (a6n T n a.2.1 a.2.2.1 ps a.2.2.2)/\(Ok e ((X0 b x).map a8U) a.2.2.1 (a.1,a.2.2.2)/\a.2.2.2.length<=256/\-1<=a.1/\a.1<=256)):=by
 refine cO Tryz.func272 ?_;refine qs 1 (qD (F1 O D j3 j1 ?_));refine N9 (α:=Int×Int) (λ_=>[(0,.ptr 0 0),(4,.ptr 2 0)]) (λa=>[rbx T n a.1 a.2 ps b 1,o9 a.2 b.length,.box x.cells]) (λa=>(e=0->(b.length=256/\a.2≠0)\/(b.length≠256/\a.2=0))/\(e≠0->a.2≠0)) ?_ ?_
 .
  refine qk (qG D2 ?_);refine qG (λhg=>b07 O hg O) ?_;refine qG (λhg=>j2 O hg O b7j O a9r U) ?_;refine qG c1z ?_;refine qG c6p ?_;refine a2g ?_;refine qC ?_ ?_<;>intro h1
  .have hv:e=0/\b.length=256:=sm_ h1;refine qD (c5 O b1y a2j (a0s _ _ U ⟨O,O,U⟩) O ?_);rintro⟨x1,y1⟩ hy;dsimp only at hy⊢;refine qN [rbx T n x1 y1 ps b 1,o9 y1 b.length,.box x.cells] O ?_;exact⟨(x1,y1),⟨λ_=>.inl ⟨hv.2,hy⟩,λ_=>hy⟩,tu_,O⟩
  .have hv:¬(e=0/\b.length=256):=λh=>by simp[h.1,h.2]at h1
   exact⟨(at_,e),⟨λh0=>.inr ⟨λh=>hv ⟨h0,h⟩,h0⟩,λh=>h⟩,tu_,O⟩
 .rintro ⟨x1,y1⟩ E1 hp;dsimp only at hp⊢;refine qk ?_;refine cC ?_ ?_<;>intro h2
  .obtain rfl:y1=0:=H h2;have hbl:(b++[x]).length=b.length+1:=by simp
   have hl:b.length≠256:=by
    by_cases h0:e=0
    .rcases hp.1 h0 with⟨_,h⟩|⟨h,_⟩
     .exact absurd O h
     .exact h
    .exact absurd O (hp.2 h0)
   refine a5e [.box [.list (T.map Tok.cv) true none,iv n,iv x1,iv 0,.list (ps.map scv) (gnn ps.length) none,.list (b.map Ex.cv) (gnn b.length) (G9 b.length 1),.list [] false none],p7 b.length,.box x.cells] O ?_;refine d5g ?_;refine chf O b3m ?_;refine chf O (c7 O c18) ?_;refine chf O (c7 O c13) ?_;refine chf O (c7 O c7g) ?_;refine chf O d9G ?_;refine G4 ?_;refine B9 O O O (D6 O D D O Q q_3 b6a b5j Tryz.typeInfo212 b63 O (.inr O) q_8 (by have hb:Tryz.t212.bytes=64:=O;rw[hb];first|omega|(simp;done)|(simp;omega)) G0 ((b++[x]).map Ex.cv) (b++[x]).length Q Q ?_);refine c9o ?_;refine E8 O O (c7 O c18) ⟨D,?_⟩;refine d6a ?_;refine V a8V ?_;refine V a0k ?_;refine c6 ?_;exact⟨_,rE1,(by exact⟨(((b++[x]).length:Int) -1,x1,0,b++[x]),d0v (k:=3) O O U (.val _),c2y hp (λ_=>by simp),by simp;omega,do_,by simp;omega⟩)⟩
  .have eR:y1≠0:=H h2;refine qk (V a8V ?_);refine V a0k ?_;refine c6 ?_;exact⟨_,rE1,(by exact⟨((b.length:Int) -1,x1,y1,b),a5s eR O (.val _),c2y hp (λh=>absurd h eR),hb,do_,do_⟩)⟩
theorem d2E(x:Ex):r9 (.agg x.cells):=j4 (Ex.pure x)
theorem N5{n:Nat}{at_ e:Int}{b:List Ex}(hb:b.length<=256)(x:Ex)(z:Int){s:Nat}(au:RAt σ q s T n at_ e ps b):b8 CC 272 [.ptr q 0,.agg x.cells,iv z] σ λr τ=>∃a:Int×Int×Int×List Ex,r= .ret (iv a.1)/\τ=rS1 σ q s T n a.2.1 a.2.2.1 ps a.2.2.2/\(Ok e ((X0 b x).map a8U) a.2.2.1 (a.1,a.2.2.2)/\a.2.2.2.length<=256/\-1<=a.1/\a.1<=256):=
 a18 (c:=λa:Int×Int×Int×List Ex=>(iv a.1)) (N:=λ_=>n) (A:=λa=>a.2.1) (E:=λa=>a.2.2.1) (B:=λa=>a.2.2.2) (λ_ h=>by
  simp at h
  rcases h with rfl|rfl
  .exact d2E x
  .exact .val _) (λ_=>.val _) (c9E T n at_ e ps b hb x z) au
structure RX where
 x:Int
 n:Nat
 at_:Int
 e:Int
 b:List Ex
variable{n:Nat}
abbrev cx(p:PX):Int×Nat×List Ex:=((p.1:Int),p.2.1,p.2.2)
theorem Ok.alive{e:Int}{o:Option α}(h:Ok e o e' y)(h0:e'=0):e=0/\o=Option.some y:=by
 by_cases he:e=0
 .rcases h.1 he with⟨h1,_⟩|⟨_,h1⟩
  .exact ⟨he,h1⟩
  .exact absurd h0 h1
 .exact absurd h0 (h.2 he)
theorem Ok.bindM{γ:Type}{e:Int}{o:Option α}{g:α->γ}{y:γ}{f:α->Option β}{z:β}(h:Ok e (o.map g) e1 y)(k:∀p,o=Option.some p->g p=y->Ok e1 (f p) e2 z)(kd:e1≠0->e2≠0):Ok e (o.bind f) e2 z:=by
 refine⟨λh0=>?_,λh0=>kd (h.2 h0)⟩
 rcases h.1 h0 with⟨h1,h2⟩|⟨h1,h2⟩
 .obtain ⟨p,hp,hg⟩:=M6.1 h1;rw[hp];exact(k p hp hg).1 h2
 .rw [b3M.1 h1];exact .inr ⟨O,kd h2⟩
def RXP(T:List Tok)(n:Nat)(e:Int)(o:Option PX)(a:RX):Prop:=Ok e (o.map cx) a.e (a.x,a.n,a.b)/\a.n <T.length/\a.b.length<=256/\(a.e=0->n<a.n)/\-1<=a.x/\a.x<=256
def REC(T:List Tok)(ps:List I)(f:Nat):Prop:=∀(d n:Nat) (at_ e:Int) (b:List Ex),n<T.length->b.length<=256->d<=33->(e=0->8*(T.length -n)+6<=f)->∀(σ:List b9) (q s:Nat),RAt σ q s T n at_ e ps b->b8 CC 232 [.ptr q 0,iv d] σ λr τ=>∃a:RX,r= .ret (iv a.x)/\τ=rS1 σ q s T a.n a.at_ a.e ps a.b/\RXP T n e ((A1 T ps f).ex d n b) a
def RSC(T:List Tok)(ps:List I)(f:Nat):Prop:=∀(d n:Nat) (at_:Int) (b:List Ex),n<T.length->b.length<=256->d<=32->8*(T.length -n)+6<=f+2->∀(σ:List b9) (q s:Nat),RAt σ q s T n at_ 0 ps b->b8 CC 273 [.ptr q 0,iv d] σ λr τ=>∃a:RX,r= .ret (iv a.x)/\τ=rS1 σ q s T a.n a.at_ a.e ps a.b/\RXP T n 0 ((A1 T ps f).bin 2 d n b) a
def RTC(T:List Tok)(ps:List I)(f:Nat):Prop:=∀(d n:Nat) (at_:Int) (b:List Ex),n<T.length->b.length<=256->d<=32->8*(T.length -n)+6<=f+3->∀(σ:List b9) (q s:Nat),RAt σ q s T n at_ 0 ps b->b8 CC 300 [.ptr q 0,iv d] σ λr τ=>∃a:RX,r= .ret (iv a.x)/\τ=rS1 σ q s T a.n a.at_ a.e ps a.b/\RXP T n 0 ((A1 T ps f).bin 3 d n b) a
def RFC(T:List Tok)(ps:List I)(f:Nat):Prop:=∀(d n:Nat) (at_:Int) (b:List Ex),n<T.length->b.length<=256->d<=32->8*(T.length -n)+1<=f->∀(σ:List b9) (q s:Nat),RAt σ q s T n at_ 0 ps b->b8 CC 316 [.ptr q 0,iv d] σ λr τ=>∃a:RX,r= .ret (iv a.x)/\τ=rS1 σ q s T a.n a.at_ a.e ps a.b/\RXP T n 0 ((A1 T ps f).fac d n b) a
theorem RXP.dead{m:Nat}{e x at2:Int}{o:Option PX}{b:List Ex}(h:e=0->o=Option.none)(h2:e2≠0)(hm:m<T.length)(hb:b.length<=256)(hx: -1<=x/\x<=256):RXP T n e o ⟨x,m,at2,e2,b⟩:=by
 refine⟨⟨λh0=>.inr ⟨by rw[h h0];rfl,h2⟩,λ_=>h2⟩,hm,hb,λh0=>absurd h0 h2,hx.1,hx.2⟩
theorem a1Z{e x:Int}{b b2:List Ex}{y:Ex}{m:Nat}(h:Ok e ((X0 b y).map a8U) e2 (x,b2)):Ok e ((L2 b y m).map cx) e2 (x,m,b2):=by
 have e1:(L2 b y m).map cx=((X0 b y).map a8U).map λw=>(w.1,m,w.2):=by
  unfold L2;cases X0 b y<;>rfl
 rw[e1];refine⟨λh0=>?_,h.2⟩
 rcases h.1 h0 with⟨h1,h2⟩|⟨h1,h2⟩
 .rw [h1];exact .inl ⟨O,h2⟩
 .rw [h1];exact .inr ⟨O,h2⟩
theorem e0V{b:List Ex}:(A1 T ps (f+1+1)).bin 1 d n b=((A1 T ps (f+1)).bin 2 d n b).bind λx=>if opS (tk T x.2.1) 1=0 then some x else((A1 T ps f).bin 2 d (x.2.1+1) x.2.2).bind λy=>L2 y.2.2 ⟨4,0,opS (tk T x.2.1) 1,[],[(x.1:Int),(y.1:Int)]⟩ y.2.1:=by
 have h:(A1 T ps (f+1+1)).bin 1 d n b=(F9 T ps (A1 T ps (f+1))).bin 1 d n b:=O;rw[h];simp only[F9];rw[G U];rfl
theorem d7N(t:Tok):opS t 1=if isT t 4 [60]=true then 6 else if isT t 4 [61,61]=true then 7 else 0:=by
 by_cases h1:isT t 4 [60]=true
 .rw [W h1];exact a4P (x:=(6,[60])) U (by simpa[opM,isT,H6]using h1)
 .rw [G h1];by_cases h2:isT t 4 [61,61]=true
  .rw [W h2];exact a4P (x:=(7,[61,61])) U (by simpa[opM,isT,H6]using h2)
  .rw [G h2];refine b0w λx hx=>?_;simp only[S0,J6,a5J,or_false]at hx
   rcases hx with rfl|rfl|rfl|rfl|rfl|rfl|rfl<;>simp_all[opM,isT,H6]
theorem T4{k:Nat}{at_ e:Int}{b:List Ex}{c:CV}(h0:τ[0]?=some (rbx T n at_ e ps b k))(hk:τ[k]?=some (o9 e b.length))(h2:2<=k)(hc:Old 2 c):F7 2 τ (.ret c) (.ret c) (a6n T n at_ e ps b):=by
 by_cases he:e=0
 .subst he;exact d0v h0 hk h2 hc
 .exact a5s he h0 hc
theorem a0d{b:List Ex}{e:Int}{k p:Nat}(h:ao[p]?=some k):D5 L ao (.list (b.map Ex.cv) (gnn b.length) (tkE e b.length k)) (.list (b.map Ex.cv) (gnn b.length) (tkE e b.length p)):=by
 unfold tkE
 split
 .exact a7l h
 .exact .list (λr hr c hc=>(C7 (f:=Ex.cv) (λa=>(Ex.pure a).all) _ r hr c hc).old) (λj hj=>by cases hj)
theorem Ok.bindP{e:Int}{o:Option α}{f:α->Option PX}(h:Ok e o e1 y)(k:Ok e1 ((f y).map cx) e2 z):Ok e ((o.bind f).map cx) e2 z:=by
 have h1:(o.bind f).map cx=o.bind λa=>(f a).map cx:=by cases o<;>rfl
 rw[h1];exact h.bind k
theorem Ok.bindX{e x:Int}{o:Option PX}{f:PX->Option PX}{b:List Ex}(h:Ok e (o.map cx) e1 (x,n,b))(k:∀i:Nat,(i:Int)=x->Ok e1 ((f (i,n,b)).map cx) e2 z)(kd:e1≠0->e2≠0):Ok e ((o.bind f).map cx) e2 z:=by
 have h1:(o.bind f).map cx=o.bind λa=>(f a).map cx:=by cases o<;>rfl
 rw[h1];refine h.bindM (λp hp hg=>?_) kd;obtain⟨i,m,c⟩:=p;obtain⟨h1,h2,h3⟩:(i:Int)=x/\m=n/\c=b:=by simpa[cx]using hg
 subst h2 h3;exact k i h1
theorem Ok.bindT{e:Int}{o:Option (Tok×Nat)}{f:Tok×Nat->Option PX}(h:Ok e (o.map λx=>(x.1.t,x.2)) e1 (s,n))(k:∀t:Tok,t.t=s->Ok e1 ((f (t,n)).map cx) e2 z)(kd:e1≠0->e2≠0):Ok e ((o.bind f).map cx) e2 z:=by
 have h1:(o.bind f).map cx=o.bind λa=>(f a).map cx:=by cases o<;>rfl
 rw[h1];refine h.bindM (λp hp hg=>?_) kd;obtain⟨t,m⟩:=p;obtain⟨h1,h2⟩:t.t=s/\m=n:=H hg;subst h2;exact k t h1
theorem Ok.bindI{e:Int}{o:Option (Tok×Nat)}{f:Tok×Nat->Option PX}{s:Int}(h:Ok e (o.map λx=>(x.1.n,x.2)) e1 (s,n))(k:∀t:Tok,t.n=s->Ok e1 ((f (t,n)).map cx) e2 z)(kd:e1≠0->e2≠0):Ok e ((o.bind f).map cx) e2 z:=by
 have h1:(o.bind f).map cx=o.bind λa=>(f a).map cx:=by cases o<;>rfl
 rw[h1];refine h.bindM (λp hp hg=>?_) kd;obtain⟨t,m⟩:=p;obtain⟨h1,h2⟩:t.n=s/\m=n:=H hg;subst h2;exact k t h1
theorem Ok.zero{o:Option α}{e:Int}(h:Ok 0 o e y):(e=0/\o=Option.some y)\/(e≠0/\o=Option.none):=by
 rcases h.1 O with⟨h1,h2⟩|⟨h1,h2⟩
 .exact .inl ⟨h2,h1⟩
 .exact .inr ⟨h2,h1⟩
theorem b3W{o:Option PX}{x:Int}{b:List Ex}(h:o.map cx=some (x,n,b)):∃i:Nat,(i:Int)=x/\o=some (i,n,b):=by
 obtain⟨⟨i,m,c⟩,hp,hg⟩:=M6.1 h;obtain⟨h1,h2,h3⟩:(i:Int)=x/\m=n/\c=b:=by simpa[cx]using hg
 subst h2 h3;exact⟨i,h1,hp⟩
theorem b3V{o:Option PX}(h:o.map cx=none):o=none:=b3M.1 h
theorem d3L{b:List Ex}(hd:32<d):(A1 T ps f).ex d n b=none:=by
 cases f with
 |zero=>rfl
 |succ f=>exact W hd
theorem e0n{t:Tok}(h:isT t 4 [60]=false)(h':isT t 4 [61,61]=false):opS t 1=0:=by
 rw[d7N];simp[h,h']
theorem d2l{x1 c:Int}{n1:Nat}{b1:List Ex}{r:Option PX}(hi:(i:Int)=x1)(h:e1=0->c=0):Ok e1 ((if c=0 then some (i,n1,b1)else r).map cx) e1 (x1,n1,b1):=by
 by_cases he:e1=0
 .rw [W (h he),<- hi];exact .some
 .exact .dead he he
theorem R3{u:I}{v:Bool}(h:v=sgB T n 0 k u)(hv:v=false):isT (tk T n) k u=false:=by
 subst hv;simpa[sgB]using h.symm
theorem c7J(hc:a0j T ps)(d n:Nat)(at_ e:Int)(b:List Ex)(hn:n<T.length)(hb:b.length<=256)(bX:d<=33)(hx:e=0->∃f,f0=f+3/\8*(T.length -n)+6<=f+3/\REC T ps (f+2)/\RSC T ps (f+1)/\RSC T ps f):b8 CC 232 [.ptr 0 0,iv d] (rst T n at_ e ps b) (λr τ=>∃a:RX,F7 2 τ r (.ret (iv a.x)) (a6n T a.n a.at_ a.e ps a.b)/\RXP T n e ((A1 T ps f0).ex d n b) a):=by
 have hT:=hc.len;have hW:=hc.w;refine qO Tryz.func232 ?_;refine V b7p ?_;refine V a37 ?_;refine qC ?_ ?_<;>intro h1
 .have hd:32<d:=sm_ h1;refine qD (c5 O b1y a2j (a0s _ _ U ⟨O,O,U⟩) O ?_);rintro⟨x0,y0⟩ bC;dsimp only at bC⊢;refine qN [rbx T n x0 y0 ps b 1,o9 y0 b.length] O (qC ?_ ?_)<;> intro h2
  .refine c6 ?_;exact⟨_,rE1,(by exact⟨⟨0,n,x0,y0,b⟩,a5s bC O (.val _),.dead (λ_=>d3L hd) bC hn hb ⟨U,U⟩⟩)⟩
  .exact absurd (show y0=0 by simpa using h2) bC
 .have hd:¬32<d:=sm_ h1;refine qC ?_ ?_<;>intro h8
  .have he:e≠0:=H h8;refine c6 ?_;exact⟨_,rE1,(by exact⟨⟨0,n,at_,e,b⟩,a5s he O (.val _),.dead (λh0=>absurd h0 he) he hn hb ⟨U,U⟩⟩)⟩
  .obtain rfl:e=0:=H h8;obtain⟨f,rfl,hf,hE,hS1,hS0⟩:=hx O;have ai:(A1 T ps (f+3)).ex d n b=(F9 T ps (A1 T ps (f+2))).ex d n b:=O;simp only[F9]at ai;rw[G hd]at ai;refine qD (c5 O a9m o4 (Z4 hT hn hW [105,102] ⟨O,O,U⟩) O ?_);rintro⟨v8,m8⟩ ⟨db,hs8,hf8,hm8⟩;dsimp only at db hs8 hf8 hm8⊢;refine qN [rbx T m8 at_ 0 ps b 1,o9 0 b.length] O ?_;refine cC ?_ ?_<;>intro h9
   .have hi:v8=true:=H h9;have hm:=hs8 hi;subst m8;have dd:=(T8 (db.symm.trans hi)).2;rw[W dd]at ai;refine qs 1 (V r6 ?_);refine qD (c5 O b7n j7 (hE (d+1) (n+1) at_ 0 b hm8 hb J (λ_=>by omega) _ 0 1 ⟨O,O,U⟩) O ?_);rintro⟨x1,n1,a1,e1,b1⟩ ⟨k1,y1,w1,z1,l1,u1⟩;dsimp only at k1 y1 w1 z1 l1 u1⊢;refine qN [rbx T n1 a1 e1 ps b1 2,.dead,o9 e1 b1.length] O ?_;refine N9 (α:=Nat×Int×Int) (λ_=>[(0,.ptr 0 0),(1,iv d),(5,(iv ((tk T n).at_))),(6,iv x1)]) (λa=>[rbx T a.1 a.2.1 a.2.2 ps b1 2,.dead,o9 a.2.2 b1.length]) (λa=>Ok e1 (pIs T n1 1 [116,104,101,110]) a.2.2 a.1/\a.1 <T.length) ?_ ?_
    .
     refine qk (qD (c5 O a9m o4 (Z4 hT y1 hW [116,104,101,110] ⟨O,O,U⟩) O ?_));rintro⟨v9,m9⟩ ⟨eN,gv,iJ,eP⟩;dsimp only at eN gv iJ eP⊢;refine qN [rbx T m9 a1 e1 ps b1 2,.dead,o9 e1 b1.length] O (qC ?_ ?_)<;> intro bj
     .have hw:v9=false:=H bj;refine d4S ?_;rintro⟨x0,y0⟩ bC;dsimp only at bC⊢;refine qN [rbx T m9 x0 y0 ps b1 2,.dead,o9 y0 b1.length] O ?_;exact⟨(m9,x0,y0),⟨a9Y (eN.symm.trans hw) bC,eP⟩,tu_,O⟩
     .have hw:v9=true:=H bj;exact⟨(m9,a1,e1),⟨by dsimp only;rw[gv hw];exact a9I (eN.symm.trans hw),eP⟩,tu_,O⟩
    .rintro ⟨n2,a2,e2⟩ E2 ⟨q2,y2⟩;dsimp only at q2 y2⊢;have g2:e2=0->n2=n1+1/\e1=0:=λh0=>⟨O7 (q2.alive h0).2,(q2.alive h0).1⟩;refine qs 1 (V r6 ?_);refine qD (c5 O b7n j7 (hE (d+1) n2 a2 e2 b1 y2 w1 J (λh0=>by have:=g2 h0;have:=z1 this.2;omega) _ 0 2 ⟨O,O,U⟩) O ?_);rintro⟨x3,n3,a3,e3,b3⟩ ⟨k3,y3,w3,z3,l3,u3⟩;dsimp only at k3 y3 w3 z3 l3 u3⊢;refine qN [rbx T n3 a3 e3 ps b3 3,.dead,.dead,o9 e3 b3.length] O ?_;refine N9 (α:=Nat×Int×Int) (λ_=>[(0,.ptr 0 0),(1,iv d),(5,(iv ((tk T n).at_))),(6,iv x1),(7,iv x3)]) (λa=>[rbx T a.1 a.2.1 a.2.2 ps b3 3,.dead,.dead,o9 a.2.2 b3.length]) (λa=>Ok e3 (pIs T n3 1 [101,108,115,101]) a.2.2 a.1/\a.1 <T.length) ?_ ?_
     .
      refine qk (qD (c5 O a9m o4 (Z4 hT y3 hW [101,108,115,101] ⟨O,O,U⟩) O ?_));rintro⟨v9,m9⟩ ⟨eN,gv,iJ,eP⟩;dsimp only at eN gv iJ eP⊢;refine qN [rbx T m9 a3 e3 ps b3 3,.dead,.dead,o9 e3 b3.length] O (qC ?_ ?_)<;> intro cX
      .have hw:v9=false:=H cX;refine d4S ?_;rintro⟨x0,y0⟩ bC;dsimp only at bC⊢;refine qN [rbx T m9 x0 y0 ps b3 3,.dead,.dead,o9 y0 b3.length] O ?_;exact⟨(m9,x0,y0),⟨a9Y (eN.symm.trans hw) bC,eP⟩,tu_,O⟩
      .have hw:v9=true:=H cX;exact⟨(m9,a3,e3),⟨by dsimp only;rw[gv hw];exact a9I (eN.symm.trans hw),eP⟩,tu_,O⟩
     .rintro ⟨n4,a4,e4⟩ E4 ⟨q4,y4⟩;dsimp only at q4 y4⊢;have g4:e4=0->n4=n3+1/\e3=0:=λh0=>⟨O7 (q4.alive h0).2,(q4.alive h0).1⟩;refine b1G ?_;refine qD (c5 O b7n j7 (hE (d+1) n4 a4 e4 b3 y4 w3 J (λh0=>by have q:=g4 h0;have:=z3 q.2;have q:=g2 (k3.alive q.2).1;have:=z1 q.2;omega) _ 0 3 ⟨O,O,U⟩) O ?_);rintro⟨x5,n5,a5,e5,b5⟩ ⟨k5,y5,w5,z5,l5,u5⟩;dsimp only at k5 y5 w5 z5 l5 u5⊢;refine qN [rbx T n5 a5 e5 ps b5 4,.dead,.dead,.dead,o9 e5 b5.length] O (V (B4 ([x1,x3,x5].map icv) O B7 t_3 t_1 t_6 O O O O O O O O O) ?_);refine V b1v ?_;refine qD (c5 O a4d B7 (N5 w5 ⟨5,0,0,[],[x1,x3,x5]⟩ _ ⟨O,O,U⟩) O ?_);rintro⟨x6,a6,e6,b6⟩ ⟨k6,w6,l6,u6⟩;dsimp only at k6 w6 l6 u6⊢;refine qN [rbx T n5 a6 e6 ps b6 5,.dead,.dead,.dead,.dead,o9 e6 b6.length] O ?_;refine c6 ?_;exact⟨_,rE1,(by exact⟨⟨x6,n5,a6,e6,b6⟩,T4 (k:=5) O O U (.val _),⟨by rw[ai];exact k1.bindX (λi hi=>q2.bindP (k3.bindX (λj hj=>q4.bindP (k5.bindX (λl hl=>a1Z (by rw[hi,hj,hl];exact k6)) k6.2)) λh=>k6.2 (k5.2 (q4.2 h)))) λh=>k6.2 (k5.2 (q4.2 (k3.2 (q2.2 h)))),y5,w6,λh0=>by have h5:=(k6.alive h0).1;have q5:=z5 h5;have q:=g4 (k5.alive h5).1;have:=z3 q.2;have q:=g2 (k3.alive q.2).1;have:=z1 q.2;dsimp only at h0⊢;omega,l6,u6⟩⟩)⟩
   .have hi:v8=false:=H h9;have hm:=hf8 hi;subst m8;rw[G (by rw[R3 db hi];decide)]at ai;replace ai:=ai.trans e0V;refine qk (qD (c5 O c8P j7 (hS1 d n at_ b hn hb J J _ 0 1 ⟨O,O,U⟩) O ?_));rintro⟨x1,n1,a1,e1,b1⟩ ⟨k1,y1,w1,z1,l1,u1⟩;dsimp only at k1 y1 w1 z1 l1 u1⊢;refine qN [rbx T n1 a1 e1 ps b1 2,.dead,o9 e1 b1.length] O ?_;refine d5M ?_;refine qD (c5 O a8k o4 (W6 hT y1 hW [60] ⟨O,O,U⟩) O ?_);rintro⟨v2,m2⟩ ⟨cB,eO,gt,ce⟩;dsimp only at cB eO gt ce⊢;refine qN [rbx T m2 a1 e1 ps b1 2,.dead,o9 e1 b1.length] O (qC ?_ ?_)<;> intro dL
    .have dd:v2=true:=H dL;obtain⟨iE,fD⟩:=T8 (cB.symm.trans dd);subst e1;have hm:=eO dd;subst m2;have bn:opS (tk T n1) 1=6:=by rw[d7N,W fD]
     refine qD (c5 O c8P j7 (hS0 d (n1+1) a1 b1 ce w1 J (by have:=z1 O;omega) _ 0 2 ⟨O,O,U⟩) O ?_);rintro⟨x3,n3,a3,e3,b3⟩ ⟨k3,y3,w3,z3,l3,u3⟩;dsimp only at k3 y3 w3 z3 l3 u3⊢;refine qN [rbx T n3 a3 e3 ps b3 3,.dead,.dead,o9 e3 b3.length] O (V d9b ?_);refine V c4B ?_;refine qD (c5 O a4d B7 (N5 w3 ⟨4,0,6,[],[x1,x3]⟩ _ ⟨O,O,U⟩) O ?_);rintro⟨x6,a6,e6,b6⟩ ⟨k6,w6,l6,u6⟩;dsimp only at k6 w6 l6 u6⊢;refine d4i ?_;exact⟨_,rE1,q_1⟩
    .have dd:v2=false:=H dL;have hm:=gt dd;subst m2;refine qD (c5 O a8k o4 (W6 hT y1 hW [61,61] ⟨O,O,U⟩) O ?_);rintro⟨v4,m4⟩ ⟨hv4,hs4,hf4,hm4⟩;dsimp only at hv4 hs4 hf4 hm4⊢;refine qN [rbx T m4 a1 e1 ps b1 2,.dead,o9 e1 b1.length] O (qC ?_ ?_)<;> intro dA
     .have gT:v4=true:=H dA;obtain⟨iE,fD⟩:=T8 (hv4.symm.trans gT);subst e1;have hm:=hs4 gT;subst m4;have bn:opS (tk T n1) 1=7:=by rw[d7N,G (by rw[R3 cB dd];decide),W fD]
      refine qD (c5 O c8P j7 (hS0 d (n1+1) a1 b1 hm4 w1 J (by have:=z1 O;omega) _ 0 2 ⟨O,O,U⟩) O ?_);rintro⟨x3,n3,a3,e3,b3⟩ ⟨k3,y3,w3,z3,l3,u3⟩;dsimp only at k3 y3 w3 z3 l3 u3⊢;refine qN [rbx T n3 a3 e3 ps b3 3,.dead,.dead,o9 e3 b3.length] O (V d9b ?_);refine V c4B ?_;refine qD (c5 O a4d B7 (N5 w3 ⟨4,0,7,[],[x1,x3]⟩ _ ⟨O,O,U⟩) O ?_);rintro⟨x6,a6,e6,b6⟩ ⟨k6,w6,l6,u6⟩;dsimp only at k6 w6 l6 u6⊢;refine d4i ?_;exact⟨_,rE1,q_1⟩
     .have gT:v4=false:=H dA;have hm:=hf4 gT;subst m4;have dj:e1=0->opS (tk T n1) 1=0:=λh0=>by subst h0;exact e0n (R3 cB dd) (R3 hv4 gT)
      refine c6 ?_;exact⟨_,rE1,(by exact⟨⟨x1,n1,a1,e1,b1⟩,T4 (k:=2) O O U (.val _),⟨by rw[ai];exact k1.bindX (λi hi=>d2l hi dj) id,y1,w1,z1,l1,u1⟩⟩)⟩
theorem d2O(hc:a0j T ps)(Jg:∀g,g<f0->REC T ps g/\RSC T ps g):REC T ps f0:=λd n at_ e b hn hb hd hf σ q s au=>
 a18 (c:=λa:RX=>(iv a.x)) (N:=λa=>a.n) (A:=λa=>a.at_) (E:=λa=>a.e) (B:=λa=>a.b) (λ_ h=>by simp at h;subst h;exact .val _) (λ_=>.val _) (c7J hc d n at_ e b hn hb hd (λh0=>by
  have h1:=hf h0;obtain⟨f,rfl⟩:∃f,f0=f+3:=⟨f0-3,J⟩;exact⟨f,O,h1,(Jg (f+2) J).1,(Jg (f+1) J).2,(Jg f J).2⟩)) au
def ot1(ph:Bool)(e:Int)(m:Nat):b9:=if ph=true then .dead else o9 e m
def ot2(ph:Bool)(e:Int)(m:Nat):b9:=if ph=true then o9 e m else .dead
structure RL where
 x:Int
 m:Nat
 at_:Int
 e:Int
 b:List Ex
 ph:Bool
 g:Nat
variable{x:Int}
theorem d9J{lv:Nat}{b:List Ex}(h:lv≠4):(A1 T ps (f+1)).bin lv d n b=((A1 T ps f).bin (lv+1) d n b).bind λx=>(A1 T ps f).lp lv d x.1 x.2.1 x.2.2:=by
 have h':(A1 T ps (f+1)).bin lv d n b=(F9 T ps (A1 T ps f)).bin lv d n b:=O;rw[h'];simp only[F9];rw[G h]
theorem e0d{b:List Ex}:(A1 T ps (f+1)).bin 4 d n b=(A1 T ps f).fac d n b:=O
theorem lpS{g x lv:Nat}{b:List Ex}(h:lv≠1):(A1 T ps (g+1)).lp lv d x n b=if opS (tk T n) (lv:Int)=0 then some (x,n,b)else((A1 T ps g).bin (lv+1) d (n+1) b).bind λy=>(X0 y.2.2 ⟨4,0,opS (tk T n) (lv:Int),[],[(x:Int),(y.1:Int)]⟩).bind λw=>(A1 T ps g).lp lv d w.1 y.2.1 w.2:=by
 have h':(A1 T ps (g+1)).lp lv d x n b=(F9 T ps (A1 T ps g)).lp lv d x n b:=O;rw[h'];simp only[F9,G h]
theorem d6u(t:Tok):opS t 2=if isT t 4 [43]=true then 1 else if isT t 4 [45]=true then 2 else 0:=by
 by_cases h1:isT t 4 [43]=true
 .rw [W h1];exact a4P (x:=(1,[43])) U (by simpa[opM,isT,H6]using h1)
 .rw [G h1];by_cases h2:isT t 4 [45]=true
  .rw [W h2];exact a4P (x:=(2,[45])) U (by simpa[opM,isT,H6]using h2)
  .rw [G h2];refine b0w λx hx=>?_;simp only[S0,J6,a5J,or_false]at hx
   rcases hx with rfl|rfl|rfl|rfl|rfl|rfl|rfl<;>simp_all[opM,isT,H6]
theorem op3(t:Tok):opS t 3=if isT t 4 [42]=true then 3 else if isT t 4 [47]=true then 4 else if isT t 4 [37]=true then 5 else 0:=by
 by_cases h1:isT t 4 [42]=true
 .rw [W h1];exact a4P (x:=(3,[42])) U (by simpa[opM,isT,H6]using h1)
 .rw [G h1];by_cases h2:isT t 4 [47]=true
  .rw [W h2];exact a4P (x:=(4,[47])) U (by simpa[opM,isT,H6]using h2)
  .rw [G h2];by_cases h3:isT t 4 [37]=true
   .rw [W h3];exact a4P (x:=(5,[37])) U (by simpa[opM,isT,H6]using h3)
   .rw [G h3];refine b0w λx hx=>?_;simp only[S0,J6,a5J,or_false]at hx
    rcases hx with rfl|rfl|rfl|rfl|rfl|rfl|rfl<;>simp_all[opM,isT,H6]
theorem c0z{o:Option (Nat×List Ex)}{b:List Ex}(h:o.map a8U=some (x,b)):∃i:Nat,(i:Int)=x/\o=some (i,b):=by
 obtain⟨⟨i,c⟩,hp,hg⟩:=M6.1 h;obtain⟨h1,h2⟩:(i:Int)=x/\c=b:=by simpa[a8U]using hg
 subst h2;exact⟨i,h1,hp⟩
theorem b1P{S o:Option PX}{K:Nat->Nat->List Ex->Option PX}{x1:Int}{n1:Nat}{b1:List Ex}(hs:S=o.bind λy=>K y.1 y.2.1 y.2.2)(k:Ok 0 (o.map cx) e1 (x1,n1,b1)):(e1=0->∃i:Nat,(i:Int)=x1/\S=K i n1 b1)/\(e1≠0->S=none):=by
 rcases k.zero with⟨h3,ho⟩|⟨h3,ho⟩
 .obtain ⟨j,hj,ho⟩:=b3W ho;exact⟨λ_=>⟨j,hj,by rw[hs,ho];rfl⟩,λh=>absurd h3 h⟩
 .exact ⟨λh=>absurd h h3,λ_=>by rw[hs,b3V ho];rfl⟩
theorem a3h{S o:Option PX}{N:PX->Option (Nat×List Ex)}{K:Nat->Nat->List Ex->Option PX}{e3 e4 x3 x4:Int}{n3:Nat}{b3 b4:List Ex}(hs:S=o.bind λy=>(N y).bind λw=>K w.1 y.2.1 w.2)(k3:Ok 0 (o.map cx) e3 (x3,n3,b3))(k4:∀j:Nat,(j:Int)=x3->Ok e3 ((N (j,n3,b3)).map a8U) e4 (x4,b4))(k40:e3≠0->e4≠0):
 (e4=0->e3=0/\∃w:Nat,(w:Int)=x4/\S=K w n3 b4)/\(e4≠0->S=none):=by
 rcases k3.zero with⟨h3,ho⟩|⟨h3,ho⟩
 .obtain ⟨j,hj,ho⟩:=b3W ho;subst h3
  rcases(k4 j hj).zero with⟨h4,hn⟩|⟨h4,hn⟩
  .obtain ⟨w,hw,hn⟩:=c0z hn;exact⟨λ_=>⟨O,w,hw,by rw[hs,ho,n_7,hn];rfl⟩,λh=>absurd h4 h⟩
  .exact ⟨λh=>absurd h h4,λ_=>by rw[hs,ho,n_7,b3M.1 hn];rfl⟩
 .exact ⟨λh=>absurd h (k40 h3),λ_=>by rw[hs,b3V ho];rfl⟩
theorem b6U{m:Nat}{at_:Int}{S:Option PX}{b:List Ex}(hS:S=some (i,m,b))(hi:(i:Int)=x)(hm:m<T.length)(hb:b.length<=256)(hn:n<m)(h1: -1<=x)(h2:x<=256):RXP T n 0 S ⟨x,m,at_,0,b⟩:=by
 subst hS hi;exact⟨.some,hm,hb,λ_=>hn,h1,h2⟩
theorem d0V(hc:a0j T ps)(hB:∀g,g<=f->RTC T ps g)(d n:Nat)(at_:Int)(b:List Ex)(hn:n<T.length)(hb:b.length<=256)(bX:d<=32)(hf:8*(T.length -n)+6<=f+1+2):b8 CC 273 [.ptr 0 0,iv d] (rst T n at_ 0 ps b) (λr τ=>∃a:RX,F7 2 τ r (.ret (iv a.x)) (a6n T a.n a.at_ a.e ps a.b)/\RXP T n 0 ((A1 T ps (f+1)).bin 2 d n b) a):=by
 have hT:=hc.len;have hW:=hc.w;have ai:=d9J (T:=T) (ps:=ps) (f:=f) (d:=d) (n:=n) (lv:=2) (b:=b) U;refine qO Tryz.func273 ?_;refine qD (c5 O c6A j7 (hB f J d n at_ b hn hb bX J _ 0 1 ⟨O,O,U⟩) O ?_);rintro⟨x1,n1,a1,e1,b1⟩ ⟨k1,y1,w1,z1,l1,u1⟩;dsimp only at k1 y1 w1 z1 l1 u1⊢;refine qN [rbx T n1 a1 e1 ps b1 2,.dead,o9 e1 b1.length] O ?_;have dW:e1=0->8*(T.length -n1)+3<=f:=λh0=>by have:=z1 h0;omega
 have aP:=b1P (K:=λi m c=>(A1 T ps f).lp 2 d i m c) ai k1;refine C5 hCC 3 O (α:=RL) (λa=>[(0,.ptr 0 0),(1,iv d),(5,iv a.x)]) (λa=>[rbx T a.m a.at_ a.e ps a.b (kf a.ph),.dead,ot1 a.ph a.e a.b.length,ot2 a.ph a.e a.b.length]) (λa=>(a.e=0->∃i:Nat,(i:Int)=a.x/\(A1 T ps (f+1)).bin 2 d n b=(A1 T ps a.g).lp 2 d i a.m a.b/\n<a.m/\8*(T.length -a.m)+3<=a.g)/\(a.e≠0->(A1 T ps (f+1)).bin 2 d n b=none)/\a.m <T.length/\a.b.length<=256/\-1<=a.x/\a.x<=256/\a.g<=f) (λa=>if a.e=0 then T.length -a.m+1 else 0) ⟨⟨x1,n1,a1,e1,b1,false,f⟩,[0,1,2,7],⟨λh0=>(aP.1 h0).elim λi hi=>⟨i,hi.1,hi.2,z1 h0,dW h0⟩,aP.2,y1,w1,l1,u1,n_6 _⟩,⟨O,O⟩,ut_,uq_⟩ ?_;intro⟨x,m,a2,e,b2,ph,g⟩ ⟨hI,hN,hm,bY,bv,aS,hgf⟩;dsimp only at hI hN hm bY bv aS hgf⊢;refine qk (qC ?_ ?_)<;> intro h1
 .obtain rfl:e=0:=H h1;obtain⟨i,hi,hS,cw,hg⟩:=hI O;clear hI;obtain⟨g,rfl⟩:∃g',g=g'+1:=⟨g-1,J⟩;rw[lpS U]at hS;refine V e0C ?_;refine V a37 ?_;refine qD (c5 O a8k o4 (W6 hT hm hW [43] (q:=0) (s:=kf ph) a1n) O ?_);rintro⟨iK,m10⟩ ⟨gx,iL,iM,iN⟩;dsimp only at gx iL iM iN⊢;refine qN [rbx T m10 a2 0 ps b2 (kf ph),.dead,ot1 ph 0 b2.length,ot2 ph 0 b2.length] a0o ?_;refine qC ?_ ?_<;>intro h2
  .have dP:iK=true:=H h2;have hq:=(T8 (gx.symm.trans dP)).2;have bH:=iL dP;subst m10;have bn:opS (tk T m) (2:Nat)=1:=by
    show opS (tk T m) 2=1;rw[d6u,W hq]
   rw[G (by rw[bn];decide),bn]at hS;refine qD (c5 O c6A j7 (hB g J d (m+1) a2 b2 iN bY bX J _ 0 (kf ph) a1n) O ?_);rintro⟨x3,n3,a3,e3,b3⟩ ⟨k3,y3,w3,z3,l3,u3⟩;dsimp only at k3 y3 w3 z3 l3 u3⊢;refine qN [rbx T n3 a3 e3 ps b3 4,.dead,.dead,.dead,o9 e3 b3.length] a0o ?_;refine b6M ?_;refine qD (c5 O a4d B7 (N5 w3 ⟨4,0,1,[],[x,x3]⟩ _ ⟨O,O,U⟩) O ?_);rintro⟨x4,a4,e4,b4⟩ ⟨k4,w4,l4,u4⟩;dsimp only at k4 w4 l4 u4⊢;refine qN [rbx T n3 a4 e4 ps b4 5,.dead,.dead,.dead,.dead,o9 e4 b4.length] O ?_;have dW:e3=0->n<n3/\8*(T.length -n3)+3<=g:=λh0=>by have:=z3 h0;omega
   have da:(if e4=0 then T.length -n3+1 else 0)< (if(0:Int)=0 then T.length -m+1 else 0):=by
    rw[W O]
    split
    .rename_i h0;have:=z3 (k4.alive h0).1;omega
    .omega
   have aP:=a3h (K:=λi m c=>(A1 T ps g).lp 2 d i m c) hS k3 (λj hj=>by rw[hi,hj];exact k4) k4.2;exact⟨⟨x4,n3,a4,e4,b4,true,g⟩,[0,1,2,5],⟨da,λh0=>(aP.1 h0).2.elim λi hi=>⟨i,hi.1,hi.2,dW (aP.1 h0).1⟩,aP.2,y3,w4,l4,u4,do_⟩,⟨O,O⟩,ut_,⟨.inr ⟨_,O,.box ⟨.old a1c,.old (.val _),.old (.val _),.old (.val _),.old M8,a0d O,.old a21,D⟩⟩,.inl O,.inl O,.inr ⟨_,O,.same O V5⟩,D⟩⟩
  .have dP:iK=false:=H h2;have bH:=iM dP;subst m10;refine qD (c5 O a8k o4 (W6 hT hm hW [45] (q:=0) (s:=kf ph) a1n) O ?_);rintro⟨iO,m11⟩ ⟨ft,iP,iQ,iR⟩;dsimp only at ft iP iQ iR⊢;refine qN [rbx T m11 a2 0 ps b2 (kf ph),.dead,ot1 ph 0 b2.length,ot2 ph 0 b2.length] a0o ?_;refine qC ?_ ?_<;>intro h3
   .have dq:iO=true:=H h3;have hq:=(T8 (ft.symm.trans dq)).2;have bH:=iP dq;subst m11;have bn:opS (tk T m) (2:Nat)=2:=by
     show opS (tk T m) 2=2;rw[d6u,G b5G,W hq]
    rw[G (by rw[bn];decide),bn]at hS;refine qD (c5 O c6A j7 (hB g J d (m+1) a2 b2 iR bY bX J _ 0 (kf ph) a1n) O ?_);rintro⟨x3,n3,a3,e3,b3⟩ ⟨k3,y3,w3,z3,l3,u3⟩;dsimp only at k3 y3 w3 z3 l3 u3⊢;refine qN [rbx T n3 a3 e3 ps b3 4,.dead,.dead,.dead,o9 e3 b3.length] a0o ?_;refine b6M ?_;refine qD (c5 O a4d B7 (N5 w3 ⟨4,0,2,[],[x,x3]⟩ _ ⟨O,O,U⟩) O ?_);rintro⟨x4,a4,e4,b4⟩ ⟨k4,w4,l4,u4⟩;dsimp only at k4 w4 l4 u4⊢;refine qN [rbx T n3 a4 e4 ps b4 5,.dead,.dead,.dead,.dead,o9 e4 b4.length] O ?_;have dW:e3=0->n<n3/\8*(T.length -n3)+3<=g:=λh0=>by have:=z3 h0;omega
    have da:(if e4=0 then T.length -n3+1 else 0)< (if(0:Int)=0 then T.length -m+1 else 0):=by
     rw[W O]
     split
     .rename_i h0;have:=z3 (k4.alive h0).1;omega
     .omega
    have aP:=a3h (K:=λi m c=>(A1 T ps g).lp 2 d i m c) hS k3 (λj hj=>by rw[hi,hj];exact k4) k4.2;exact⟨⟨x4,n3,a4,e4,b4,true,g⟩,[0,1,2,5],⟨da,λh0=>(aP.1 h0).2.elim λi hi=>⟨i,hi.1,hi.2,dW (aP.1 h0).1⟩,aP.2,y3,w4,l4,u4,do_⟩,⟨O,O⟩,ut_,⟨.inr ⟨_,O,.box ⟨.old a1c,.old (.val _),.old (.val _),.old (.val _),.old M8,a0d O,.old a21,D⟩⟩,.inl O,.inl O,.inr ⟨_,O,.same O V5⟩,D⟩⟩
   .have dq:iO=false:=H h3;have bH:=iQ dq;subst m11;refine W5 ?_;exact⟨_,rE1,(by exact⟨⟨x,m,a2,0,b2⟩,e0F,b6U (hS.trans (W (by show opS (tk T m) 2=0;rw[d6u,G b5G,G (by rw[R3 ft dq];decide)]))) hi hm bY cw bv aS⟩)⟩
 .have he:e≠0:=H h1;refine W5 ?_;exact⟨_,rE1,e0f⟩
theorem d6F(hc:a0j T ps)(Jg:∀g,g<f0->RTC T ps g):RSC T ps f0:=λd n at_ b hn hb hd hf σ q s au=>by
 obtain⟨f,rfl⟩:∃f,f0=f+1:=⟨f0-1,J⟩;exact a18 (c:=λa:RX=>(iv a.x)) (N:=λa=>a.n) (A:=λa=>a.at_) (E:=λa=>a.e) (B:=λa=>a.b) (λ_ h=>by simp at h;subst h;exact .val _) (λ_=>.val _) (d0V hc (λg hg=>Jg g J) d n at_ b hn hb hd hf) au
theorem c8m(hc:a0j T ps)(hB:∀g,g<=f->RFC T ps g)(d n:Nat)(at_:Int)(b:List Ex)(hn:n<T.length)(hb:b.length<=256)(bX:d<=32)(hf:8*(T.length -n)+6<=f+2+3):b8 CC 300 [.ptr 0 0,iv d] (rst T n at_ 0 ps b) (λr τ=>∃a:RX,F7 2 τ r (.ret (iv a.x)) (a6n T a.n a.at_ a.e ps a.b)/\RXP T n 0 ((A1 T ps (f+2)).bin 3 d n b) a):=by
 have hT:=hc.len;have hW:=hc.w;have ai:=d9J (T:=T) (ps:=ps) (f:=f+1) (d:=d) (n:=n) (lv:=3) (b:=b) U;rw[e0d]at ai;refine qO Tryz.func300 ?_;refine qD (c5 O c2E j7 (hB f J d n at_ b hn hb bX J _ 0 1 ⟨O,O,U⟩) O ?_);rintro⟨x1,n1,a1,e1,b1⟩ ⟨k1,y1,w1,z1,l1,u1⟩;dsimp only at k1 y1 w1 z1 l1 u1⊢;refine qN [rbx T n1 a1 e1 ps b1 2,.dead,o9 e1 b1.length] O ?_;have dW:e1=0->8*(T.length -n1)+3<=(f+1):=λh0=>by have:=z1 h0;omega
 have aP:=b1P (K:=λi m c=>(A1 T ps (f+1)).lp 3 d i m c) ai k1;refine C5 hCC 3 O (α:=RL) (λa=>[(0,.ptr 0 0),(1,iv d),(5,iv a.x)]) (λa=>[rbx T a.m a.at_ a.e ps a.b (kf a.ph),.dead,ot1 a.ph a.e a.b.length,ot2 a.ph a.e a.b.length]) (λa=>(a.e=0->∃i:Nat,(i:Int)=a.x/\(A1 T ps (f+2)).bin 3 d n b=(A1 T ps a.g).lp 3 d i a.m a.b/\n<a.m/\8*(T.length -a.m)+3<=a.g)/\(a.e≠0->(A1 T ps (f+2)).bin 3 d n b=none)/\a.m <T.length/\a.b.length<=256/\-1<=a.x/\a.x<=256/\a.g<=f+1) (λa=>if a.e=0 then T.length -a.m+1 else 0) ⟨⟨x1,n1,a1,e1,b1,false,(f+1)⟩,[0,1,2,7],⟨λh0=>(aP.1 h0).elim λi hi=>⟨i,hi.1,hi.2,z1 h0,dW h0⟩,aP.2,y1,w1,l1,u1,n_6 _⟩,⟨O,O⟩,ut_,uq_⟩ ?_;intro⟨x,m,a2,e,b2,ph,g⟩ ⟨hI,hN,hm,bY,bv,aS,hgf⟩;dsimp only at hI hN hm bY bv aS hgf⊢;refine qk (qC ?_ ?_)<;> intro h1
 .obtain rfl:e=0:=H h1;obtain⟨i,hi,hS,cw,hg⟩:=hI O;clear hI;obtain⟨g,rfl⟩:∃g',g=g'+1:=⟨g-1,J⟩;rw[lpS U]at hS;obtain⟨g,rfl⟩:∃g',g=g'+1:=⟨g-1,J⟩;rw[e0d]at hS;refine V e0C ?_;refine V a37 ?_;refine qD (c5 O a8k o4 (W6 hT hm hW [42] (q:=0) (s:=kf ph) a1n) O ?_);rintro⟨iK,m10⟩ ⟨gx,iL,iM,iN⟩;dsimp only at gx iL iM iN⊢;refine qN [rbx T m10 a2 0 ps b2 (kf ph),.dead,ot1 ph 0 b2.length,ot2 ph 0 b2.length] a0o ?_;refine qC ?_ ?_<;>intro h2
  .have dP:iK=true:=H h2;have hq:=(T8 (gx.symm.trans dP)).2;have bH:=iL dP;subst m10;have bn:opS (tk T m) (3:Nat)=3:=by
    show opS (tk T m) 3=3;rw[op3,W hq]
   rw[G (by rw[bn];decide),bn]at hS;refine qD (c5 O c2E j7 (hB g J d (m+1) a2 b2 iN bY bX J _ 0 (kf ph) a1n) O ?_);rintro⟨x3,n3,a3,e3,b3⟩ ⟨k3,y3,w3,z3,l3,u3⟩;dsimp only at k3 y3 w3 z3 l3 u3⊢;refine qN [rbx T n3 a3 e3 ps b3 4,.dead,.dead,.dead,o9 e3 b3.length] a0o ?_;refine b6M ?_;refine qD (c5 O a4d B7 (N5 w3 ⟨4,0,3,[],[x,x3]⟩ _ ⟨O,O,U⟩) O ?_);rintro⟨x4,a4,e4,b4⟩ ⟨k4,w4,l4,u4⟩;dsimp only at k4 w4 l4 u4⊢;refine qN [rbx T n3 a4 e4 ps b4 5,.dead,.dead,.dead,.dead,o9 e4 b4.length] O ?_;have dW:e3=0->n<n3/\8*(T.length -n3)+3<=(g+1):=λh0=>by have:=z3 h0;omega
   have da:(if e4=0 then T.length -n3+1 else 0)< (if(0:Int)=0 then T.length -m+1 else 0):=by
    rw[W O]
    split
    .rename_i h0;have:=z3 (k4.alive h0).1;omega
    .omega
   have aP:=a3h (K:=λi m c=>(A1 T ps (g+1)).lp 3 d i m c) hS k3 (λj hj=>by rw[hi,hj];exact k4) k4.2;exact⟨⟨x4,n3,a4,e4,b4,true,g+1⟩,[0,1,2,5],⟨da,λh0=>(aP.1 h0).2.elim λi hi=>⟨i,hi.1,hi.2,dW (aP.1 h0).1⟩,aP.2,y3,w4,l4,u4,do_⟩,⟨O,O⟩,ut_,⟨.inr ⟨_,O,.box ⟨.old a1c,.old (.val _),.old (.val _),.old (.val _),.old M8,a0d O,.old a21,D⟩⟩,.inl O,.inl O,.inr ⟨_,O,.same O V5⟩,D⟩⟩
  .have dP:iK=false:=H h2;have bH:=iM dP;subst m10;refine qD (c5 O a8k o4 (W6 hT hm hW [47] (q:=0) (s:=kf ph) a1n) O ?_);rintro⟨iO,m11⟩ ⟨ft,iP,iQ,iR⟩;dsimp only at ft iP iQ iR⊢;refine qN [rbx T m11 a2 0 ps b2 (kf ph),.dead,ot1 ph 0 b2.length,ot2 ph 0 b2.length] a0o ?_;refine qC ?_ ?_<;>intro h3
   .have dq:iO=true:=H h3;have hq:=(T8 (ft.symm.trans dq)).2;have bH:=iP dq;subst m11;have bn:opS (tk T m) (3:Nat)=4:=by
     show opS (tk T m) 3=4;rw[op3,G b5G,W hq]
    rw[G (by rw[bn];decide),bn]at hS;refine qD (c5 O c2E j7 (hB g J d (m+1) a2 b2 iR bY bX J _ 0 (kf ph) a1n) O ?_);rintro⟨x3,n3,a3,e3,b3⟩ ⟨k3,y3,w3,z3,l3,u3⟩;dsimp only at k3 y3 w3 z3 l3 u3⊢;refine qN [rbx T n3 a3 e3 ps b3 4,.dead,.dead,.dead,o9 e3 b3.length] a0o ?_;refine b6M ?_;refine qD (c5 O a4d B7 (N5 w3 ⟨4,0,4,[],[x,x3]⟩ _ ⟨O,O,U⟩) O ?_);rintro⟨x4,a4,e4,b4⟩ ⟨k4,w4,l4,u4⟩;dsimp only at k4 w4 l4 u4⊢;refine qN [rbx T n3 a4 e4 ps b4 5,.dead,.dead,.dead,.dead,o9 e4 b4.length] O ?_;have dW:e3=0->n<n3/\8*(T.length -n3)+3<=(g+1):=λh0=>by have:=z3 h0;omega
    have da:(if e4=0 then T.length -n3+1 else 0)< (if(0:Int)=0 then T.length -m+1 else 0):=by
     rw[W O]
     split
     .rename_i h0;have:=z3 (k4.alive h0).1;omega
     .omega
    have aP:=a3h (K:=λi m c=>(A1 T ps (g+1)).lp 3 d i m c) hS k3 (λj hj=>by rw[hi,hj];exact k4) k4.2;exact⟨⟨x4,n3,a4,e4,b4,true,g+1⟩,[0,1,2,5],⟨da,λh0=>(aP.1 h0).2.elim λi hi=>⟨i,hi.1,hi.2,dW (aP.1 h0).1⟩,aP.2,y3,w4,l4,u4,do_⟩,⟨O,O⟩,ut_,⟨.inr ⟨_,O,.box ⟨.old a1c,.old (.val _),.old (.val _),.old (.val _),.old M8,a0d O,.old a21,D⟩⟩,.inl O,.inl O,.inr ⟨_,O,.same O V5⟩,D⟩⟩
   .have dq:iO=false:=H h3;have bH:=iQ dq;subst m11;refine qD (c5 O a8k o4 (W6 hT hm hW [37] (q:=0) (s:=kf ph) a1n) O ?_);rintro⟨v12,m12⟩ ⟨hv12,hs12,hf12,hm12⟩;dsimp only at hv12 hs12 hf12 hm12⊢;refine qN [rbx T m12 a2 0 ps b2 (kf ph),.dead,ot1 ph 0 b2.length,ot2 ph 0 b2.length] a0o ?_;refine qC ?_ ?_<;>intro h4
    .have iS:v12=true:=H h4;have hq:=(T8 (hv12.symm.trans iS)).2;have bH:=hs12 iS;subst m12;have bn:opS (tk T m) (3:Nat)=5:=by
      show opS (tk T m) 3=5;rw[op3,G b5G,G (by rw[R3 ft dq];decide),W hq]
     rw[G (by rw[bn];decide),bn]at hS;refine qD (c5 O c2E j7 (hB g J d (m+1) a2 b2 hm12 bY bX J _ 0 (kf ph) a1n) O ?_);rintro⟨x3,n3,a3,e3,b3⟩ ⟨k3,y3,w3,z3,l3,u3⟩;dsimp only at k3 y3 w3 z3 l3 u3⊢;refine qN [rbx T n3 a3 e3 ps b3 4,.dead,.dead,.dead,o9 e3 b3.length] a0o ?_;refine b6M ?_;refine qD (c5 O a4d B7 (N5 w3 ⟨4,0,5,[],[x,x3]⟩ _ ⟨O,O,U⟩) O ?_);rintro⟨x4,a4,e4,b4⟩ ⟨k4,w4,l4,u4⟩;dsimp only at k4 w4 l4 u4⊢;refine qN [rbx T n3 a4 e4 ps b4 5,.dead,.dead,.dead,.dead,o9 e4 b4.length] O ?_;have dW:e3=0->n<n3/\8*(T.length -n3)+3<=(g+1):=λh0=>by have:=z3 h0;omega
     have da:(if e4=0 then T.length -n3+1 else 0)< (if(0:Int)=0 then T.length -m+1 else 0):=by
      rw[W O]
      split
      .rename_i h0;have:=z3 (k4.alive h0).1;omega
      .omega
     have aP:=a3h (K:=λi m c=>(A1 T ps (g+1)).lp 3 d i m c) hS k3 (λj hj=>by rw[hi,hj];exact k4) k4.2;exact⟨⟨x4,n3,a4,e4,b4,true,g+1⟩,[0,1,2,5],⟨da,λh0=>(aP.1 h0).2.elim λi hi=>⟨i,hi.1,hi.2,dW (aP.1 h0).1⟩,aP.2,y3,w4,l4,u4,do_⟩,⟨O,O⟩,ut_,⟨.inr ⟨_,O,.box ⟨.old a1c,.old (.val _),.old (.val _),.old (.val _),.old M8,a0d O,.old a21,D⟩⟩,.inl O,.inl O,.inr ⟨_,O,.same O V5⟩,D⟩⟩
    .have iS:v12=false:=H h4;have bH:=hf12 iS;subst m12;refine W5 ?_;exact⟨_,rE1,(by exact⟨⟨x,m,a2,0,b2⟩,e0F,b6U (hS.trans (W (by show opS (tk T m) 3=0;rw[op3,G b5G,G (by rw[R3 ft dq];decide),G (by rw[R3 hv12 iS];decide)]))) hi hm bY cw bv aS⟩)⟩
 .have he:e≠0:=H h1;refine W5 ?_;exact⟨_,rE1,e0f⟩
theorem d1E(hc:a0j T ps)(Jg:∀g,g<f0->RFC T ps g):RTC T ps f0:=λd n at_ b hn hb hd hf σ q s au=>by
 obtain⟨f,rfl⟩:∃f,f0=f+2:=⟨f0-2,J⟩;exact a18 (c:=λa:RX=>(iv a.x)) (N:=λa=>a.n) (A:=λa=>a.at_) (E:=λa=>a.e) (B:=λa=>a.b) (λ_ h=>by simp at h;subst h;exact .val _) (λ_=>.val _) (c8m hc (λg hg=>Jg g J) d n at_ b hn hb hd hf) au
theorem P9{t:Tok}(h:isT t k s=true):t.k=k/\t.t=s:=by simpa[isT]using h
theorem b0l{b:List Ex}:(A1 T ps (f+1)).fac d n b=(F9 T ps (A1 T ps f)).fac d n b:=O
theorem d3O{b:List Ex}(h:(tk T n).k=2):(A1 T ps (f+1)).fac d n b=L2 b ⟨1,(tk T n).n,0,[],[]⟩ (n+1):=by
 rw[b0l];simp only[F9];rw[W h]
theorem d3a{b:List Ex}(h:isT (tk T n) 4 [45]=true):(A1 T ps (f+1)).fac d n b=(F2 T (n+1) 2).bind λy=>L2 b ⟨1,-y.1.n,0,[],[]⟩ y.2:=by
 rw[b0l];simp only[F9];rw[G (by rw[(P9 h).1];decide),W h]
theorem d1M{b:List Ex}(h:isT (tk T n) 4 [40]=true):(A1 T ps (f+1)).fac d n b=((A1 T ps f).ex (d+1) (n+1) b).bind λx=>(pIs T x.2.1 4 [41]).bind λm=>some (x.1,m,x.2.2):=by
 rw[b0l];simp only[F9];rw[G (by rw[(P9 h).1];decide),G (by simp[isT,(P9 h).2]),W h]
theorem a5x{b:List Ex}{u:I}(h:isT (tk T n) 1 u=true)(hu:u=[114,101,97,100]\/u=[115,105,122,101]\/u=[104,97,115]\/u=[101,110,118]\/u=[102,108,105,112]):(A1 T ps (f+1)).fac d n b=X2 T (A1 T ps f) u d (n+1) b:=by
 obtain⟨hk,ht⟩:=P9 h;rw[b0l];simp only[F9];rw[G (by rw[hk];decide),G (by simp[isT,hk]),G (by simp[isT,hk]),G (by simp[hk]),ht,W hu]
theorem a4F{t:Tok}(h:isT t k s=false)(hk:t.k=k):¬t.t=s:=by
 intro e;simp[isT,hk,e]at h
theorem d0L{b:List Ex}(h1:¬(tk T n).k=2)(h2:isT (tk T n) 4 [45]=false)(h3:isT (tk T n) 4 [40]=false)(h4:isT (tk T n) 1 [114,101,97,100]=false)(h5:isT (tk T n) 1 [115,105,122,101]=false)(h6:isT (tk T n) 1 [104,97,115]=false)(h7:isT (tk T n) 1 [101,110,118]=false)(h8:isT (tk T n) 1 [102,108,105,112]=false):
 (A1 T ps (f+1)).fac d n b=(J3 T n).bind λs=>if isT (tk T s.2) 4 [40]=true then(a2t T (A1 T ps f) d s.2 b).bind λa=>L2 a.2.2 ⟨3,0,0,s.1.t,a.1⟩ a.2.1 else if ixS ps s.1.t 0<0 then none else L2 b ⟨2,ixS ps s.1.t 0,0,[],[]⟩ s.2:=by
 rw[b0l];simp only[F9];rw[G h1,G (by rw[h2];decide),G (by rw[h3];decide)];by_cases hk:(tk T n).k=1
 .rw [G (λh=>h hk),G (by
   rintro(h|h|h|h|h)
   .exact a4F h4 hk h
   .exact a4F h5 hk h
   .exact a4F h6 hk h
   .exact a4F h7 hk h
   .exact a4F h8 hk h)]
  by_cases hr:Q2 (tk T n).t=true
  .rw [W hr];simp[J3,F2,hk,hr]
  .rw [G hr];simp[J3,F2,hk,hr]
 .rw [W hk];simp[J3,F2,hk]
theorem d1N{b:List Ex}:X2 T F [114,101,97,100] d n b=(pIs T n 4 [40]).bind λn1=>(a1r T true n1).bind λs=>(pIs T s.2 4 [44]).bind λn2=>(F.ex (d+1) n2 b).bind λx=>(pIs T x.2.1 4 [41]).bind λm=>L2 x.2.2 ⟨6,0,0,s.1.t,[(x.1:Int)]⟩ m:=by
 simp only[a3A];rfl
theorem d3q{b:List Ex}:X2 T F [115,105,122,101] d n b=(pIs T n 4 [40]).bind λn1=>(a1r T true n1).bind λs=>(pIs T s.2 4 [41]).bind λm=>L2 b ⟨7,0,0,s.1.t,[]⟩ m:=by
 simp only[a3A];rfl
theorem d7D{b:List Ex}:X2 T F [104,97,115] d n b=(pIs T n 4 [40]).bind λn1=>(a1r T true n1).bind λs=>(pIs T s.2 4 [41]).bind λm=>L2 b ⟨8,0,0,s.1.t,[]⟩ m:=by
 simp only[a3A];rfl
theorem d7y{b:List Ex}:X2 T F [101,110,118] d n b=(pIs T n 4 [40]).bind λn1=>(a1r T false n1).bind λs=>(pIs T s.2 4 [41]).bind λm=>L2 b ⟨9,0,0,s.1.t,[]⟩ m:=by
 have e:X2 T F [101,110,118] d n b=(pIs T n 4 [40]).bind λn1=>(F2 T n1 3).bind λs=>if B5 s.1.t=true then(pIs T s.2 4 [41]).bind λm=>L2 b ⟨9,0,0,s.1.t,[]⟩ m else none:=O
 rw[e];refine D9 _ (funext λn1=>?_);unfold a1r;cases F2 T n1 3 with
 |none=>rfl
 |some s=>
  simp only[n_7];by_cases h:B5 s.1.t=true
  .simp [h]
  .simp [h]
theorem c2k{b:List Ex}:X2 T F [102,108,105,112] d n b=(pIs T n 4 [40]).bind λn1=>(F2 T n1 2).bind λs=>if 64<=s.1.n then none else(pIs T s.2 4 [41]).bind λm=>L2 b ⟨10,s.1.n,0,[],[]⟩ m:=O
theorem K0{e:Int}{u:I}(q:Ok e (pIs T n k u) e' n')(h:e'=0):e=0/\n'=n+1:=⟨(q.alive h).1,O7 (q.alive h).2⟩
theorem b0Z{x:Tok×Nat}(hk:k≠5)(h:F2 T n k=some x):x=(tk T n,n+1)/\(tk T n).k=k:=by
 unfold F2 at h;by_cases h1:(tk T n).k=k
 .rw [W h1,G hk]at h;injection h with h
  exact⟨h.symm,h1⟩
 .rw [G h1]at h;cases h
theorem c8S{e:Int}(q:Ok e ((F2 T n 2).map λx=>(x.1.n,x.2)) e' (x,n'))(h:e'=0):e=0/\n'=n+1:=by
 obtain⟨h1,h2⟩:=q.alive h;obtain⟨p,hp,hg⟩:=M6.1 h2;obtain⟨rfl,_⟩:=b0Z U hp;injection hg with _ hg
 exact⟨h1,hg.symm⟩
theorem d7i(q:Ok 0 ((F2 T n 2).map λx=>(x.1.n,x.2)) e' (x,n'))(hk:(tk T n).k=2):e'=0/\x=(tk T n).n/\n'=n+1:=by
 have hp:F2 T n 2=some (tk T n,n+1):=by
  unfold F2;rw[W hk,G U]
 rw[hp]at q
 rcases q.zero with⟨h1,h2⟩|⟨_,h2⟩
 .injection h2 with h2
  injection h2 with h3 h4
  exact⟨h1,h3.symm,h4.symm⟩
 .cases h2
theorem a7o{e:Int}{p:Bool}{x:I}(q:Ok e ((a1r T p n).map λx=>(x.1.t,x.2)) e' (x,n'))(h:e'=0):e=0/\n'=n+1:=by
 obtain⟨h1,h2⟩:=q.alive h;obtain⟨t,hp,hg⟩:=M6.1 h2;obtain⟨y,hy,hz⟩:=c8t.1 hp;obtain⟨rfl,_⟩:=b0Z U hy;by_cases hc:(if p=true then E9 (tk T n).t else B5 (tk T n).t)=true
 .rw [W hc]at hz;injection hz with hz
  subst hz;injection hg with _ hg
  exact⟨h1,hg.symm⟩
 .rw [G hc]at hz;cases hz
theorem a9F{e:Int}{x:I}(q:Ok e ((J3 T n).map λx=>(x.1.t,x.2)) e' (x,n'))(h:e'=0):e=0/\n'=n+1/\x=(tk T n).t/\J3 T n=some (tk T n,n+1):=by
 obtain⟨h1,h2⟩:=q.alive h;obtain⟨t,hp,hg⟩:=M6.1 h2;obtain⟨y,hy,hz⟩:=c8t.1 hp;obtain⟨rfl,_⟩:=b0Z U hy;by_cases hc:Q2 (tk T n).t=true
 .rw [W hc]at hz;cases hz
 .rw [G hc]at hz;injection hz with hz
  subst hz;injection hg with dV hg
  exact⟨h1,hg.symm,dV.symm,hp⟩
def a4M(T:List Tok)(ps:List I)(d g m:Nat)(b:List Ex)(l:List Int):Option (List Int×Nat×List Ex):=
 if l=[]then(if isT (tk T m) 4 [41]=true then some ([],m+1,b)else(A1 T ps g).ag d m b [])
 else if isT (tk T m) 4 [44]=true then(A1 T ps g).ag d (m+1) b l else(pIs T m 4 [41]).bind λm'=>some (l,m',b)
theorem c3Q{b:List Ex}(h:isT (tk T n) 4 [40]=true):a2t T (A1 T ps f) d n b=a4M T ps d f (n+1) b []:=by
 unfold a2t pIs a4M;rw[W h,n_7,W O]
theorem c38{g m:Nat}{b:List Ex}{l:List Int}(h:isT (tk T m) 4 [41]=true):a4M T ps d g m b l=some (l,m+1,b):=by
 unfold a4M;by_cases hl:l=[]
 .rw [W hl,W h,hl]
 .rw [G hl,G (by simp[isT,(P9 h).2]),pIs,W h];rfl
theorem b96{g m:Nat}{b:List Ex}{l:List Int}(h:isT (tk T m) 4 [41]=false)(hl:l≠[]):a4M T ps d g m b l=(pIs T m 4 [44]).bind λm'=>(A1 T ps g).ag d m' b l:=by
 unfold a4M;rw[G hl];unfold pIs;by_cases h4:isT (tk T m) 4 [44]=true
 .rw [W h4,W h4];rfl
 .rw [G h4,G h4,G (by rw[h];decide)];rfl
theorem b5F{g m:Nat}{b:List Ex}(h:isT (tk T m) 4 [41]=false):a4M T ps d g m b []=(some m).bind λm'=>(A1 T ps g).ag d m' b []:=by
 unfold a4M;rw[W O,G (by rw[h];decide)];rfl
theorem agS{g:Nat}{b:List Ex}{l:List Int}:(A1 T ps (g+1)).ag d n b l=((A1 T ps g).ex (d+1) n b).bind λx=>a4M T ps d g x.2.1 x.2.2 (l++[(x.1:Int)]):=by
 show((A1 T ps g).ex (d+1) n b).bind _=_;refine D9 _ (funext λx=>?_);unfold a4M;exact(G Q).symm
theorem b5J{S:Option PX}{o:Option Nat}{X:Nat->Option PX}{R:PX->Option (List Int×Nat×List Ex)}{P:List Int×Nat×List Ex->Option PX}{e3 x3:Int}{n2 n3:Nat}{b3:List Ex}(hs:S=(o.bind λm=>(X m).bind R).bind P)(q:Ok 0 o e2 n2)(k:Ok e2 ((X n2).map cx) e3 (x3,n3,b3)):
 (e3=0->e2=0/\∃j:Nat,(j:Int)=x3/\S=(R (j,n3,b3)).bind P)/\(e3≠0->S=none):=by
 rcases q.zero with⟨h2,ho⟩|⟨h2,ho⟩
 .subst h2
  rcases k.zero with⟨h3,hX⟩|⟨h3,hX⟩
  .obtain ⟨j,hj,hX⟩:=b3W hX;exact⟨λ_=>⟨O,j,hj,by rw[hs,ho,n_7,hX];rfl⟩,λh=>absurd h3 h⟩
  .exact ⟨λh=>absurd h h3,λ_=>by rw[hs,ho,n_7,b3V hX];rfl⟩
 .exact ⟨λh=>absurd h (k.2 h2),λ_=>by rw[hs,ho];rfl⟩
structure RG where
 l:List Int
 m:Nat
 at_:Int
 e:Int
 b:List Ex
 ph:Bool
 g:Nat
variable{e at_:Int}{b:List Ex}{m g:Nat}{l:List Int}
def kg5(ph:Bool):Nat:=if ph=true then 4 else 1
theorem b9Y(hc:a0j T ps)(hE:∀g,g<=f->REC T ps g)(d n:Nat)(at_:Int)(b:List Ex)(hn:n<T.length)(hb:b.length<=256)(bX:d<=32)(hf:8*(T.length -n)+1<=f+1):b8 CC 316 [.ptr 0 0,iv d] (rst T n at_ 0 ps b) (λr τ=>∃a:RX,F7 2 τ r (.ret (iv a.x)) (a6n T a.n a.at_ a.e ps a.b)/\RXP T n 0 ((A1 T ps (f+1)).fac d n b) a):=by
 have hT:=hc.len;have hW:=hc.w;refine qO Tryz.func316 ?_;refine V b7p ?_;refine z_1 ?_;refine cC ?_ ?_<;>intro h1
 .simp at h1
 .refine qk (qC ?_ ?_)<;> intro h2
  .have hk:(tk T n).k=2:=H h2;refine qD (c5 O c7l ⟨D,D⟩ (a8N hT hn hW hc.nn ⟨O,O,U⟩) O ?_);rintro⟨x1,n1,a1,e1⟩ ⟨q1,y1,l1,u1⟩;dsimp only at q1 y1 l1 u1⊢;refine qN [rbx T n1 a1 e1 ps b 1,o9 e1 b.length,.box (tk T n).cells] O ?_;obtain⟨rfl,rfl,rfl⟩:=d7i q1 hk;refine V b1v ?_;refine qD (c5 O a4d B7 (N5 hb ⟨1,(tk T n).n,0,[],[]⟩ _ ⟨O,O,U⟩) O ?_);rintro⟨x6,a6,e6,b6⟩ ⟨k6,w6,l6,u6⟩;dsimp only at k6 w6 l6 u6⊢;refine qN [rbx T (n+1) a6 e6 ps b6 3,.dead,.box (tk T n).cells,o9 e6 b6.length] O ?_;refine c6 ?_;exact⟨_,rE1,(by exact⟨⟨x6,n+1,a6,e6,b6⟩,T4 (k:=3) O O U (.val _),⟨by rw[d3O hk];exact a1Z k6,do_,w6,λh0=>by dsimp only;omega,l6,u6⟩⟩)⟩
  .have hk:¬(tk T n).k=2:=H h2;refine qD (c5 O a8k o4 (W6 hT hn hW [45] ⟨O,O,U⟩) O ?_);rintro⟨v1,m1⟩ ⟨eY,bu,dg,dz⟩;dsimp only at eY bu dg dz⊢;refine qN [rbx T m1 at_ 0 ps b 1,o9 0 b.length,.box (tk T n).cells] O (qC ?_ ?_)<;> intro h3
   .have eK:v1=true:=H h3;have hq:=(T8 (eY.symm.trans eK)).2;have bH:=bu eK;subst m1;refine qD (c5 O c7l ⟨D,D⟩ (a8N hT dz hW hc.nn ⟨O,O,U⟩) O ?_);rintro⟨x2,n2,a2,e2⟩ ⟨q2,y2,l2,u2⟩;dsimp only at q2 y2 l2 u2⊢;refine qN [rbx T n2 a2 e2 ps b 1,o9 e2 b.length,.box (tk T n).cells] O ?_;have ew: -x2=IntKind.i64.wrap (0-x2):=by rw[a4v J J];omega
    refine V (b8r O D O) ?_;refine V b1v ?_;refine qD (c5 O a4d B7 (N5 hb ⟨1,IntKind.i64.wrap (0-x2),0,[],[]⟩ _ ⟨O,O,U⟩) O ?_);rintro⟨x6,a6,e6,b6⟩ ⟨k6,w6,l6,u6⟩;dsimp only at k6 w6 l6 u6⊢;refine qN [rbx T n2 a6 e6 ps b6 3,.dead,.box (tk T n).cells,o9 e6 b6.length] O ?_;refine c6 ?_;exact⟨_,rE1,(by exact⟨⟨x6,n2,a6,e6,b6⟩,T4 (k:=3) O O U (.val _),⟨by rw[d3a hq];exact q2.bindI (λt ht=>a1Z (by rw[ht,ew];exact k6)) k6.2,do_,w6,λh0=>by have:=(c8S q2 (k6.alive h0).1).2;dsimp only;omega,l6,u6⟩⟩)⟩
   .have eK:v1=false:=H h3;have dV:=R3 eY eK;have bH:=dg eK;subst m1;refine qD (c5 O a8k o4 (W6 hT hn hW [40] ⟨O,O,U⟩) O ?_);rintro⟨v2,m2⟩ ⟨cB,eO,gt,ce⟩;dsimp only at cB eO gt ce⊢;refine qN [rbx T m2 at_ 0 ps b 1,o9 0 b.length,.box (tk T n).cells] O (qC ?_ ?_)<;> intro h4
    .have dd:v2=true:=H h4;have hq:=(T8 (cB.symm.trans dd)).2;have bH:=eO dd;subst m2;refine V r6 ?_;refine qD (c5 O b7n j7 (hE f (n_6 _) (d+1) (n+1) at_ 0 b ce hb J (λ_=>by omega) _ 0 1 ⟨O,O,U⟩) O ?_);rintro⟨x3,n3,a3,e3,b3⟩ ⟨k3,y3,w3,z3,l3,u3⟩;dsimp only at k3 y3 w3 z3 l3 u3⊢;refine qN [rbx T n3 a3 e3 ps b3 3,.dead,.box (tk T n).cells,o9 e3 b3.length] O (qD (c5 O a4c o4 (N7 hT y3 hW [41] ⟨O,O,U⟩) O ?_));rintro⟨n4,a4,e4⟩ ⟨q4,y4⟩;dsimp only at q4 y4⊢;refine qN [rbx T n4 a4 e4 ps b3 3,.dead,.box (tk T n).cells,o9 e4 b3.length] O ?_;refine c6 ?_;exact⟨_,rE1,(by exact⟨⟨x3,n4,a4,e4,b3⟩,T4 (k:=3) O O U (.val _),⟨by rw[d1M hq];exact k3.bindX (λi hi=>q4.bindP (by rw[<- hi];exact .some)) q4.2,y4,w3,λh0=>by have g:=K0 q4 h0;have:=z3 g.1;dsimp only;omega,l3,u3⟩⟩)⟩
    .have dd:v2=false:=H h4;have dN:=R3 cB dd;have bH:=gt dd;subst m2;refine qD (c5 O a9m o4 (Z4 hT hn hW [114,101,97,100] ⟨O,O,U⟩) O ?_);rintro⟨v3,m3⟩ ⟨hv3,fB,hf3,fX⟩;dsimp only at hv3 fB hf3 fX⊢;refine qN [rbx T m3 at_ 0 ps b 1,o9 0 b.length,.box (tk T n).cells] O (qC ?_ ?_)<;> intro h5
     .have fD:v3=true:=H h5;have hq:=(T8 (hv3.symm.trans fD)).2;have bH:=fB fD;subst m3;refine qD (c5 O a4c o4 (N7 hT fX hW [40] ⟨O,O,U⟩) O ?_);rintro⟨n1,a1,e1⟩ ⟨q1,y1⟩;dsimp only at q1 y1⊢;refine qN [rbx T n1 a1 e1 ps b 1,o9 e1 b.length,.box (tk T n).cells] O (qD (c5 O c2z o4 (a9V hT y1 hW true hc.l ⟨O,O,U⟩) O ?_));rintro⟨s2,n2,a2,e2⟩ ⟨q2,y2⟩;dsimp only at q2 y2⊢;refine qN [rbx T n2 a2 e2 ps b 1,o9 e2 b.length,.box (tk T n).cells] O (qD (c5 O a4c o4 (N7 hT y2 hW [44] ⟨O,O,U⟩) O ?_));rintro⟨n3,a3,e3⟩ ⟨q3,y3⟩;dsimp only at q3 y3⊢;refine qN [rbx T n3 a3 e3 ps b 1,o9 e3 b.length,.box (tk T n).cells] O (V r6 ?_);refine qD (c5 O b7n j7 (hE f (n_6 _) (d+1) n3 a3 e3 b y3 hb J (λh0=>by have g:=K0 q3 h0;have g':=a7o q2 g.1;have:=K0 q1 g'.1;omega) _ 0 1 ⟨O,O,U⟩) O ?_);rintro⟨x4,n4,a4,e4,b4⟩ ⟨k4,y4,w4,z4,l4,u4⟩;dsimp only at k4 y4 w4 z4 l4 u4⊢;refine qN [rbx T n4 a4 e4 ps b4 3,.dead,.box (tk T n).cells,o9 e4 b4.length] O (qD (c5 O a4c o4 (N7 hT y4 hW [41] ⟨O,O,U⟩) O ?_));rintro⟨n5,a5,e5⟩ ⟨q5,y5⟩;dsimp only at q5 y5⊢;refine qN [rbx T n5 a5 e5 ps b4 3,.dead,.box (tk T n).cells,o9 e5 b4.length] O (V (B4 ([x4].map icv) O ⟨D,D⟩ t_3 t_1 t_6 O O O O O O O O O) ?_);refine V c4B ?_;refine qD (c5 O a4d B7 (N5 w4 ⟨6,0,0,s2,[x4]⟩ _ ⟨O,O,U⟩) O ?_);rintro⟨x6,a6,e6,b6⟩ ⟨k6,w6,l6,u6⟩;dsimp only at k6 w6 l6 u6⊢;refine qN [rbx T n5 a6 e6 ps b6 4,.dead,.box (tk T n).cells,.dead,o9 e6 b6.length] O ?_;refine c6 ?_;exact⟨_,rE1,(by exact⟨⟨x6,n5,a6,e6,b6⟩,T4 (k:=4) O O U (.val _),⟨by rw[a5x hq U,d1N];exact q1.bindP (q2.bindT (λt ht=>q3.bindP (k4.bindX (λi hi=>q5.bindP (a1Z (by rw[ht,hi];exact k6))) λh=>k6.2 (q5.2 h))) λh=>k6.2 (q5.2 (k4.2 (q3.2 h)))),do_,w6,λh0=>by have g5:=K0 q5 (k6.alive h0).1;have:=z4 g5.1;have g3:=K0 q3 (k4.alive g5.1).1;have g2:=a7o q2 g3.1;have:=K0 q1 g2.1;dsimp only;omega,l6,u6⟩⟩)⟩
     .have fD:v3=false:=H h5;have hg3:=R3 hv3 fD;have bH:=hf3 fD;subst m3;refine qD (c5 O a9m o4 (Z4 hT hn hW [115,105,122,101] ⟨O,O,U⟩) O ?_);rintro⟨v4,m4⟩ ⟨hv4,hs4,hf4,hm4⟩;dsimp only at hv4 hs4 hf4 hm4⊢;refine qN [rbx T m4 at_ 0 ps b 1,o9 0 b.length,.box (tk T n).cells] O (qC ?_ ?_)<;> intro h6
      .have gT:v4=true:=H h6;have hq:=(T8 (hv4.symm.trans gT)).2;have bH:=hs4 gT;subst m4;have hw:=(P9 hq).2;refine qC ?_ ?_<;>intro h7
       .refine V U1 ?_;refine qC ?_ ?_<;>intro h8
        .simp [hw]at h8
        .refine V U1 ?_;refine qC ?_ ?_<;>intro h9
         .simp [hw]at h9
         .refine qD (c5 O a4c o4 (N7 hT hm4 hW [40] ⟨O,O,U⟩) O ?_);rintro⟨n1,a1,e1⟩ ⟨q1,y1⟩;dsimp only at q1 y1⊢;refine d5X ?_;rintro⟨s2,n2,a2,e2⟩ ⟨q2,y2⟩;dsimp only at q2 y2⊢;refine d8v ?_;rintro⟨n3,a3,e3⟩ ⟨q3,y3⟩;dsimp only at q3 y3⊢;refine c7h ?_;refine qD (c5 O a4d B7 (N5 hb ⟨7,0,0,s2,[]⟩ _ ⟨O,O,U⟩) O ?_);rintro⟨x6,a6,e6,b6⟩ ⟨k6,w6,l6,u6⟩;dsimp only at k6 w6 l6 u6⊢;refine d3E ?_;exact⟨_,rE1,(by exact⟨⟨x6,n3,a6,e6,b6⟩,T4 (k:=3) O O U (.val _),⟨by rw[a5x hq U,d3q];exact q1.bindP (q2.bindT (λt ht=>q3.bindP (a1Z (by rw[ht];exact k6))) λh=>k6.2 (q3.2 h)),do_,w6,λh0=>by have g3:=K0 q3 (k6.alive h0).1;have g2:=a7o q2 g3.1;have:=K0 q1 g2.1;dsimp only;omega,l6,u6⟩⟩)⟩
       .rw [gT]at h7;cases h7
      .have gT:v4=false:=H h6;have hg4:=R3 hv4 gT;have bH:=hf4 gT;subst m4;refine qD (c5 O a9m o4 (Z4 hT hn hW [104,97,115] ⟨O,O,U⟩) O ?_);rintro⟨v5,m5⟩ ⟨hv5,hs5,hf5,hm5⟩;dsimp only at hv5 hs5 hf5 hm5⊢;refine qN [rbx T m5 at_ 0 ps b 1,o9 0 b.length,.box (tk T n).cells] O (qC ?_ ?_)<;> intro h19
       .have hi5:v5=true:=H h19;have hq:=(T8 (hv5.symm.trans hi5)).2;have bH:=hs5 hi5;subst m5;have hw:=(P9 hq).2;refine qC ?_ ?_<;>intro h20
        .refine V U1 ?_;refine qC ?_ ?_<;>intro h21
         .refine qD (c5 O a4c o4 (N7 hT hm5 hW [40] ⟨O,O,U⟩) O ?_);rintro⟨n1,a1,e1⟩ ⟨q1,y1⟩;dsimp only at q1 y1⊢;refine d5X ?_;rintro⟨s2,n2,a2,e2⟩ ⟨q2,y2⟩;dsimp only at q2 y2⊢;refine d8v ?_;rintro⟨n3,a3,e3⟩ ⟨q3,y3⟩;dsimp only at q3 y3⊢;refine c7h ?_;refine qD (c5 O a4d B7 (N5 hb ⟨8,0,0,s2,[]⟩ _ ⟨O,O,U⟩) O ?_);rintro⟨x6,a6,e6,b6⟩ ⟨k6,w6,l6,u6⟩;dsimp only at k6 w6 l6 u6⊢;refine d3E ?_;exact⟨_,rE1,(by exact⟨⟨x6,n3,a6,e6,b6⟩,T4 (k:=3) O O U (.val _),⟨by rw[a5x hq U,d7D];exact q1.bindP (q2.bindT (λt ht=>q3.bindP (a1Z (by rw[ht];exact k6))) λh=>k6.2 (q3.2 h)),do_,w6,λh0=>by have g3:=K0 q3 (k6.alive h0).1;have g2:=a7o q2 g3.1;have:=K0 q1 g2.1;dsimp only;omega,l6,u6⟩⟩)⟩
         .simp [hw]at h21
        .rw [hi5]at h20;cases h20
       .have hi5:v5=false:=H h19;have hg5:=R3 hv5 hi5;have bH:=hf5 hi5;subst m5;refine qD (c5 O a9m o4 (Z4 hT hn hW [101,110,118] ⟨O,O,U⟩) O ?_);rintro⟨v6,m6⟩ ⟨hv6,hs6,hf6,hm6⟩;dsimp only at hv6 hs6 hf6 hm6⊢;refine qN [rbx T m6 at_ 0 ps b 1,o9 0 b.length,.box (tk T n).cells] O (qC ?_ ?_)<;> intro h32
        .have hi6:v6=true:=H h32;have hq:=(T8 (hv6.symm.trans hi6)).2;have bH:=hs6 hi6;subst m6;have hw:=(P9 hq).2;refine V U1 ?_;refine qC ?_ ?_<;>intro h33
         .simp [hw]at h33
         .refine V U1 ?_;refine qC ?_ ?_<;>intro h34
          .refine qD (c5 O a4c o4 (N7 hT hm6 hW [40] ⟨O,O,U⟩) O ?_);rintro⟨n1,a1,e1⟩ ⟨q1,y1⟩;dsimp only at q1 y1⊢;refine qN [rbx T n1 a1 e1 ps b 1,o9 e1 b.length,.box (tk T n).cells] O (qD (c5 O c2z j7 (a9V hT y1 hW false hc.l ⟨O,O,U⟩) O ?_));rintro⟨s2,n2,a2,e2⟩ ⟨q2,y2⟩;dsimp only at q2 y2⊢;refine d8v ?_;rintro⟨n3,a3,e3⟩ ⟨q3,y3⟩;dsimp only at q3 y3⊢;refine c7h ?_;refine qD (c5 O a4d B7 (N5 hb ⟨9,0,0,s2,[]⟩ _ ⟨O,O,U⟩) O ?_);rintro⟨x6,a6,e6,b6⟩ ⟨k6,w6,l6,u6⟩;dsimp only at k6 w6 l6 u6⊢;refine d3E ?_;exact⟨_,rE1,(by exact⟨⟨x6,n3,a6,e6,b6⟩,T4 (k:=3) O O U (.val _),⟨by rw[a5x hq U,d7y];exact q1.bindP (q2.bindT (λt ht=>q3.bindP (a1Z (by rw[ht];exact k6))) λh=>k6.2 (q3.2 h)),do_,w6,λh0=>by have g3:=K0 q3 (k6.alive h0).1;have g2:=a7o q2 g3.1;have:=K0 q1 g2.1;dsimp only;omega,l6,u6⟩⟩)⟩
          .simp [hw]at h34
        .have hi6:v6=false:=H h32;have hg6:=R3 hv6 hi6;have bH:=hf6 hi6;subst m6;refine qD (c5 O a9m o4 (Z4 hT hn hW [102,108,105,112] ⟨O,O,U⟩) O ?_);rintro⟨v7,m7⟩ ⟨hv7,hs7,hf7,hm7⟩;dsimp only at hv7 hs7 hf7 hm7⊢;refine qN [rbx T m7 at_ 0 ps b 1,o9 0 b.length,.box (tk T n).cells] O (qC ?_ ?_)<;> intro h35
         .have hi7:v7=true:=H h35;have hq:=(T8 (hv7.symm.trans hi7)).2;have bH:=hs7 hi7;subst m7;refine qD (c5 O a4c o4 (N7 hT hm7 hW [40] ⟨O,O,U⟩) O ?_);rintro⟨n1,a1,e1⟩ ⟨q1,y1⟩;dsimp only at q1 y1⊢;refine qN [rbx T n1 a1 e1 ps b 1,o9 e1 b.length,.box (tk T n).cells] O ?_;refine d5M ?_;refine qD (c5 O c7l ⟨D,D⟩ (a8N hT y1 hW hc.nn ⟨O,O,U⟩) O ?_);rintro⟨x2,n2,a2,e2⟩ ⟨q2,y2,l2,u2⟩;dsimp only at q2 y2 l2 u2⊢;refine qN [rbx T n2 a2 e2 ps b 1,o9 e2 b.length,.box (tk T n).cells] O (qC ?_ ?_)<;> intro h36
          .have aH:64<=x2:=H h36;refine qD (c5 O b1y a2j (a0s _ _ U ⟨O,O,U⟩) O ?_);rintro⟨x0,y0⟩ bC;dsimp only at bC⊢;refine qN [rbx T n2 x0 y0 ps b 1,o9 y0 b.length,.box (tk T n).cells] O (qD (c5 O a4c o4 (N7 hT y2 hW [41] ⟨O,O,U⟩) O ?_));rintro⟨n3,a3,e3⟩ ⟨q3,y3⟩;dsimp only at q3 y3⊢;refine d5q ?_;rintro⟨x6,a6,e6,b6⟩ ⟨k6,w6,l6,u6⟩;dsimp only at k6 w6 l6 u6⊢;refine qN [rbx T n3 a6 e6 ps b6 3,.dead,.box (tk T n).cells,o9 e6 b6.length] O ?_;have he6:=k6.2 (q3.2 bC);refine c6 ?_;exact⟨_,rE1,(by exact⟨⟨x6,n3,a6,e6,b6⟩,T4 (k:=3) O O U (.val _),⟨by rw[a5x hq U,c2k];exact q1.bindP (q2.bindI (λt ht=>by dsimp only;rw[W (by rw[ht];exact aH)];exact .none he6) λ_=>he6),do_,w6,λh0=>absurd h0 he6,l6,u6⟩⟩)⟩
          .have aH:¬64<=x2:=H h36;refine qD (c5 O a4c o4 (N7 hT y2 hW [41] ⟨O,O,U⟩) O ?_);rintro⟨n3,a3,e3⟩ ⟨q3,y3⟩;dsimp only at q3 y3⊢;refine d5q ?_;rintro⟨x6,a6,e6,b6⟩ ⟨k6,w6,l6,u6⟩;dsimp only at k6 w6 l6 u6⊢;refine d3E ?_;exact⟨_,rE1,(by exact⟨⟨x6,n3,a6,e6,b6⟩,T4 (k:=3) O O U (.val _),⟨by rw[a5x hq U,c2k];exact q1.bindP (q2.bindI (λt ht=>by dsimp only;rw[G (by rw[ht];exact aH)];exact q3.bindP (a1Z (by rw[ht];exact k6))) λh=>k6.2 (q3.2 h)),do_,w6,λh0=>by have g3:=K0 q3 (k6.alive h0).1;have g2:=c8S q2 g3.1;have:=K0 q1 g2.1;dsimp only;omega,l6,u6⟩⟩)⟩
         .have hi7:v7=false:=H h35;have hg7:=R3 hv7 hi7;have bH:=hf7 hi7;subst m7;have ai:=d0L (ps:=ps) (f:=f) (d:=d) (b:=b) hk dV dN hg3 hg4 hg5 hg6 hg7;refine qD (c5 O d0E ⟨D,D⟩ (a7E hT hn hW ⟨O,O,U⟩) O ?_);rintro⟨s1,n1,a1,e1⟩ ⟨q1,y1⟩;dsimp only at q1 y1⊢;refine qN [rbx T n1 a1 e1 ps b 1,o9 e1 b.length,.box (tk T n).cells] O (qD (c5 O a8k o4 (W6 hT y1 hW [40] ⟨O,O,U⟩) O ?_));rintro⟨v8,m8⟩ ⟨db,hs8,hf8,hm8⟩;dsimp only at db hs8 hf8 hm8⊢;refine qN [rbx T m8 a1 e1 ps b 1,o9 e1 b.length,.box (tk T n).cells] O ?_;refine cC ?_ ?_<;>intro h37
          .have hi8:v8=false:=H h37;have bH:=hf8 hi8;subst m8;refine qk (V K6 ?_);refine Q6 (α:=Nat) (λj=>[(0,.ptr 0 0),(6,(iv ((tk T n).at_))),(14,(sv s1)),(137,(.list (ps.map scv) (gnn ps.length) none)),(138,iv ps.length),(139,iv j)]) (λ_=>[rbx T n1 a1 e1 ps b 1,o9 e1 b.length,.box (tk T n).cells]) (λj=>j<=ps.length/\(e1=0->ixS ps s1 0=ixS (ps.drop j) s1 j)) (λj=>ps.length -j) 0 ⟨n_4 _,λ_=>O⟩ tu_ O ?_;intro j E5 ⟨hj,hjx⟩;have ba:=hc.ps;refine qk (qC ?_ ?_)<;> intro h38
           .have ah:j<ps.length:=sm_ h38;obtain⟨w,cE⟩:∃w,ps[j]?=some w:=⟨ps[j]'ah,Q⟩;refine V (z8 O D D O O t_2 t_0 J (o7 cE) O) ?_;refine V a6L ?_;refine qG D2 ?_;refine qG (λhg=>b07 O hg O) ?_;refine qG (λhg=>j2 O hg O b7j O b6R U) ?_;refine qG (λhg=>o5 O hg O c8L O O) ?_;refine a2g ?_;refine qC ?_ ?_<;>intro h39
            .obtain ⟨hw,iE⟩:w=s1/\e1=0:=H h39;subst iE;obtain⟨_,bk,bu,hpn⟩:=a9F q1 O;have hix:ixS ps s1 0=j:=by rw[hjx O,b0J cE,W hw]
             refine V b1v ?_;refine qD (c5 O a4d B7 (N5 hb ⟨2,(j:Int),0,[],[]⟩ _ ⟨O,O,U⟩) O ?_);rintro⟨x6,a6,e6,b6⟩ ⟨k6,w6,l6,u6⟩;dsimp only at k6 w6 l6 u6⊢;refine qN [rbx T n1 a6 e6 ps b6 3,.dead,.box (tk T n).cells,o9 e6 b6.length] O ?_;refine c6 ?_;exact⟨_,rE1,(by exact⟨⟨x6,n1,a6,e6,b6⟩,T4 (k:=3) O O U (.val _),⟨by rw[ai,hpn,n_7];dsimp only;rw[<- bk,<- bu,G (by rw[R3 db hi8];decide),hix,G J];exact a1Z k6,do_,w6,λh0=>by dsimp only;omega,l6,u6⟩⟩)⟩
            .have cA:e1=0->¬w=s1:=λh0 hw=>by simp[hw,h0]at h39
             refine V r6 ?_;exact⟨(j+1),J,⟨J,λh0=>by rw[hjx h0,b0J cE,G (cA h0)]⟩,tu_,O⟩
           .have aH:ps.length<=j:=sm_ h38;refine l9 ?_;refine qD (c5 O b1y a2j (a0s _ _ U ⟨O,O,U⟩) O ?_);rintro⟨x0,y0⟩ bC;dsimp only at bC⊢;refine qN [rbx T n1 x0 y0 ps b 1,o9 y0 b.length,.box (tk T n).cells] O ?_;refine c6 ?_;exact⟨_,rE1,(by exact⟨⟨0,n1,x0,y0,b⟩,a5s bC O (.val _),.dead (λ_=>by
             rcases q1.zero with⟨h0,_⟩|⟨_,h0⟩
             .subst h0;obtain⟨_,bk,bu,hpn⟩:=a9F q1 O;rw[ai,hpn,n_7];dsimp only;rw[<- bk,<- bu,G (by rw[R3 db hi8];decide),hjx O,U4 aH];rfl
             .rw [ai,b3M.1 h0];rfl) bC y1 hb ⟨U,U⟩⟩)⟩
          .have hi8:v8=true:=H h37;obtain⟨iE,hq8⟩:=T8 (db.symm.trans hi8);subst e1;have bH:=hs8 hi8;subst m8;obtain⟨_,bk,bu,hpn⟩:=a9F q1 O;rw[hpn,n_7]at ai;dsimp only at ai;rw[<- bk,<- bu,W hq8,c3Q hq8]at ai;refine qk (V b1v ?_);refine b86 ?_;refine C5 hCC 4 O (α:=RG) (λa=>[(0,.ptr 0 0),(1,iv d),(6,(iv ((tk T n).at_))),(17,.ptr 3 0)]) (λa=>[rbx T a.m a.at_ a.e ps a.b (kg5 a.ph),ot1 a.ph a.e a.b.length,.dead,.box [(iv (3)),(iv (0)),(iv (0)),(sv s1),.list (a.l.map icv) (gnn a.l.length) (G9 a.l.length 5)],ot2 a.ph a.e a.b.length,p7 a.l.length]) (λa=>(a.e=0->(A1 T ps (f+1)).fac d n b=(a4M T ps d a.g a.m a.b a.l).bind (λa:List Int×Nat×List Ex=>L2 a.2.2 ⟨3,0,0,s1,a.1⟩ a.2.1)/\n<a.m/\a.l.length<=a.m/\8*(T.length -a.m)+7<=a.g)/\(a.e≠0->(A1 T ps (f+1)).fac d n b=none)/\a.m <T.length/\a.b.length<=256/\a.l.length<=T.length/\a.g<=f) (λa=>if a.e=0 then T.length -a.m+1 else 0) ⟨⟨[],n1+1,a1,0,b,false,f⟩,[0,1,2,3,7,8],⟨λ_=>⟨ai,do_,n_4 _,do_⟩,λh=>absurd O h,hm8,hb,n_4 _,n_6 _⟩,⟨O,O⟩,ut_,uq_⟩ ?_;intro⟨l,m,a2,e,b2,ph,g⟩ ⟨hI,hN,hm,bY,hlT,hgf⟩;dsimp only at hI hN hm bY hlT hgf⊢;refine qk (qG D2 ?_);refine b3h (.val (.bool false)) O O D O O (λhg=>c5 O a8k ⟨hg,O,D⟩ (W6 hT hm hW [41] (q:=0) (s:=kg5 ph) a1n) O ?_) (λhg=>?_)
           .
            obtain rfl:e=0:=H hg;obtain⟨hS,cw,fF,hgm⟩:=hI O;rintro⟨v9,m9⟩ ⟨eN,gv,iJ,eP⟩;dsimp only at eN gv iJ eP⊢;refine qo ?_;refine qN [rbx T m9 a2 0 ps b2 (kg5 ph),ot1 ph 0 b2.length,.dead,.box [(iv (3)),(iv (0)),(iv (0)),(sv s1),.list (l.map icv) (gnn l.length) (G9 l.length 5)],ot2 ph 0 b2.length,p7 l.length] a0o ?_;refine qG a4a ?_;refine V S6 ?_;refine qC ?_ ?_<;>intro h40
            .have iT:v9=false:=H h40;have hg9:=R3 eN iT;have bH:=iJ iT;subst m9;obtain⟨g,rfl⟩:∃g',g=g'+1:=⟨g-1,J⟩;refine V a1Q ?_;refine qC ?_ ?_<;>intro h41
             .have hl:l≠[]:=by intro hl;subst hl;simp at h41
              rw[b96 hg9 hl]at hS;simp only[agS]at hS;refine qD (c5 O a4c o4 (N7 hT hm hW [44] (q:=0) (s:=kg5 ph) a1n) O ?_);rintro⟨n2,a4,e2⟩ ⟨q2,y2⟩;dsimp only at q2 y2⊢;refine qN [rbx T n2 a4 e2 ps b2 (kg5 ph),ot1 ph e2 b2.length,.dead,.box [(iv (3)),(iv (0)),(iv (0)),(sv s1),.list (l.map icv) (gnn l.length) (G9 l.length 5)],ot2 ph e2 b2.length,p7 l.length] a0o ?_;refine d4R ?_;refine chf O (c7 O c2o) ?_;refine a5R ?_;refine chf O (c7 O r6) ?_;refine G4 ?_;refine B9 O O O (c5 O b7n j7 (hE g J (d+1) n2 a4 e2 b2 y2 bY J (λh0=>by have:=K0 q2 h0;omega) _ 0 (kg5 ph) a1n) O ?_);rintro⟨x3,n3,a3,e3,b3⟩ ⟨k3,y3,w3,z3,l3,u3⟩;dsimp only at k3 y3 w3 z3 l3 u3⊢;have eJ:=X5 l x3;have dW:e3=0->m<n3/\n<n3/\(l++[x3]).length<=n3/\8*(T.length -n3)+7<=g:=λh0=>by have:=z3 h0;have hq:=K0 q2 (k3.alive h0).1;omega
              have da:(if e3=0 then T.length -n3+1 else 0)< (if(0:Int)=0 then T.length -m+1 else 0):=by
               rw[W O]
               split
               .rename_i h0;have:=dW h0;omega
               .omega
              have dv:(l++[x3]).length<=T.length/\g<=f:=by omega
              have aP:=b5J hS q2 k3;refine a69 [rbx T n3 a3 e3 ps b3 6,.dead,.dead,.box [(iv (3)),(iv (0)),(iv (0)),(sv s1),.list (l.map icv) (gnn l.length) (G9 l.length 5)],.dead,p7 l.length,o9 e3 b3.length] a0o ?_;refine d5U ?_;refine B9 O O O (D6 O D D O Q q_3 t_3 t_1 c5r t_6 O (.inr O) q_8 b3i G0 ((l++[x3]).map icv) (l++[x3]).length Q Q ?_);refine⟨D,?_⟩;refine d5D ?_;refine a8r ?_;exact⟨⟨l++[x3],n3,a3,e3,b3,true,g⟩,[0,1,2,3,6,7],⟨da,λh0=>(aP.1 h0).2.elim λj hj=>⟨by rw[hj.2,<- hj.1],(dW h0).2⟩,aP.2,y3,w3,dv⟩,⟨O,O⟩,ut_,⟨.inr ⟨_,O,.box ⟨.old a1c,.old (.val _),.old (.val _),.old (.val _),.old M8,a0d O,.old a21,D⟩⟩,.inl O,.inl O,.inr ⟨_,O,.box ⟨.old (.val _),.old (.val _),.old (.val _),.old (.val _),D5.grow (f:=icv) (λ_=>⟨.val _,D⟩) O,D⟩⟩,.inr ⟨_,O,.same O V5⟩,.inr ⟨_,O,.same O F0⟩,D⟩⟩
             .have hl:l=[]:=by
               cases l with
               |nil=>rfl
               |cons x l=>simp at h41<;>omega
              subst hl;rw[b5F hg9]at hS;simp only[agS]at hS;have q2:Ok 0 (some m) 0 m:=.some;refine d4R ?_;refine chf O (c7 O c2o) ?_;refine a5R ?_;refine chf O (c7 O r6) ?_;refine G4 ?_;refine B9 O O O (c5 O b7n j7 (hE g J (d+1) m a2 0 b2 hm bY J (λ_=>by omega) _ 0 (kg5 ph) a1n) O ?_);rintro⟨x3,n3,a3,e3,b3⟩ ⟨k3,y3,w3,z3,l3,u3⟩;dsimp only at k3 y3 w3 z3 l3 u3⊢;have eJ:=X5 ([]:List Int) x3;have dW:e3=0->m<n3/\n<n3/\(([]:List Int)++[x3]).length<=n3/\8*(T.length -n3)+7<=g:=λh0=>by have:=z3 h0;omega
              have da:(if e3=0 then T.length -n3+1 else 0)< (if(0:Int)=0 then T.length -m+1 else 0):=by
               rw[W O]
               split
               .rename_i h0;have:=dW h0;omega
               .omega
              have dv:(([]:List Int)++[x3]).length<=T.length/\g<=f:=by omega
              have aP:=b5J hS q2 k3;refine a69 [rbx T n3 a3 e3 ps b3 6,.dead,.dead,.box [(iv (3)),(iv (0)),(iv (0)),(sv s1),.list ([].map icv) (gnn ([]:List Int).length) (G9 ([]:List Int).length 5)],.dead,p7 ([]:List Int).length,o9 e3 b3.length] a0o ?_;refine d5U ?_;refine B9 O O O (D6 O D D O Q q_3 t_3 t_1 c5r t_6 O (.inr O) q_8 b3i G0 (([]++[x3]).map icv) ([]++[x3]).length Q Q ?_);refine⟨D,?_⟩;refine d5D ?_;refine a8r ?_;exact⟨⟨[]++[x3],n3,a3,e3,b3,true,g⟩,[0,1,2,3,6,7],⟨da,λh0=>(aP.1 h0).2.elim λj hj=>⟨by rw[hj.2,<- hj.1],(dW h0).2⟩,aP.2,y3,w3,dv⟩,⟨O,O⟩,ut_,⟨.inr ⟨_,O,.box ⟨.old a1c,.old (.val _),.old (.val _),.old (.val _),.old M8,a0d O,.old a21,D⟩⟩,.inl O,.inl O,.inr ⟨_,O,.box ⟨.old (.val _),.old (.val _),.old (.val _),.old (.val _),D5.grow (f:=icv) (λ_=>⟨.val _,D⟩) O,D⟩⟩,.inr ⟨_,O,.same O V5⟩,.inr ⟨_,O,.same O F0⟩,D⟩⟩
            .have iT:v9=true:=H h40;obtain⟨_,hq9⟩:=T8 (eN.symm.trans iT);have bH:=gv iT;subst m9;rw[c38 hq9,n_7]at hS;refine l9 ?_;refine qD (c5 O a4d B7 (N5 bY ⟨3,0,0,s1,l⟩ _ (q:=0) (s:=kg5 ph) a1n) O ?_);rintro⟨x6,a6,e6,b6⟩ ⟨k6,w6,l6,u6⟩;dsimp only at k6 w6 l6 u6⊢;refine qN [rbx T (m+1) a6 e6 ps b6 6,.dead,.dead,.box [(iv (3)),(iv (0)),(iv (0)),(sv s1),.list (l.map icv) (gnn l.length) (G9 l.length 5)],.dead,p7 l.length,o9 e6 b6.length] a0o ?_;refine c6 ?_;exact⟨_,rE1,(by exact⟨⟨x6,m+1,a6,e6,b6⟩,T4 (k:=6) O O U (.val _),⟨by rw[hS];exact a1Z k6,do_,w6,λh0=>by dsimp only;omega,l6,u6⟩⟩)⟩
           .
            refine qo (qG a4a ?_);refine V S6 ?_;refine qC ?_ ?_<;>intro h42
            .have he:e≠0:=H hg;simp[he]at h42
            .have he:e≠0:=H hg;refine l9 ?_;refine qD (c5 O a4d B7 (N5 bY ⟨3,0,0,s1,l⟩ _ (q:=0) (s:=kg5 ph) a1n) O ?_);rintro⟨x6,a6,e6,b6⟩ ⟨k6,w6,l6,u6⟩;dsimp only at k6 w6 l6 u6⊢;refine qN [rbx T m a6 e6 ps b6 6,.dead,.dead,.box [(iv (3)),(iv (0)),(iv (0)),(sv s1),.list (l.map icv) (gnn l.length) (G9 l.length 5)],.dead,p7 l.length,o9 e6 b6.length] a0o ?_;refine c6 ?_;exact⟨_,rE1,(by exact⟨⟨x6,m,a6,e6,b6⟩,T4 (k:=6) O O U (.val _),.dead (λ_=>hN he) (k6.2 he) hm w6 ⟨l6,u6⟩⟩)⟩
theorem c3Y(hc:a0j T ps)(Jg:∀g,g<f0->REC T ps g):RFC T ps f0:=λd n at_ b hn hb hd hf σ q s au=>by
 obtain⟨f,rfl⟩:∃f,f0=f+1:=⟨f0-1,J⟩;exact a18 (c:=λa:RX=>(iv a.x)) (N:=λa=>a.n) (A:=λa=>a.at_) (E:=λa=>a.e) (B:=λa=>a.b) (λ_ h=>by simp at h;subst h;exact .val _) (λ_=>.val _) (b9Y hc (λg hg=>Jg g J) d n at_ b hn hb hd hf) au
theorem d7l(hc:a0j T ps):∀f,REC T ps f/\RSC T ps f/\RTC T ps f/\RFC T ps f:=λf=>by
 induction f using Nat.strongRecOn with
 |ind f Jg=>
  exact⟨d2O hc λg hg=>⟨(Jg g hg).1,(Jg g hg).2.1⟩,d6F hc λg hg=>(Jg g hg).2.2.1,d1E hc λg hg=>(Jg g hg).2.2.2,c3Y hc λg hg=>(Jg g hg).1⟩
end Go.Proofs.YtlppbmfecjabeaaGreatDoor
