import Derived.Test.YtbceaajfhcgnjaaGreatDoorBF1
namespace Go.Plain.Clock
structure Tree (n:Nat) (par:Nat->Nat) (D:Nat->Nat) (E:Nat):Prop where
 pos:0<n
 lt:∀v,v<n->v≠0->par v<n
 dep:∀v,v<n->v≠0->D v=D (par v)+1
 root:D 0=0
 top:∀v,v<n->D v<=E
variable {n:Nat} {par:Nat->Nat} {D:Nat->Nat} {E:Nat} {x:Nat->Int} {s p:Nat->Bool}
def child (n:Nat) (par:Nat->Nat) (v c:Nat):Prop:=c<n/\c≠0/\par c=v
def dif (par:Nat->Nat) (x:Nat->Int) (v:Nat):Prop:=x v≠x (par v)
def en (n:Nat) (par:Nat->Nat) (x:Nat->Int) (v:Nat):Prop:=(∀c,child n par v c->¬ dif par x c)/\(v≠0->dif par x v)
def st (par:Nat->Nat) (s:Nat->Bool) (x:Nat->Int):Nat->Int:=fun v=>if s v=true then (if v=0 then (x 0+1) % 4 else x (par v)) else x v
def df (par:Nat->Nat) (x:Nat->Int) (v:Nat):Int:=(x (par v)-x v) % 4
def bad (par:Nat->Nat) (x:Nat->Int) (v:Nat):Prop:=1<df par x v
structure Ch (n:Nat) (par:Nat->Nat) (x:Nat->Int) (s:Nat->Bool):Prop where
 en:∀v,s v=true->v<n/\en n par x v
theorem bad_dif {v:Nat} (h:bad par x v):dif par x v:=fun e=>by
 rw[bad,df,e,Int.sub_self,Int.zero_emod] at h;omega
theorem par_rests (hc:Ch n par x s) {v:Nat} (hv:v<n) (h0:v≠0) (hd:dif par x v):s (par v)=false:=by
 cases e:s (par v) with
 | false=>rfl
 | true=>exact((hc.en _ e).2.1 v ⟨hv,h0,rfl⟩ hd).elim
theorem keep (hc:Ch n par x s) {v:Nat} (hv:v<n) (h0:v≠0) (hd:dif par x v) (hs:s v=false):dif par (st par s x) v:=by
 rw[dif,st,st,par_rests hc hv h0 hd,hs];exact hd
theorem fall (hc:Ch n par x s) {v:Nat} (h0:v≠0) (hd:¬ dif par x v) (hp:s (par v)=false):¬ dif par (st par s x) v:=by
 have hs:s v=false:=by
  cases e:s v with
  | false=>rfl
  | true=>exact(hd ((hc.en v e).2.2 h0)).elim
 rw[dif,st,st,hp,hs];exact hd
theorem moved (hc:Ch n par x s) {v:Nat} (hv:v<n) (h0:v≠0) (hs:s v=true):¬ dif par (st par s x) v:=by
 have hd:=(hc.en v hs).2.2 h0;rw[dif,st,st,par_rests hc hv h0 hd,if_pos hs,if_neg h0];simp
def Cert (n:Nat) (par:Nat->Nat) (x:Nat->Int) (p:Nat->Bool):Nat->Nat->Prop
 | 0,_=>False
 | 1,v=>p v=true/\∀c,child n par v c->¬ dif par x c
 | j+2,v=>∀c,child n par v c->dif par x c->Cert n par x p (j+1) c
theorem Cert.step (hT:Tree n par D E) (hc:Ch n par x s) {p':Nat->Bool} (hp:∀v,v<n->p v=true->s v=false->en n par (st par s x) v->p' v=true) :
 ∀(j v:Nat),v<n->v≠0->dif par x v->s v=false->Cert n par x p j v->Cert n par (st par s x) p' j v
 | 0,_,_,_,_,_,h=>h
 | 1,v,hv,h0,hd,hs,h=>by
   have hch:∀c,child n par v c->¬ dif par (st par s x) c:=fun c hcc=>fall hc hcc.2.1 (h.2 c hcc) (by rw[hcc.2.2];exact hs);exact⟨hp v hv h.1 hs ⟨hch,fun _=>keep hc hv h0 hd hs⟩,hch⟩
 | j+2,v,hv,h0,hd,hs,h=>by
   intro c hcc hdc;have hd0:dif par x c:=Classical.byContradiction fun q=>fall hc hcc.2.1 q (by rw[hcc.2.2];exact hs) hdc;have hsc:s c=false:=by
    cases e:s c with
    | false=>rfl
    | true=>exact(moved hc hcc.1 hcc.2.1 e hdc).elim
   exact Cert.step hT hc hp (j+1) c hcc.1 hcc.2.1 hd0 hsc (h c hcc hd0)
theorem Cert.round {q:Nat->Bool} (hz:∀v,v<n->p v=false) (hq:∀v,v<n->en n par x v->q v=true):∀(j v:Nat),v<n->v≠0->dif par x v->Cert n par x p (j+1) v->Cert n par x q j v
 | 0,v,hv,_,_,h=>by have:=h.1;rw[hz v hv] at this;cases this
 | 1,v,hv,h0,hd,h=>by
   have hch:∀c,child n par v c->¬ dif par x c:=fun c hcc hdc=>by
    have:=(h c hcc hdc).1;rw[hz c hcc.1] at this;cases this
   exact⟨hq v hv ⟨hch,fun _=>hd⟩,hch⟩
 | j+2,v,hv,h0,hd,h=>fun c hcc hdc=>Cert.round hz hq (j+1) c hcc.1 hcc.2.1 hdc (h c hcc hdc)
theorem Cert.start (hT:Tree n par D E) (hq:∀v,v<n->en n par x v->p v=true):∀(j v:Nat),v<n->v≠0->dif par x v->D v+j=E+1->Cert n par x p j v
 | 0,v,hv,_,_,h=>by have:=hT.top v hv;omega
 | 1,v,hv,h0,hd,h=>by
   have hch:∀c,child n par v c->¬ dif par x c:=fun c hcc _=>by
    have h1:=hT.dep c hcc.1 hcc.2.1;have h2:=hT.top c hcc.1;rw[hcc.2.2] at h1;omega
   exact⟨hq v hv ⟨hch,fun _=>hd⟩,hch⟩
 | j+2,v,hv,h0,hd,h=>fun c hcc hdc=>Cert.start hT hq (j+1) c hcc.1 hcc.2.1 hdc (by
   have h1:=hT.dep c hcc.1 hcc.2.1;rw[hcc.2.2] at h1;omega)
theorem bad_back (hT:Tree n par D E) (hc:Ch n par x s) (hx:∀v,v<n->0<=x v/\x v<=3) {v:Nat} (hv:v<n) (h0:v≠0) (hb:bad par (st par s x) v):(bad par x v/\s v=false)\/(par v≠0/\bad par x (par v)):=by
 have hd:=bad_dif hb;have hs:s v=false:=by
  cases e:s v with
  | false=>rfl
  | true=>exact(moved hc hv h0 e hd).elim
 cases e:s (par v) with
 | false =>
   left;rw[bad,df,st,st,e,hs] at hb;exact⟨hb,hs⟩
 | true =>
   have hpn:=hT.lt v hv h0;have hxe:x v=x (par v):=Classical.byContradiction fun q=>(hc.en _ e).2.1 v ⟨hv,h0,rfl⟩ q;simp only[bad,df,st,e,hs,if_true,Bool.false_eq_true,if_false] at hb;by_cases q:par v=0
   . exfalso;rw[if_pos q,hxe,q] at hb;have:=hx 0 hT.pos;omega
   . right;rw[if_neg q,hxe] at hb;exact⟨q,hb⟩
def tri:Nat->Nat
 | 0=>0
 | k+1=>tri k+k
structure Lev (n:Nat) (par:Nat->Nat) (D:Nat->Nat) (E:Nat) (x:Nat->Int) (p:Nat->Bool) (R r:Nat) (i j:Nat):Prop where
 i1:1<=i
 j1:1<=j
 up:∀v,v<n->v≠0->D v<i->¬ bad par x v
 at_:∀v,v<n->v≠0->D v=i->bad par x v->Cert n par x p j v
 ij:i+j<=E+1
 bud:r+tri (E+1-i)+j<=R+tri (E+1)
theorem dep_pos (hT:Tree n par D E) {v:Nat} (hv:v<n) (h0:v≠0):1<=D v:=by have:=hT.dep v hv h0;omega
theorem Lev.start (hT:Tree n par D E) (hE:1<=E) (hq:∀v,v<n->en n par x v->p v=true) {R r:Nat} (hr:r<=R):Lev n par D E x p R r 1 E :=
 ⟨Nat.le_refl _,hE,fun v hv h0 h=>by have:=dep_pos hT hv h0;omega,fun v hv h0 h hb=>Cert.start hT hq E v hv h0 (bad_dif hb) (by omega),by omega,by
   rw[show E+1-1=E by omega,tri];omega⟩
theorem Lev.step (hT:Tree n par D E) (hc:Ch n par x s) (hx:∀v,v<n->0<=x v/\x v<=3) {p':Nat->Bool} {R r i j:Nat} (h:Lev n par D E x p R r i j)
 (hp:∀v,v<n->p v=true->s v=false->en n par (st par s x) v->p' v=true):Lev n par D E (st par s x) p' R r i j:=by
 refine⟨h.i1,h.j1,fun v hv h0 hi hb=>?_,fun v hv h0 hi hb=>?_,h.ij,h.bud⟩
 . rcases bad_back hT hc hx hv h0 hb with ⟨q,_⟩ | ⟨q1,q2⟩
   . exact h.up v hv h0 hi q
   . exact h.up (par v) (hT.lt v hv h0) q1 (by have:=hT.dep v hv h0;omega) q2
 . rcases bad_back hT hc hx hv h0 hb with ⟨q,q2⟩ | ⟨q1,q2⟩
   . exact Cert.step hT hc hp j v hv h0 (bad_dif q) q2 (h.at_ v hv h0 hi q)
   . exact(h.up (par v) (hT.lt v hv h0) q1 (by have:=hT.dep v hv h0;omega) q2).elim
theorem Lev.round (hT:Tree n par D E) {q:Nat->Bool} {R r i j:Nat} (h:Lev n par D E x p R r i j) (hz:∀v,v<n->p v=false) (hq:∀v,v<n->en n par x v->q v=true) (hb:∃v,v<n/\v≠0/\bad par x v) :
 ∃i' j',Lev n par D E x q R (r+1) i' j':=by
 by_cases h1:j=1
 . subst h1;have no:∀v,v<n->v≠0->D v<i+1->¬ bad par x v:=fun v hv h0 hi hbv=>by
    by_cases e:D v=i
    . have:=(h.at_ v hv h0 e hbv).1;rw[hz v hv] at this;cases this
    . exact h.up v hv h0 (by omega) hbv
   obtain⟨v,hv,h0,hbv⟩:=hb;have hiE:i+1<=E:=by
    have:=hT.top v hv;apply Classical.byContradiction;intro hne;exact no v hv h0 (by omega) hbv
   have hbud:=h.bud;refine⟨i+1,E-i,by omega,by omega,no,fun v hv h0 hi hbv=>Cert.start hT hq (E-i) v hv h0 (bad_dif hbv) (by omega),by omega,?_⟩;have e:E+1-i=(E+1-(i+1))+1:=by omega
   rw[e,tri] at hbud;omega
 . have hj:=h.j1;obtain⟨k,rfl⟩:∃k,j=k+1:=⟨j-1,by omega⟩;have hbud:=h.bud;have hij:=h.ij;exact⟨i,k,h.i1,by omega,h.up,fun v hv h0 hi hbv=>Cert.round hz hq k v hv h0 (bad_dif hbv) (h.at_ v hv h0 hi hbv),by omega,by omega⟩
end Go.Plain.Clock
namespace Go.Proofs.YtbceaajfhcgnjaaGreatDoor
open Go.Eng
set_option maxRecDepth 100000
set_option linter.unusedVariables false
theorem treeB_tk (g:G) (c:Cf):treeB g (tkC c)=treeB g c:=by
 rw[Bool.eq_iff_iff,treeB_iff,treeB_iff,tkC_len];refine⟨fun h v hv=>?_,fun h v hv=>?_⟩
 . have:=h v hv
   rwa[tkC_row,gI_take2 _ 0 (by omega),gI_take2 _ 1 (by omega)] at this
 . rw[tkC_row,gI_take2 _ 0 (by omega),gI_take2 _ 1 (by omega)];exact h v hv
theorem csmall_tk {c:Cf} (h:CSmall c):CSmall (tkC c):=by
 refine⟨by rw[tkC_len];exact h.len,fun r hr=>?_⟩;obtain⟨a,ha,rfl⟩:=List.mem_map.1 hr;have:=h.rows a ha;rw[List.length_take];omega
end Go.Proofs.YtbceaajfhcgnjaaGreatDoor
namespace Go.Proofs.YtbceaajfhcgnjaaGreatDoor
open Go.Eng
set_option maxRecDepth 100000
set_option linter.unusedVariables false
end Go.Proofs.YtbceaajfhcgnjaaGreatDoor
namespace Go.Plain.Wave
open Go.Plain.Clock
variable {n:Nat} {par:Nat->Nat} {D:Nat->Nat} {E:Nat} {s b s' b' m p:Nat->Bool}
def ord (par:Nat->Nat) (s b:Nat->Bool) (v:Nat):Prop:=s (par v)=true\/(s v=s (par v)/\b v=b (par v))
def tk (par:Nat->Nat) (s b:Nat->Bool) (v:Nat):Prop:=b (par v)≠b v\/(s v=true/\s (par v)=false)
def fin (n:Nat) (par:Nat->Nat) (s b:Nat->Bool) (v:Nat):Prop:=s v=true/\∀u,child n par v u->s u=false/\b u=b v
def en (n:Nat) (par:Nat->Nat) (s b:Nat->Bool) (v:Nat):Prop:=if v=0 then s 0=false\/fin n par s b 0 else tk par s b v\/fin n par s b v
structure Ch (n:Nat) (par:Nat->Nat) (s b m s' b':Nat->Bool):Prop where
 lt:∀v,m v=true->v<n
 rest:∀v,v<n->m v=false->s' v=s v/\b' v=b v
 root:m 0=true->(s 0=false/\s' 0=true/\b' 0=!b 0)\/(fin n par s b 0/\s' 0=false/\b' 0=b 0)
 oth:∀v,m v=true->v≠0->(tk par s b v/\s' v=s (par v)/\b' v=b (par v))\/(¬ tk par s b v/\fin n par s b v/\s' v=false/\b' v=b v)
theorem not_ord {v:Nat} (h:¬ ord par s b v):tk par s b v:=by
 rw[ord,not_or] at h;rw[tk];revert h;generalize s (par v)=a;generalize b (par v)=c;cases a<;>cases c<;>cases s v<;>cases b v<;>simp
theorem ord_step (hT:Tree n par D E) (hc:Ch n par s b m s' b') {v:Nat} (hv:v<n) (h0:v≠0) (hu:par v≠0->ord par s b (par v)) (h:ord par s b v\/m v=true):ord par s' b' v:=by
 have hun:=hT.lt v hv h0;have hch:child n par (par v) v:=⟨hv,h0,rfl⟩
 -- the parent finishes: the child is as it,and rests
 have hfin:fin n par s b (par v)->s' (par v)=false->b' (par v)=b (par v)->ord par s' b' v:=fun hf e1 e2=>by
  obtain⟨c1,c2⟩:=hf.2 v hch;have hm:m v=false:=by
   cases e:m v with
   | false=>rfl
   | true =>
     rcases hc.oth v e h0 with ⟨q,_⟩ | ⟨_,q,_⟩
     . rcases q with q|q
       . exact(q c2.symm).elim
       . rw[c1] at q;exact(Bool.noConfusion q.1)
     . rw[fin,c1] at q;exact(Bool.noConfusion q.1)
  obtain⟨r1,r2⟩:=hc.rest v hv hm;exact .inr ⟨by rw[r1,c1,e1],by rw[r2,c2,e2]⟩
 cases em:m (par v) with
 | false =>
   obtain⟨r1,r2⟩:=hc.rest _ hun em;cases ev:m v with
   | false =>
     obtain⟨q1,q2⟩:=hc.rest v hv ev;rcases h with h|h
     . rw[ord,r1,r2,q1,q2];exact h
     . rw[ev] at h;cases h
   | true =>
     rcases hc.oth v ev h0 with ⟨_,q1,q2⟩ | ⟨q0,qf,_⟩
     . exact .inr ⟨by rw[q1,r1],by rw[q2,r2]⟩
     . left;rw[r1];cases e:s (par v) with
       | true=>rfl
       | false=>exact(q0 (.inr ⟨qf.1,e⟩)).elim
 | true =>
   by_cases e0:par v=0
   . rw[e0] at em hfin;rcases hc.root em with ⟨_,q,_⟩ | ⟨q,q1,q2⟩
     . left;rw[e0];exact q
     . exact hfin q q1 q2
   . rcases hc.oth _ em e0 with ⟨q,q1,_⟩ | ⟨_,q,q1,q2⟩
     . left;rw[q1];cases e:s (par (par v)) with
       | true=>rfl
       | false =>
         rcases hu e0 with hx | ⟨x1,x2⟩
         . rw[e] at hx;cases hx
         . rcases q with q|q
           . exact(q x2.symm).elim
           . rw[x1,e] at q;exact(Bool.noConfusion q.1)
     . exact hfin q q1 q2
def okUp (n:Nat) (par:Nat->Nat) (D:Nat->Nat) (s b:Nat->Bool) (k:Nat):Prop:=∀v,v<n->v≠0->D v<=k->ord par s b v
theorem okUp.step (hT:Tree n par D E) (hc:Ch n par s b m s' b') {k:Nat} (h:okUp n par D s b k):okUp n par D s' b' k:=fun v hv h0 hd =>
 ord_step hT hc hv h0 (fun e=>h _ (hT.lt v hv h0) e (by have:=hT.dep v hv h0;omega)) (.inl (h v hv h0 hd))
structure Lev (n:Nat) (par:Nat->Nat) (D:Nat->Nat) (s b p:Nat->Bool) (j:Nat):Prop where
 ok:okUp n par D s b j
 pend:∀v,v<n->v≠0->D v=j+1->¬ ord par s b v->p v=true
theorem not_en {v:Nat} (h0:v≠0) (h:¬ ord par s b v):en n par s b v:=by rw[en,if_neg h0];exact .inl (not_ord h)
theorem Lev.start (hT:Tree n par D E) (hp:∀v,v<n->en n par s b v->p v=true):Lev n par D s b p 0 :=
 ⟨fun v hv h0 hd=>by have:=hT.dep v hv h0;omega,fun v hv h0 _ ho=>hp v hv (not_en h0 ho)⟩
theorem Lev.step (hT:Tree n par D E) (hc:Ch n par s b m s' b') {j:Nat} (h:Lev n par D s b p j) {p':Nat->Bool} (hp:∀v,v<n->p v=true->m v=false->en n par s' b' v->p' v=true):Lev n par D s' b' p' j :=
 ⟨h.ok.step hT hc,fun v hv h0 hd ho=>by
   have key:=fun q=>ord_step hT hc hv h0 (fun e=>h.ok _ (hT.lt v hv h0) e (by have:=hT.dep v hv h0;omega)) q;refine hp v hv (h.pend v hv h0 hd fun q=>ho (key (.inl q))) ?_ (not_en h0 ho);cases e:m v with
   | false=>rfl
   | true=>exact(ho (key (.inr e))).elim⟩
theorem Lev.round {j:Nat} (h:Lev n par D s b p j) (hz:∀v,v<n->p v=false) {q:Nat->Bool} (hq:∀v,v<n->en n par s b v->q v=true):Lev n par D s b q (j+1) :=
 ⟨fun v hv h0 hd=>by
   by_cases e:D v=j+1
   . exact Classical.byContradiction fun ho=>by have:=h.pend v hv h0 e ho;rw[hz v hv] at this;cases this
   . exact h.ok v hv h0 (by omega),fun v hv h0 _ ho=>hq v hv (not_en h0 ho)⟩
end Go.Plain.Wave
namespace Go.Proofs.YtbceaajfhcgnjaaGreatDoor
open Go.Eng
set_option maxRecDepth 100000
set_option linter.unusedVariables false
def qpT:Tm:=.bin 35 (.leaf 11 0) (.leaf 5 1)
def takeC:Tm:=.bin 42 (.bin 36 (.leaf 12 3) (.leaf 5 3)) (.bin 41 (.leaf 5 2) (.un 19 (.leaf 12 2)))
def begG:Tm:=.bin 41 (.leaf 10 0) (.un 19 (.leaf 5 2))
def takeG:Tm:=.bin 41 (.un 19 (.leaf 10 0)) (.agg 21 (.bin 41 qpT takeC))
def finC:Tm:=.bin 41 (.un 19 (.leaf 12 2)) (.bin 35 (.leaf 12 3) (.leaf 5 3))
def finG:Tm:=.bin 41 (.leaf 5 2) (.agg 20 (.bin 42 (.bin 36 (.leaf 12 1) (.leaf 17 0)) finC))
def takeT (x:Int):Tm:=.agg 21 (.bin 41 qpT (.leaf 12 x))
def vWv:List Vr:=[⟨ByteArray.mk #[100],1,0,0,1,0⟩,⟨ByteArray.mk #[112],3,0,0,0,0⟩,⟨ByteArray.mk #[115],2,0,0,0,0⟩,⟨ByteArray.mk #[98],2,0,0,0,0⟩]
def pWav:Pr:=⟨ByteArray.mk #[119,97,118,101],vWv,[⟨ByteArray.mk #[116,111,112],topG,[(0,.leaf 1 0),(1,.leaf 4 0)]⟩,
 ⟨ByteArray.mk #[108,111,119],lowG,[(0,dTm),(1,pTm)]⟩,
 ⟨ByteArray.mk #[98,101,103,105,110],begG,[(2,.leaf 2 0),(3,.un 19 (.leaf 5 3))]⟩,
 ⟨ByteArray.mk #[116,97,107,101],takeG,[(2,takeT 2),(3,takeT 3)]⟩,
 ⟨ByteArray.mk #[102,105,110,105,115,104],finG,[(2,.leaf 3 0)]⟩]⟩
theorem wav_rng {g:G} {c:Cf} (h:Conf pWav g c) {v:Nat} (hv:v<g.ids.length):(gC c v).length=4/\0<=dC c v/\dC c v<=g.ids.length/\-1<=pC c v/\pC c v<=((gR g.ports v).length:Int)-1/\(0<=gI (gC c v) 2/\gI (gC c v) 2<=1)/\0<=gI (gC c v) 3/\gI (gC c v) 3<=1:=by
 have hl:v<c.length:=by rw[h.len];exact hv
 have h0:=h.val v hl 0 (by decide);have h1:=h.val v hl 1 (by decide);have h2:=h.val v hl 2 (by decide);have h3:=h.val v hl 3 (by decide);have e0:bnd g (gV pWav.vars 0) v=(0,0+1*(g.ids.length:Int)+0*topI g):=rfl;have e1:bnd g (gV pWav.vars 1) v=(-1,((gR g.ports v).length:Int)-1):=rfl;have e2:bnd g (gV pWav.vars 2) v=(0,1):=rfl;have e3:bnd g (gV pWav.vars 3) v=(0,1):=rfl;rw[e0] at h0;rw[e1] at h1;rw[e2] at h2;rw[e3] at h3;obtain⟨a1,a2⟩:=h0;obtain⟨b1,b2⟩:=h1;simp only at a1 a2 b1 b2;exact⟨h.row v hl,a1,by show gI (gC c v) 0<=_;omega,b1,b2,h2,h3⟩
theorem wav_nn {g:G} {c:Cf} (hc:Conf pWav g c):∀v,v<g.ids.length->0<=dC c v:=fun v hv=>(wav_rng hc hv).2.1
end Go.Proofs.YtbceaajfhcgnjaaGreatDoor
namespace Go.Proofs.YtbceaajfhcgnjaaGreatDoor
open Go.Eng
set_option maxRecDepth 100000
set_option linter.unusedVariables false
def stW (c:Cf):Go.Plain.Tree.St:=⟨dC c,pC c⟩
theorem off_iffW {g:G} {c:Cf} {v:Nat}:Go.Plain.Tree.off (tgB g) (stW c) v↔offB g c v=true:=by
 rw[offB,decide_eq_true_eq];exact Iff.rfl
theorem wav_gds (g:G) (c:Cf) (v:Nat):gds pWav g c v=[topG.sem g c v (-1),lowG.sem g c v (-1),begG.sem g c v (-1),takeG.sem g c v (-1),finG.sem g c v (-1)]:=rfl
theorem wav_off {g:G} (hg:g.valid=true) {c:Cf} (hc:Conf pWav g c) {v:Nat} (hv:v<g.ids.length) (ho:offB g c v=true):ruleI pWav g c v=if v=0 then 0 else 1:=by
 rw[ruleI,wav_gds,top_sem,low_sem hg (wav_nn hc) hv,ho];by_cases h0:v=0
 . rw[decide_eq_true h0,if_pos h0];rfl
 . rw[decide_eq_false h0,if_neg h0];rfl
theorem wav_noff {g:G} (hg:g.valid=true) {c:Cf} (hc:Conf pWav g c) {v:Nat} (hv:v<g.ids.length) (ho:offB g c v=false):ruleI pWav g c v=if begG.sem g c v (-1)≠0 then 2 else if takeG.sem g c v (-1)≠0 then 3 else if finG.sem g c v (-1)≠0 then 4 else -1:=by
 rw[ruleI,wav_gds,top_sem,low_sem hg (wav_nn hc) hv,ho,Bool.and_false,Bool.and_false];rfl
theorem wv0 (g:G) (c:Cf) (v:Nat):moveL pWav g c v 0=((gC c v).set 0 (brI 1 0 (0+1*(g.ids.length:Int)+0*topI g) 0)).set 1 (brI 3 (-1) (((gR g.ports v).length:Int)-1) (-1)):=rfl
theorem wv1 (g:G) (c:Cf) (v:Nat):moveL pWav g c v 1=((gC c v).set 0 (brI 1 0 (0+1*(g.ids.length:Int)+0*topI g) (dTm.sem g c v (-1)))).set 1 (brI 3 (-1) (((gR g.ports v).length:Int)-1) (pTm.sem g c v (-1))):=rfl
theorem wv2 (g:G) (c:Cf) (v:Nat):moveL pWav g c v 2=((gC c v).set 2 (brI 2 0 1 1)).set 3 (brI 2 0 1 (truI (decide (gI (gC c v) 3=0)))):=rfl
theorem wv3 (g:G) (c:Cf) (v:Nat):moveL pWav g c v 3=((gC c v).set 2 (brI 2 0 1 ((takeT 2).sem g c v (-1)))).set 3 (brI 2 0 1 ((takeT 3).sem g c v (-1))):=rfl
theorem wv4 (g:G) (c:Cf) (v:Nat):moveL pWav g c v 4=(gC c v).set 2 (brI 2 0 1 0):=rfl
theorem brW_val {k lo hi a:Int} (h:lo<=a/\a<=hi):brI k lo hi a=a:=by rw[brI,if_pos h]
theorem tgB_rngW {g:G} (hg:g.valid=true) {c:Cf} (hc:Conf pWav g c) {v:Nat} (hv:v<g.ids.length) (h0:v≠0):0<=(tgB g (dC c) v).1/\(tgB g (dC c) v).1<=g.ids.length/\-1<=(tgB g (dC c) v).2/\(tgB g (dC c) v).2<=((gR g.ports v).length:Int)-1:=by
 have hm:=mn_nn (wav_nn hc) hg hv;have hf:=fpI_range (fun l=>decide (dC c l.1.toNat=mnD g (dC c) v)) (gR g.ports v) 0;rw[tgB,if_neg h0];simp only;split<;>omega
theorem wv_keep {g:G} {c:Cf} {v:Nat} (hlen:(gC c v).length=4) {r:Int} (hr:r=2\/r=3\/r=4):gI (moveL pWav g c v r.toNat) 0=dC c v/\gI (moveL pWav g c v r.toNat) 1=pC c v:=by
 rcases hr with rfl|rfl|rfl
 . rw[show(2:Int).toNat=2 from rfl,wv2,gI_stx _ _ _ _ (by rw[List.length_set];omega),if_neg (by decide),gI_stx _ _ _ _ (by omega),if_neg (by decide),gI_stx _ _ _ _ (by rw[List.length_set];omega),if_neg (by decide),gI_stx _ _ _ _ (by omega),if_neg (by decide)];exact⟨rfl,rfl⟩
 . rw[show(3:Int).toNat=3 from rfl,wv3,gI_stx _ _ _ _ (by rw[List.length_set];omega),if_neg (by decide),gI_stx _ _ _ _ (by omega),if_neg (by decide),gI_stx _ _ _ _ (by rw[List.length_set];omega),if_neg (by decide),gI_stx _ _ _ _ (by omega),if_neg (by decide)];exact⟨rfl,rfl⟩
 . rw[show(4:Int).toNat=4 from rfl,wv4,gI_stx _ _ _ _ (by omega),if_neg (by decide),gI_stx _ _ _ _ (by omega),if_neg (by decide)];exact⟨rfl,rfl⟩
theorem wav_step {g:G} (hg:g.valid=true) {c:Cf} (hc:Conf pWav g c) {s:Nat} (hs:Part s (enN pWav g c)):Go.Plain.Tree.Step g.ids.length (tgB g) (stW c) (fun v=>s.testBit v) (stW (stepC pWav g c s)):=by
 intro v hv;have hl:=hc.len;have hlen:=(wav_rng hc hv).1;have hrow:=stepC_row pWav g c s (v:=v) (by omega);refine⟨fun hb ho=>?_,fun hq=>?_⟩
 . rw[off_iffW] at ho;rw[if_pos hb,wav_off hg hc hv ho] at hrow;show(gI (gC (stepC pWav g c s) v) 0,gI (gC (stepC pWav g c s) v) 1)=tgB g (dC c) v;by_cases h0:v=0
   . rw[if_pos h0] at hrow;rw[hrow,show(0:Int).toNat=0 from rfl,wv0];rw[gI_stx _ _ _ _ (by rw[List.length_set];omega),if_neg (by decide),gI_stx _ _ _ _ (by omega),if_pos rfl,gI_stx _ _ _ _ (by rw[List.length_set];omega),if_pos rfl,tgB,if_pos h0,brW_val (by omega),brW_val (by omega)]
   . rw[if_neg h0] at hrow;obtain⟨r1,r2,r3,r4⟩:=tgB_rngW hg hc hv h0;rw[hrow,show(1:Int).toNat=1 from rfl,wv1,d_sem hg (wav_nn hc) hv h0,p_sem g c v h0];rw[gI_stx _ _ _ _ (by rw[List.length_set];omega),if_neg (by decide),gI_stx _ _ _ _ (by omega),if_pos rfl,gI_stx _ _ _ _ (by rw[List.length_set];omega),if_pos rfl,brW_val (by omega),brW_val (by omega)]
 . show gI (gC (stepC pWav g c s) v) 0=gI (gC c v) 0/\gI (gC (stepC pWav g c s) v) 1=gI (gC c v) 1;cases hb:s.testBit v with
   | false=>rw[hrow,hb];exact⟨rfl,rfl⟩
   | true =>
     have ho:offB g c v=false:=by
      rcases hq with q|q
      . exact absurd (hb.symm.trans q) (by simp)
      . rw[off_iffW] at q;simpa using q
     have hen:=hs v hb;rw[en_bit,Bool.and_eq_true,decide_eq_true_eq,decide_eq_true_eq] at hen;have hr:=wav_noff hg hc hv ho;rw[if_pos hb] at hrow;rw[hrow];refine wv_keep hlen ?_;have h5:=hen.2;rw[hr] at h5 ⊢;split
     . exact .inl rfl
     . split
       . exact .inr (.inl rfl)
       . split
         . exact .inr (.inr rfl)
         . rename_i a1 a2 a3;rw[if_neg a1,if_neg a2,if_neg a3] at h5;omega
end Go.Proofs.YtbceaajfhcgnjaaGreatDoor
namespace Go.Proofs.YtbceaajfhcgnjaaGreatDoor
open Go.Eng
set_option maxRecDepth 100000
set_option linter.unusedVariables false
def pjC (k:Nat) (c:Cf):Cf:=c.map fun r=>r.take k
theorem pjC_len (k:Nat) (c:Cf):(pjC k c).length=c.length:=by simp[pjC]
theorem pjC_row (k:Nat) (c:Cf) (v:Nat):gC (pjC k c) v=(gC c v).take k:=by
 simp only[gC,pjC,List.getD,List.getElem?_map];cases c[v]?<;>simp
theorem gI_takeK (l:List Int) (k i:Nat) (hi:i<k):gI (l.take k) i=gI l i:=by
 simp only[gI,List.getD,List.getElem?_take,hi,if_true]
structure PjI (k:Nat) (c:Cf) (v:Nat) (F:Nat->Nat->V):Prop where
 done:∀i,i<v->F i 0=.fz k 1 false (vI (gC c i))
 rest:∀i,v<=i->F i 0=.nilslice
def pjF (k:Nat) (c:Cf) (v:Nat) (F:Nat->Nat->V):Nat->Nat->V:=fun i j=>if i=v then .fz k 1 false (vI (gC c v)) else F i j
theorem PjI.next {k:Nat} {c:Cf} {v:Nat} {F:Nat->Nat->V} (h:PjI k c v F):PjI k c (v+1) (pjF k c v F) :=
 ⟨fun i hi=>by
   rw[pjF];by_cases e:i=v
   . subst e;rw[if_pos rfl]
   . rw[if_neg e];exact h.done i (by omega),fun i hi=>by rw[pjF,if_neg (by omega)];exact h.rest i (by omega)⟩
end Go.Proofs.YtbceaajfhcgnjaaGreatDoor
namespace Go.Proofs.YtbceaajfhcgnjaaGreatDoor
open Go.Eng
set_option maxRecDepth 100000
set_option linter.unusedVariables false
theorem pj_at (c:Cf) (v:Nat) {x:Nat} (hx:x<2):gI (gC (pjC 2 c) v) x=gI (gC c v) x:=by rw[pjC_row,gI_takeK _ _ _ hx]
theorem pj_d (c:Cf):dC (pjC 2 c)=dC c:=funext fun v=>pj_at c v (by omega)
theorem pj_p (c:Cf):pC (pjC 2 c)=pC c:=funext fun v=>pj_at c v (by omega)
theorem pj_off (g:G) (c:Cf) (v:Nat):offB g (pjC 2 c) v=offB g c v:=by rw[offB,offB,show pC (pjC 2 c) v=pC c v from congrFun (pj_p c) v,pj_d]
theorem pj_conf {g:G} {c:Cf} (h:Conf pWav g c):Conf pBfs g (pjC 2 c):=by
 have hl:=h.len;refine bfs_conf (by rw[pjC_len];exact hl) fun v hv=>?_;rw[pjC_len] at hv;obtain⟨a0,a1,a2,a3,a4,_,_⟩:=wav_rng h (v:=v) (by omega);refine⟨by rw[pjC_row,List.length_take];omega,?_⟩;rw[show dC (pjC 2 c) v=dC c v from congrFun (pj_d c) v,show pC (pjC 2 c) v=pC c v from congrFun (pj_p c) v];exact⟨a1,a2,a3,a4⟩
theorem pj_step {g:G} (hg:g.valid=true) {c:Cf} (hc:Conf pWav g c) {s:Nat} (hs:Part s (enN pWav g c)) :
 pjC 2 (stepC pWav g c s)=stepC pBfs g (pjC 2 c) (s &&& enN pBfs g (pjC 2 c)):=by
 have hl:=hc.len;have hp:=pj_conf hc;have hpl:=hp.len;have hw:=wav_step hg hc hs;have hb:=bfs_step hg hp (s:=s &&& enN pBfs g (pjC 2 c)) (fun v h=>by rw[Nat.testBit_and,Bool.and_eq_true] at h;exact h.2);refine conf_ext2 (by rw[pjC_len,stepC_len,stepC_len,pjC_len]) fun v hv=>?_;rw[pjC_len,stepC_len] at hv;have h4:(gC (stepC pWav g c s) v).length=4:=by
  have h4':=(wav_rng hc (v:=v) (by omega)).1;rw[stepC_row pWav g c s (v:=v) (by omega)];split
  . rw[moveL,putL_len];exact h4'
  . exact h4'
 have hrow:=stepC_row pBfs g (pjC 2 c) (s &&& enN pBfs g (pjC 2 c)) (v:=v) (by omega);have h2:=(bfs_rng hp (v:=v) (by omega)).1;have hr2:(gC (stepC pBfs g (pjC 2 c) (s &&& enN pBfs g (pjC 2 c))) v).length=2:=by
  rw[hrow];split
  . rw[moveL,putL_len];exact h2
  . exact h2
 refine⟨by rw[pjC_row,List.length_take];omega,hr2,?_⟩;rw[pj_at _ _ (by omega),pj_at _ _ (by omega)];obtain⟨w1,w2⟩:=hw v (by omega);obtain⟨b1,b2⟩:=hb v (by omega);have hen:=bfs_en hg hp (v:=v) (by omega);rw[pj_off] at hen;have e0:dC (pjC 2 c)=dC c:=pj_d c;have e1:pC (pjC 2 c) v=pC c v:=congrFun (pj_p c) v;cases ho:offB g c v with
 | true =>
   cases hsv:s.testBit v with
   | true =>
     have x1:=w1 hsv (off_iffW.2 ho);have x2:=b1 (by show(s &&& _).testBit v=true;rw[Nat.testBit_and,hsv,hen,ho];rfl) (off_iffB.2 (by rw[pj_off];exact ho));rw[show(stB (pjC 2 c)).d=dC c from e0] at x2;rw[show(stW c).d=dC c from rfl] at x1;have:=x1.trans x2.symm;simp only[Prod.mk.injEq] at this;exact this
   | false =>
     have x1:=w2 (.inl hsv);have x2:=b2 (.inl (by show(s &&& _).testBit v=false;rw[Nat.testBit_and,hsv];rfl));exact⟨x1.1.trans ((congrFun e0 v).symm.trans x2.1.symm),x1.2.trans (e1.symm.trans x2.2.symm)⟩
 | false =>
   have x1:=w2 (.inr (by rw[off_iffW,ho];simp));have x2:=b2 (.inl (by show(s &&& _).testBit v=false;rw[Nat.testBit_and,hen,ho,Bool.and_false]));exact⟨x1.1.trans ((congrFun e0 v).symm.trans x2.1.symm),x1.2.trans (e1.symm.trans x2.2.symm)⟩
theorem pj_rest {g:G} (hg:g.valid=true) {c:Cf} (hc:Conf pWav g c) {s:Nat} (hs:Part s (enN pWav g c)) (hz:s &&& enN pBfs g (pjC 2 c)=0):pjC 2 (stepC pWav g c s)=pjC 2 c:=by
 rw[pj_step hg hc hs,hz];refine List.ext_getElem (stepC_len _ _ _ _) fun v h1 h2=>?_;have:=stepC_row pBfs g (pjC 2 c) 0 (v:=v) h2;rw[Nat.zero_testBit,if_neg (by decide)] at this;simpa[gC,List.getD,h1,h2] using this
end Go.Proofs.YtbceaajfhcgnjaaGreatDoor
namespace Go.Plain.An
def hit (l ts:List Nat):Nat:=ts.countP fun t=>decide (t∈l)
def srcs (N:Nat) (ar:Nat->List Nat) (t:Nat):List Nat:=(List.range N).flatMap fun k=>List.replicate ((ar k).count t) k
theorem srcs_lt {N:Nat} {ar:Nat->List Nat} {t k:Nat} (h:k∈srcs N ar t):k<N:=by
 obtain⟨a,h1,h2⟩:=List.mem_flatMap.1 h;have:=List.eq_of_mem_replicate h2;subst this;exact List.mem_range.1 h1
theorem count_flat (f:Nat->Nat) (k:Nat):∀n,((List.range n).flatMap fun k=>List.replicate (f k) k).count k=if k<n then f k else 0
 | 0=>by simp
 | n+1=>by
   rw[List.range_succ,List.flatMap_append,List.count_append,count_flat f k n];simp only[List.flatMap_cons,List.flatMap_nil,List.append_nil,List.count_replicate];by_cases h:n=k
   . subst h;simp
   . simp[h];by_cases h2:k<n
     . rw[if_pos h2,if_pos (by omega)]
     . rw[if_neg h2,if_neg (by omega)]
theorem srcs_count {N:Nat} {ar:Nat->List Nat} {t k:Nat} (h:k<N):(srcs N ar t).count k=(ar k).count t:=by
 rw[srcs,count_flat (fun k=>(ar k).count t) k N,if_pos h]
theorem hit_snoc {l:List Nat} {t:Nat} (h:t∉l) (ts:List Nat):hit (l++[t]) ts=hit l ts+ts.count t:=by
 induction ts with
 | nil=>rfl
 | cons a ts ih =>
   simp only[hit,List.countP_cons,List.count_cons] at ih ⊢;rw[ih];by_cases e:a=t
   . subst e;simp[h];omega
   . have e2:¬ (a == t)=true:=by simpa using e
     by_cases q:a∈l
     . simp[q,e];omega
     . simp[q,e]
theorem hit_le (l ts:List Nat):hit l ts<=ts.length:=List.countP_le_length
theorem hit_all {l ts:List Nat}:hit l ts=ts.length↔∀t∈ts,t∈l:=by
 rw[hit,List.countP_eq_length];simp
theorem hit_count {l:List Nat} {t:Nat} (h:t∉l) (ts:List Nat):hit l ts+ts.count t<=ts.length:=by
 rw[<- hit_snoc h];exact hit_le _ _
variable {N:Nat} {ar:Nat->List Nat} {set:Nat->Bool}
structure OrdJ (N:Nat) (ar:Nat->List Nat) (set:Nat->Bool) (L:List Nat) (i q:Nat) (en:Nat->Nat):Prop where
 nodup:L.Nodup
 lt:∀k∈L,k<N
 all:∀k,k<N->set k=true->k∈L
 le:i<=L.length
 ent:∀k,k<N->en k=hit (L.take i) (ar k)+((srcs N ar (L.getD i 0)).take q).count k
 mem:∀k,k<N->set k=false->(k∈L↔(ar k≠[]/\hit (L.take i) (ar k)+((srcs N ar (L.getD i 0)).take q).count k=(ar k).length))
 ord:∀(j k:Nat),L[j]?=some k->set k=true\/(ar k≠[]/\∀t∈ar k,∃j',j'<j/\L[j']?=some t)
theorem OrdJ.start:OrdJ N ar set ((List.range N).filter set) 0 0 (fun _=>0):=by
 refine⟨List.nodup_range.sublist List.filter_sublist,fun k hk=>?_,fun k hk hs=>?_,Nat.zero_le _,fun k _=>?_,fun k hk hs=>?_,fun j k h=>?_⟩
 . exact List.mem_range.1 (List.mem_filter.1 hk).1
 . exact List.mem_filter.2 ⟨List.mem_range.2 hk,hs⟩
 . simp[hit]
 . constructor
   . intro h;have:=(List.mem_filter.1 h).2;rw[hs] at this;cases this
   . rintro⟨h1,h2⟩;have h3:hit ([]:List Nat) (ar k)=0:=by simp[hit]
     simp only[List.take_zero,List.count_nil] at h2;rw[h3] at h2;exact(h1 (List.length_eq_zero_iff.1 h2.symm)).elim
 . exact .inl (List.mem_filter.1 (List.mem_of_getElem? h)).2
theorem take_next {L:List Nat} {i:Nat} (h:i<L.length):L.take (i+1)=L.take i++[L.getD i 0]:=by
 rw[List.take_succ_eq_append_getElem h];simp[List.getD,h]
theorem not_take {L:List Nat} (hn:L.Nodup) {i:Nat} (h:i<L.length):L.getD i 0∉L.take i:=by
 intro hm;obtain⟨j,hj,e⟩:=List.mem_iff_getElem.1 hm;simp only[List.length_take] at hj;rw[List.getElem_take] at e;have e2:L.getD i 0=L[i]:=by simp[List.getD,h]
 rw[e2] at e;have:=(List.getElem_inj hn).1 e;omega
theorem count_take_next {l:List Nat} {q:Nat} (h:q<l.length) (k:Nat):(l.take (q+1)).count k=(l.take q).count k+if l.getD q 0=k then 1 else 0:=by
 rw[take_next h,List.count_append,List.count_singleton];by_cases e:l.getD q 0=k<;>simp[e]
theorem count_take_le (l:List Nat) (q k:Nat):(l.take q).count k<=l.count k:=(List.take_sublist q l).count_le k
theorem getD_mem {l:List Nat} {q:Nat} (h:q<l.length):l.getD q 0∈l:=by
 have:l.getD q 0=l[q]:=by simp[List.getD,h]
 rw[this];exact List.getElem_mem h
theorem OrdJ.step {L:List Nat} {i q:Nat} {en:Nat->Nat} (h:OrdJ N ar set L i q en) (hi:i<L.length) (hq:q<(srcs N ar (L.getD i 0)).length) :
 (srcs N ar (L.getD i 0)).getD q 0<N/\en ((srcs N ar (L.getD i 0)).getD q 0)+1<=(ar ((srcs N ar (L.getD i 0)).getD q 0)).length /\
 OrdJ N ar set (if set ((srcs N ar (L.getD i 0)).getD q 0)=false/\en ((srcs N ar (L.getD i 0)).getD q 0)+1=(ar ((srcs N ar (L.getD i 0)).getD q 0)).length then L++[(srcs N ar (L.getD i 0)).getD q 0] else L) i (q+1)
  (fun k=>if k=(srcs N ar (L.getD i 0)).getD q 0 then en k+1 else en k):=by
 have ht:=not_take h.nodup hi;have hk:(srcs N ar (L.getD i 0)).getD q 0<N:=srcs_lt (ar:=ar) (t:=L.getD i 0) (getD_mem hq);have hc:=count_take_next hq ((srcs N ar (L.getD i 0)).getD q 0);rw[if_pos rfl] at hc;have hcl:=count_take_le (srcs N ar (L.getD i 0)) (q+1) ((srcs N ar (L.getD i 0)).getD q 0);rw[srcs_count hk] at hcl;have hh:=hit_count ht (ar ((srcs N ar (L.getD i 0)).getD q 0));have he:=h.ent _ hk;generalize hK:(srcs N ar (L.getD i 0)).getD q 0=k at *;have hlt:en k+1<=(ar k).length:=by omega
 refine⟨hk,hlt,?_⟩;have hcn:∀x,((srcs N ar (L.getD i 0)).take (q+1)).count x=((srcs N ar (L.getD i 0)).take q).count x+if k=x then 1 else 0:=fun x=>by
  rw[count_take_next hq x,hK]
 have hent:∀x,x<N->(fun x=>if x=k then en x+1 else en x) x=hit (L.take i) (ar x)+((srcs N ar (L.getD i 0)).take (q+1)).count x:=fun x hx=>by
  have:=h.ent x hx;rw[hcn x];show(if x=k then en x+1 else en x)=_;by_cases e:x=k
  . rw[if_pos e,if_pos e.symm];omega
  . rw[if_neg e,if_neg (fun q=>e q.symm)];omega
 by_cases hs:set k=false/\en k+1=(ar k).length
 . rw[if_pos hs];obtain⟨hs,hL⟩:=hs;have hnm:k∉L:=fun hm=>by
    have:=((h.mem k hk hs).1 hm).2;omega
   have hi':i<=L.length:=by omega
   have etk:(L++[k]).take i=L.take i:=List.take_append_of_le_length hi';have egd:(L++[k]).getD i 0=L.getD i 0:=by
    simp only[List.getD,List.getElem?_append_left hi]
   refine⟨?_,fun x hx=>?_,fun x hx hsx=>List.mem_append_left _ (h.all x hx hsx),by simp;omega,?_,fun x hx hsx=>?_,fun j x hj=>?_⟩
   . refine List.nodup_append.2 ⟨h.nodup,by simp,fun a ha b hb=>?_⟩;simp at hb;subst hb;intro e;subst e;exact hnm ha
   . rcases List.mem_append.1 hx with hx|hx
     . exact h.lt x hx
     . simp at hx;subst hx;exact hk
   . rw[etk,egd];exact hent
   . rw[etk,egd,hcn x,List.mem_append];have:=h.mem x hx hsx;by_cases e:x=k
     . subst e;rw[if_pos rfl];constructor
       . intro _;refine⟨fun q=>by rw[q] at hL;simp at hL,?_⟩;have:=h.ent x hx;omega
       . intro _;exact .inr (by simp)
     . rw[if_neg (fun q=>e q.symm),Nat.add_zero,<- this];constructor
       . rintro (h1|h1)
         . exact h1
         . simp at h1;exact(e h1).elim
       . exact .inl
   . by_cases hjl:j<L.length
     . rw[List.getElem?_append_left hjl] at hj;rcases h.ord j x hj with h1 | ⟨h0,h1⟩
       . exact .inl h1
       . refine .inr ⟨h0,fun t ht=>?_⟩;obtain⟨j',h2,h3⟩:=h1 t ht;exact⟨j',h2,by rw[List.getElem?_append_left (by omega)];exact h3⟩
     . have ej:j=L.length:=by
        have:j<(L++[k]).length:=by
         rcases Nat.lt_or_ge j (L++[k]).length with q|q
         . exact q
         . rw[List.getElem?_eq_none q] at hj;cases hj
        simp at this;omega
       subst ej;have ex:x=k:=by simpa using hj.symm
       subst ex;have hall:hit (L.take i++[L.getD i 0]) (ar x)=(ar x).length:=by
        rw[hit_snoc ht];have:=hit_count ht (ar x);omega
       refine .inr ⟨fun q=>by rw[q] at hL;simp at hL,fun t ht2=>?_⟩;have hm:=hit_all.1 hall t ht2;rw[<- take_next hi] at hm;obtain⟨j',h1,h2⟩:=List.mem_iff_getElem.1 hm;simp only[List.length_take] at h1;rw[List.getElem_take] at h2;refine⟨j',by omega,?_⟩;rw[List.getElem?_append_left (by omega),List.getElem?_eq_getElem (by omega),h2]
 . rw[if_neg hs];refine⟨h.nodup,h.lt,h.all,h.le,hent,fun x hx hsx=>?_,h.ord⟩;rw[hcn x,h.mem x hx hsx];by_cases e:x=k
   . subst e;rw[if_pos rfl];have hne:¬ (en x+1=(ar x).length):=fun q=>hs ⟨hsx,q⟩;have:=h.ent x hx;constructor
     . rintro⟨_,h2⟩;omega
     . rintro⟨_,h2⟩;omega
   . rw[if_neg (fun q=>e q.symm),Nat.add_zero]
theorem OrdJ.next {L:List Nat} {i:Nat} {en:Nat->Nat} (h:OrdJ N ar set L i (srcs N ar (L.getD i 0)).length en) (hi:i<L.length):OrdJ N ar set L (i+1) 0 en:=by
 have ht:=not_take h.nodup hi;have key:∀k,k<N->hit (L.take (i+1)) (ar k)+((srcs N ar (L.getD (i+1) 0)).take 0).count k=hit (L.take i) (ar k)+((srcs N ar (L.getD i 0)).take (srcs N ar (L.getD i 0)).length).count k:=fun k hk=>by
  rw[take_next hi,hit_snoc ht,List.take_length,srcs_count hk];simp
 exact⟨h.nodup,h.lt,h.all,hi,fun k hk=>by rw[key k hk];exact h.ent k hk,fun k hk hs=>by rw[key k hk];exact h.mem k hk hs,h.ord⟩
structure Ord (N:Nat) (ar:Nat->List Nat) (set:Nat->Bool) (L:List Nat):Prop where
 nodup:L.Nodup
 lt:∀k∈L,k<N
 all:∀k,k<N->set k=true->k∈L
 out:∀k,k<N->k∉L->set k=false/\(ar k=[]\/∃t∈ar k,t∉L)
 ord:∀(j k:Nat),L[j]?=some k->set k=true\/(ar k≠[]/\∀t∈ar k,∃j',j'<j/\L[j']?=some t)
theorem OrdJ.done {L:List Nat} {en:Nat->Nat} {q:Nat} (h:OrdJ N ar set L L.length q en) (hq:q=0):Ord N ar set L:=by
 subst hq;refine⟨h.nodup,h.lt,h.all,fun k hk hn=>?_,h.ord⟩;have hs:set k=false:=by
  cases e:set k with
  | false=>rfl
  | true=>exact(hn (h.all k hk e)).elim
 refine⟨hs,?_⟩;have hm:=h.mem k hk hs;rw[List.take_length] at hm;by_cases e:ar k=[]
 . exact .inl e
 . right;apply Classical.byContradiction;intro hne;apply hn;refine hm.2 ⟨e,?_⟩;simp only[List.take_zero,List.count_nil,Nat.add_zero];exact hit_all.2 fun t ht=>Classical.byContradiction fun q=>hne ⟨t,ht,q⟩
theorem OrdJ.len {L:List Nat} {i q:Nat} {en:Nat->Nat} (h:OrdJ N ar set L i q en):L.length<=N:=by
 have hs:L.Subset (List.range N):=fun k hk=>List.mem_range.2 (h.lt k hk);have hnd:=h.nodup;have:=List.Nodup.length_le_of_subset hnd hs;simpa using this
end Go.Plain.An
