import Derived.Test.YtlpfphlbghdokaaGreatDoorCK4
namespace Go.Proofs.YtlpfphlbghdokaaGreatDoor
open Go.Eng
set_option maxRecDepth 100000
set_option linter.unusedVariables false
theorem Q8s {p:Int×Int->Bool}:∀{l:Q5W} {k:Nat},fpI p k l≠-1->∃i,i<l.length/\fpI p k l=((k+i:Nat):Int)/\p (gF l i)=true
 | [],_,h=>(h rfl).elim
 | a::r,k,h=>by
   rw[fpI] at h ⊢;by_cases e:p a=true
   . rw[if_pos e];exact⟨0,by simp,rfl,e⟩
   . rw[if_neg e] at h ⊢;obtain⟨i,h1,h2,h3⟩:=Q8s h;exact⟨i+1,by simp;omega,by rw[h2];congr 1;omega,by simpa[gF] using h3⟩
theorem Q3M {b:Int}:∀{l:Q5W} {k:Nat},(∃a∈l,a.1=b)->∃i,i<l.length/\Q1X k l b=((k+i:Nat):Int)/\(gF l i).1=b
 | [],_,h=>by simp at h
 | a::r,k,h=>by
   rw[Q1X];by_cases e:a.1=b
   . rw[if_pos e];exact⟨0,by simp,rfl,e⟩
   . rw[if_neg e];obtain⟨x,hx,ex⟩:=h;rcases List.mem_cons.1 hx with q|q
     . rw[q] at ex;exact(e ex).elim
     . obtain⟨i,h1,h2,h3⟩:=Q3M (k:=k+1) ⟨x,q,ex⟩;exact⟨i+1,by simp;omega,by rw[h2];congr 1;omega,by simpa[gF] using h3⟩
theorem X7x {r:Q5W} (h:(r.map (·.1)).Nodup) {i j:Nat} (hi:i<r.length) (hj:j<r.length) (e:(gF r i).1=(gF r j).1):i=j:=by
 have h1:(r.map (·.1))[i]'(by simpa using hi)=(r.map (·.1))[j]'(by simpa using hj):=by simpa[gF,List.getD,hi,hj] using e
 have hp:=List.pairwise_iff_getElem.1 h;rcases Nat.lt_trichotomy i j with q|q|q
 . exact(hp i j (by simpa using hi) (by simpa using hj) q h1).elim
 . exact q
 . exact(hp j i (by simpa using hj) (by simpa using hi) q h1.symm).elim
theorem Q31:∀{l:List Int} {a:Int} (m:Int),a∈l->a<=J4G l m
 | [],_,_,h=>by simp at h
 | x::r,a,m,h=>by
   rw[J4G];rcases List.mem_cons.1 h with e|e
   . subst e;refine Int.le_trans ?_ (J9v r _);split<;>omega
   . exact Q31 _ e
def J3e (g:G) (v:Nat):Nat:=(gF (gR g.ports v) (upI g v).toNat).1.toNat
structure UpAt (g:G) (v:Nat) (i:Nat):Prop where
 lt:i<(gR g.ports v).length
 up:upI g v=(i:Int)
 par:(gF (gR g.ports v) i).1=((J3e g v:Nat):Int)
 rng:J3e g v<g.ids.length
 dep:Dg g v=Dg g (J3e g v)+1
theorem Q4Z {g:G} (h:g.conn=true) {v:Nat} (hv:v<g.ids.length) (h0:v≠0):∃i,UpAt g v i:=by
 obtain⟨h1,h2⟩:=J0o h;obtain⟨f1,f2,f3,f4,f5,f6,f7⟩:=J0f h1;obtain⟨u1,u2⟩:=Q3r h (by omega) h0;obtain⟨i,hi,e,hp⟩:=Q8s (p:=J9s g v) (l:=gR g.ports v) (k:=0) (by rw[upI] at u1;omega);rw[Nat.zero_add] at e;have e:upI g v=(i:Int):=e;have hok:=(J1s.1 (f6 v (by omega))).1 _ (J3i hi);have ep:J3e g v=(gF (gR g.ports v) i).1.toNat:=by rw[J3e,e,Int.toNat_natCast]
 rw[J9s,decide_eq_true_eq] at hp;have d1:=J7A h hv;have d2:=J7A h (v:=(gF (gR g.ports v) i).1.toNat) (by omega);exact⟨i,hi,e,by rw[ep];omega,by rw[ep];omega,by rw[ep];omega⟩
theorem Q6o {g:G} (h:g.conn=true):Go.Plain.Clock.Tree g.ids.length (J3e g) (Dg g) g.ecc.toNat:=by
 obtain⟨h1,h2⟩:=J0o h;obtain⟨f1,f2,f3,f4,f5,f6,f7⟩:=J0f h1;refine⟨by omega,fun v hv h0=>?_,fun v hv h0=>?_,((Q7q h).root 0 (by omega)).2 rfl,fun v hv=>?_⟩
 . obtain⟨i,hu⟩:=Q4Z h hv h0;exact hu.rng
 . obtain⟨i,hu⟩:=Q4Z h hv h0;exact hu.dep
 . have d1:=J7A h hv;have e:g.ecc=J4G (dst g 0) (-1):=by rw[G.ecc,if_pos h]
   have hm:gI (dst g 0) v<=J4G (dst g 0) (-1):=Q31 _ (J7l (by rw[J2J];omega));omega
theorem X4g {g:G} (h:g.conn=true) {v:Nat} (hv:v<g.ids.length) (h0:v≠0):adN g v (J3e g v)=true:=by
 obtain⟨i,hu⟩:=Q4Z h hv h0;exact J2M.2 ⟨_,J3i hu.lt,by rw[hu.par,Int.toNat_natCast]⟩
theorem Q4O {g:G} (h:g.conn=true) {v:Nat} (hv:v<g.ids.length) {i:Nat} (hi:i<(gR g.ports v).length):upI g (nbV g v i)=J7P g v i↔nbV g v i≠0/\J3e g (nbV g v i)=v:=by
 obtain⟨h1,h2⟩:=J0o h;obtain⟨f1,f2,f3,f4,f5,f6,f7⟩:=J0f h1;have hok:=(J1s.1 (f6 v (by omega))).1 _ (J3i hi);have eu:nbV g v i=(gF (gR g.ports v) i).1.toNat:=by simp[nbV]
 have hun:nbV g v i<g.ids.length:=by omega
 have hback:=f7 v (by omega) _ (J3i hi);rw[<- eu] at hback;have eb:J7P g v i=Q1X 0 (gR g.ports (nbV g v i)) v:=by rw[J7P,eu]
 generalize nbV g v i=u at *;obtain⟨b,hb,e,ev⟩:=Q3M (k:=0) (b:=(v:Int)) ⟨_,hback,rfl⟩;rw[Nat.zero_add] at e;rw[eb,e];constructor
 . intro q;have h0:u≠0:=fun e0=>by rw[e0,J87 h] at q;omega
   exact⟨h0,by rw[J3e,q,Int.toNat_natCast,ev,Int.toNat_natCast]⟩
 . rintro⟨h0,q⟩;obtain⟨j,hu⟩:=Q4Z h hun h0;have hj:=hu.par;rw[q] at hj;rw[hu.up,X7x (J1s.1 (f6 u (by omega))).2 hu.lt hb (hj.trans ev.symm)]
def TrC (g:G) (c:Cf):Prop:=∀v,v<g.ids.length->dC c v=((Dg g v:Nat):Int)/\pC c v=upI g v
theorem Q2T (l:List Int):J6v l=l.length↔∀a∈l,a≠0:=by
 rw[J6v,List.countP_eq_length];simp only[decide_eq_true_eq]
end Go.Proofs.YtlpfphlbghdokaaGreatDoor
namespace Go.Plain.Wave
open Go.Plain.Clock
variable {n:Nat} {par:Nat->Nat} {D:Nat->Nat} {E:Nat} {s b s' b' m p:Nat->Bool}
def ord (par:Nat->Nat) (s b:Nat->Bool) (v:Nat):Prop:=s (par v)=true\/(s v=s (par v)/\b v=b (par v))
def tk (par:Nat->Nat) (s b:Nat->Bool) (v:Nat):Prop:=b (par v)≠b v\/(s v=true/\s (par v)=false)
def fin (n:Nat) (par:Nat->Nat) (s b:Nat->Bool) (v:Nat):Prop:=s v=true/\∀u,J9U n par v u->s u=false/\b u=b v
def en (n:Nat) (par:Nat->Nat) (s b:Nat->Bool) (v:Nat):Prop:=if v=0 then s 0=false\/fin n par s b 0 else tk par s b v\/fin n par s b v
structure Ch (n:Nat) (par:Nat->Nat) (s b m s' b':Nat->Bool):Prop where
 lt:∀v,m v=true->v<n
 rest:∀v,v<n->m v=false->s' v=s v/\b' v=b v
 root:m 0=true->(s 0=false/\s' 0=true/\b' 0=!b 0)\/(fin n par s b 0/\s' 0=false/\b' 0=b 0)
 oth:∀v,m v=true->v≠0->(tk par s b v/\s' v=s (par v)/\b' v=b (par v))\/(¬ tk par s b v/\fin n par s b v/\s' v=false/\b' v=b v)
theorem X4j {v:Nat} (h:¬ ord par s b v):tk par s b v:=by
 rw[ord,not_or] at h;rw[tk];revert h;generalize s (par v)=a;generalize b (par v)=c;cases a<;>cases c<;>cases s v<;>cases b v<;>simp
theorem ord_step (hT:Tree n par D E) (hc:Ch n par s b m s' b') {v:Nat} (hv:v<n) (h0:v≠0) (hu:par v≠0->ord par s b (par v)) (h:ord par s b v\/m v=true):ord par s' b' v:=by
 have hun:=hT.lt v hv h0;have hch:J9U n par (par v) v:=⟨hv,h0,rfl⟩
 -- the parent finishes: the J9U is as it,and rests
 have hfin:fin n par s b (par v)->s' (par v)=false->b' (par v)=b (par v)->ord par s' b' v:=fun hf e1 e2=>by
  obtain⟨c1,c2⟩:=hf.2 v hch;have hm:m v=false:=by
   cases e:m v with
   | false=>rfl
   | true =>
     rcases hc.oth v e h0 with ⟨q,_⟩ | ⟨_,q,_⟩
     . rcases q with q|q
       . exact(q c2.symm).elim
       . rw[c1] at q;exact(Bool.noConfusion q.1)
     . rw[fin,c1] at q;exact(Bool.noConfusion q.1)
  obtain⟨r1,r2⟩:=hc.rest v hv hm;exact .inr ⟨by rw[r1,c1,e1],by rw[r2,c2,e2]⟩
 cases em:m (par v) with
 | false =>
   obtain⟨r1,r2⟩:=hc.rest _ hun em;cases ev:m v with
   | false =>
     obtain⟨q1,q2⟩:=hc.rest v hv ev;rcases h with h|h
     . rw[ord,r1,r2,q1,q2];exact h
     . rw[ev] at h;cases h
   | true =>
     rcases hc.oth v ev h0 with ⟨_,q1,q2⟩ | ⟨q0,qf,_⟩
     . exact .inr ⟨by rw[q1,r1],by rw[q2,r2]⟩
     . left;rw[r1];cases e:s (par v) with
       | true=>rfl
       | false=>exact(q0 (.inr ⟨qf.1,e⟩)).elim
 | true =>
   by_cases e0:par v=0
   . rw[e0] at em hfin;rcases hc.root em with ⟨_,q,_⟩ | ⟨q,q1,q2⟩
     . left;rw[e0];exact q
     . exact hfin q q1 q2
   . rcases hc.oth _ em e0 with ⟨q,q1,_⟩ | ⟨_,q,q1,q2⟩
     . left;rw[q1];cases e:s (par (par v)) with
       | true=>rfl
       | false =>
         rcases hu e0 with hx | ⟨x1,x2⟩
         . rw[e] at hx;cases hx
         . rcases q with q|q
           . exact(q x2.symm).elim
           . rw[x1,e] at q;exact(Bool.noConfusion q.1)
     . exact hfin q q1 q2
def X8t (n:Nat) (par:Nat->Nat) (D:Nat->Nat) (s b:Nat->Bool) (k:Nat):Prop:=∀v,v<n->v≠0->D v<=k->ord par s b v
theorem X8t.step (hT:Tree n par D E) (hc:Ch n par s b m s' b') {k:Nat} (h:X8t n par D s b k):X8t n par D s' b' k:=fun v hv h0 hd =>
 ord_step hT hc hv h0 (fun e=>h _ (hT.lt v hv h0) e (by have:=hT.dep v hv h0;omega)) (.inl (h v hv h0 hd))
structure Lev (n:Nat) (par:Nat->Nat) (D:Nat->Nat) (s b p:Nat->Bool) (j:Nat):Prop where
 ok:X8t n par D s b j
 pend:∀v,v<n->v≠0->D v=j+1->¬ ord par s b v->p v=true
theorem not_en {v:Nat} (h0:v≠0) (h:¬ ord par s b v):en n par s b v:=by rw[en,if_neg h0];exact .inl (X4j h)
theorem Lev.start (hT:Tree n par D E) (hp:∀v,v<n->en n par s b v->p v=true):Lev n par D s b p 0 :=
 ⟨fun v hv h0 hd=>by have:=hT.dep v hv h0;omega,fun v hv h0 _ ho=>hp v hv (not_en h0 ho)⟩
theorem Lev.step (hT:Tree n par D E) (hc:Ch n par s b m s' b') {j:Nat} (h:Lev n par D s b p j) {p':Nat->Bool} (hp:∀v,v<n->p v=true->m v=false->en n par s' b' v->p' v=true):Lev n par D s' b' p' j :=
 ⟨h.ok.step hT hc,fun v hv h0 hd ho=>by
   have key:=fun q=>ord_step hT hc hv h0 (fun e=>h.ok _ (hT.lt v hv h0) e (by have:=hT.dep v hv h0;omega)) q;refine hp v hv (h.pend v hv h0 hd fun q=>ho (key (.inl q))) ?_ (not_en h0 ho);cases e:m v with
   | false=>rfl
   | true=>exact(ho (key (.inr e))).elim⟩
theorem Lev.round {j:Nat} (h:Lev n par D s b p j) (hz:∀v,v<n->p v=false) {q:Nat->Bool} (hq:∀v,v<n->en n par s b v->q v=true):Lev n par D s b q (j+1) :=
 ⟨fun v hv h0 hd=>by
   by_cases e:D v=j+1
   . exact Classical.byContradiction fun ho=>by have:=h.pend v hv h0 e ho;rw[hz v hv] at this;cases this
   . exact h.ok v hv h0 (by omega),fun v hv h0 _ ho=>hq v hv (not_en h0 ho)⟩
end Go.Plain.Wave
namespace Go.Proofs.YtlpfphlbghdokaaGreatDoor
open Go.Eng
set_option maxRecDepth 100000
set_option linter.unusedVariables false
def qpT:Tm:=.bin 35 (.leaf 11 0) (.leaf 5 1)
def X0n:Tm:=.bin 42 (.bin 36 (.leaf 12 3) (.leaf 5 3)) (.bin 41 (.leaf 5 2) (.un 19 (.leaf 12 2)))
def X75:Tm:=.bin 41 (.leaf 10 0) (.un 19 (.leaf 5 2))
def Q6v:Tm:=.bin 41 (.un 19 (.leaf 10 0)) (.agg 21 (.bin 41 qpT X0n))
def X8B:Tm:=.bin 41 (.un 19 (.leaf 12 2)) (.bin 35 (.leaf 12 3) (.leaf 5 3))
def X7A:Tm:=.bin 41 (.leaf 5 2) (.agg 20 (.bin 42 (.bin 36 (.leaf 12 1) (.leaf 17 0)) X8B))
def Q0r (x:Int):Tm:=.agg 21 (.bin 41 qpT (.leaf 12 x))
def vWv:List Vr:=[⟨ByteArray.mk #[100],1,0,0,1,0⟩,⟨ByteArray.mk #[112],3,0,0,0,0⟩,⟨ByteArray.mk #[115],2,0,0,0,0⟩,⟨ByteArray.mk #[98],2,0,0,0,0⟩]
def J0q:Pr:=⟨ByteArray.mk #[119,97,118,101],vWv,[⟨ByteArray.mk #[116,111,112],X8Z,[(0,.leaf 1 0),(1,.leaf 4 0)]⟩,
 ⟨ByteArray.mk #[108,111,119],Y0V,[(0,dTm),(1,pTm)]⟩,
 ⟨ByteArray.mk #[98,101,103,105,110],X75,[(2,.leaf 2 0),(3,.un 19 (.leaf 5 3))]⟩,
 ⟨ByteArray.mk #[116,97,107,101],Q6v,[(2,Q0r 2),(3,Q0r 3)]⟩,
 ⟨ByteArray.mk #[102,105,110,105,115,104],X7A,[(2,.leaf 3 0)]⟩]⟩
abbrev sW (c:Cf) (v:Nat):Bool:=one c 2 v
abbrev bW (c:Cf) (v:Nat):Bool:=one c 3 v
theorem J3H {g:G} {c:Cf} (h:J1u J0q g c) {v:Nat} (hv:v<g.ids.length):(gC c v).length=4/\0<=dC c v/\dC c v<=g.ids.length/\-1<=pC c v/\pC c v<=((gR g.ports v).length:Int)-1/\(0<=gI (gC c v) 2/\gI (gC c v) 2<=1)/\0<=gI (gC c v) 3/\gI (gC c v) 3<=1:=by
 have hl:v<c.length:=by rw[h.len];exact hv
 have h0:=h.val v hl 0 (by decide);have h1:=h.val v hl 1 (by decide);have h2:=h.val v hl 2 (by decide);have h3:=h.val v hl 3 (by decide);have e0:bnd g (gV J0q.vars 0) v=(0,0+1*(g.ids.length:Int)+0*Q3v g):=rfl;have e1:bnd g (gV J0q.vars 1) v=(-1,((gR g.ports v).length:Int)-1):=rfl;have e2:bnd g (gV J0q.vars 2) v=(0,1):=rfl;have e3:bnd g (gV J0q.vars 3) v=(0,1):=rfl;rw[e0] at h0;rw[e1] at h1;rw[e2] at h2;rw[e3] at h3;obtain⟨a1,a2⟩:=h0;obtain⟨b1,b2⟩:=h1;simp only at a1 a2 b1 b2;exact⟨h.row v hl,a1,by show gI (gC c v) 0<=_;omega,b1,b2,h2,h3⟩
theorem J2s {g:G} {c:Cf} (h:J1u J0q g c):Q4b c g.ids.length 2/\Q4b c g.ids.length 3 :=
 ⟨fun v hv=>by obtain⟨_,_,_,_,_,h2,_⟩:=J3H h hv;omega,fun v hv=>by obtain⟨_,_,_,_,_,_,h3⟩:=J3H h hv;omega⟩
theorem J6A {g:G} {c:Cf} (hc:J1u J0q g c):∀v,v<g.ids.length->0<=dC c v:=fun v hv=>(J3H hc hv).2.1
theorem Q3U {g:G} (hg:g.valid=true) {v:Nat} (hv:v<g.ids.length) {i:Nat} (hi:i<(gR g.ports v).length):nbV g v (i:Nat)<g.ids.length:=by
 obtain⟨f1,f2,f3,f4,f5,f6,f7⟩:=J0f hg;have hok:=(J1s.1 (f6 v (by omega))).1 _ (J3i hi);have eu:nbV g v i=(gF (gR g.ports v) i).1.toNat:=by simp[nbV]
 omega
theorem X1M {g:G} {c:Cf} {v j:Nat} (hj:j<(gR g.ports v).length) (hp:gI (gC c v) 1=(j:Int)) (f:Int->Int) :
 (0<J6v ((List.range (gR g.ports v).length).map fun(i:Nat)=>J1f (decide (J1f (decide (((i:Nat):Int)=gI (gC c v) 1))≠0/\f ((i:Nat):Int)≠0))))↔f (j:Int)≠0:=by
 rw[Q2R];simp only[List.mem_map,List.mem_range];constructor
 . rintro⟨a,⟨i,hi,rfl⟩,ha⟩;rw[J1C,decide_eq_true_eq,J1C,decide_eq_true_eq,hp] at ha;have:i=j:=by omega
   subst this;exact ha.2
 . intro hne;refine⟨_,⟨j,hj,rfl⟩,?_⟩;rw[J1C,decide_eq_true_eq,J1C,decide_eq_true_eq];exact⟨hp.symm,hne⟩
theorem X2A {g:G} (h:g.conn=true) {c:Cf} (ht:TrC g c) {v:Nat} (hv:v<g.ids.length) (h0:v≠0) (t:Tm) (port:Int) :
 ∃j:Nat,j<(gR g.ports v).length/\nbV g v (j:Int)=J3e g v/\((Tm.agg 21 (.bin 41 qpT t)).sem g c v port=J1f (decide (t.sem g c v (j:Int)≠0))):=by
 obtain⟨j,hu⟩:=Q4Z h hv h0;have hp:=(ht v hv).2;have hp':gI (gC c v) 1=(j:Int):=by rw[<- hu.up];exact hp
 refine⟨j,hu.lt,by simp only[nbV,Int.toNat_natCast];rw[hu.par];simp,?_⟩;show J1f (decide (0<J6v ((List.range (gR g.ports v).length).map fun(i:Nat)=>J1f (decide (J1f (decide (((i:Nat):Int)=gI (gC c v) 1))≠0/\t.sem g c v ((i:Nat):Int)≠0)))))=_;congr 1;rw[decide_eq_decide];exact X1M hu.lt hp' fun i=>t.sem g c v i
theorem Q0q {g:G} (h:g.conn=true) {c:Cf} (hc:J1u J0q g c) (ht:TrC g c) {v:Nat} (hv:v<g.ids.length) (h0:v≠0) (x:Nat) (hx:Q4b c g.ids.length x) (port:Int) :
 (Q0r (x:Nat)).sem g c v port=J1f (one c x (J3e g v)):=by
 obtain⟨j,hj,e,q⟩:=X2A h ht hv h0 (.leaf 12 (x:Nat)) port;rw[Q0r,q];have e2:(Tm.leaf 12 ((x:Nat):Int)).sem g c v (j:Int)=gI (gC c (nbV g v (j:Int))) x:=rfl;rw[e2,e,one];congr 1;rw[decide_eq_decide];have:=hx (J3e g v) ((Q6o h).lt v hv h0);omega
open Classical in
theorem J9b {g:G} (h:g.conn=true) {c:Cf} (hc:J1u J0q g c) (ht:TrC g c) {v:Nat} (hv:v<g.ids.length) :
 Q6v.sem g c v (-1)≠0↔v≠0/\Go.Plain.Wave.tk (J3e g) (sW c) (bW c) v:=by
 show J1f (decide (J1f (decide (J1f (decide (v=0))=0))≠0/\(Tm.agg 21 (.bin 41 qpT X0n)).sem g c v (-1)≠0))≠0↔_;simp only[J1C,J46,decide_eq_true_eq,decide_eq_false_iff_not];by_cases h0:v=0
 . exact⟨fun q=>(q.1 h0).elim,fun q=>(q.1 h0).elim⟩
 . obtain⟨j,hj,e,q⟩:=X2A h ht hv h0 X0n (-1);have hun:=(Q6o h).lt v hv h0;have b2:=(J2s hc).1;have b3:=(J2s hc).2;rw[q,J1C,decide_eq_true_eq];have e2:X0n.sem g c v (j:Int)≠0↔Go.Plain.Wave.tk (J3e g) (sW c) (bW c) v:=by
    show J1f (decide (J1f (decide (gI (gC c (nbV g v (j:Int))) 3≠gI (gC c v) 3))≠0\/J1f (decide (gI (gC c v) 2≠0/\J1f (decide (gI (gC c (nbV g v (j:Int))) 2=0))≠0))≠0))≠0↔one c 3 (J3e g v)≠one c 3 v\/(one c 2 v=true/\one c 2 (J3e g v)=false);rw[e,J1T b3 hun,J1T b3 hv,J1T b2 hun,J1T b2 hv];simp only[J1C,J46,decide_eq_true_eq];cases one c 3 (J3e g v)<;>cases one c 3 v<;>cases one c 2 (J3e g v)<;>cases one c 2 v<;>simp[J1f]
   rw[e2]
open Classical in
theorem Q8x {g:G} (h:g.conn=true) {c:Cf} (hc:J1u J0q g c) (ht:TrC g c) {v:Nat} (hv:v<g.ids.length) :
 X7A.sem g c v (-1)≠0↔Go.Plain.Wave.fin g.ids.length (J3e g) (sW c) (bW c) v:=by
 obtain⟨h1,h2⟩:=J0o h;obtain⟨f1,f2,f3,f4,f5,f6,f7⟩:=J0f h1;have b2:=(J2s hc).1;have b3:=(J2s hc).2;show J1f (decide (gI (gC c v) 2≠0/\J1f (decide (J6v ((List.range (gR g.ports v).length).map fun(i:Nat)=>J1f (decide (J1f (decide (gI (gC c (nbV g v (i:Nat))) 1≠J7P g v ((i:Nat):Int).toNat))≠0\/X8B.sem g c v ((i:Nat):Int)≠0)))=((List.range (gR g.ports v).length).map fun(i:Nat)=>J1f (decide (J1f (decide (gI (gC c (nbV g v (i:Nat))) 1≠J7P g v ((i:Nat):Int).toNat))≠0\/X8B.sem g c v ((i:Nat):Int)≠0))).length))≠0))≠0↔_;have hf:∀i:Nat,i<(gR g.ports v).length->(X8B.sem g c v ((i:Nat):Int)≠0↔sW c (nbV g v (i:Nat))=false/\bW c (nbV g v (i:Nat))=bW c v):=fun i hi=>by
  have hun:=Q3U h1 hv hi;show J1f (decide (J1f (decide (gI (gC c (nbV g v (i:Nat))) 2=0))≠0/\J1f (decide (gI (gC c (nbV g v (i:Nat))) 3=gI (gC c v) 3))≠0))≠0↔one c 2 (nbV g v (i:Nat))=false/\one c 3 (nbV g v (i:Nat))=one c 3 v;rw[J1T b2 hun,J1T b3 hun,J1T b3 hv];simp only[J1C,J46,decide_eq_true_eq];cases one c 2 (nbV g v (i:Nat))<;>cases one c 3 (nbV g v (i:Nat))<;>cases one c 3 v<;>simp[J1f]
 rw[J1C,decide_eq_true_eq,J1C,decide_eq_true_eq,Q2T,Go.Plain.Wave.fin];refine and_congr (by rw[J1T b2 hv,J1C]) ?_;simp only[List.mem_map,List.mem_range,forall_exists_index,and_imp,forall_apply_eq_imp_iff₂,J1C,decide_eq_true_eq,Int.toNat_natCast];constructor
 . intro hall u hcu;obtain⟨l,hl,e⟩:=J2M.1 ((J91 h1).sym u v hcu.1 hv (by have:=X4g h hcu.1 hcu.2.1;rw[hcu.2.2] at this;exact this));obtain⟨i,hi,e2⟩:=Q8o hl;have eu:nbV g v i=u:=by simp only[nbV,Int.toNat_natCast];rw[e2];exact e
   rcases hall i hi with q|q
   . exfalso;apply q;show pC c (nbV g v i)=_;rw[(ht _ (Q3U h1 hv hi)).2];exact(Q4O h hv hi).2 (by rw[eu];exact hcu.2)
   . have:=(hf i hi).1 q;rw[eu] at this;exact this
 . intro hall i hi;by_cases q:gI (gC c (nbV g v i)) 1=J7P g v i
   . right;have q':pC c (nbV g v i)=J7P g v i:=q;rw[(ht _ (Q3U h1 hv hi)).2] at q';have hcu:=(Q4O h hv hi).1 q';exact(hf i hi).2 (hall _ ⟨Q3U h1 hv hi,hcu⟩)
   . exact .inl q
theorem Q26 {g:G} {c:Cf} (hc:J1u J0q g c) {v:Nat} (hv:v<g.ids.length):X75.sem g c v (-1)≠0↔v=0/\sW c 0=false:=by
 have b2:=(J2s hc).1;show J1f (decide (J1f (decide (v=0))≠0/\J1f (decide (gI (gC c v) 2=0))≠0))≠0↔_;rw[J1T b2 hv];simp only[J1C,J46,decide_eq_true_eq];constructor
 . rintro⟨h0,h1⟩;rw[h0] at h1;exact⟨h0,h1⟩
 . rintro⟨h0,h1⟩;exact⟨h0,by rw[h0];exact h1⟩
end Go.Proofs.YtlpfphlbghdokaaGreatDoor
namespace Go.Proofs.YtlpfphlbghdokaaGreatDoor
open Go.Eng
set_option maxRecDepth 100000
set_option linter.unusedVariables false
def stW (c:Cf):Go.Plain.Tree.St:=⟨dC c,pC c⟩
theorem J4W {g:G} {c:Cf} {v:Nat}:Go.Plain.Tree.off (tgB g) (stW c) v↔Q3P g c v=true:=by
 rw[Q3P,decide_eq_true_eq];exact Iff.rfl
theorem Q53 (g:G) (c:Cf) (v:Nat):gds J0q g c v=[X8Z.sem g c v (-1),Y0V.sem g c v (-1),X75.sem g c v (-1),Q6v.sem g c v (-1),X7A.sem g c v (-1)]:=rfl
theorem Q52 {g:G} (hg:g.valid=true) {c:Cf} (hc:J1u J0q g c) {v:Nat} (hv:v<g.ids.length) (ho:Q3P g c v=true):J0F J0q g c v=if v=0 then 0 else 1:=by
 rw[J0F,Q53,Q6q,Q7I hg (J6A hc) hv,ho];by_cases h0:v=0
 . rw[decide_eq_true h0,if_pos h0];rfl
 . rw[decide_eq_false h0,if_neg h0];rfl
theorem Q3j {g:G} (hg:g.valid=true) {c:Cf} (hc:J1u J0q g c) {v:Nat} (hv:v<g.ids.length) (ho:Q3P g c v=false):J0F J0q g c v=if X75.sem g c v (-1)≠0 then 2 else if Q6v.sem g c v (-1)≠0 then 3 else if X7A.sem g c v (-1)≠0 then 4 else -1:=by
 rw[J0F,Q53,Q6q,Q7I hg (J6A hc) hv,ho,Bool.and_false,Bool.and_false];rfl
theorem X2s {g:G} (h:g.conn=true) {c:Cf} (ht:TrC g c):Go.Plain.Tree.Ok g.ids.length (Dg g) (upI g) (stW c) g.ids.length :=
 ⟨fun v hv _=>ht v hv,fun v hv hk=>by have:=(Q7q h).top v hv;omega⟩
theorem Q7a {g:G} (h:g.conn=true) {c:Cf} {k:Nat} (ho:Go.Plain.Tree.Ok g.ids.length (Dg g) (upI g) (stW c) k) (hk:∀v,v<g.ids.length->Dg g v<k):TrC g c :=
 fun v hv=>ho.low v hv (hk v hv)
theorem X0j {g:G} (h:g.conn=true) {c:Cf} (ht:TrC g c) {v:Nat} (hv:v<g.ids.length):Q3P g c v=false:=by
 have:=(X2s h ht).all (Q7q h) (Q6I h) hv (by have:=(Q7q h).top v hv;omega);rw[J4W] at this;simpa using this
theorem Q7b {g:G} (hg:g.valid=true) {c:Cf} (hc:J1u J0q g c) {v:Nat} (hv:v<g.ids.length) (ho:Q3P g c v=true):(enN J0q g c).testBit v=true:=by
 rw[J3U,Q52 hg hc hv ho,decide_eq_true hv,Bool.true_and,decide_eq_true_eq];split<;>omega
abbrev enW (g:G) (c:Cf) (v:Nat):Prop:=Go.Plain.Wave.en g.ids.length (J3e g) (sW c) (bW c) v
inductive Wr (g:G) (c:Cf) (v:Nat):Int->Prop
 | beg (h0:v=0) (h:sW c 0=false):Wr g c v 2
 | take (h0:v≠0) (h:Go.Plain.Wave.tk (J3e g) (sW c) (bW c) v):Wr g c v 3
 | fin (h:Go.Plain.Wave.fin g.ids.length (J3e g) (sW c) (bW c) v) (h1:v≠0->¬ Go.Plain.Wave.tk (J3e g) (sW c) (bW c) v):Wr g c v 4
 | none (h:¬ enW g c v):Wr g c v (-1)
theorem X2l {g:G} (h:g.conn=true) {c:Cf} (hc:J1u J0q g c) (ht:TrC g c) {v:Nat} (hv:v<g.ids.length):Wr g c v (J0F J0q g c v):=by
 obtain⟨h1,h2⟩:=J0o h;rw[Q3j h1 hc hv (X0j h ht hv)];by_cases q1:X75.sem g c v (-1)≠0
 . rw[if_pos q1];exact .beg ((Q26 hc hv).1 q1).1 ((Q26 hc hv).1 q1).2
 . rw[if_neg q1];by_cases q2:Q6v.sem g c v (-1)≠0
   . rw[if_pos q2];exact .take ((J9b h hc ht hv).1 q2).1 ((J9b h hc ht hv).1 q2).2
   . rw[if_neg q2];have e2:v≠0->¬ Go.Plain.Wave.tk (J3e g) (sW c) (bW c) v:=fun h0 q=>q2 ((J9b h hc ht hv).2 ⟨h0,q⟩);by_cases q3:X7A.sem g c v (-1)≠0
     . rw[if_pos q3];exact .fin ((Q8x h hc ht hv).1 q3) e2
     . rw[if_neg q3];refine .none fun q=>?_;rw[enW,Go.Plain.Wave.en] at q;have e3:=fun q=>q3 ((Q8x h hc ht hv).2 q);by_cases h0:v=0
       . rw[if_pos h0] at q;rcases q with q|q
         . exact q1 ((Q26 hc hv).2 ⟨h0,q⟩)
         . exact e3 (by rw[h0];exact q)
       . rw[if_neg h0] at q;rcases q with q|q
         . exact e2 h0 q
         . exact e3 q
theorem X8P {g:G} {c:Cf} {v:Nat} {r:Int} (h:Wr g c v r):0<=r↔enW g c v:=by
 rw[enW,Go.Plain.Wave.en];cases h with
 | beg h0 h=>rw[if_pos h0];exact⟨fun _=>.inl h,fun _=>by omega⟩
 | take h0 h=>rw[if_neg h0];exact⟨fun _=>.inl h,fun _=>by omega⟩
 | fin h h1 =>
   refine⟨fun _=>?_,fun _=>by omega⟩;by_cases h0:v=0
   . rw[if_pos h0];exact .inr (by rw[h0] at h;exact h)
   . rw[if_neg h0];exact .inr h
 | none h=>exact⟨fun q=>by omega,fun q=>(h q).elim⟩
theorem Q3O {g:G} (h:g.conn=true) {c:Cf} (hc:J1u J0q g c) (ht:TrC g c) {v:Nat} (hv:v<g.ids.length):(enN J0q g c).testBit v=true↔enW g c v:=by
 rw[J3U,decide_eq_true hv,Bool.true_and,decide_eq_true_eq];exact X8P (X2l h hc ht hv)
theorem wv0 (g:G) (c:Cf) (v:Nat):J1E J0q g c v 0=((gC c v).set 0 (brI 1 0 (0+1*(g.ids.length:Int)+0*Q3v g) 0)).set 1 (brI 3 (-1) (((gR g.ports v).length:Int)-1) (-1)):=rfl
theorem wv1 (g:G) (c:Cf) (v:Nat):J1E J0q g c v 1=((gC c v).set 0 (brI 1 0 (0+1*(g.ids.length:Int)+0*Q3v g) (dTm.sem g c v (-1)))).set 1 (brI 3 (-1) (((gR g.ports v).length:Int)-1) (pTm.sem g c v (-1))):=rfl
theorem wv2 (g:G) (c:Cf) (v:Nat):J1E J0q g c v 2=((gC c v).set 2 (brI 2 0 1 1)).set 3 (brI 2 0 1 (J1f (decide (gI (gC c v) 3=0)))):=rfl
theorem wv3 (g:G) (c:Cf) (v:Nat):J1E J0q g c v 3=((gC c v).set 2 (brI 2 0 1 ((Q0r 2).sem g c v (-1)))).set 3 (brI 2 0 1 ((Q0r 3).sem g c v (-1))):=rfl
theorem wv4 (g:G) (c:Cf) (v:Nat):J1E J0q g c v 4=(gC c v).set 2 (brI 2 0 1 0):=rfl
theorem J7L {k lo hi a:Int} (h:lo<=a/\a<=hi):brI k lo hi a=a:=by rw[brI,if_pos h]
theorem Q23 (b:Bool):brI 2 0 1 (J1f b)=J1f b:=J7L (by cases b<;>simp[J1f])
theorem X0m {g:G} (hg:g.valid=true) {c:Cf} (hc:J1u J0q g c) {v:Nat} (hv:v<g.ids.length) (h0:v≠0):0<=(tgB g (dC c) v).1/\(tgB g (dC c) v).1<=g.ids.length/\-1<=(tgB g (dC c) v).2/\(tgB g (dC c) v).2<=((gR g.ports v).length:Int)-1:=by
 have hm:=X65 (J6A hc) hg hv;have hf:=J7p (fun l=>decide (dC c l.1.toNat=mnD g (dC c) v)) (gR g.ports v) 0;rw[tgB,if_neg h0];simp only;split<;>omega
theorem X3w {g:G} {c:Cf} {v:Nat} (hlen:(gC c v).length=4) {r:Int} (hr:r=2\/r=3\/r=4):gI (J1E J0q g c v r.toNat) 0=dC c v/\gI (J1E J0q g c v r.toNat) 1=pC c v:=by
 rcases hr with rfl|rfl|rfl
 . rw[show(2:Int).toNat=2 from rfl,wv2,J1p _ _ _ _ (by rw[List.length_set];omega),if_neg (by decide),J1p _ _ _ _ (by omega),if_neg (by decide),J1p _ _ _ _ (by rw[List.length_set];omega),if_neg (by decide),J1p _ _ _ _ (by omega),if_neg (by decide)];exact⟨rfl,rfl⟩
 . rw[show(3:Int).toNat=3 from rfl,wv3,J1p _ _ _ _ (by rw[List.length_set];omega),if_neg (by decide),J1p _ _ _ _ (by omega),if_neg (by decide),J1p _ _ _ _ (by rw[List.length_set];omega),if_neg (by decide),J1p _ _ _ _ (by omega),if_neg (by decide)];exact⟨rfl,rfl⟩
 . rw[show(4:Int).toNat=4 from rfl,wv4,J1p _ _ _ _ (by omega),if_neg (by decide),J1p _ _ _ _ (by omega),if_neg (by decide)];exact⟨rfl,rfl⟩
theorem Q3i {g:G} (hg:g.valid=true) {c:Cf} (hc:J1u J0q g c) {s:Nat} (hs:J2e s (enN J0q g c)):Go.Plain.Tree.Step g.ids.length (tgB g) (stW c) (fun v=>s.testBit v) (stW (J0H J0q g c s)):=by
 intro v hv;have hl:=hc.len;have hlen:=(J3H hc hv).1;have hrow:=J1R J0q g c s (v:=v) (by omega);refine⟨fun hb ho=>?_,fun hq=>?_⟩
 . rw[J4W] at ho;rw[if_pos hb,Q52 hg hc hv ho] at hrow;show(gI (gC (J0H J0q g c s) v) 0,gI (gC (J0H J0q g c s) v) 1)=tgB g (dC c) v;by_cases h0:v=0
   . rw[if_pos h0] at hrow;rw[hrow,show(0:Int).toNat=0 from rfl,wv0];rw[J1p _ _ _ _ (by rw[List.length_set];omega),if_neg (by decide),J1p _ _ _ _ (by omega),if_pos rfl,J1p _ _ _ _ (by rw[List.length_set];omega),if_pos rfl,tgB,if_pos h0,J7L (by omega),J7L (by omega)]
   . rw[if_neg h0] at hrow;obtain⟨r1,r2,r3,r4⟩:=X0m hg hc hv h0;rw[hrow,show(1:Int).toNat=1 from rfl,wv1,X7M hg (J6A hc) hv h0,X6G g c v h0];rw[J1p _ _ _ _ (by rw[List.length_set];omega),if_neg (by decide),J1p _ _ _ _ (by omega),if_pos rfl,J1p _ _ _ _ (by rw[List.length_set];omega),if_pos rfl,J7L (by omega),J7L (by omega)]
 . show gI (gC (J0H J0q g c s) v) 0=gI (gC c v) 0/\gI (gC (J0H J0q g c s) v) 1=gI (gC c v) 1;cases hb:s.testBit v with
   | false=>rw[hrow,hb];exact⟨rfl,rfl⟩
   | true =>
     have ho:Q3P g c v=false:=by
      rcases hq with q|q
      . exact absurd (hb.symm.trans q) (by simp)
      . rw[J4W] at q;simpa using q
     have hen:=hs v hb;rw[J3U,Bool.and_eq_true,decide_eq_true_eq,decide_eq_true_eq] at hen;have hr:=Q3j hg hc hv ho;rw[if_pos hb] at hrow;rw[hrow];refine X3w hlen ?_;have h5:=hen.2;rw[hr] at h5 ⊢;split
     . exact .inl rfl
     . split
       . exact .inr (.inl rfl)
       . split
         . exact .inr (.inr rfl)
         . rename_i a1 a2 a3;rw[if_neg a1,if_neg a2,if_neg a3] at h5;omega
theorem Q3u {g:G} (h:g.conn=true) {c:Cf} (hc:J1u J0q g c) (ht:TrC g c) {s:Nat} (hs:J2e s (enN J0q g c)):TrC g (J0H J0q g c s):=by
 obtain⟨h1,h2⟩:=J0o h;exact Q7a h ((X2s h ht).step (Q7q h) (Q6I h) (Q3i h1 hc hs)).1 fun v hv=>by have:=(Q7q h).top v hv;omega
theorem Q0T {c:Cf} {v x:Nat} {b:Bool} (h:gI (gC c v) x=J1f b):one c x v=b:=by
 rw[one,h];cases b<;>rfl
theorem X2m {g:G} (h:g.conn=true) {c:Cf} (hc:J1u J0q g c) (ht:TrC g c) {s:Nat} (hs:J2e s (enN J0q g c)) :
 Go.Plain.Wave.Ch g.ids.length (J3e g) (sW c) (bW c) (fun v=>s.testBit v) (sW (J0H J0q g c s)) (bW (J0H J0q g c s)):=by
 have hl:=hc.len;have b2:=(J2s hc).1;have b3:=(J2s hc).2;have hlt:∀v,s.testBit v=true->v<g.ids.length:=fun v hv=>by
  have hb:=hs v hv;rw[J3U,Bool.and_eq_true,decide_eq_true_eq] at hb;exact hb.1
 have key:∀v,s.testBit v=true->gC (J0H J0q g c s) v=J1E J0q g c v (J0F J0q g c v).toNat/\0<=J0F J0q g c v/\Wr g c v (J0F J0q g c v):=fun v hv=>by
  have hn:=hlt v hv;have hrow:=J1R J0q g c s (v:=v) (by omega);rw[if_pos hv] at hrow;have hb:=hs v hv;rw[J3U,Bool.and_eq_true,decide_eq_true_eq,decide_eq_true_eq] at hb;exact⟨hrow,hb.2,X2l h hc ht hn⟩
 have hfin:∀v,v<g.ids.length->gC (J0H J0q g c s) v=J1E J0q g c v (4:Int).toNat->sW (J0H J0q g c s) v=false/\bW (J0H J0q g c s) v=bW c v:=fun v hv e=>by
  have hlen:=(J3H hc hv).1;rw[show(4:Int).toNat=4 from rfl,wv4] at e;refine⟨Q0T (b:=false) ?_,?_⟩
  . rw[e,J1p _ _ _ _ (by omega),if_pos rfl];rfl
  . show decide (gI (gC (J0H J0q g c s) v) 3=1)=decide (gI (gC c v) 3=1);rw[e,J1p _ _ _ _ (by omega),if_neg (by decide)]
 refine⟨hlt,fun v hv hm=>?_,fun hm=>?_,fun v hm h0=>?_⟩
 . have hrow:=J1R J0q g c s (v:=v) (by omega);have hm':s.testBit v=false:=hm;rw[if_neg (by simp[hm'])] at hrow;show decide (gI (gC (J0H J0q g c s) v) 2=1)=decide (gI (gC c v) 2=1)/\decide (gI (gC (J0H J0q g c s) v) 3=1)=decide (gI (gC c v) 3=1);rw[hrow];exact⟨rfl,rfl⟩
 . have hn:=hlt 0 hm;have hlen:=(J3H hc hn).1;obtain⟨k1,k2,k3⟩:=key 0 hm;generalize J0F J0q g c 0=r at *;cases k3 with
   | beg h0 hq =>
     left;rw[show(2:Int).toNat=2 from rfl,wv2] at k1;refine⟨hq,Q0T (b:=true) ?_,Q0T ?_⟩
     . rw[k1,J1p _ _ _ _ (by rw[List.length_set];omega),if_neg (by decide),J1p _ _ _ _ (by omega),if_pos rfl];rfl
     . rw[k1,J1p _ _ _ _ (by rw[List.length_set];omega),if_pos rfl,Q23];rw[J1T b3 hn];show J1f (decide (J1f (one c 3 0)=0))=J1f (!one c 3 0);cases one c 3 0<;>rfl
   | take h0=>exact(h0 rfl).elim
   | fin hq _=>exact .inr ⟨hq,hfin 0 hn k1⟩
   | none=>omega
 . have hn:=hlt v hm;have hlen:=(J3H hc hn).1;obtain⟨k1,k2,k3⟩:=key v hm;generalize J0F J0q g c v=r at *;cases k3 with
   | beg h0' hq=>exact(h0 h0').elim
   | take _ hq =>
     left;have e2:=Q0q h hc ht hn h0 2 b2 (-1);have e3:=Q0q h hc ht hn h0 3 b3 (-1);rw[show(3:Int).toNat=3 from rfl,wv3] at k1;have e2:(Q0r 2).sem g c v (-1)=J1f (one c 2 (J3e g v)):=e2;have e3:(Q0r 3).sem g c v (-1)=J1f (one c 3 (J3e g v)):=e3;rw[e2,e3,Q23,Q23] at k1;refine⟨hq,Q0T ?_,Q0T ?_⟩
     . rw[k1,J1p _ _ _ _ (by rw[List.length_set];omega),if_neg (by decide),J1p _ _ _ _ (by omega),if_pos rfl]
     . rw[k1,J1p _ _ _ _ (by rw[List.length_set];omega),if_pos rfl]
   | fin hq hn2=>exact .inr ⟨hn2 h0,hq,hfin v hn k1⟩
   | none=>omega
theorem X5I {g:G} (h:g.conn=true) {c:Cf} (hc:J1u J0q g c) (ho:∀v,v<g.ids.length->Q3P g c v=false):TrC g c:=by
 have key:∀k,Go.Plain.Tree.Ok g.ids.length (Dg g) (upI g) (stW c) k:=fun k=>by
  induction k with
  | zero=>exact Go.Plain.Tree.Ok.start (J6A hc)
  | succ k ih =>
    refine ih.next fun v hv hb=>?_;have:=ih.off_bad (Q7q h) (Q6I h) hv hb;rw[J4W,ho v hv] at this;cases this
 exact Q7a h (key g.ids.length) fun v hv=>by have:=(Q7q h).top v hv;omega
def X56 (g:G) (c:Cf):Prop:=TrC g c/\∀v,v<g.ids.length->v≠0->Go.Plain.Wave.ord (J3e g) (sW c) (bW c) v
theorem Q7U {g:G} (h:g.conn=true) {c:Cf} (hc:J1u J0q g c) (hl:X56 g c) {s:Nat} (hs:J2e s (enN J0q g c)):X56 g (J0H J0q g c s):=by
 have hT:=Q6o h;refine⟨Q3u h hc hl.1 hs,fun v hv h0=>?_⟩;exact Go.Plain.Wave.ord_step hT (X2m h hc hl.1 hs) hv h0 (fun e=>hl.2 _ (hT.lt v hv h0) e) (.inl (hl.2 v hv h0))
theorem Q37 {g:G} {c:Cf} (ht:TrC g c) (hn:¬ X56 g c):∃v,v<g.ids.length/\v≠0/\¬ Go.Plain.Wave.ord (J3e g) (sW c) (bW c) v:=by
 apply Classical.byContradiction;intro q;exact hn ⟨ht,fun v hv h0=>Classical.byContradiction fun e=>q ⟨v,hv,h0,e⟩⟩
theorem X4v {g:G} (h:g.conn=true) {c:Cf} (hc:J1u J0q g c) (hn:¬ X56 g c):enN J0q g c≠0:=by
 obtain⟨h1,h2⟩:=J0o h;have key:∃u,(enN J0q g c).testBit u=true:=by
  by_cases q:∃v,v<g.ids.length/\Q3P g c v=true
  . obtain⟨v,hv,ho⟩:=q;exact⟨v,Q7b h1 hc hv ho⟩
  . have ht:=X5I h hc fun v hv=>by
     cases e:Q3P g c v with
     | false=>rfl
     | true=>exact(q ⟨v,hv,e⟩).elim
    obtain⟨v,hv,h0,hb⟩:=Q37 ht hn;exact⟨v,(Q3O h hc ht hv).2 (Go.Plain.Wave.not_en h0 hb)⟩
 obtain⟨u,hu⟩:=key;intro e;rw[e] at hu;simp at hu
inductive WIn (g:G) (c:Cf) (k:Cnt):Prop
 | tree (hr:k.rounds<=g.ecc.toNat) (ho:Go.Plain.Tree.Ok g.ids.length (Dg g) (upI g) (stW c) k.rounds) (hb:∀v,v<g.ids.length->Go.Plain.Tree.bad (Dg g) (upI g) (stW c) k.rounds v->k.pend.testBit v=true)
 | wave (ht:TrC g c) (j:Nat) (hr:k.rounds<=g.ecc.toNat+1+j) (hl:Go.Plain.Wave.Lev g.ids.length (J3e g) (Dg g) (sW c) (bW c) (fun v=>k.pend.testBit v) j)
theorem Q27 {g:G} (h:g.conn=true) {c:Cf} (hc:J1u J0q g c) {k:Nat} (ho:Go.Plain.Tree.Ok g.ids.length (Dg g) (upI g) (stW c) k) {v:Nat} (hv:v<g.ids.length) (hb:Go.Plain.Tree.bad (Dg g) (upI g) (stW c) k v):(enN J0q g c).testBit v=true :=
 Q7b (J0o h).1 hc hv (J4W.1 (ho.off_bad (Q7q h) (Q6I h) hv hb))
theorem Q5Y {g:G} (h:g.conn=true) {c:Cf} (hc:J1u J0q g c):WIn g c (J7X (enN J0q g c)) :=
 .tree (by simp[J7X]) (Go.Plain.Tree.Ok.start (J6A hc)) fun v hv hb=>Q27 h hc (Go.Plain.Tree.Ok.start (J6A hc)) hv hb
theorem Q9R {g:G} (h:g.conn=true) {c:Cf} (hc:J1u J0q g c) {k:Cnt} (hi:WIn g c k) {s:Nat} (hs:J2e s (enN J0q g c)) (hc':J1u J0q g (J0H J0q g c s)) :
 WIn g (J0H J0q g c s) (k.add s (enN J0q g (J0H J0q g c s))):=by
 obtain⟨h1,h2⟩:=J0o h;obtain⟨f1,f2,f3,f4,f5,f6,f7⟩:=J0f h1;have hT:=Q6o h;have hstep:=Q3i h1 hc hs;have hlf:∀v,v<g.ids.length->((lft k s (enN J0q g (J0H J0q g c s))).testBit v=true↔(k.pend.testBit v=true/\s.testBit v=false)/\(enN J0q g (J0H J0q g c s)).testBit v=true):=fun v hv=>by
  simp only[lft,Nat.testBit_and,J00 (show v<32 by omega),Bool.and_eq_true,Bool.not_eq_true']
 rcases hi with ⟨hr,ho,hb⟩ | ⟨ht,j,hr,hl⟩
 . obtain⟨ho',hb'⟩:=ho.step (Q7q h) (Q6I h) hstep;have hbl:∀v,v<g.ids.length->Go.Plain.Tree.bad (Dg g) (upI g) (stW (J0H J0q g c s)) k.rounds v->(lft k s (enN J0q g (J0H J0q g c s))).testBit v=true:=fun v hv q=>by
    obtain⟨q1,q2⟩:=hb' v hv q;exact(hlf v hv).2 ⟨⟨hb v hv q1,q2⟩,Q27 h hc' ho' hv q⟩
   by_cases hz:lft k s (enN J0q g (J0H J0q g c s))=0
   . rw[Cnt.add,if_pos hz];have hnx:=ho'.next fun v hv q=>by
      have:=hbl v hv q;rw[hz] at this;simp at this
     by_cases hE:k.rounds+1<=g.ecc.toNat
     . exact .tree hE hnx fun v hv q=>Q27 h hc' hnx hv q
     . have ht':TrC g (J0H J0q g c s):=Q7a h hnx fun v hv=>by have:=hT.top v hv;omega
       exact .wave ht' 0 (by simp only;omega) (Go.Plain.Wave.Lev.start hT fun u hu he=>(Q3O h hc' ht' hu).2 he)
   . rw[Cnt.add,if_neg hz];exact .tree hr ho' hbl
 . have ht':=Q3u h hc ht hs;have hl':=hl.step hT (X2m h hc ht hs) (p':=fun v=>(lft k s (enN J0q g (J0H J0q g c s))).testBit v) fun v hv q1 q2 q3=>(hlf v hv).2 ⟨⟨q1,q2⟩,(Q3O h hc' ht' hv).2 q3⟩;by_cases hz:lft k s (enN J0q g (J0H J0q g c s))=0
   . rw[Cnt.add,if_pos hz];exact .wave ht' (j+1) (by simp only;omega) (hl'.round (q:=fun v=>(enN J0q g (J0H J0q g c s)).testBit v) (fun v hv=>by simp only[hz];simp) (fun u hu he=>(Q3O h hc' ht' hu).2 he))
   . rw[Cnt.add,if_neg hz];exact .wave ht' j hr hl'
end Go.Proofs.YtlpfphlbghdokaaGreatDoor
namespace Go.Proofs.YtlpfphlbghdokaaGreatDoor
open Go.Eng
set_option maxRecDepth 100000
set_option linter.unusedVariables false
end Go.Proofs.YtlpfphlbghdokaaGreatDoor
namespace Go.Proofs.YtlpfphlbghdokaaGreatDoor
open Go.Eng
set_option maxRecDepth 100000
set_option linter.unusedVariables false
def bWv (g:G) (v x:Nat):Int×Int:=if x=0 then (0,g.ids.length) else if x=1 then (-1,((gR g.ports v).length:Int)-1) else (0,1)
def G.wconf (g:G) (c:Cf):Bool:=conf g.ids.length 4 (bWv g) c
theorem X3z (g:G) (c:Cf):conf g.ids.length [(g.ids.length:Int),-1,1,1].length (bG g [(g.ids.length:Int),-1,1,1]) c=g.wconf c:=Q8W (fun v x hv hx=>by
 have e:x=0\/x=1\/x=2\/x=3:=by simp at hx;omega
 rcases e with rfl|rfl|rfl|rfl
 . rw[bG,show gI [(g.ids.length:Int),-1,1,1] 0=g.ids.length from rfl,if_neg (by omega)];rfl
 . rfl
 . rfl
 . rfl)
theorem J6z {g:G} {c:Cf} (h:g.wconf c=true):c.length=g.ids.length/\∀v,v<c.length->(gC c v).length=4/\0<=gI (gC c v) 0/\gI (gC c v) 0<=g.ids.length/\-1<=gI (gC c v) 1/\gI (gC c v) 1<(gR g.ports v).length/\(0<=gI (gC c v) 2/\gI (gC c v) 2<=1)/\0<=gI (gC c v) 3/\gI (gC c v) 3<=1:=by
 have:=J2x.1 h;refine⟨this.1,fun v hv=>?_⟩;have h2:=this.2 v (by omega);have h3:=h2.2 0 (by omega);have h4:=h2.2 1 (by omega);have h5:=h2.2 2 (by omega);have h6:=h2.2 3 (by omega);simp only[bWv,if_true,Nat.one_ne_zero,if_false,show ¬ (2:Nat)=0 by decide,show ¬ (2:Nat)=1 by decide,show ¬ (3:Nat)=0 by decide,show ¬ (3:Nat)=1 by decide] at h3 h4 h5 h6;omega
theorem Q9T {g:G} {c:Cf} (h:J1u J0q g c):g.wconf c=true:=by
 rw[G.wconf,J2x];refine⟨h.len,fun v hv=>?_⟩;obtain⟨h0,h1,h2,h3,h4,⟨h5,h6⟩,h7,h8⟩:=J3H h hv;refine⟨h0,fun x hx=>?_⟩;rcases (show x=0\/x=1\/x=2\/x=3 by omega) with rfl|rfl|rfl|rfl
 . exact⟨h1,h2⟩
 . exact⟨h3,h4⟩
 . exact⟨h5,h6⟩
 . exact⟨h7,h8⟩
theorem Y0N {g:G} {c:Cf} (h:g.valid=true) (hc:g.wconf c=true):Y23 g c:=by
 obtain⟨f1,f2,f3,f4,f5,f6,f7⟩:=J0f h;obtain⟨e1,e2⟩:=J6z hc;exact⟨by omega,fun v hv=>by have:=e2 v hv;omega,fun v hv=>by have:=e2 v hv;omega⟩
theorem J9G (a b d e:Int) (f:Nat->Nat->V) (h0:f 0 0=.int .i64 a) (h1:f 1 0=.int .i64 b) (h2:f 2 0=.int .i64 d) (h3:f 3 0=.int .i64 e):∀i j:Nat,i<4->j<1->VLe (f i j) (vI [a,b,d,e] i j):=by
 intro i j hi hj;obtain rfl:j=0:=by omega
 rcases (show i=0\/i=1\/i=2\/i=3 by omega) with rfl|rfl|rfl|rfl
 . rw[h0];exact VLe.rfl
 . rw[h1];exact VLe.rfl
 . rw[h2];exact VLe.rfl
 . rw[h3];exact VLe.rfl
theorem Q5Z (g:G) (hs:g.Small):Ret Tryz.prog 49 [g.v] (.bool g.conn):=by
 have h:=Q2O g hs;refine J0g rfl ?_;refine J0c J0b Tryz.func49 rfl hc49 hr49 rfl ?_;cases hc:g.conn
 all_goals rw[hc] at h
 all_goals
  repeat' ((conv=>whnf);first|(refine Br.tt ?_)|(refine Br.ff ?_)|(refine h.go ?_))
  all_goals (conv=>whnf)
  exact VLe.rfl
theorem J5j (g:G) (hs:g.Small) (c:Cf) (hc:J4p c):Ret Tryz.prog 50 [g.v,cV c] (.bool (g.conn&&g.wconf c)):=by
 have hf:=Q5Z g hs;refine J0g rfl ?_;refine J0c J0b Tryz.func50 rfl hc50 hr50 rfl ?_;cases hg:g.conn with
 | true =>
   rw[hg] at hf;rw[Bool.true_and];obtain⟨h1,_⟩:=J0o hg;obtain⟨f1,f2,f3,f4,f5,f6,f7⟩:=J0f h1;have hb:=Q4M g hs f3 c hc [(g.ids.length:Int),-1,1,1] (by simp);rw[X3z] at hb
   repeat' ((conv=>whnf);first|(refine Br.tt ?_)|(refine hf.go ?_)|(refine J3z [1] hb ⟨by decide,VLe.rfl,VLe.rfl,VLe.fz rfl (fun h=>h) (J9G _ _ _ _ _ rfl rfl rfl rfl),True.intro⟩ ?_)|(refine Br.any (fun _=>?_) (fun _=>?_)))
   all_goals (conv=>whnf)
   all_goals exact VLe.bool (Eq.symm (by assumption))
 | false =>
   rw[hg] at hf
   repeat' ((conv=>whnf);first|(refine Br.ff ?_)|(refine hf.go ?_))
   all_goals (conv=>whnf)
   all_goals exact VLe.rfl
theorem Q9O (c:Cf) (hc:c.length<=1000) (hr:∀v,v<c.length->(gC c v).length=4):Ret Tryz.prog 51 [cV c] (cV (tkC c)):=by
 refine J0g rfl ?_;refine J0c J0b Tryz.func51 rfl hc51 hr51 rfl ?_
 repeat' ((conv=>whnf);first|(refine Bd.q ?_)|(refine Len.q ?_)|(refine MkS.vec ?_))
 all_goals (conv=>whnf)
 refine J1h J0b [3,9,10] [] [1,2,3,4,5,6,7,8,9,10,11,12,13,14,15,16,17,18,19,20,21,22,23,24,25,26,27,28,29] [0] (fun v:Nat=>[(11,.int .i64 v)]) (fun v=>[(0,.vec c.length 1 (J6U c v))]) (fun m v=>m=c.length-v/\v<=c.length) c.length 0 ⟨rfl,Nat.zero_le _⟩ rfl (fun _=>rfl) ?_ ?_
 . refine J0e (fun _ _=>[(0,some 0)]) ?_ ?_ rfl
   . repeat' (first|exact tI|(refine⟨⟨_,rfl,?_⟩,?_⟩)|exact J0a.kf rfl|exact J0a.q)
   . repeat' (first|exact⟨Nat.le_refl _,rfl,fun i j hi hj=>VLe.of_eq (by obtain rfl:j=0:=(by omega);rfl)⟩|exact tI|(refine⟨⟨_,rfl,?_⟩,?_⟩))
 rintro m v ⟨hm,hv⟩;by_cases hvn:v<c.length
 . have h3:=hr v hvn
   repeat' ((conv=>whnf);first|(refine Bd.mk 2 rfl (by omega) ?_)|(refine Br.dec ?_ ?_<;>intro _<;>try omega)|(refine Ar.q ?_)|(refine Ix.q ?_)|(refine Bd.mk 0 rfl (by omega) ?_)|(refine Ltn.q ?_))
   all_goals (conv=>whnf)
   refine⟨c.length-(v+1),v+1,by omega,⟨rfl,by omega⟩,?_⟩;refine J0e (fun _ _=>[(0,some 0)]) ?_ ?_ rfl
   . repeat' (first|exact tI|(refine⟨⟨_,rfl,?_⟩,?_⟩)|exact J0a.kf rfl|exact J0a.q)
   . repeat' (first|exact⟨Nat.le_refl _,rfl,fun i t hi ht=>by simp only[Nat.zero_add];exact X6f c v i t _ _ (fun a b=>VLe.of_eq (by simp[J0j])) ht⟩|exact tI|(refine⟨⟨_,rfl,?_⟩,?_⟩))
 . repeat' ((conv=>whnf);first|(refine Br.dec ?_ ?_<;>intro _<;>try omega)|(refine Len.q ?_))
   all_goals (conv=>whnf)
   refine VLe.fz (J9a c).symm (fun h=>h) (fun i t hi ht=>?_);have e1:J0j 0 (J6U c v) i t=.fz 2 1 false (vI (gC c i)):=by rw[X0w,Nat.zero_add];exact if_pos (by omega)
   have hl:(gC (tkC c) i).length=2:=by rw[J5m,List.length_take,hr i hi];rfl
   rw[e1];show VLe _ (.fz (gC (tkC c) i).length 1 false (vI (gC (tkC c) i)));rw[hl];refine VLe.fz rfl (fun h=>h) (fun a b ha hb=>VLe.of_eq ?_);simp only[vI];rw[J5m,J4b _ _ ha]
theorem Q9q {g:G} {c:Cf} (h:g.wconf c=true):g.bconf (tkC c)=true:=by
 have h1:=J2x.1 h;refine J2x.2 ⟨by rw[J9a];exact h1.1,fun v hv=>?_⟩;have h2:=h1.2 v hv;refine⟨by rw[J5m,List.length_take,h2.1];rfl,fun x hx=>?_⟩;have h3:=h2.2 x (by omega);rw[J5m,J4b _ x hx];rcases (show x=0\/x=1 by omega) with rfl|rfl
 . rw[bG,show gI [(g.ids.length:Int),-1] 0=g.ids.length from rfl,if_neg (by omega)];exact h3
 . exact h3
def orD (c:Cf) (v:Nat) (u:Int):Prop:=gI (gC c u.toNat) 2=1\/(gI (gC c v) 2=gI (gC c u.toNat) 2/\gI (gC c v) 3=gI (gC c u.toNat) 3)
instance (c:Cf) (v:Nat) (u:Int):Decidable (orD c v u):=inferInstanceAs (Decidable (_\/_))
def orB (g:G) (c:Cf):Bool:=decide (∀v,v<c.length->0<=tw g c v->orD c v (tw g c v))
theorem Q2q {g:G} {c:Cf}:orB g c=true↔∀v,v<c.length->0<=tw g c v->orD c v (tw g c v):=by rw[orB,decide_eq_true_eq]
theorem X6Q {g:G} {c:Cf} {v:Nat} (hv:v<c.length) (h0:0<=tw g c v) (hn:¬ orD c v (tw g c v)):orB g c=false:=by
 cases e:orB g c with
 | false=>rfl
 | true=>exact(hn (Q2q.1 e v hv h0)).elim
def G.wleg (g:G) (c:Cf):Bool:=g.conn&&g.wconf c&&J89 g c&&orB g c
theorem Q0c (g:G) (hs:g.Small) (c:Cf) (hc:J4p c):Ret Tryz.prog 17 [g.v,cV c] (.bool (g.wleg c)):=by
 have h0:=J5j g hs c hc;refine J0g rfl ?_;refine J0c J0b Tryz.func17 rfl hc17 hr17 rfl ?_;rw[G.wleg];cases hgc:g.conn&&g.wconf c with
 | false =>
   rw[hgc] at h0
   repeat' ((conv=>whnf);first|(refine Br.ff ?_)|(refine h0.go ?_))
   all_goals (conv=>whnf)
   exact VLe.rfl
 | true =>
   rw[hgc] at h0;rw[Bool.true_and];rw[Bool.and_eq_true] at hgc;obtain⟨h1,_⟩:=J0o hgc.1;obtain⟨f1,f2,f3,f4,f5,f6,f7⟩:=J0f h1;obtain⟨e1,e2⟩:=J6z hgc.2;have ht:=Q9O c (by omega) (fun v hv=>(e2 v hv).1);have hb:=Q9m g hs (tkC c) (Q8Q hc);rw[hgc.1,Q9q hgc.2,X0h,Bool.true_and,Bool.true_and] at hb;have hpt:=Y0N h1 hgc.2;have hw:=Q44 g h1 c hpt;have hwl:=Q6m g c c.length;cases htb:J89 g c with
   | false =>
     rw[htb] at hb
     repeat' ((conv=>whnf);first|(refine Br.tt ?_)|(refine Br.ff ?_)|(refine h0.go ?_)|(refine ht.go ?_)|(refine hb.go ?_)|(refine And.intro rfl ?_))
     all_goals (conv=>whnf)
     exact VLe.rfl
   | true =>
     rw[htb] at hb;rw[Bool.true_and]
     repeat' ((conv=>whnf);first|(refine Br.tt ?_)|(refine h0.go ?_)|(refine ht.go ?_)|(refine hb.go ?_)|(refine hw.go ?_)|(refine And.intro rfl ?_))
     all_goals (conv=>whnf)
     refine J0N J0b [1,20,21] (fun i:Nat=>[(22,.int .i64 i)]) (fun m i=>m=c.length-i/\i<=c.length/\∀v,v<i->0<=tw g c v->orD c v (tw g c v)) c.length 0 ⟨rfl,Nat.zero_le _,fun v hv=>by omega⟩ ?_ ?_
     . exact J0k (fun _ _=>[(0,some 0)])
     rintro m i ⟨hm,hi,hall⟩;by_cases hil:i<c.length
     . have hx:=Q6n g c hil;have hr:=e2 i hil;obtain⟨t1,t2⟩:=X0f hgc.1 hpt htb hil;by_cases h0t:0<=tw g c i
       . have hlt:tw g c i<c.length:=by
          by_cases e:i=0
          . have:=t1 e;omega
          . exact(t2 e).2
         have hru:=e2 (gI (twL g c c.length) i).toNat (by omega);have hod:orD c i (tw g c i)↔gI (gC c (gI (twL g c c.length) i).toNat) 2=1\/(gI (gC c i) 2=gI (gC c (gI (twL g c c.length) i).toNat) 2/\gI (gC c i) 3=gI (gC c (gI (twL g c c.length) i).toNat) 3):=by rw[hx];exact Iff.rfl
         have hno:¬ (gI (gC c (gI (twL g c c.length) i).toNat) 2=1\/(gI (gC c i) 2=gI (gC c (gI (twL g c c.length) i).toNat) 2/\gI (gC c i) 3=gI (gC c (gI (twL g c c.length) i).toNat) 3))->orB g c=false:=fun q=>X6Q hil h0t (fun e=>q (hod.1 e));have hyes:(gI (gC c (gI (twL g c c.length) i).toNat) 2=1\/(gI (gC c i) 2=gI (gC c (gI (twL g c c.length) i).toNat) 2/\gI (gC c i) 3=gI (gC c (gI (twL g c c.length) i).toNat) 3))->∀v,v<i+1->0<=tw g c v->orD c v (tw g c v):=fun q v hv hv0=>by
          by_cases e:v=i
          . subst e;exact hod.2 q
          . exact hall v (by omega) hv0
         have z2:Int.toNat 2=2:=rfl;have z3:Int.toNat 3=3:=rfl
         repeat' ((conv=>whnf);first|(refine Ix.mk 2 rfl (by omega) ?_)|(refine Ix.mk 3 rfl (by omega) ?_)|(refine Br.dec ?_ ?_<;>intro _<;>try omega)|(refine Br.bne ?_ ?_<;>intro _<;>try omega)|(refine Ar.q ?_)|(refine Ix.q ?_)|(refine Ix.int (by omega) (by omega) ?_))
         all_goals (conv=>whnf)
         all_goals first
          | (refine⟨c.length-(i+1),i+1,by omega,⟨rfl,by omega,hyes (by simp_all)⟩,?_⟩
             exact J0k (fun _ _=>[(0,some 0)]))
          | (rw[hno (by simp_all)];exact VLe.rfl)
       . repeat' ((conv=>whnf);first|(refine Br.dec ?_ ?_<;>intro _<;>try omega)|(refine Ar.q ?_)|(refine Ix.q ?_))
         all_goals (conv=>whnf)
         refine⟨c.length-(i+1),i+1,by omega,⟨rfl,by omega,fun v hv hv0=>?_⟩,?_⟩
         . by_cases e:v=i
           . subst e;exact absurd hv0 h0t
           . exact hall v (by omega) hv0
         . exact J0k (fun _ _=>[(0,some 0)])
     . repeat' ((conv=>whnf);first|(refine Br.dec ?_ ?_<;>intro _<;>try omega))
       all_goals (conv=>whnf)
       exact VLe.bool (Q2q.2 (fun v hv=>hall v (by omega))).symm
end Go.Proofs.YtlpfphlbghdokaaGreatDoor
namespace Go.Proofs.YtlpfphlbghdokaaGreatDoor
open Go.Eng
set_option maxRecDepth 100000
set_option linter.unusedVariables false
theorem J6d {g:G} (h:g.conn=true) {c:Cf} (hc:J1u J0q g c):g.wleg c=true↔X56 g c:=by
 have hl:=hc.len;rw[G.wleg,h,Q9T hc,Bool.true_and,Bool.true_and,Bool.and_eq_true,J29,Q2q];have e1:(∀v,v<c.length->gI (gC c v) 0=gI (dst g 0) v/\gI (gC c v) 1=upI g v)↔TrC g c:=by
  rw[hl];refine forall_congr' fun v=>forall_congr' fun hv=>?_;rw[<- J7A h hv]
 rw[e1];refine and_congr_right fun ht=>?_;rw[hl];refine forall_congr' fun v=>forall_congr' fun hv=>?_;have hp:=(ht v hv).2;have hp':gI (gC c v) 1=upI g v:=hp;have b2:=(J2s hc).1;have b3:=(J2s hc).2;by_cases h0:v=0
 . have e:tw g c v=-1:=by rw[tw,hp',h0,J87 h];rfl
   rw[e];exact⟨fun _ q=>(q h0).elim,fun _ q=>by omega⟩
 . obtain⟨i,hu⟩:=Q4Z h hv h0;have e:tw g c v=((J3e g v:Nat):Int):=by rw[tw,hp',hu.up,if_pos (by omega),Int.toNat_natCast,hu.par]
   have e2:orD c v ((J3e g v:Nat):Int)↔Go.Plain.Wave.ord (J3e g) (sW c) (bW c) v:=by
    show gI (gC c (J3e g v)) 2=1\/(gI (gC c v) 2=gI (gC c (J3e g v)) 2/\gI (gC c v) 3=gI (gC c (J3e g v)) 3)↔one c 2 (J3e g v)=true\/(one c 2 v=one c 2 (J3e g v)/\one c 3 v=one c 3 (J3e g v));rw[J1T b2 hu.rng,J1T b2 hv,J1T b3 hu.rng,J1T b3 hv];cases one c 2 (J3e g v)<;>cases one c 2 v<;>cases one c 3 (J3e g v)<;>cases one c 3 v<;>simp[J1f]
   rw[e,e2];exact⟨fun q _=>q (by omega),fun q _=>q h0⟩
def Y2O (e:Int):V:=.agg [.int .i64 3,.bool true,.bool false,.int .i64 (2*e+1),.int .i64 (-1)]
def Y2N:V:=.agg [.int .i64 0,.bool false,.bool false,.int .i64 0,.int .i64 0]
theorem Q0d (g:G) (hs:g.Small):Ret Tryz.prog 16 [g.v] (if g.conn=true then Y2O g.ecc else Y2N):=by
 have hf:=Q5Z g hs;have he:=X7G g hs;refine J0g rfl ?_;refine J0c J0b Tryz.func16 rfl hc16 hr16 rfl ?_;cases hgc:g.conn with
 | true =>
   obtain⟨r1,r2⟩:=Q1u g hgc;rw[hgc] at hf;rw[if_pos rfl]
   repeat' ((conv=>whnf);first|(refine Br.tt ?_)|(refine Ar.q ?_)|(refine hf.go ?_)|(refine he.go ?_))
   all_goals (conv=>whnf)
   exact VLe.rfl
 | false =>
   rw[hgc] at hf;rw[if_neg (by simp)]
   repeat' ((conv=>whnf);first|(refine Br.ff ?_)|(refine hf.go ?_))
   all_goals (conv=>whnf)
   exact VLe.rfl
end Go.Proofs.YtlpfphlbghdokaaGreatDoor
namespace Go.Eng
open Go.MapKept (bytes_beq)
noncomputable def fN {β:Type} (n:Nat) (K:Nat->β):β:=@Nat.rec (fun _=>β) (K 0) (fun m _=>K (Nat.succ m)) n
theorem J4k {β:Type} (n:Nat) (K:Nat->β):fN n K=K n:=by cases n<;>rfl
noncomputable def fI {β:Type} (n:Int) (K:Int->β):β:=@Int.rec (fun _=>β) (fun a=>fN a fun a=>K (.ofNat a)) (fun a=>fN a fun a=>K (.negSucc a)) n
theorem X4Z {β:Type} (n:Int) (K:Int->β):fI n K=K n:=by cases n<;>simp[fI,J4k]
noncomputable def fB {β:Type} (b:Bool) (K:Bool->β):β:=@Bool.rec (fun _=>β) (K false) (K true) b
theorem Y2F {β:Type} (b:Bool) (K:Bool->β):fB b K=K b:=by cases b<;>rfl
noncomputable def lk {α:Type} (l:List (Nat×α)) (t:Nat):Option α :=
 @List.rec (Nat×α) (fun _=>Option α) none (fun p _ ih=>@Prod.rec Nat α (fun _=>Option α) (fun k v=>@Bool.rec (fun _=>Option α) ih (some v) (Nat.beq k t)) p) l
theorem J73 {α:Type} (l:List (Nat×α)) (t:Nat):lk l t=look l t:=by
 induction l with
 | nil=>rfl
 | cons p r ih =>
   obtain⟨k,v⟩:=p;unfold look;show @Bool.rec (fun _=>Option α) (lk r t) (some v) (Nat.beq k t)=_;cases Nat.beq k t<;>simp[ih]
noncomputable def nt {α:Type} (l:List α) (n:Nat):Option α :=
 @List.rec α (fun _=>Nat->Option α) (fun _=>none) (fun x _ ih n=>@Nat.rec (fun _=>Option α) (some x) (fun m _=>ih m) n) l n
theorem X0P {α:Type} (l:List α) (n:Nat):nt l n=nth l n:=by
 induction l generalizing n with
 | nil=>rfl
 | cons x r ih=>cases n with
   | zero=>rfl
   | succ n=>exact ih n
theorem J5s {α:Type}:∀(l:List α) (n:Nat),nth l n=l[n]?
 | [],n=>by simp[nth]
 | x::r,0=>by simp[nth]
 | x::r,n+1=>by simp[nth,J5s r n]
noncomputable def dr {α:Type} (l:List α) (n:Nat):List α :=
 @List.rec α (fun _=>Nat->List α) (fun _=>[]) (fun x r ih n=>@Nat.rec (fun _=>List α) (x::r) (fun m _=>ih m) n) l n
theorem J9L {α:Type} (l:List α) (n:Nat):dr l n=l.drop n:=by
 induction l generalizing n with
 | nil=>simp[dr]
 | cons x r ih=>cases n with
   | zero=>rfl
   | succ n=>exact ih n
noncomputable def fH {α β:Type} (l:List α) (K:List α->β):β:=@List.rec α (fun _=>β) (K []) (fun x r _=>K (x::r)) l
theorem X1r {α β:Type} (l:List α) (K:List α->β):fH l K=K l:=by cases l<;>rfl
noncomputable def tk {α β:Type} (n:Nat):List α->(List α->Option β)->Option β :=
 @Nat.rec (fun _=>List α->(List α->Option β)->Option β) (fun _ K=>K []) (fun _ ih l K=>@List.rec α (fun _=>Option β) none (fun x r _=>ih r fun q=>K (x::q)) l) n
theorem X0l {α β:Type} (n:Nat) (l:List α) (K:List α->Option β):tk n l K=if n<=l.length then K (l.take n) else none:=by
 induction n generalizing l K with
 | zero=>simp only[Nat.zero_le,if_true,List.take_zero];rfl
 | succ n ih=>cases l with
   | nil=>rfl
   | cons x r =>
     show tk n r (fun q=>K (x::q))=_;rw[ih];simp
def bl:Nat->Nat->List UInt8
 | 0,_=>[]
 | l+1,c=>UInt8.ofNat (c % 256)::bl l (c / 256)
def J0r (l c:Nat):ByteArray:=⟨⟨bl l c⟩⟩
def X1x:List UInt8->Nat
 | []=>0
 | b::r=>b.toNat+256*X1x r
theorem Q1N:∀(l c:Nat),(bl l c).length=l
 | 0,_=>rfl
 | l+1,c=>by simp[bl,Q1N]
theorem X3i:∀(l:List UInt8),bl l.length (X1x l)=l
 | []=>rfl
 | b::r=>by
   have hb:=b.toNat_lt;simp only[List.length_cons,bl,X1x];rw[show(b.toNat+256*X1x r) % 256=b.toNat by omega,show(b.toNat+256*X1x r) / 256=X1x r by omega,X3i r];simp
theorem X3h:∀(l c m:Nat),m<l->(bl l c)[m]?=some (UInt8.ofNat (c / 256 ^ m % 256))
 | 0,c,m,h=>by omega
 | l+1,c,0,h=>by simp[bl]
 | l+1,c,m+1,h=>by
   simp only[bl,List.getElem?_cons_succ];rw[X3h l _ m (by omega),Nat.div_div_eq_div_mul,Nat.pow_succ,Nat.mul_comm 256]
theorem Q9o:∀(l c m:Nat),(bl l c).drop m=bl (l-m) (c / 256 ^ m)
 | 0,c,m=>by simp[bl]
 | l+1,c,0=>by simp
 | l+1,c,m+1=>by
   simp only[bl,List.drop_succ_cons];rw[Q9o l _ m,Nat.div_div_eq_div_mul,Nat.pow_succ,Nat.mul_comm 256,show l+1-(m+1)=l-m by omega]
theorem Q9n:∀(l c m:Nat),m<=l->(bl l c).take m=bl m c
 | l,c,0,h=>by simp[bl]
 | 0,c,m+1,h=>by omega
 | l+1,c,m+1,h=>by simp[bl,Q9n l _ m (by omega)]
theorem X3f:∀(l c:Nat),bl l (c % 256 ^ l)=bl l c
 | 0,c=>rfl
 | l+1,c=>by
   simp only[bl];have h1:c % 256 ^ (l+1) % 256=c % 256:=by
    rw[Nat.pow_succ,Nat.mul_comm];exact Nat.mod_mul_right_mod _ _ _
   have h2:c % 256 ^ (l+1) / 256=c / 256 % 256 ^ l:=by
    rw[Nat.pow_succ,Nat.mul_comm,Nat.mod_mul_right_div_self]
   rw[h1,h2,X3f]
theorem X3g:∀(l c d:Nat),bl l c=bl l d->c % 256 ^ l=d % 256 ^ l
 | 0,c,d,_=>by simp[Nat.mod_one]
 | l+1,c,d,h=>by
   simp only[bl,List.cons.injEq] at h;have h1:c % 256=d % 256:=by
    have:=congrArg UInt8.toNat h.1;simpa using this
   have h2:=X3g l _ _ h.2;rw[Nat.pow_succ,Nat.mul_comm,Nat.mod_mul,Nat.mod_mul,h1,h2]
theorem X3j:∀(l c l' c':Nat),bl l c++bl l' c'=bl (l+l') (c % 256 ^ l+256 ^ l*c')
 | 0,c,l',c'=>by simp[bl,Nat.mod_one]
 | l+1,c,l',c'=>by
   rw[show l+1+l'=(l+l')+1 by omega];simp only[bl,List.cons_append];rw[X3j l _ l' c'];have e:c % 256 ^ (l+1)=c % 256+256*(c / 256 % 256 ^ l):=by
    rw[Nat.pow_succ,Nat.mul_comm (256 ^ l),Nat.mod_mul]
   have e2:256 ^ (l+1)*c'=256*(256 ^ l*c'):=by rw[Nat.pow_succ,Nat.mul_comm (256 ^ l),Nat.mul_assoc]
   rw[e,e2];have hlt:c % 256<256:=Nat.mod_lt _ (by omega);rw[show(c % 256+256*(c / 256 % 256 ^ l)+256*(256 ^ l*c')) % 256=c % 256 by omega,show(c % 256+256*(c / 256 % 256 ^ l)+256*(256 ^ l*c')) / 256=c / 256 % 256 ^ l+256 ^ l*c' by omega]
theorem J1y (l c:Nat):(J0r l c).size=l:=by
 show(bl l c).length=l;exact Q1N l c
theorem Q20 (b:ByteArray):J0r b.size (X1x b.data.toList)=b:=by
 obtain⟨⟨l⟩⟩:=b;show ByteArray.mk ⟨bl l.length (X1x l)⟩=_;rw[X3i]
theorem Q2Z (l c m:Nat) (h:m<l):((J0r l c).get! m).toNat=c / 256 ^ m % 256:=by
 have h1:=X3h l c m h;show((J0r l c).data[m]!).toNat=_;have:(J0r l c).data[m]! = UInt8.ofNat (c / 256 ^ m % 256):=by
  rw[getElem!_def,show(J0r l c).data[m]?=some (UInt8.ofNat (c / 256 ^ m % 256)) from by simpa[J0r] using h1]
 rw[this];simp
theorem J7K (l c lo hi:Nat) (h:hi<=l):(J0r l c).extract lo hi=J0r (hi-lo) (c / 256 ^ lo):=by
 apply ByteArray.ext;rw[ByteArray.data_extract];show(Array.mk (bl l c)).extract lo hi=Array.mk (bl (hi-lo) (c / 256 ^ lo));apply Array.ext';simp only[Array.toList_extract,List.extract_eq_take_drop];rw[Q9o,Q9n _ _ _ (by omega)]
theorem J4E (l c:Nat):J0r l (c % 256 ^ l)=J0r l c:=by unfold J0r;rw[X3f]
theorem Q21 (l c l' c':Nat):J0r l c++J0r l' c'=J0r (l+l') (c % 256 ^ l+256 ^ l*c'):=by
 apply ByteArray.ext;rw[ByteArray.data_append];show Array.mk (bl l c)++Array.mk (bl l' c')=Array.mk _;simp[X3j]
def eqS (l c l' c':Nat):Bool:=match Nat.beq l l' with
 | true=>Nat.beq (Nat.mod c (Nat.pow 256 l)) (Nat.mod c' (Nat.pow 256 l))
 | false=>false
theorem Q4q (l c l' c':Nat):eqS l c l' c'=(J0r l c == J0r l' c'):=by
 unfold eqS;have hb:(J0r l c == J0r l' c')=decide (J0r l c=J0r l' c'):=by
  rw[Bool.eq_iff_iff,bytes_beq];simp
 rw[hb];split
 . rename_i h;have h:=Nat.eq_of_beq_eq_true h;subst h;rw[Bool.eq_iff_iff,Nat.beq_eq,decide_eq_true_eq];constructor
   . intro h;have h:c % 256 ^ l=c' % 256 ^ l:=h;rw[<- J4E l c,h,J4E]
   . intro h;exact X3g l c c' (by simpa[J0r] using h)
 . rename_i h;symm;rw[decide_eq_false_iff_not];intro e;have:=congrArg ByteArray.size e;rw[J1y,J1y] at this;subst this;simp at h
inductive C where
 | nilptr|nilmap|nilfunc|niliface
 | unit
 | map (k:Nat)
 | fn (f:Fn) (b:Bool) (cap:List C)
 | iface (t:TypeId) (v:C)
 | fe (n s:Nat) (z:List C) (rows:List (List C)) (i j:Nat)
 | oel (k s i j:Nat)
 | fz (n s:Nat) (J15:Bool) (z:List C) (rows:List (List C))
 | tup (vs:List C)
 | agg (cs:List C)
 | nilslice
 | vec (k s lo len:Nat)
 | loc (k off:Nat)
 | str (l c:Nat)
 | bool (b:Bool)
 | int (k:IntKind) (n:Int)
 deriving Inhabited
def J3G:List V->V
 | []=>default
 | [v]=>v
 | _::r=>J3G r
def J4r (z:List V) (rows:List (List V)):Nat->Nat->V:=fun i j=>(rows.getD i z).getD j (J3G z)
mutual
def C.v:C->V
 | .bool b=>.bool b
 | .int k n=>.int k n
 | .str l c=>.str (J0r l c)
 | .nilptr=>.nilptr | .nilslice=>.nilslice | .nilmap=>.nilmap | .nilfunc=>.nilfunc | .niliface=>.niliface
 | .loc k off=>.loc k off
 | .oel k s i j=>.oel k s i j
 | .vec k s lo len=>.vec k s lo len
 | .fz n s J15 z rows=>.fz n s J15 (J4r (C.vs z) (C.vss rows))
 | .fe n s z rows i j=>.fe n s (J4r (C.vs z) (C.vss rows)) i j
 | .map k=>.map k
 | .fn f b cap=>.fn f b (C.vs cap)
 | .iface t v=>.iface t v.v
 | .agg cs=>.agg (C.vs cs)
 | .tup cs=>.tup (C.vs cs)
 | .unit=>.raw (.tuple #[])
def C.vs:List C->List V
 | []=>[]
 | c::r=>c.v::C.vs r
def C.vss:List (List C)->List (List V)
 | []=>[]
 | c::r=>C.vs c::C.vss r
end
theorem C.vs_map:∀(l:List C),C.vs l=l.map C.v
 | []=>by simp[C.vs]
 | c::r=>by simp[C.vs,C.vs_map r]
theorem C.vss_map:∀(l:List (List C)),C.vss l=l.map C.vs
 | []=>by simp[C.vss]
 | c::r=>by simp[C.vss,C.vss_map r]
theorem C.vs_length (l:List C):(C.vs l).length=l.length:=by simp[C.vs_map]
theorem C.vs_get (l:List C) (i:Nat):(C.vs l)[i]?=(l[i]?).map C.v:=by simp[C.vs_map]
theorem C.vss_get (l:List (List C)) (i:Nat):(C.vss l)[i]?=(l[i]?).map C.vs:=by simp[C.vss_map]
abbrev J1e:=List (Nat×C)
inductive CB where
 | cells (cs:List C)
 | vec (n s:Nat) (z:List C) (rows:List (List C))
 | map (ik:IntKind) (es:List (Int×C))
 | mapS (es:List ((Nat×Nat)×C))
 deriving Inhabited
abbrev J0A:=List (Nat×CB)
def CB.b:CB->Blk
 | .cells cs=>.cells (C.vs cs)
 | .vec n s z rows=>.vec n s (J4r (C.vs z) (C.vss rows))
 | .map ik es=>.map (.one ik) (es.map fun p=>(p.1,p.2.v))
 | .mapS es=>.map .str (es.map fun p=>(J0r p.1.1 p.1.2,p.2.v))
def J25 (e:J1e):Env:=e.map fun p=>(p.1,p.2.v)
def J0L (o:J0A):Own:=o.map fun p=>(p.1,p.2.b)
theorem J2w {α β:Type} (f:α->β) (l:List (Nat×α)) (t:Nat):look (l.map fun p=>(p.1,f p.2)) t=(look l t).map f:=by
 induction l with
 | nil=>rfl
 | cons p r ih =>
   simp only[List.map_cons,look];cases Nat.beq p.1 t<;>simp[ih]
theorem J1X {e:J1e} {t:Nat} {c:C} (h:lk e t=some c):look (J25 e) t=some c.v:=by
 rw[J73] at h;rw[J25,J2w,h];rfl
theorem J0x {o:J0A} {t:Nat} {c:CB} (h:lk o t=some c):look (J0L o) t=some c.b:=by
 rw[J73] at h;rw[J0L,J2w,h];rfl
def X5X (v:V):Option C:=match v with
 | .bool b=>some (.bool b)
 | .int k n=>some (.int k n)
 | .str s=>some (.str s.size (X1x s.data.toList))
 | .nilptr=>some .nilptr | .nilslice=>some .nilslice | .nilmap=>some .nilmap | .nilfunc=>some .nilfunc | .niliface=>some .niliface
 | .fn f b []=>some (.fn f b [])
 | _=>none
theorem Q2t {v:V} {c:C} (h:X5X v=some c):c.v=v:=by
 unfold X5X at h;split at h<;>first
  | (cases h;done)
  | (cases h;simp[C.v,C.vs,Q20])
noncomputable def X5W (l:List V):Option (List C):=@List.rec V (fun _=>Option (List C)) (some []) (fun v _ ih=>match X5X v with
 | some c=>match ih with
   | some l=>some (c::l)
   | none=>none
 | none=>none) l
theorem J64:∀(l:List V) {cs:List C},X5W l=some cs->C.vs cs=l
 | [],cs,h=>by have h:some []=some cs:=h;cases h;simp[C.vs]
 | v::r,cs,h=>by
   have h:(match X5X v with
    | some c=>match X5W r with
      | some l=>some (c::l)
      | none=>none
    | none=>none)=some cs:=h
   split at h
   . rename_i c hc;split at h
     . rename_i l hl;cases h;simp[C.vs,Q2t hc,J64 r hl]
     . cases h
   . cases h
noncomputable def ofV (v:V):Option C:=match v with
 | .agg cs=>match X5W cs with|some l=>some (.agg l)|none=>none
 | v=>X5X v
theorem X2H (v:V) {c:C} (h:ofV v=some c):c.v=v:=by
 unfold ofV at h;split at h
 . split at h
   . rename_i l hl;cases h;simp[C.v,J64 _ hl]
   . cases h
 . exact Q2t h
end Go.Eng
namespace Go.Eng
open Go.IntWalk
noncomputable def gx (x:X) (env:J1e):Option C:=match x with | .t n=>lk env n | .k v=>ofV v
theorem J0B {x:X} {env:J1e} {c:C} {K:V->Prop} (h:gx x env=some c) (hK:K c.v):x.get (J25 env) K:=by
 cases x with
 | t n=>simp only[gx] at h;simp only[X.get,J1X h];exact hK
 | k v=>simp only[gx] at h;rw[X2H v h] at hK;exact hK
noncomputable def gxs (env:J1e) (l:List X):Option (List C):=@List.rec X (fun _=>Option (List C)) (some []) (fun x _ ih=>match gx x env with
 | some c=>match ih with|some l=>some (c::l)|none=>none
 | none=>none) l
theorem X1i (env:J1e) (x:X) (r:List X):gxs env (x::r)=match gx x env with
 | some c=>match gxs env r with|some l=>some (c::l)|none=>none
 | none=>none:=rfl
theorem Q1i {env:J1e}:∀{xs:List X} {cs:List C} {K:List V->Prop},gxs env xs=some cs->K (C.vs cs)->X.gets (J25 env) xs K
 | [],cs,K,h,hK=>by have h:some []=some cs:=h;cases h;simpa[C.vs,X.gets] using hK
 | x::r,cs,K,h,hK=>by
   rw[X1i] at h;split at h
   . rename_i c hc;split at h
     . rename_i l hl;cases h;exact J0B hc (Q1i hl (by simpa[C.vs] using hK))
     . cases h
   . cases h
theorem Q1B {b:Bool} {K:V->Prop} (hK:K (.bool b)):Q10 b K:=by
 cases b
 . exact⟨fun h=>(by cases h),fun _=>hK⟩
 . exact⟨fun _=>hK,fun h=>(by cases h)⟩
noncomputable def Q4x (b:Bool):Option C:=fB b fun b=>some (.bool b)
theorem J2o {b:Bool} {c:C} {K:V->Prop} (h:Q4x b=some c) (hK:K c.v):Q10 b K:=by
 simp only[Q4x,Y2F,Option.some.injEq] at h;subst h;exact Q1B (by simpa[C.v] using hK)
def kEq (a b:IntKind):Bool:=Nat.beq a.ctorIdx b.ctorIdx
theorem J5W {a b:IntKind} (h:kEq a b=true):a=b:=by cases a<;>cases b<;>first|rfl|(exact absurd h (by decide))
def mxN:IntKind->Nat
 | .i8=>127 | .i16=>32767 | .i32=>2147483647 | .i64=>9223372036854775807
 | .u8=>255 | .u16=>65535 | .u32=>4294967295 | .u64=>18446744073709551615
def wrC (k:IntKind) (n:Int):Int:=match n with
 | .ofNat m=>match Nat.ble m (mxN k) with|true=>.ofNat m|false=>k.wrap (.ofNat m)
 | .negSucc m=>k.wrap (.negSucc m)
theorem X6b (k:IntKind) (n:Int):wrC k n=k.wrap n:=by
 unfold wrC;split
 . split
   . rename_i h;have h:=Nat.le_of_ble_eq_true h;symm;rw[Int.ofNat_eq_natCast];cases k<;>simp only[mxN] at h
     . exact i8_in _ (by omega)
     . exact i16_in _ (by omega)
     . exact i32_in _ (by omega)
     . exact i64_in _ (by omega)
     . exact u8_in _ (by omega)
     . exact u16_in _ (by omega)
     . exact u32_in _ (by omega)
     . exact u64_in _ (by omega)
   . rfl
 . rfl
noncomputable def arC (k:IntKind) (n:Int):Option C:=fI (wrC k n) fun m=>some (.int k m)
theorem J7Q {k:IntKind} {n:Int} {c:C} {K:V->Prop} (h:arC k n=some c) (hK:K c.v):Ar k n fun m=>K (.int k m):=by
 simp only[arC,X4Z,X6b,Option.some.injEq] at h;subst h;exact⟨_,rfl,by simpa[C.v] using hK⟩
noncomputable def svC (k:IntKind) (n:Int):Option C:=fI n fun m=>some (.int k m)
theorem J6K {k:IntKind} {n:Int} {c:C} {K:V->Prop} (h:svC k n=some c) (hK:K c.v):Sv n fun m=>K (.int k m):=by
 simp only[svC,X4Z,Option.some.injEq] at h;subst h;exact⟨_,rfl,by simpa[C.v] using hK⟩
def ieq:Int->Int->Bool
 | .ofNat a,.ofNat b=>Nat.beq a b
 | .negSucc a,.negSucc b=>Nat.beq a b
 | _,_=>false
theorem J47 (a b:Int):ieq a b=(a == b):=by
 rw[Bool.eq_iff_iff,beq_iff_eq];cases a<;>cases b<;>simp[ieq]<;>omega
def ile:Int->Int->Bool
 | .ofNat a,.ofNat b=>Nat.ble a b
 | .negSucc a,.negSucc b=>Nat.ble b a
 | .negSucc _,.ofNat _=>true
 | .ofNat _,.negSucc _=>false
theorem J5X (a b:Int):ile a b=decide (a<=b):=by
 rw[Bool.eq_iff_iff,decide_eq_true_eq];cases a<;>cases b<;>simp[ile]<;>omega
noncomputable def Y2P (op:BinOp) (k:IntKind) (a b:Int):Option C :=
 match op with
 | .add=>arC k (Int.add a b)
 | .sub=>arC k (Int.sub a b)
 | .mul=>arC k (Int.mul a b)
 | .quo=>match ieq b 0 with|true=>none|false=>arC k (a.tdiv b)
 | .rem=>match ieq b 0 with|true=>none|false=>svC k (a.tmod b)
 | .and=>svC k (J20 .and k a b)
 | .or=>svC k (J20 .or k a b)
 | .xor=>svC k (J20 .xor k a b)
 | .andNot=>svC k (J20 .andNot k a b)
 | .eql=>Q4x (ieq a b)
 | .neq=>Q4x (!(ieq a b))
 | .lss=>Q4x (!(ile b a))
 | .leq=>Q4x (ile a b)
 | .gtr=>Q4x (!(ile a b))
 | .geq=>Q4x (ile b a)
 | _=>none
theorem X5i {bt:BT} {op:BinOp} {k:IntKind} {a b:Int} {c:C} {K:V->Prop} (h:Y2P op k a b=some c) (hK:K c.v):J97 bt op (.int k a) (.int k b) K:=by
 unfold Y2P at h;cases op<;>simp only[J97,decide_true]<;>simp only at h
 case add=>exact J7Q h hK
 case sub=>exact J7Q h hK
 case mul=>exact J7Q h hK
 case quo =>
  split at h
  . cases h
  . rename_i hb;rw[J47] at hb;exact⟨by simpa using hb,J7Q h hK⟩
 case rem =>
  split at h
  . cases h
  . rename_i hb;rw[J47] at hb;exact⟨by simpa using hb,J6K h hK⟩
 case and=>exact J6K h hK
 case or=>exact J6K h hK
 case xor=>exact J6K h hK
 case andNot=>exact J6K h hK
 case eql=>rw[J47] at h;exact J2o h hK
 case neq=>rw[J47] at h;exact J2o h hK
 case lss =>
  rw[J5X] at h;rw[show decide (a<b)=!decide (b<=a) by rw[Bool.eq_iff_iff];simp];exact J2o h hK
 case leq=>rw[J5X] at h;exact J2o h hK
 case gtr =>
  rw[J5X] at h;rw[show decide (a > b)=!decide (a<=b) by rw[Bool.eq_iff_iff];simp];exact J2o h hK
 case geq =>
  rw[J5X] at h;exact J2o h hK
 case shl=>cases h
 case shr=>cases h
noncomputable def X8p (l c:Nat):Option C:=fN l fun l=>fN c fun c=>some (.str l c)
theorem Q6z {l d:Nat} {c:C} (h:X8p l d=some c):c.v=.str (J0r l d):=by
 simp only[X8p,J4k,Option.some.injEq] at h;subst h;simp[C.v]
noncomputable def X3m (op:BinOp) (k:IntKind) (a:Int) (k':IntKind) (b:Int):Option C:=match op with
 | .shl=>match b with | .ofNat n=>arC k (a*2 ^ (min n k.bits)) | .negSucc _=>none
 | .shr=>match b with | .ofNat n=>svC k (a.fdiv (2 ^ (min n k.bits))) | .negSucc _=>none
 | op=>match kEq k k' with|true=>Y2P op k a b|false=>none
noncomputable def X79 (op:BinOp) (k:IntKind) (a:Int) (y:C):Option C:=match y with
 | .int k' b=>X3m op k a k' b
 | _=>none
noncomputable def X3l (op:BinOp) (l c l' c':Nat):Option C:=match op with
 | .eql=>Q4x (eqS l c l' c')
 | .neq=>Q4x (!(eqS l c l' c'))
 | .add=>match Nat.ble (l+l') 9223372036854775807 with
   | true=>X8p (l+l') (Nat.add (Nat.mod c (Nat.pow 256 l)) (Nat.mul (Nat.pow 256 l) c'))
   | false=>none
 | _=>none
noncomputable def X77 (op:BinOp) (l c:Nat) (y:C):Option C:=match y with
 | .str l' c'=>X3l op l c l' c'
 | _=>none
noncomputable def X3n (bt:BT) (op:BinOp) (a:Bool) (y:C):Option C:=match y with
 | .bool b=>match bt with
   | .bool=>match op with
     | .eql=>Q4x (a == b)
     | .neq=>Q4x (!(a == b))
     | _=>none
   | _=>none
 | _=>none
def X19 (bt:BT) (op:BinOp) (n:Nat) (y:C):Option C:=match n with
 | 0=>none
 | _+1=>match y with
   | .nilslice=>match bt with
     | .slc=>match op with
       | .eql=>some (.bool false)
       | .neq=>some (.bool true)
       | _=>none
     | _=>none
   | _=>none
def X78 (bt:BT) (op:BinOp) (y:C):Option C:=match y with
 | .nilslice=>match bt with
   | .slc=>match op with
     | .eql=>some (.bool true)
     | .neq=>some (.bool false)
     | _=>none
   | _=>none
 | _=>none
def X8L (b:Bool) (o:Option Bool):Option Bool:=match o with
 | some t=>some (b&&t)
 | none=>none
theorem J7R {b t:Bool} {o:Option Bool} (h:X8L b o=some t):∃u,o=some u/\t=(b&&u):=by
 cases o with
 | none=>cases h
 | some u=>exact⟨u,rfl,(Option.some.inj h).symm⟩
noncomputable def Q4r:List Lf->List C->List C->Option Bool
 | [],[],[]=>some true
 | .int::ls,.int k a::r,.int k' b::r'=>match kEq k k' with
   | true=>X8L (ieq a b) (Q4r ls r r')
   | false=>none
 | .bool::ls,.bool a::r,.bool b::r'=>X8L (a == b) (Q4r ls r r')
 | .str::ls,.str l c::r,.str l' c'::r'=>X8L (eqS l c l' c') (Q4r ls r r')
 | _,_,_=>none
theorem J7x:∀(ls:List Lf) (xs ys:List C) (t:Bool) (K:Bool->Prop),Q4r ls xs ys=some t->K t->J6r ls (C.vs xs) (C.vs ys) K
 | [],[],[],t,K,h,hK=>by
   simp only[Q4r,Option.some.injEq] at h;subst h;simpa only[C.vs,J6r] using hK
 | .int::ls,.int k a::r,.int k' b::r',t,K,h,hK=>by
   simp only[Q4r] at h;split at h
   . rename_i hk;have:=J5W hk;subst this;obtain⟨u,e1,rfl⟩:=J7R h;simp only[C.vs,C.v,J6r,decide_true];exact J7x ls r r' u _ e1 (by rw[<- J47];exact hK)
   . cases h
 | .bool::ls,.bool a::r,.bool b::r',t,K,h,hK=>by
   simp only[Q4r] at h;obtain⟨u,e1,rfl⟩:=J7R h;simp only[C.vs,C.v,J6r];exact J7x ls r r' u _ e1 hK
 | .str::ls,.str l c::r,.str l' c'::r',t,K,h,hK=>by
   simp only[Q4r] at h;obtain⟨u,e1,rfl⟩:=J7R h;simp only[C.vs,C.v,J6r];exact J7x ls r r' u _ e1 (by rw[<- Q4q];exact hK)
 | [],_::_,_,_,_,h,_=>by simp[Q4r] at h
 | [],[],_::_,_,_,h,_=>by simp[Q4r] at h
 | _::_,[],_,_,_,h,_=>by simp[Q4r] at h
 | _::_,_::_,[],_,_,h,_=>by simp[Q4r] at h
noncomputable def X8a (bt:BT) (op:BinOp) (xs:List C) (y:C):Option C:=match y with
 | .agg ys=>match bt with
   | .flat ls=>match op with
     | .eql=>match Q4r ls xs ys with|some t=>Q4x t|none=>none
     | .neq=>match Q4r ls xs ys with|some t=>Q4x (!t)|none=>none
     | _=>none
   | _=>none
 | _=>none
noncomputable def Y2R (bt:BT) (op:BinOp) (x y:C):Option C :=
 match x with
 | .agg xs=>X8a bt op xs y
 | .int k a=>X79 op k a y
 | .str l c=>X77 op l c y
 | .bool a=>X3n bt op a y
 | .fz n _ _ _ _=>X19 bt op n y
 | .vec _ _ _ n=>X19 bt op n y
 | .nilslice=>X78 bt op y
 | _=>none
theorem X5o {bt:BT} {op:BinOp} {x y c:C} {K:V->Prop} (h:Y2R bt op x y=some c) (hK:K c.v):J97 bt op x.v y.v K:=by
 unfold Y2R at h;split at h
 . unfold X8a at h;split at h
   . split at h
     . simp only[C.v,J97];split at h
       . split at h
         . rename_i t ht;exact J7x _ _ _ t _ ht (J2o h hK)
         . cases h
       . split at h
         . rename_i t ht;exact J7x _ _ _ t _ ht (J2o h hK)
         . cases h
       . cases h
     . cases h
   . cases h
 . unfold X79 at h;split at h
   . rename_i k a _ k' b;unfold X3m at h;simp only[C.v];split at h
     . split at h
       . rename_i n;simp only[J97];refine⟨by simp,?_⟩;have e:(Int.ofNat n).toNat=n:=rfl;rw[e];exact J7Q h hK
       . cases h
     . split at h
       . rename_i n;simp only[J97];refine⟨by simp,?_⟩;have e:(Int.ofNat n).toNat=n:=rfl;rw[e];exact J6K h hK
       . cases h
     . split at h
       . rename_i hk;have:=J5W hk;subst this;exact X5i h hK
       . cases h
   . cases h
 . unfold X77 at h;split at h
   . unfold X3l at h;simp only[C.v,J97];split at h
     . rw[Q4q] at h;exact J2o h hK
     . rw[Q4q] at h;exact J2o h hK
     . split at h
       . rename_i l c _ l' c' hle;rw[J1y,J1y];refine⟨fun _=>?_,fun hf=>?_⟩
         . rw[Q21];rw[Q6z h] at hK;exact hK
         . have:=Nat.le_of_ble_eq_true hle;simp[this] at hf
       . cases h
     . cases h
   . cases h
 . unfold X3n at h;split at h
   . split at h
     . split at h
       . simp only[C.v,J97];exact J2o h hK
       . simp only[C.v,J97];exact J2o h hK
       . cases h
     . cases h
   . cases h
 . unfold X19 at h;split at h
   . cases h
   . split at h
     . split at h
       . split at h
         . cases h;simp only[C.v,J97];exact⟨fun e=>(by cases e),fun _=>(by simpa[C.v] using hK)⟩
         . cases h;simp only[C.v,J97];exact⟨fun e=>(by cases e),fun _=>(by simpa[C.v] using hK)⟩
         . cases h
       . cases h
     . cases h
 . unfold X19 at h;split at h
   . cases h
   . split at h
     . split at h
       . split at h
         . cases h;simp only[C.v,J97];exact⟨fun e=>(by cases e),fun _=>(by simpa[C.v] using hK)⟩
         . cases h;simp only[C.v,J97];exact⟨fun e=>(by cases e),fun _=>(by simpa[C.v] using hK)⟩
         . cases h
       . cases h
     . cases h
 . unfold X78 at h;split at h
   . split at h
     . split at h
       . cases h;simp only[C.v,J97];simpa[C.v] using hK
       . cases h;simp only[C.v,J97];simpa[C.v] using hK
       . cases h
     . cases h
   . cases h
 . cases h
noncomputable def cbd (x:Option X) (env:J1e) (d n:Nat):Option Nat:=match x with
 | none=>some d
 | some x=>match gx x env with
   | some (.int _ (.ofNat m))=>match Nat.ble m n with|true=>some m|false=>none
   | _=>none
theorem J2Z {x:Option X} {env:J1e} {d n m:Nat} {K:Nat->Prop} (h:cbd x env d n=some m) (hK:K m):bdK x (J25 env) d n K:=by
 unfold cbd at h;split at h
 . cases h;exact hK
 . split at h
   . rename_i hx;split at h
     . rename_i hb;cases h;refine J0B hx ?_;simp only[C.v];exact⟨_,rfl,Nat.le_of_ble_eq_true hb,hK⟩
     . cases h
   . cases h
theorem Q2i (l:Nat) (z:List V) (rows:List (List V)):J0j l (J4r z rows)=J4r z (rows.drop l):=by
 funext i j;rw[J0w];simp[J4r,List.getD_eq_getElem?_getD]
theorem J2Q (l:Nat) (z:List C) (rows:List (List C)):J0j l (J4r (C.vs z) (C.vss rows))=J4r (C.vs z) (C.vss (rows.drop l)):=by
 rw[Q2i,C.vss_map,C.vss_map,List.map_drop]
noncomputable def Y2K (own:J0A) (s:Nat) (x:X) (lo hi:Option X) (env:J1e):Option C :=
 match gx x env with
 | some (.fz n s' J15 z rows)=>match Nat.beq s s' with
   | true=>match cbd hi env n n with
     | some h=>match cbd lo env 0 h with
       | some l=>fN (h-l) fun m=>fH (dr rows l) fun q=>some (.fz m s (match hi with|none=>J15|some _=>false) z q)
       | none=>none
     | none=>none
   | false=>none
 | some .nilslice=>match cbd hi env 0 0 with
   | some h=>match cbd lo env 0 h with
     | some _=>some .nilslice
     | none=>none
   | none=>none
 | some (.vec k s' lo0 len)=>match Nat.beq s s' with
   | true=>match lk own k with
     | some (.vec n _ _ _)=>match Nat.ble (lo0+len) n with
       | true=>match cbd hi env len (n-lo0) with
         | some h=>match cbd lo env 0 h with
           | some l=>fN (lo0+l) fun a=>fN (h-l) fun b=>some (.vec k s a b)
           | none=>none
         | none=>none
       | false=>none
     | _=>match cbd hi env len len with
        | some h=>match cbd lo env 0 h with
          | some l=>fN (lo0+l) fun a=>fN (h-l) fun b=>some (.vec k s a b)
          | none=>none
        | none=>none
   | false=>none
 | _=>none
theorem Q8R {own:J0A} {s:Nat} {x:X} {lo hi:Option X} {same:Bool} {env:J1e} {c:C} {K:V->Prop} (h:Y2K own s x lo hi env=some c) (hK:K c.v):X3E (J0L own) s x lo hi none same (J25 env) K:=by
 unfold Y2K at h;unfold X3E;split at h
 . rename_i n s' J15 z rows hx;refine J0B hx ?_;simp only[C.v];split at h
   . rename_i hs;simp only[hs];split at h
     . rename_i hh e1;split at h
       . rename_i ll e2;refine J2Z e1 (J2Z e2 ?_);simp only[J4k,X1r,J9L,Option.some.injEq] at h;subst h;rw[J2Q];simp only[C.v] at hK;exact hK
       . cases h
     . cases h
   . cases h
 . rename_i hx;refine J0B hx ?_;simp only[C.v];split at h
   . rename_i hh e1;split at h
     . rename_i ll e2;cases h;exact J2Z e1 (J2Z e2 (by simpa[C.v] using hK))
     . cases h
   . cases h
 . rename_i k s' lo0 len hx;refine J0B hx ?_;simp only[C.v];split at h
   . rename_i hs;simp only[hs];split at h
     . rename_i n s'' z rows hl;rw[J0x hl];simp only[CB.b];split at h
       . rename_i hle;refine⟨fun _=>?_,fun hf=>by rw[hle] at hf;cases hf⟩;split at h
         . rename_i hh e1;split at h
           . rename_i ll e2;refine J2Z e1 (J2Z e2 ?_);simp only[J4k,Option.some.injEq] at h;subst h;simpa[C.v] using hK
           . cases h
         . cases h
       . cases h
     . rename_i hne;have key:∀{A:Nat->Nat->(Nat->Nat->V)->Prop} {B:Prop},B->(match look (J0L own) k with|some (.vec n s f)=>A n s f|_=>B):=by
        intro A B hB;rw[J0L,J2w,<- J73];cases hl:lk own k with
        | none=>exact hB
        | some b=>cases b with
          | vec n s z rows=>exact(hne n s z rows hl).elim
          | _=>exact hB
       refine key ?_;split at h
       . rename_i hh e1;split at h
         . rename_i ll e2;refine J2Z e1 (J2Z e2 ?_);simp only[J4k,Option.some.injEq] at h;subst h;simpa[C.v] using hK
         . cases h
       . cases h
   . cases h
 . cases h
noncomputable def X5c (s:Nat) (x:X) (lo:Option X) (hi mx:X) (same:Bool) (env:J1e):Option C :=
 match gx x env with
 | some (.fz n s' _ z rows)=>match Nat.beq s s' with
   | true=>match cbd (some mx) env n n with
     | some m=>match cbd (some hi) env n m with
       | some h=>match cbd lo env 0 h with
         | some l=>fN (h-l) fun m=>fH (dr rows l) fun q=>some (.fz m s same z q)
         | none=>none
       | none=>none
     | none=>none
   | false=>none
 | _=>none
theorem Q4u {own:Own} {s:Nat} {x:X} {lo:Option X} {hi mx:X} {same:Bool} {env:J1e} {c:C} {K:V->Prop} (h:X5c s x lo hi mx same env=some c) (hK:K c.v):X3E own s x lo (some hi) (some mx) same (J25 env) K:=by
 unfold X5c at h;unfold X3E;split at h
 . rename_i n s' J15 z rows hx;refine J0B hx ?_;simp only[C.v];split at h
   . rename_i hs;simp only[hs];split at h
     . rename_i m e0;split at h
       . rename_i hh e1;split at h
         . rename_i ll e2;refine J2Z e0 (J2Z e1 (J2Z e2 ?_));simp only[J4k,X1r,J9L,Option.some.injEq] at h;subst h;rw[J2Q];simp only[C.v] at hK;exact hK
         . cases h
       . cases h
     . cases h
   . cases h
 . cases h
def cix (i:Int) (n:Nat):Option Nat:=match i with
 | .ofNat m=>match Nat.blt m n with|true=>some m|false=>none
 | .negSucc _=>none
theorem J7E {i:Int} {n m:Nat} {K:Nat->Prop} (h:cix i n=some m) (hK:K m):Ix i n K:=by
 unfold cix at h;split at h
 . split at h
   . rename_i hb;cases h;exact⟨m,rfl,Nat.le_of_ble_eq_true hb,hK⟩
   . cases h
 . cases h
theorem J9c {α:Type}:∀(l:List α) (o n:Nat) (K:List α->Prop),n<=(l.drop o).length->K ((l.drop o).take n)->J7Z l o n K
 | l,o,0,K,_,h=>by cases l<;>cases o<;>simpa[J7Z] using h
 | [],o,n+1,K,hl,h=>by simp at hl
 | x::r,0,n+1,K,hl,h=>by
   simp only[J7Z];exact J9c r 0 n _ (by simpa using hl) (by simpa using h)
 | x::r,o+1,n+1,K,hl,h=>by
   simp only[J7Z];exact J9c r o (n+1) _ (by simpa using hl) (by simpa using h)
noncomputable def Q3a (l:List C) (o n:Nat):Option C:=tk n (dr l o) fun q=>some (.agg q)
theorem Q9v {l:List C} {o n:Nat} {c:C} {K:V->Prop} (h:Q3a l o n=some c) (hK:K c.v):J7Z (C.vs l) o n fun l=>K (.agg l):=by
 unfold Q3a at h;rw[X0l,J9L] at h;split at h
 . rename_i hl;cases h;refine J9c _ _ _ _ (by simpa[C.vs_map] using hl) ?_;simp only[C.v,C.vs_map] at hK;simpa[C.vs_map] using hK
 . cases h
theorem Q7j {l:List C} {i:Nat} {c:C} (h:nt l i=some c):nth (C.vs l) i=some c.v:=by
 rw[X0P,J5s] at h;rw[J5s,C.vs_get,h];rfl
noncomputable def p_mv (x:X) (env:J1e):Option C:=gx x env
noncomputable def X6L (off:Nat) (x:X) (env:J1e):Option C:=match gx x env with
 | some (.loc k o)=>fN (o+off) fun m=>some (.loc k m)
 | some (.oel k s i j)=>fN (j+off) fun m=>some (.oel k s i m)
 | some (.fe n s z rows i j)=>fN (j+off) fun m=>some (.fe n s z rows i m)
 | _=>none
noncomputable def Q3N (x:X) (env:J1e):Option C:=match gx x env with
 | some (.loc k o)=>some (.loc k o)
 | some (.oel k s i j)=>some (.oel k s i j)
 | some (.fe n s z rows i j)=>some (.fe n s z rows i j)
 | some (.iface t v)=>some (.iface t v)
 | _=>none
noncomputable def X6N (bt:BT) (op:BinOp) (x:X) (y:X) (env:J1e):Option C:=match gx x env with
 | some a=>match gx y env with
   | some b=>Y2R bt op a b
   | none=>none
 | none=>none
noncomputable def X2D (c:X) (a:X) (b:X) (env:J1e):Option C:=match gx c env with
 | some (.bool true)=>gx a env
 | some (.bool false)=>gx b env
 | _=>none
noncomputable def X2C (x:X) (lo:Option X) (hi:Option X) (env:J1e):Option C:=match gx x env with
 | some (.str l c)=>match cbd hi env l l with
   | some h=>match cbd lo env 0 h with
     | some a=>X8p (h-a) (Nat.mod (Nat.div c (Nat.pow 256 a)) (Nat.pow 256 (h-a)))
     | none=>none
   | none=>none
 | _=>none
noncomputable def Q67 (x:X) (i:X) (env:J1e):Option C:=match gx x env with
 | some (.str l c)=>match gx i env with
   | some (.int _ i)=>match cix i l with
     | some m=>fN (Nat.mod (Nat.div c (Nat.pow 256 m)) 256) fun b=>some (.int .u8 (.ofNat b))
     | none=>none
   | _=>none
 | _=>none
noncomputable def X2E (f:Fn) (b:Bool) (cap:List X) (env:J1e):Option C:=match gxs env cap with
 | some l=>some (.fn f b l)
 | none=>none
noncomputable def p_un (op:UnOp) (x:X) (env:J1e):Option C:=match gx x env with
 | some (.bool b)=>match op with
   | .not=>match b with|true=>some (.bool false)|false=>some (.bool true)
   | _=>none
 | some (.int k n)=>match op with
   | .neg=>arC k (0-n)
   | .xor=>svC k (J20 .xor k (if k.signed then -1 else k.max) n)
   | _=>none
 | _=>none
noncomputable def Q66 (k:IntKind) (x:X) (env:J1e):Option C:=match gx x env with
 | some (.int _ n)=>arC k n
 | _=>none
noncomputable def X6H (off:Nat) (sz:Option Nat) (x:X) (env:J1e):Option C:=match gx x env with
 | some (.agg cs)=>match sz with
   | none=>nt cs off
   | some n=>Q3a cs off n
 | _=>none
noncomputable def X6J (s:Nat) (x:X) (i:X) (env:J1e):Option C:=match gx x env with
 | some (.fz n s' _ z rows)=>match Nat.beq s s' with
   | true=>match gx i env with
     | some (.int _ i)=>match cix i n with
       | some m=>some (.fe n s z rows m 0)
       | none=>none
     | _=>none
   | false=>none
 | some (.vec k s' lo len)=>match Nat.beq s s' with
   | true=>match gx i env with
     | some (.int _ i)=>match cix i len with
       | some m=>fN (lo+m) fun m=>some (.oel k s m 0)
       | none=>none
     | _=>none
   | false=>none
 | _=>none
noncomputable def X6K (n:Nat) (s:Nat) (x:X) (i:X) (env:J1e):Option C:=match gx x env with
 | some (.loc k o)=>match gx i env with
   | some (.int _ i)=>match cix i n with
     | some m=>fN (o+m*s) fun m=>some (.loc k m)
     | none=>none
   | _=>none
 | some (.fe n' s' z rows i0 j0)=>match gx i env with
   | some (.int _ i)=>match cix i n with
     | some m=>fN (j0+m*s) fun m=>some (.fe n' s' z rows i0 m)
     | none=>none
   | _=>none
 | some (.oel k s' i0 j0)=>match Nat.beq s s',i0,j0 with
   | true,0,0=>match gx i env with
     | some (.int _ i)=>match cix i n with
       | some m=>some (.oel k s m 0)
       | none=>none
     | _=>none
   | _,_,_=>match gx i env with
     | some (.int _ i)=>match cix i n with
       | some m=>fN (j0+m*s) fun j=>some (.oel k s' i0 j)
       | none=>none
     | _=>none
 | _=>none
noncomputable def X6M (x:X) (i:Nat) (env:J1e):Option C:=match gx x env with
 | some (.tup vs)=>nt vs i
 | _=>none
noncomputable def X6I (x:X) (env:J1e):Option C:=match gx x env with
 | some (.fz n _ _ _ _)=>some (.int .i64 (.ofNat n))
 | some (.vec _ _ _ n)=>some (.int .i64 (.ofNat n))
 | some .nilslice=>some (.int .i64 0)
 | _=>none
noncomputable def X2F (x:X) (env:J1e):Option C:=match gx x env with
 | some (.str l _)=>some (.int .i64 (.ofNat l))
 | _=>none
noncomputable def p_mn (x:X) (y:X) (env:J1e):Option C:=match gx x env with
 | some (.int k a)=>match gx y env with
   | some (.int _ b)=>match ile a b with
     | true=>some (.int k a)
     | false=>some (.int k b)
   | _=>none
 | _=>none
noncomputable def p_mx (x:X) (y:X) (env:J1e):Option C:=match gx x env with
 | some (.int k a)=>match gx y env with
   | some (.int _ b)=>match ile b a with
     | true=>some (.int k a)
     | false=>some (.int k b)
   | _=>none
 | _=>none
noncomputable def J3l (o:POp) (env:J1e):Option C :=
 match o with
 | .slc _ _ _ _ _ _=>none
 | .mv x=>p_mv x env
 | .fld off x=>X6L off x env
 | .nilchk x=>Q3N x env
 | .bin bt op x y=>X6N bt op x y env
 | .pick c a b=>X2D c a b env
 | .slcs x lo hi=>X2C x lo hi env
 | .ixstr x i=>Q67 x i env
 | .mkfn f b cap=>X2E f b cap env
 | .un op x=>p_un op x env
 | .toint k x=>Q66 k x env
 | .sel off sz x=>X6H off sz x env
 | .ixs s x i=>X6J s x i env
 | .ixa n s x i=>X6K n s x i env
 | .ext x i=>X6M x i env
 | .len x=>X6I x env
 | .lens x=>X2F x env
 | .mn x y=>p_mn x y env
 | .mx x y=>p_mx x y env
theorem X1G {o:POp} {env:J1e} {c:C} {K:V->Prop} (h:J3l o env=some c) (hK:K c.v):J2F o (J25 env) K:=by
 cases o with
 | slc=>cases h
 | mv x=>simp only[J3l,p_mv] at h;exact J0B h hK
 | fld off x =>
   simp only[J3l,X6L] at h;simp only[J2F];split at h<;>first
    | (cases h;done)
    | (rename_i hx
       refine J0B hx ?_;simp only[C.v];simp only[J4k,Option.some.injEq] at h;subst h;simpa only[C.v] using hK)
 | nilchk x =>
   simp only[J3l,Q3N] at h;simp only[J2F];split at h<;>first
    | (cases h;done)
    | (rename_i hx
       refine J0B hx ?_;cases h;simpa only[C.v] using hK)
 | bin bt op x y =>
   simp only[J3l,X6N] at h;simp only[J2F];split at h
   . rename_i a ha;split at h
     . rename_i b hb;exact J0B ha (J0B hb (X5o h hK))
     . cases h
   . cases h
 | pick c a b =>
   simp only[J3l,X2D] at h;simp only[J2F];split at h
   . rename_i hc;refine J0B hc ?_;simp only[C.v];exact J0B h hK
   . rename_i hc;refine J0B hc ?_;simp only[C.v];exact J0B h hK
   . cases h
 | slcs x lo hi =>
   simp only[J3l,X2C] at h;simp only[J2F];split at h
   . rename_i l d hx;refine J0B hx ?_;simp only[C.v,J1y];split at h
     . rename_i hh e1;split at h
       . rename_i a e2;have hle:hh<=l:=by
          unfold cbd at e1;split at e1
          . cases e1;exact Nat.le_refl _
          . split at e1
            . split at e1
              . rename_i hb;cases e1;exact Nat.le_of_ble_eq_true hb
              . cases e1
            . cases e1
         refine J2Z e1 (J2Z e2 ?_);rw[J7K _ _ _ _ hle,<- J4E];rw[Q6z h] at hK;exact hK
       . cases h
     . cases h
   . cases h
 | ixstr x i =>
   simp only[J3l,Q67] at h;simp only[J2F];split at h
   . rename_i l d hx;split at h
     . rename_i k n hi;refine J0B hx (J0B hi ?_);simp only[C.v,J1y];split at h
       . rename_i m hm;refine J7E hm ?_;have hlt:m<l:=by
          unfold cix at hm;split at hm
          . split at hm
            . rename_i hb;cases hm;exact Nat.le_of_ble_eq_true hb
            . cases hm
          . cases hm
         simp only[J4k,Option.some.injEq] at h;subst h;rw[Q2Z _ _ _ hlt];simp only[C.v] at hK;exact hK
       . cases h
     . cases h
   . cases h
 | mkfn f b cap =>
   simp only[J3l,X2E] at h;simp only[J2F];split at h
   . rename_i l hl;cases h;exact Q1i hl (by simpa only[C.v] using hK)
   . cases h
 | un op x =>
   simp only[J3l,p_un] at h;simp only[J2F];split at h
   . rename_i b hx;refine J0B hx ?_;simp only[C.v];split at h
     . split at h
       . cases h;simpa only[C.v] using hK
       . cases h;simpa only[C.v] using hK
     . cases h
   . rename_i k n hx;refine J0B hx ?_;simp only[C.v];split at h
     . exact J7Q h hK
     . exact J6K h hK
     . cases h
   . cases h
 | toint k x =>
   simp only[J3l,Q66] at h;simp only[J2F];split at h
   . rename_i hx;refine J0B hx ?_;simp only[C.v];exact J7Q h hK
   . cases h
 | sel off sz x =>
   simp only[J3l,X6H] at h;simp only[J2F];split at h
   . rename_i cs hx;refine J0B hx ?_;simp only[C.v];split at h
     . rw[Q7j h];exact hK
     . exact Q9v h hK
   . cases h
 | ixs s x i =>
   simp only[J3l,X6J] at h;simp only[J2F];split at h
   . rename_i n s' J15 z rows hx;split at h
     . rename_i hs;split at h
       . rename_i hi;refine J0B hx (J0B hi ?_);simp only[C.v,hs];split at h
         . rename_i hm;cases h;exact J7E hm (by simpa only[C.v] using hK)
         . cases h
       . cases h
     . cases h
   . rename_i k s' lo len hx;split at h
     . rename_i hs;split at h
       . rename_i hi;refine J0B hx (J0B hi ?_);simp only[C.v,hs];split at h
         . rename_i hm;simp only[J4k,Option.some.injEq] at h;subst h;exact J7E hm (by simpa only[C.v] using hK)
         . cases h
       . cases h
     . cases h
   . cases h
 | ixa n s x i =>
   simp only[J3l,X6K] at h;simp only[J2F];split at h
   . rename_i k o hx;split at h
     . rename_i hi;refine J0B hx (J0B hi ?_);simp only[C.v];split at h
       . rename_i hm;simp only[J4k,Option.some.injEq] at h;subst h;exact J7E hm (by simpa only[C.v] using hK)
       . cases h
     . cases h
   . rename_i hx;split at h
     . rename_i hi;refine J0B hx (J0B hi ?_);simp only[C.v];split at h
       . rename_i hm;simp only[J4k,Option.some.injEq] at h;subst h;exact J7E hm (by simpa only[C.v] using hK)
       . cases h
     . cases h
   . rename_i hx;split at h
     . rename_i hs;split at h
       . rename_i hi;refine J0B hx (J0B hi ?_);simp only[C.v,hs];split at h
         . rename_i hm;cases h;exact J7E hm (by simpa only[C.v] using hK)
         . cases h
       . cases h
     . rename_i hne;split at h
       . rename_i hi;refine J0B hx (J0B hi ?_);simp only[C.v];split at h
         . rename_i hm;simp only[J4k,Option.some.injEq] at h;subst h;exact J7E hm (by simpa only[C.v] using hK)
         . cases h
       . cases h
   . cases h
 | ext x i =>
   simp only[J3l,X6M] at h;simp only[J2F];split at h
   . rename_i hx;refine J0B hx ?_;simp only[C.v];rw[Q7j h];exact hK
   . cases h
 | len x =>
   simp only[J3l,X6I] at h;simp only[J2F];split at h<;>first
    | (cases h;done)
    | (rename_i hx
       refine J0B hx ?_;cases h;simp only[C.v] at hK;simp only[C.v];exact hK)
 | lens x =>
   simp only[J3l,X2F] at h;simp only[J2F];split at h
   . rename_i hx;refine J0B hx ?_;cases h;simp only[C.v] at hK;simp only[C.v,J1y];exact hK
   . cases h
 | mn x y =>
   simp only[J3l,p_mn] at h;simp only[J2F];split at h
   . rename_i hx;split at h
     . rename_i hy;refine J0B hx (J0B hy ?_);simp only[C.v];refine⟨_,rfl,?_⟩;split at h
       . rename_i hc;rw[J5X] at hc;cases h;have hc:=of_decide_eq_true hc;rw[if_neg (by omega)];simpa only[C.v] using hK
       . rename_i hc;rw[J5X] at hc;cases h;have hc:=of_decide_eq_false hc;rw[if_pos (by omega)];simpa only[C.v] using hK
     . cases h
   . cases h
 | mx x y =>
   simp only[J3l,p_mx] at h;simp only[J2F];split at h
   . rename_i hx;split at h
     . rename_i hy;refine J0B hx (J0B hy ?_);simp only[C.v];refine⟨_,rfl,?_⟩;split at h
       . rename_i hc;rw[J5X] at hc;cases h;have hc:=of_decide_eq_true hc;rw[if_neg (by omega)];simpa only[C.v] using hK
       . rename_i hc;rw[J5X] at hc;cases h;have hc:=of_decide_eq_false hc;rw[if_pos (by omega)];simpa only[C.v] using hK
     . cases h
   . cases h
end Go.Eng
namespace Go.Eng
def X1T:C->Bool
 | .agg _ | .tup _ | .unit=>false
 | _=>true
theorem Q4E (c:C):c.v.cellB=X1T c:=by cases c<;>simp[C.v,V.cellB,X1T]
noncomputable def J8W (p:C->Bool) (l:List C):Bool:=@List.rec C (fun _=>Bool) true (fun c _ ih=>@Bool.rec (fun _=>Bool) false ih (p c)) l
theorem Q1P (p:C->Bool) (c:C) (r:List C):J8W p (c::r)=(p c&&J8W p r):=by
 show @Bool.rec (fun _=>Bool) false (J8W p r) (p c)=_;cases p c<;>rfl
theorem J26 {q:V->Bool} {p:C->Bool} (h:∀c,q c.v=p c):∀(l:List C),J2O q (C.vs l)=J8W p l
 | []=>rfl
 | c::r=>by
   rw[Q1P];simp only[C.vs,J2O,h,J26 h r];cases p c<;>rfl
def Q9M:C->Bool
 | .bool _ | .int _ _ | .str _ _ | .nilptr | .nilslice | .nilmap | .nilfunc | .niliface | .fz _ _ _ _ _ | .fe _ _ _ _ _ _ | .unit=>true
 | _=>false
theorem J9B (c:C):c.v.kf1=Q9M c:=by cases c<;>simp[C.v,V.kf1,Q9M]
noncomputable def Q5S:C->Bool
 | .agg cs=>J8W Q9M cs
 | .iface _ v=>Q9M v
 | .fn _ _ cap=>J8W Q9M cap
 | v=>Q9M v
theorem J7e (c:C):c.v.kf2=Q5S c:=by
 cases c<;>simp[C.v,V.kf2,Q5S,J26 J9B,J9B]<;>simp[V.kf1,Q9M]
noncomputable def ln {α:Type} (l:List α):Nat:=@List.rec α (fun _=>Nat) 0 (fun _ _ ih=>Nat.succ ih) l
theorem X04 {α:Type} (l:List α):ln l=l.length:=by
 induction l with
 | nil=>rfl
 | cons x r ih=>show Nat.succ (ln r)=_;rw[ih];rfl
def Q4C:C->Option (List C)
 | .agg cs=>some cs
 | .tup _ | .unit=>none
 | v=>some [v]
theorem J3m {v:C} {vs:List C} {K:List V->Prop} (h:Q4C v=some vs) (hK:K (C.vs vs)):v.v.cellsK K:=by
 cases v<;>first
  | (cases h;done)
  | (cases h;simp only[C.v];simp only[C.vs,C.v] at hK;exact hK)
  | (cases h;simp only[C.v];exact hK)
noncomputable def J7H (sz:Nat) (v:C):Option (List C):=match Q4C v with
 | some vs=>match Nat.beq (ln vs) sz with
   | true=>match J8W X1T vs with|true=>some vs|false=>none
   | false=>none
 | none=>none
theorem J3X {sz:Nat} {v:C} {vs:List C} (h:J7H sz v=some vs):Q4C v=some vs/\vs.length=sz/\Nat.beq (C.vs vs).length sz=true/\J2O V.cellB (C.vs vs)=true:=by
 unfold J7H at h;split at h
 . rename_i vs' h1;split at h
   . rename_i h2;split at h
     . rename_i h3;cases h;rw[X04] at h2;exact⟨h1,Nat.eq_of_beq_eq_true h2,by rw[C.vs_length];exact h2,by rw[J26 Q4E];exact h3⟩
     . cases h
   . cases h
 . cases h
theorem V.force_ok {v:V} {K:V->Prop} (h:K v):v.force K:=by cases v<;>exact h
theorem Q1p (g:Nat->V):∀(n j:Nat) (l:List V) (K:List V->Prop),l.length=n->(∀t,t<n->l[t]?=some (g (j+t)))->K l->J7q g j n K
 | 0,j,l,K,hl,_,h=>by
   have:l=[]:=List.length_eq_zero_iff.1 hl;subst this;exact h
 | n+1,j,[],K,hl,_,h=>by simp at hl
 | n+1,j,x::l,K,hl,hg,h=>by
   have h0:=hg 0 (by omega);simp at h0;subst h0;simp only[J7q];refine V.force_ok (Q1p g n (j+1) l _ (by simpa using hl) (fun t ht=>?_) h);have:=hg (t+1) (by omega);simp only[List.getElem?_cons_succ] at this;rw[this];congr 2;omega
theorem Q3y {z:List C} {rows:List (List C)} {i:Nat} {row:List C} (h:nt rows i=some row) (j:Nat):J4r (C.vs z) (C.vss rows) i j=(C.vs row).getD j (J3G (C.vs z)):=by
 rw[X0P,J5s] at h;simp[J4r,List.getD_eq_getElem?_getD,C.vss_get,h]
noncomputable def X8q (s:Nat) (rows:List (List C)) (sz:Option Nat) (i j:Nat):Option C:=match nt rows i with
 | some row=>match sz with
   | none=>match Nat.ble (Nat.succ j) s with|true=>nt row j|false=>none
   | some m=>match Nat.ble (j+m) s with|true=>Q3a row j m|false=>none
 | none=>none
def Q0J (s:Nat) (f:Nat->Nat->V) (i j:Nat) (K:V->Prop) (sz:Option Nat):Prop :=
 match sz with
 | none=>match Nat.ble (j+1) s with|true=>(f i j).force K|false=>False
 | some m=>match Nat.ble (j+m) s with|true=>J7q (f i) j m fun l=>K (.agg l)|false=>False
theorem Q6P {s:Nat} (z:List C) {rows:List (List C)} {sz:Option Nat} {i j:Nat} {c:C} {K:V->Prop} (h:X8q s rows sz i j=some c) (hK:K c.v):Q0J s (J4r (C.vs z) (C.vss rows)) i j K sz:=by
 unfold Q0J;unfold X8q at h;split at h
 . rename_i row hr;cases sz with
   | none =>
     simp only at h;split at h
     . rename_i hb;simp only[hb];refine V.force_ok ?_;rw[Q3y hr];rw[X0P,J5s] at h;simpa[List.getD_eq_getElem?_getD,C.vs_get,h] using hK
     . cases h
   | some m =>
     simp only at h;split at h
     . rename_i hb;simp only[hb];unfold Q3a at h;rw[X0l,J9L] at h;split at h
       . rename_i hl;cases h;simp only[C.v] at hK;refine Q1p _ _ _ _ _ ?_ (fun t ht=>?_) hK
         . rw[C.vs_length,List.length_take];omega
         . rw[Q3y hr,C.vs_get,List.getElem?_take,if_pos ht,List.getElem?_drop];simp only[List.length_drop] at hl;have hlt:j+t<row.length:=by omega
           simp[List.getD_eq_getElem?_getD,C.vs_get,hlt]
       . cases h
     . cases h
 . cases h
noncomputable def Q4y (own:J0A) (sz:Option Nat) (k off:Nat):Option C :=
 match lk own k with
 | some (.cells cs)=>match sz with
   | none=>nt cs off
   | some n=>Q3a cs off n
 | _=>none
theorem Q1C {own:J0A} {sz:Option Nat} {k off:Nat} {c:C} {K:V->Prop} (h:Q4y own sz k off=some c) (hK:K c.v):J8d (J0L own) sz k off K:=by
 unfold Q4y at h;unfold J8d;split at h
 . rename_i cs hl;rw[J0x hl];simp only[CB.b];cases sz with
   | none=>simp only at h ⊢;rw[Q7j h];exact hK
   | some n=>simp only at h ⊢;exact Q9v h hK
 . cases h
noncomputable def J8O (own:J0A) (sz:Option Nat) (p:C):Option C :=
 match p with
 | .loc k off=>Q4y own sz k off
 | .oel k s i j=>match lk own k with
   | some (.vec n s' _ rows)=>match Nat.beq s s' with
     | true=>match Nat.blt i n with
       | true=>X8q s rows sz i j
       | false=>none
     | false=>none
   | some (.cells _)=>Q4y own sz k (i*s+j)
   | _=>none
 | .fe _ s _ rows i j=>X8q s rows sz i j
 | _=>none
theorem J7D {own:J0A} {sz:Option Nat} {p c:C} {K:V->Prop} (h:J8O own sz p=some c) (hK:K c.v):J3B (J0L own) sz p.v K:=by
 unfold J8O at h;split at h
 . simp only[C.v,J3B];exact Q1C h hK
 . rename_i k s i j;simp only[C.v,J3B];split at h
   . rename_i n s' z rows hl;rw[J0x hl];simp only[CB.b];split at h
     . rename_i hs;simp only[hs];split at h
       . rename_i hi;have:=Q6P z h hK;exact⟨Nat.le_of_ble_eq_true hi,by cases sz<;>exact this⟩
       . cases h
     . cases h
   . rename_i cs hl;rw[J0x hl];simp only[CB.b];exact Q1C h hK
   . cases h
 . rename_i n s z rows i j;have:=Q6P z h hK;simp only[C.v,J3B];cases sz<;>exact this
 . cases h
noncomputable def Y0X (c:C):Option C:=match c with
 | .unit=>none
 | c=>some c
theorem X4t {c d:C} {K:V->Prop} (h:Y0X c=some d) (hK:K d.v):X06 c.v K:=by
 cases c<;>simp only[Y0X,Option.some.injEq,reduceCtorEq] at h<;>subst h<;>simp only[C.v] at hK<;>simp only[C.v,X06]<;>first|exact hK|exact Q1B hK
noncomputable def X5h (own:J0A) (sz:Option Nat) (p:C):Option C:=match J8O own sz p with
 | some c=>Y0X c
 | none=>none
theorem X1N {own:J0A} {sz:Option Nat} {p c:C} {K:V->Prop} (h:X5h own sz p=some c) (hK:K c.v):X3G (J0L own) sz p.v K:=by
 unfold X5h at h;split at h
 . rename_i d hd;exact J7D hd (X4t h hK)
 . cases h
noncomputable def stC {α β:Type} (l:List α):Nat->List α->(List α->Option β)->Option β :=
 @List.rec α (fun _=>Nat->List α->(List α->Option β)->Option β)
  (fun _ vs K=>match vs with|[]=>K []|_::_=>none)
  (fun x r ih o vs K=>match vs with
    | []=>K (x::r)
    | v::vs=>@Nat.rec (fun _=>Option β) (ih 0 vs fun l=>K (v::l)) (fun o _=>ih o (v::vs) fun l=>K (x::l)) o) l
theorem J5P {α β:Type}:∀(l:List α) (o:Nat) (vs:List α) (K:List α->Option β) (out:β),stC l o vs K=some out ->
 ∃l',K l'=some out/\l'.length=l.length/\(vs≠[]->o+vs.length<=l.length)/\l'=l.take o++vs++l.drop (o+vs.length)/\∀{γ:Type} (f:α->γ) (Kp:List γ->Prop),Kp (l'.map f)->X5T (l.map f) o (vs.map f) Kp
 | [],o,[],K,out,h=>⟨[],h,rfl,fun h=>(h rfl).elim,by simp,fun f Kp hK=>by cases o<;>exact hK⟩
 | [],o,v::vs,K,out,h=>by cases h
 | x::r,o,[],K,out,h=>⟨x::r,h,rfl,fun h=>(h rfl).elim,by simp,fun f Kp hK=>by cases o<;>exact hK⟩
 | x::r,0,v::vs,K,out,h=>by
   obtain⟨l',a1,a2,a3,a4,a5⟩:=J5P r 0 vs (fun l=>K (v::l)) out h;refine⟨v::l',a1,by simp[a2],fun _=>?_,by rw[a4];simp[Nat.add_comm],fun f Kp hK=>a5 f _ (by simpa using hK)⟩;cases vs with
   | nil=>simp
   | cons y ys=>have:=a3 (by simp);simp at this ⊢;omega
 | x::r,o+1,v::vs,K,out,h=>by
   obtain⟨l',a1,a2,a3,a4,a5⟩:=J5P r o (v::vs) (fun l=>K (x::l)) out h;refine⟨x::l',a1,by simp[a2],fun _=>by have:=a3 (by simp);simp at this ⊢;omega,?_,fun f Kp hK=>a5 f _ (by simpa using hK)⟩;rw[a4];simp[show o+1+(vs.length+1)=o+(vs.length+1)+1 by omega]
noncomputable def upC {β:Type} (t:Nat) (x:CB) (l:J0A):(J0A->Option β)->Option β :=
 @List.rec (Nat×CB) (fun _=>(J0A->Option β)->Option β) (fun K=>K [])
  (fun p r ih K=>@Prod.rec Nat CB (fun _=>Option β) (fun k v=>@Bool.rec (fun _=>Option β) (ih fun r'=>K ((k,v)::r')) (K ((k,x)::r)) (Nat.beq k t)) p) l
theorem J6F {β:Type} {t:Nat} {x:CB}:∀{l:J0A} {K:J0A->Option β} {out:β},upC t x l K=some out ->
 ∃l',K l'=some out/\∀Kp:Own->Prop,Kp (J0L l')->Q1V t x.b (J0L l) Kp
 | [],K,out,h=>⟨[],h,fun Kp hK=>hK⟩
 | (k,v)::r,K,out,h=>by
   have h:@Bool.rec (fun _=>Option β) (upC t x r fun r'=>K ((k,v)::r')) (K ((k,x)::r)) (Nat.beq k t)=some out:=h;cases hb:Nat.beq k t with
   | true =>
     rw[hb] at h;exact⟨_,h,fun Kp hK=>by simp only[J0L,List.map_cons,Q1V,hb];exact hK⟩
   | false =>
     rw[hb] at h;obtain⟨l',a1,a2⟩:=J6F (K:=fun r'=>K ((k,v)::r')) h;exact⟨_,a1,fun Kp hK=>by simp only[J0L,List.map_cons,Q1V,hb];exact a2 _ hK⟩
noncomputable def deC {β:Type} (t:Nat) (l:J0A):(J0A->Option β)->Option β :=
 @List.rec (Nat×CB) (fun _=>(J0A->Option β)->Option β) (fun K=>K [])
  (fun p r ih K=>@Prod.rec Nat CB (fun _=>Option β) (fun k v=>@Bool.rec (fun _=>Option β) (ih fun r'=>K ((k,v)::r')) (K r) (Nat.beq k t)) p) l
theorem Q8N {β:Type} {t:Nat}:∀{l:J0A} {K:J0A->Option β} {out:β},deC t l K=some out ->
 ∃l',K l'=some out/\∀Kp:Own->Prop,Kp (J0L l')->X1F t (J0L l) Kp
 | [],K,out,h=>⟨[],h,fun Kp hK=>hK⟩
 | (k,v)::r,K,out,h=>by
   have h:@Bool.rec (fun _=>Option β) (deC t r fun r'=>K ((k,v)::r')) (K r) (Nat.beq k t)=some out:=h;cases hb:Nat.beq k t with
   | true =>
     rw[hb] at h;exact⟨_,h,fun Kp hK=>by simp only[J0L,List.map_cons,X1F,hb];exact hK⟩
   | false =>
     rw[hb] at h;obtain⟨l',a1,a2⟩:=Q8N (K:=fun r'=>K ((k,v)::r')) h;exact⟨_,a1,fun Kp hK=>by simp only[J0L,List.map_cons,X1F,hb];exact a2 _ hK⟩
theorem Q3z (rows:List (List V)):tab rows=J4r [] rows:=rfl
noncomputable def Q9d (own:J0A) (v:C):Option C :=
 match v with
 | .vec k s lo len=>match lk own k with
   | some (.vec n s' z rows)=>match Nat.beq s s' with
     | true=>match Nat.ble (lo+len) n with
       | true=>fH (dr rows lo) fun q=>some (.fz len s false z q)
       | false=>none
     | false=>none
   | _=>none
 | v=>match Q5S v with
   | true=>some v
   | false=>none
theorem J9X {own:J0A} {v c:C} {K:V->Prop} (h:Q9d own v=some c) (hK:K c.v):Q5V (J0L own) v.v K:=by
 have other:(∀k s lo len,v≠.vec k s lo len)->Q5S v=true->K v.v->Q5V (J0L own) v.v K:=by
  intro hne hk hK;have:=J7e v;rw[hk] at this;cases v<;>first
   | exact(hne _ _ _ _ rfl).elim
   | (simp only[C.v] at this hK ⊢
      simp only[Q5V,this];exact hK)
 unfold Q9d at h;split at h
 . rename_i k s lo len;simp only[C.v,Q5V];split at h
   . rename_i n s' z rows hl;rw[J0x hl];simp only[CB.b];split at h
     . rename_i hs;simp only[hs];split at h
       . rename_i hle;refine⟨Nat.le_of_ble_eq_true hle,?_⟩;rw[X1r] at h;cases h;rw[J2Q];simp only[C.v,J9L] at hK;exact hK
       . cases h
     . cases h
   . cases h
 . rename_i hne;split at h
   . rename_i hk;cases h;exact other hne hk hK
   . cases h
noncomputable def Q1I (own:J0A):List C->Option (List C)
 | []=>some []
 | v::r=>match Q9d own v with
   | some c=>match Q1I own r with
     | some l=>some (c::l)
     | none=>none
   | none=>none
theorem Q1H {own:J0A}:∀{l cs:List C} {K:List V->Prop},Q1I own l=some cs->K (C.vs cs)->Q1L (J0L own) (C.vs l) K
 | [],cs,K,h,hK=>by simp only[Q1I,Option.some.injEq] at h;subst h;simpa[C.vs,Q1L] using hK
 | v::r,cs,K,h,hK=>by
   unfold Q1I at h;split at h
   . rename_i c hc;split at h
     . rename_i l hl;cases h;simp only[C.vs,Q1L];exact J9X hc (Q1H hl (by simpa[C.vs] using hK))
     . cases h
   . cases h
theorem Q4z (s:Nat):∀(n:Nat) (l:List C),J4D s n (C.vs l)=C.vss (J4D s n l)
 | 0,l=>by simp[J4D,C.vss]
 | n+1,l=>by
   simp only[J4D,C.vss];rw[<- Q4z s n,C.vs_map,C.vs_map,C.vs_map];simp
noncomputable def X1V (own:J0A) (v:C):Option C :=
 match v with
 | .vec k s 0 len=>match lk own k with
   | some (.cells cs)=>match Nat.beq (len*s) (ln cs) with
     | true=>match J8W X1T cs with
       | true=>match Q1I own cs with
         | some cs'=>some (.fz len s false [] (J4D s len cs'))
         | none=>none
       | false=>none
     | false=>none
   | _=>Q9d own (.vec k s 0 len)
 | v=>Q9d own v
theorem Q4G {own:J0A} {v c:C} {K:V->Prop} (h:X1V own v=some c) (hK:K c.v):Q9N (J0L own) v.v K:=by
 unfold X1V at h;split at h
 . rename_i k s len;split at h
   . rename_i cs hl;split at h
     . rename_i hlen;split at h
       . rename_i hc;split at h
         . rename_i cs' hcs;cases h;have hlen:=Nat.eq_of_beq_eq_true hlen;rw[X04] at hlen;have hcb:J2O V.cellB (C.vs cs)=true:=by rw[J26 Q4E];exact hc
           have hK':Q1L (J0L own) (C.vs cs) fun cs'=>K (.fz len s false (tab (J4D s len cs'))):=by
            refine Q1H hcs ?_;rw[Q4z,Q3z];simpa[C.v,C.vs] using hK
           by_cases h1:s=1
           . subst h1;simp only[C.v,Q9N,J0x hl,CB.b,hcb];have e:Nat.beq len (C.vs cs).length=true:=by rw[C.vs_length,<- hlen];simp
             simp only[e];exact hK'
           . have e:Nat.beq (len*s) (C.vs cs).length=true:=by rw[C.vs_length,<- hlen];simp
             simp only[C.v];unfold Q9N;split
             . rename_i e1;cases e1;exact(h1 rfl).elim
             . rename_i e1;cases e1;rw[J0x hl];simp only[CB.b,hcb,e];exact hK'
             . rename_i hne2;exact(hne2 _ _ _ rfl).elim
         . cases h
       . cases h
     . cases h
   . rename_i hne;have hb:=J9X h hK;simp only[C.v] at hb ⊢;have nocell:∀cs,look (J0L own) k≠some (.cells cs):=by
      intro cs e;rw[J0L,J2w,<- J73] at e;cases hl:lk own k with
      | none=>rw[hl] at e;cases e
      | some b=>cases b with
        | cells cs'=>exact hne cs' hl
        | vec n s z rows=>rw[hl] at e;cases e
        | map mk es=>rw[hl] at e;cases e
        | mapS es=>rw[hl] at e;cases e
     have nofam:∀n s l f op,look (J0L own) k≠some (.fam n s l f op):=by
      intro n s l f op e;rw[J0L,J2w,<- J73] at e;cases hl:lk own k with
      | none=>rw[hl] at e;cases e
      | some b=>cases b<;>(rw[hl] at e;cases e)
     unfold Q9N;split
     . rename_i e1;cases e1;split
       . rename_i cs hl;exact(nocell cs hl).elim
       . rename_i n s l f op hl;exact(nofam _ _ _ _ _ hl).elim
       . exact hb
     . rename_i e1;cases e1;split
       . rename_i cs hl;exact(nocell cs hl).elim
       . exact hb
     . exact hb
 . rename_i hne;have hb:=J9X h hK;unfold Q9N;split
   . rename_i e1;cases v<;>simp only[C.v,V.vec.injEq,reduceCtorEq] at e1;obtain⟨rfl,rfl,rfl,rfl⟩:=e1;exact(hne _ _ _ rfl).elim
   . rename_i e1;cases v<;>simp only[C.v,V.vec.injEq,reduceCtorEq] at e1;obtain⟨rfl,rfl,rfl,rfl⟩:=e1;exact(hne _ _ _ rfl).elim
   . exact hb
noncomputable def Q9c (own:J0A):List C->Option (List C)
 | []=>some []
 | v::r=>match X1V own v with
   | some c=>match Q9c own r with
     | some l=>some (c::l)
     | none=>none
   | none=>none
theorem Q4F {own:J0A}:∀{l cs:List C} {K:List V->Prop},Q9c own l=some cs->K (C.vs cs)->X5w (J0L own) (C.vs l) K
 | [],cs,K,h,hK=>by simp only[Q9c,Option.some.injEq] at h;subst h;simpa[C.vs,X5w] using hK
 | v::r,cs,K,h,hK=>by
   unfold Q9c at h;split at h
   . rename_i c hc;split at h
     . rename_i l hl;cases h;simp only[C.vs,X5w];exact Q4G hc (Q4F hl (by simpa[C.vs] using hK))
     . cases h
   . cases h
noncomputable def X7X (own:J0A) (v:C):Option C :=
 match v with
 | .agg cs=>match Q9c own cs with
   | some l=>some (.agg l)
   | none=>none
 | .loc _ _=>none
 | v=>X1V own v
theorem Q2W {own:J0A} {v c:C} {K:V->Prop} (h:X7X own v=some c) (hK:K c.v):bor (J0L own) v.v K:=by
 unfold X7X at h;split at h
 . split at h
   . rename_i l hl;cases h;simp only[C.v,bor];exact Q4F hl (by simpa[C.v] using hK)
   . cases h
 . cases h
 . rename_i hne hne2;have hb:=Q4G h hK;cases v<;>first
    | exact(hne _ rfl).elim
    | exact(hne2 _ _ rfl).elim
    | (simp only[C.v] at hb ⊢;simp only[bor];exact hb)
def J5V:List C->List Nat
 | []=>[]
 | v::r=>match v with
   | .vec k _ _ _=>k::J5V r
   | _=>J5V r
theorem J43:∀(l:List C),Q5s (C.vs l)=J5V l
 | []=>rfl
 | v::r=>by
   simp only[C.vs,Q5s,J5V,J43 r];cases v<;>simp[C.v,V.key1]
noncomputable def J6p (own:J0A) (v:C):List Nat :=
 match v with
 | .vec k _ _ _=>match lk own k with
   | some (.cells cs)=>k::J5V cs
   | _=>[k]
 | .agg cs=>J5V cs
 | _=>[]
theorem Q2F (own:J0A) (v:C):J5z (J0L own) v.v=J6p own v:=by
 cases v<;>simp[C.v,J5z,J6p,J43];rename_i k s lo len;rw[J0L,J2w,<- J73];cases hl:lk own k with
 | none=>rfl
 | some b=>cases b<;>simp[CB.b,J43]
noncomputable def Q5A (ks:List Nat):J0A->J0A
 | []=>[]
 | (k,b)::r=>match J06 k ks with|true=>Q5A ks r|false=>(k,b)::Q5A ks r
noncomputable def Q72 (ks:List Nat):J0A->J0A
 | []=>[]
 | (k,b)::r=>match J06 k ks with|true=>(k,b)::Q72 ks r|false=>Q72 ks r
theorem J9K (ks:List Nat):∀(o:J0A),J1Y ks (J0L o)=J0L (Q5A ks o)
 | []=>rfl
 | (k,b)::r=>by
   have ih:=J9K ks r;simp only[J0L,List.map_cons,J1Y,Q5A] at ih ⊢;cases J06 k ks<;>simp[ih]
theorem Q4a (ks:List Nat):∀(o:J0A),J18 ks (J0L o)=J0L (Q72 ks o)
 | []=>rfl
 | (k,b)::r=>by
   have ih:=Q4a ks r;simp only[J0L,List.map_cons,J18,Q72] at ih ⊢;cases J06 k ks<;>simp[ih]
noncomputable def Y2E {β:Type} (o:J0A):(J0A->β)->β:=@List.rec (Nat×CB) (fun _=>(J0A->β)->β) (fun K=>K []) (fun p _ ih K=>ih fun r=>K (p::r)) o
theorem Q2K {β:Type}:∀(o:J0A) (K:J0A->β),Y2E o K=K o
 | [],K=>rfl
 | p::r,K=>Q2K r fun r=>K (p::r)
noncomputable def X8J {β:Type} (own:J0A) (v:C) (K:C->J0A->Option β):Option β :=
 match X7X (Q72 (J6p own v) own) v with
 | some v'=>Y2E (Q5A (J6p own v) own) fun own'=>K v' own'
 | none=>none
theorem Q89 {β:Type} {own:J0A} {v:C} {K:C->J0A->Option β} {out:β} (h:X8J own v K=some out) :
 ∃v' o',K v' o'=some out/\∀Kp:V->Own->Prop,Kp v'.v (J0L o')->X2Z (J0L own) v.v Kp:=by
 unfold X8J at h;split at h
 . rename_i v' hv;rw[Q2K] at h;refine⟨v',_,h,fun Kp hK=>?_⟩;unfold X2Z;rw[Q2F,Q4a,J9K];exact Q2W hv hK
 . cases h
theorem Q8r {z:List C} {rows:List (List C)} {i j:Nat} {row vs:List C} (h:rows[i]?=some row) (hj:j+vs.length<=row.length) :
 J0M (J4r (C.vs z) (C.vss rows)) i j (C.vs vs)=J4r (C.vs z) (C.vss (rows.take i++[row.take j++vs++row.drop (j+vs.length)]++rows.drop (i+1))):=by
 have hi:=(List.getElem?_eq_some_iff.1 h).1;funext i' j';have hrow:∀q,(rows.take i++[q]++rows.drop (i+1))[i']?=if i'=i then some q else rows[i']?:=by
  intro q;have:=J0P rows [q] i (by simp only[List.length_singleton];omega) i';simp only[List.length_singleton] at this;rw[this];by_cases h1:i'<i
  . rw[if_pos h1,if_neg (by omega)]
  . rw[if_neg h1];by_cases h2:i'=i
    . subst h2;simp
    . rw[if_neg (by omega),if_neg h2]
 simp only[J0M,J4r,List.getD_eq_getElem?_getD,C.vss_get,hrow,C.vs_length];by_cases e:i'=i
 . subst e;simp only[if_true,h,Option.map_some,Option.getD_some,true_and,C.vs_get];rw[J0P row vs j hj j'];by_cases h1:j'<j
   . rw[if_neg (by omega),if_pos h1]
   . rw[if_neg h1];by_cases h2:j'<j+vs.length
     . rw[if_pos ⟨by omega,h2⟩,if_pos h2];have:j'-j<vs.length:=by omega
       simp[this]
     . rw[if_neg (by omega),if_neg h2]
 . simp only[e,false_and,if_false]
noncomputable def J9N {β:Type} (own:J0A) (sz k off:Nat) (v:C) (K:J0A->Option β):Option β :=
 match lk own k with
 | some (.cells cs)=>match J7H sz v with
   | some vs=>stC cs off vs fun cs'=>upC k (.cells cs') own K
   | none=>none
 | _=>none
theorem J8L {β:Type} {own:J0A} {sz k off:Nat} {v:C} {K:J0A->Option β} {out:β} (h:J9N own sz k off v K=some out) :
 ∃o',K o'=some out/\∀Kp:Own->Prop,Kp (J0L o')->J5k (J0L own) sz k off v.v Kp:=by
 unfold J9N at h;split at h
 . rename_i cs hl;split at h
   . rename_i vs hv;obtain⟨a1,a2,a3,a4⟩:=J3X hv;obtain⟨cs',b1,b2,b3,b4,b5⟩:=J5P _ _ _ _ _ h;obtain⟨o',c1,c2⟩:=J6F b1;refine⟨o',c1,fun Kp hK=>?_⟩;unfold J5k;rw[J0x hl];simp only[CB.b];refine J3m a1 ?_;simp only[a3,a4];rw[C.vs_map,C.vs_map];refine b5 C.v _ ?_;have:=c2 Kp hK;simpa[CB.b,C.vs_map] using this
   . cases h
 . cases h
noncomputable def J8M {β:Type} (own:J0A) (sz:Nat) (p v:C) (K:J0A->Option β):Option β :=
 match p with
 | .loc k off=>J9N own sz k off v K
 | .oel k s i j=>match lk own k with
   | some (.vec n s' z rows)=>match J7H sz v with
     | some vs=>match J8W Q9M vs with
       | true=>match Nat.beq s s' with
         | true=>match Nat.ble (j+sz) s with
           | true=>match Nat.blt i n with
             | true=>match Nat.ble 1 sz with
               | true=>match nt rows i with
                 | some row=>stC row j vs fun row'=>stC rows i [row'] fun rows'=>upC k (.vec n s z rows') own K
                 | none=>none
               | false=>none
             | false=>none
           | false=>none
         | false=>none
       | false=>none
     | none=>none
   | some (.cells _)=>J9N own sz k (i*s+j) v K
   | _=>none
 | _=>none
theorem J5d {β:Type} {own:J0A} {sz:Nat} {p v:C} {K:J0A->Option β} {out:β} (h:J8M own sz p v K=some out) :
 ∃o',K o'=some out/\∀Kp:Own->Prop,Kp (J0L o')->J28 (J0L own) sz p.v v.v Kp:=by
 unfold J8M at h;split at h
 . simp only[C.v,J28];exact J8L h
 . rename_i k s i j;split at h
   . rename_i n s' z rows hl;split at h
     . rename_i vs hv;obtain⟨a1,a2,a3,a4⟩:=J3X hv;split at h
       . rename_i hkf;split at h
         . rename_i hs;split at h
           . rename_i hj;split at h
             . rename_i hi;split at h
               case h_2=>cases h
               rename_i h0;split at h
               . rename_i row hr;obtain⟨row',b1,b2,b3,b4,b5⟩:=J5P _ _ _ _ _ h;obtain⟨rows',d1,d2,d3,d4,d5⟩:=J5P _ _ _ _ _ b1;obtain⟨o',c1,c2⟩:=J6F d1;refine⟨o',c1,fun Kp hK=>?_⟩;have e:=Nat.eq_of_beq_eq_true hs;subst e;simp only[C.v,J28];rw[J0x hl];simp only[CB.b];refine J3m a1 ?_;have hkf':J2O V.kf1 (C.vs vs)=true:=by rw[J26 J9B];exact hkf
                 simp only[a3,a4,hkf',hs,hj];refine⟨Nat.le_of_ble_eq_true hi,?_⟩;have:=c2 Kp hK;rw[X0P,J5s] at hr;have hfit:j+vs.length<=row.length:=b3 (by
                  intro e;rw[e] at a2;have:=Nat.le_of_ble_eq_true h0;simp at a2;omega)
                 rw[Q8r hr hfit];simp only[CB.b,d4,b4,List.length_singleton] at this;exact this
               . cases h
             . cases h
           . cases h
         . cases h
       . cases h
     . cases h
   . rename_i cs hl;simp only[C.v,J28];rw[J0x hl];simp only[CB.b];exact J8L h
   . cases h
 . cases h
noncomputable def Q7Z:C->Bool
 | .vec _ _ _ _=>true
 | .agg cs=>match J5V cs with|[]=>false|_::_=>true
 | _=>false
theorem Q1a (v:C):v.v.keyed=Q7Z v:=by
 cases v<;>simp only[C.v,V.keyed,Q7Z,J43];rename_i cs;cases J5V cs<;>rfl
noncomputable def Q2M {β:Type} (own:J0A) (sz:Nat) (p v:C) (K:J0A->Option β):Option β :=
 match p with
 | .oel k s i j=>match lk own k with
   | some (.vec _ _ _ _)=>match Q7Z v with
     | true=>X8J own v fun v' own'=>J8M own' sz (.oel k s i j) v' K
     | false=>J8M own sz (.oel k s i j) v K
   | _=>J8M own sz (.oel k s i j) v K
 | p=>J8M own sz p v K
theorem Q5B {β:Type} {own:J0A} {sz:Nat} {p v:C} {K:J0A->Option β} {out:β} (h:Q2M own sz p v K=some out) :
 ∃o',K o'=some out/\∀Kp:Own->Prop,Kp (J0L o')->J3I (J0L own) sz p.v v.v Kp:=by
 unfold Q2M at h;split at h
 . rename_i k s i j;split at h
   . rename_i n s' z rows hl;split at h
     . rename_i hk;obtain⟨v',o1,a1,a2⟩:=Q89 h;obtain⟨o',b1,b2⟩:=J5d a1;refine⟨o',b1,fun Kp hK=>?_⟩;simp only[C.v,J3I];rw[J0x hl,Q1a,hk];simp only[CB.b];refine a2 _ ?_;have:=b2 Kp hK;simpa only[C.v] using this
     . rename_i hk;obtain⟨o',b1,b2⟩:=J5d h;refine⟨o',b1,fun Kp hK=>?_⟩;simp only[C.v,J3I];rw[J0x hl,Q1a,hk];simp only[CB.b];have:=b2 Kp hK;simpa only[C.v] using this
   . rename_i hne;obtain⟨o',b1,b2⟩:=J5d h;refine⟨o',b1,fun Kp hK=>?_⟩;have:=b2 Kp hK;simp only[C.v] at this;simp only[C.v,J3I];split
     . rename_i n s' f hl;exfalso;rw[J0L,J2w,<- J73] at hl;cases hq:lk own k with
       | none=>rw[hq] at hl;cases hl
       | some b=>cases b with
         | vec n s z rows=>exact hne _ _ _ _ hq
         | _=>rw[hq] at hl;cases hl
     . exact this
 . rename_i hne;obtain⟨o',b1,b2⟩:=J5d h;refine⟨o',b1,fun Kp hK=>?_⟩;have:=b2 Kp hK;cases p<;>first
    | exact(hne _ _ _ _ rfl).elim
    | (simp only[C.v] at this ⊢;simp only[J3I];exact this)
noncomputable def X8G (own:J0A) (s:Nat) (y:C):Option (Nat×List C×List (List C)) :=
 match y with
 | .fz m s' _ z rows=>match Nat.beq s s' with|true=>some (m,z,rows)|false=>none
 | .vec k s' lo len=>match lk own k with
   | some (.vec n s'' z rows)=>match Nat.beq s s' with
     | true=>match Nat.beq s s'' with
       | true=>match Nat.ble (lo+len) n with
         | true=>fH (dr rows lo) fun q=>some (len,z,q)
         | false=>none
       | false=>none
     | false=>none
   | _=>none
 | _=>none
theorem Q8P {own:J0A} {s:Nat} {y:C} {m:Nat} {z:List C} {rows:List (List C)} {K:Nat->(Nat->Nat->V)->Prop} (h:X8G own s y=some (m,z,rows)) (hK:K m (J4r (C.vs z) (C.vss rows))):Q9X (J0L own) s y.v K:=by
 unfold X8G at h;split at h
 . split at h
   . rename_i hs;cases h;simp only[C.v,Q9X,hs];exact hK
   . cases h
 . rename_i k s' lo len;simp only[C.v,Q9X];split at h
   . rename_i n s'' z' rows' hl;rw[J0x hl];simp only[CB.b];split at h
     . rename_i h1;split at h
       . rename_i h2;split at h
         . rename_i h3;rw[X1r] at h;cases h;simp only[h1,h2];refine⟨Nat.le_of_ble_eq_true h3,?_⟩;rw[J2Q];rw[J9L] at hK;exact hK
         . cases h
       . cases h
     . cases h
   . cases h
 . cases h
def J4j:List C->Option C
 | []=>some (.bool false)
 | [v]=>some v
 | _::r=>J4j r
theorem J9z:∀(z:List C),(J4j z).map C.v=some (J3G (C.vs z))
 | []=>by simp[J4j,J3G,C.vs,C.v];rfl
 | [v]=>by simp[J4j,J3G,C.vs]
 | _::b::r=>by simpa[J4j,J3G,C.vs] using J9z (b::r)
def X0A (z z':List C):Bool:=match J4j z with
 | some (.int k a)=>match J4j z' with
   | some (.int k' b)=>match kEq k k' with|true=>ieq a b|false=>false
   | _=>false
 | some (.bool a)=>match J4j z' with
   | some (.bool b)=>a == b
   | _=>false
 | some .nilslice=>match J4j z' with
   | some .nilslice=>true
   | _=>false
 | _=>false
theorem Q3G {z z':List C} (h:X0A z z'=true):J3G (C.vs z)=J3G (C.vs z'):=by
 have h1:=J9z z;have h2:=J9z z';have key:J4j z=J4j z':=by
  unfold X0A at h;split at h
  . rename_i e1;split at h
    . rename_i e2;split at h
      . rename_i e3;rw[J47,beq_iff_eq] at h;rw[e1,e2,J5W e3,h]
      . cases h
    . cases h
  . rename_i e1;split at h
    . rename_i e2;rw[beq_iff_eq] at h;rw[e1,e2,h]
    . cases h
  . rename_i e1;split at h
    . rename_i e2;rw[e1,e2]
    . cases h
  . cases h
 rw[key,h2] at h1;exact(Option.some.inj h1).symm
theorem Q8y {z z':List C} {rows rows':List (List C)} {lo len:Nat} (h:lo+len<=rows.length) (hz:J3G (C.vs z)=J3G (C.vs z')) :
 J5i (J0j lo (J4r (C.vs z) (C.vss rows))) len (J4r (C.vs z') (C.vss rows'))=J4r (C.vs z') (C.vss ((rows.drop lo).take len++rows')):=by
 funext i j;have hlen:((rows.drop lo).take len).length=len:=by simp;omega
 by_cases hi:i<len
 . rw[J2a hi,J0w];simp only[J4r,List.getD_eq_getElem?_getD,C.vss_get];rw[List.getElem?_append_left (by omega),List.getElem?_take,if_pos hi,List.getElem?_drop];have:lo+i<rows.length:=by omega
   simp[this,hz]
 . rw[J2b hi];simp only[J4r,List.getD_eq_getElem?_getD,C.vss_get];rw[List.getElem?_append_right (by omega),hlen]
theorem Q1o {z z':List C} {rows rows':List (List C)} {p m:Nat} (h:p+m<=rows.length) (h':m<=rows'.length) (hz:J3G (C.vs z)=J3G (C.vs z')) :
 Q5y (J4r (C.vs z) (C.vss rows)) p m (J4r (C.vs z') (C.vss rows'))=J4r (C.vs z) (C.vss (rows.take p++rows'.take m++rows.drop (p+m))):=by
 funext i j;have hl:(rows'.take m).length=m:=by simp;omega
 have hs:=J0P rows (rows'.take m) p (by omega) i;rw[hl] at hs;simp only[Q5y,J4r,List.getD_eq_getElem?_getD,C.vss_get,hs];by_cases h1:i<p
 . rw[if_neg (by omega),if_pos h1]
 . by_cases h2:i<p+m
   . rw[if_pos ⟨by omega,h2⟩,if_neg h1,if_pos h2,List.getElem?_take,if_pos (by omega)];have:i-p<rows'.length:=by omega
     simp[this,hz]
   . rw[if_neg (by omega),if_neg h1,if_neg h2]
noncomputable def apK {α β:Type} (n:Nat):List α->List α->(List α->Option β)->Option β :=
 @Nat.rec (fun _=>List α->List α->(List α->Option β)->Option β) (fun _ l K=>K l) (fun _ ih q l K=>@List.rec α (fun _=>Option β) none (fun x r _=>ih r l fun o=>K (x::o)) q) n
theorem X3p {α β:Type} (n:Nat) (q l:List α) (K:List α->Option β):apK n q l K=if n<=q.length then K (q.take n++l) else none:=by
 induction n generalizing q K with
 | zero=>simp only[Nat.zero_le,if_true,List.take_zero,List.nil_append];rfl
 | succ n ih=>cases q with
   | nil=>rfl
   | cons x r =>
     show apK n r l (fun o=>K (x::o))=_;rw[ih];simp
structure R where
 v:C
 o:J0A
 k:Nat
def KB:Nat:=1000000
def ksV (k:Nat):List Nat:=List.range' k (KB-k)
theorem X1a {k:Nat} (h:k<KB):ksV k=k::ksV (k+1):=by
 unfold ksV;rw[show KB-k=(KB-(k+1))+1 by omega,List.range'_succ]
noncomputable def frC {β:Type} (k:Nat) (K:Nat->Nat->Option β):Option β:=match Nat.blt k KB with
 | true=>fN (Nat.succ k) fun k'=>K k k'
 | false=>none
theorem J3S {β:Type} {k:Nat} {K:Nat->Nat->Option β} {out:β} (h:frC k K=some out):K k (k+1)=some out/\∀Kp:Nat->List Nat->Prop,Kp k (ksV (k+1))->fresh (ksV k) Kp:=by
 unfold frC at h;split at h
 . rename_i hb;rw[J4k] at h;refine⟨h,fun Kp hK=>?_⟩;rw[X1a (Nat.le_of_ble_eq_true hb)];exact hK
 . cases h
noncomputable def X74 (n bytes:Nat) {β:Type} (K:Option β):Option β:=match Nat.ble (n*bytes) 140737488355328 with
 | true=>match Nat.ble n 9223372036854775807 with|true=>K|false=>none
 | false=>none
theorem Q24 {n bytes:Nat} {β:Type} {K:Option β} {out:β} (h:X74 n bytes K=some out):n*bytes<=140737488355328/\n<=9223372036854775807/\K=some out:=by
 unfold X74 at h;split at h
 . rename_i h1;split at h
   . rename_i h2;exact⟨Nat.le_of_ble_eq_true h1,Nat.le_of_ble_eq_true h2,h⟩
   . cases h
 . cases h
noncomputable def X1X (own:J0A) (ks s bytes k lo len m:Nat) (rows:List (List C)) (z':List C) (rows':List (List C)):Option R :=
 X74 (len+m) bytes (frC ks fun k' ks=>deC k own fun own'=>apK len (dr rows lo) rows' fun q=>fN (len+m) fun n=>some ⟨.vec k' s 0 n,(k',.vec n s z' q)::own',ks⟩)
noncomputable def X7Y (own:J0A) (ks s bytes:Nat) (x y:C):Option R :=
 match X8G own s y with
 | some (m,z',rows')=>match x with
   | .nilslice=>X74 m bytes (frC ks fun k' ks=>some ⟨.vec k' s 0 m,(k',.vec m s z' rows')::own,ks⟩)
   | .fz 0 _ true _ _=>X74 m bytes (frC ks fun k' ks=>some ⟨.vec k' s 0 m,(k',.vec m s z' rows')::own,ks⟩)
   | .vec k s' lo len=>match lk own k with
     | some (.vec n s'' z rows)=>match Nat.beq s s' with
       | true=>match Nat.beq s s'' with
         | true=>match Nat.ble (lo+len) n with
           | true=>match X0A z z' with
            | false=>none
            | true=>match Nat.beq (lo+len) n with
             | true=>X1X own ks s bytes k lo len m rows z' rows'
             | false=>match Nat.ble (lo+len+m) n with
               | true=>match Nat.ble 1 m with
                 | true=>tk m rows' fun q=>stC rows (lo+len) q fun Q0H=>upC k (.vec n s z Q0H) own fun own'=>fN (len+m) fun n'=>some ⟨.vec k s lo n',own',ks⟩
                 | false=>none
               | false=>X1X own ks s bytes k lo len m rows z' rows'
           | false=>none
         | false=>none
       | false=>none
     | _=>none
   | _=>none
 | none=>none
theorem Q4H {own:J0A} {ks s bytes k lo len n m:Nat} {z:List C} {rows:List (List C)} {z':List C} {rows':List (List C)} {r:R} {K:V->Own->List Nat->Prop} (hle:lo+len<=n) (hz:J3G (C.vs z)=J3G (C.vs z'))
 (h:X1X own ks s bytes k lo len m rows z' rows'=some r) (hK:K r.v.v (J0L r.o) (ksV r.k)) :
 Q6e (J0L own) (ksV ks) s bytes k lo len n m (J4r (C.vs z) (C.vss rows)) (J4r (C.vs z') (C.vss rows')) K:=by
 unfold X1X at h;obtain⟨a1,a2,h⟩:=Q24 h;obtain⟨h,b1⟩:=J3S h;obtain⟨o',h,c1⟩:=Q8N h;rw[X3p] at h;split at h
 . rename_i hl;rw[J4k] at h;cases h;rw[J9L,List.length_drop] at hl;unfold Q6e;refine⟨hle,a1,a2,b1 _ (c1 _ ?_)⟩;by_cases h0:len=0
   . subst h0;simp only[J5i];simpa[C.v,J0L,CB.b,J9L] using hK
   . rw[Q8y (by omega) hz];simpa[C.v,J0L,CB.b,J9L] using hK
 . cases h
theorem Q2X {own:J0A} {ks s bytes:Nat} {x y:C} {r:R} {K:V->Own->List Nat->Prop} (h:X7Y own ks s bytes x y=some r) (hK:K r.v.v (J0L r.o) (ksV r.k)):X2p (J0L own) (ksV ks) s bytes x.v y.v K:=by
 unfold X7Y at h;split at h
 . rename_i m z' rows' hsrc;refine Q8P hsrc ?_;split at h
   . obtain⟨a1,a2,h⟩:=Q24 h;obtain⟨h,b1⟩:=J3S h;cases h;simp only[C.v];exact⟨a1,a2,b1 _ (by simpa[C.v,J0L,CB.b] using hK)⟩
   . obtain⟨a1,a2,h⟩:=Q24 h;obtain⟨h,b1⟩:=J3S h;cases h;simp only[C.v];exact⟨a1,a2,b1 _ (by simpa[C.v,J0L,CB.b] using hK)⟩
   . rename_i k s' lo len;simp only[C.v];split at h
     . rename_i n s'' z rows hl;rw[J0x hl];simp only[CB.b];split at h
       . rename_i h1;split at h
         . rename_i h2;simp only[h1,h2];split at h
           . rename_i h3;have h3:=Nat.le_of_ble_eq_true h3;split at h
             . cases h
             rename_i hz;have hz:=Q3G hz;split at h
             . rename_i h4;exact⟨fun _=>Q4H h3 hz h hK,fun e=>by rw[h4] at e;cases e⟩
             . rename_i h4;refine⟨fun e=>(by rw[h4] at e;cases e),fun _=>?_⟩;split at h
               . rename_i h5;refine⟨fun _=>?_,fun e=>(by rw[h5] at e;cases e)⟩;split at h
                 . rename_i h6;have h6:=Nat.le_of_ble_eq_true h6;have e1:=Nat.eq_of_beq_eq_true h1;subst e1;rw[X0l] at h;split at h
                   . rename_i h7;obtain⟨Q0H,g1,g2,g3,g4,g5⟩:=J5P _ _ _ _ _ h;obtain⟨o',c1,c2⟩:=J6F g1;rw[J4k] at c1;cases c1;have hl:(rows'.take m).length=m:=by simp;omega
                     have g3:=g3 (fun e=>by rw[e] at hl;simp at hl;omega);rw[hl] at g3 g4;rw[Q1o g3 h7 hz];have:=c2 (fun own'=>K (.vec k s lo (len+m)) own' (ksV ks)) (by simpa[C.v] using hK);simp only[CB.b,g4] at this;exact this
                   . cases h
                 . cases h
               . rename_i h5;exact⟨fun e=>(by rw[h5] at e;cases e),fun _=>Q4H h3 hz h hK⟩
           . cases h
         . cases h
       . cases h
     . cases h
   . cases h
 . cases h
noncomputable def X5p (own:J0A) (ks s bytes:Nat) (x y:C):Option R :=
 match y with
 | .vec k s' lo len=>match lk own k with
   | some (.cells _)=>X8J own (.vec k s' lo len) fun y' own'=>X7Y own' ks s bytes x y'
   | _=>X7Y own ks s bytes x (.vec k s' lo len)
 | y=>X7Y own ks s bytes x y
theorem X1Y {own:J0A} {ks s bytes:Nat} {x y:C} {r:R} {K:V->Own->List Nat->Prop} (h:X5p own ks s bytes x y=some r) (hK:K r.v.v (J0L r.o) (ksV r.k)):Q2b (J0L own) (ksV ks) s bytes x.v y.v K:=by
 unfold X5p at h;split at h
 . rename_i k s' lo len;split at h
   . rename_i cs hl;obtain⟨v',o1,a1,a2⟩:=Q89 h;simp only[C.v,Q2b];rw[J0x hl];simp only[CB.b];have:=a2 (fun y' own'=>X2p own' (ksV ks) s bytes x.v y' K) (Q2X a1 hK);simpa only[C.v] using this
   . rename_i hne;have:=Q2X h hK;simp only[C.v] at this;simp only[C.v,Q2b];split
     . rename_i cs hl;exfalso;rw[J0L,J2w,<- J73] at hl;cases hq:lk own k with
       | none=>rw[hq] at hl;cases hl
       | some b=>cases b with
         | cells cs=>exact hne _ hq
         | _=>rw[hq] at hl;cases hl
     . exact this
 . rename_i hne;have:=Q2X h hK;cases y<;>first
    | exact(hne _ _ _ _ rfl).elim
    | (simp only[C.v] at this ⊢;simp only[Q2b];exact this)
end Go.Eng
namespace Go.Eng
noncomputable def mkR (c:Option C) (own:J0A) (ks:Nat):Option R:=match c with
 | some v=>some ⟨v,own,ks⟩
 | none=>none
theorem Q00 {c:Option C} {own:J0A} {ks:Nat} {r:R} (h:mkR c own ks=some r):c=some r.v/\r.o=own/\r.k=ks:=by
 unfold mkR at h;split at h
 . cases h;exact⟨rfl,rfl,rfl⟩
 . cases h
noncomputable def Q9b (env:J1e):List (Nat×Nat×X)->List C->Option (List C)
 | [],zs=>some zs
 | (off,size,x)::r,zs=>match gx x env with
   | some v=>match J7H size v with
     | some vs=>match Nat.ble (off+size) (ln zs) with
       | true=>stC zs off vs fun zs'=>Q9b env r zs'
       | false=>none
     | none=>none
   | none=>none
theorem Q4B {env:J1e}:∀{ps:List (Nat×Nat×X)} {zs out:List C} {K:List V->Prop},Q9b env ps zs=some out->K (C.vs out)->Q2G (J25 env) ps (C.vs zs) K
 | [],zs,out,K,h,hK=>by simp only[Q9b,Option.some.injEq] at h;subst h;simpa[Q2G] using hK
 | (off,size,x)::r,zs,out,K,h,hK=>by
   simp only[Q9b] at h;split at h
   . rename_i v hv;split at h
     . rename_i vs hvs;split at h
       . rename_i hle;obtain⟨a1,a2,a3,a4⟩:=J3X hvs;obtain⟨zs',b1,b2,b3,b4,b5⟩:=J5P _ _ _ _ _ h;simp only[Q2G];refine J0B hv (J3m a1 ?_);rw[X04] at hle;have hle':Nat.ble (off+size) (C.vs zs).length=true:=by rw[C.vs_length];exact hle
         simp only[a3,a4,hle'];rw[C.vs_map,C.vs_map];refine b5 C.v _ ?_;have:=Q4B b1 hK
         rwa[C.vs_map] at this
       . cases h
     . cases h
   . cases h
noncomputable def Q8S (s:Nat):List C->Option (List (List C))
 | []=>some []
 | v::r=>match J7H s v with
   | some vs=>match J8W Q9M vs with
     | true=>match Q8S s r with
       | some l=>some (vs::l)
       | none=>none
     | false=>none
   | none=>none
theorem Q4v {s:Nat}:∀{l:List C} {rs:List (List C)} {K:List (List V)->Prop},Q8S s l=some rs->K (C.vss rs)->Q5b s (C.vs l) K
 | [],rs,K,h,hK=>by simp only[Q8S,Option.some.injEq] at h;subst h;simpa[Q5b,C.vs,C.vss] using hK
 | v::r,rs,K,h,hK=>by
   simp only[Q8S] at h;split at h
   . rename_i vs hvs;split at h
     . rename_i hkf;split at h
       . rename_i l hl;cases h;obtain⟨a1,a2,a3,a4⟩:=J3X hvs;simp only[C.vs,Q5b];refine J3m a1 ?_;have hkf':J2O V.kf1 (C.vs vs)=true:=by rw[J26 J9B];exact hkf
         simp only[a3,a4,hkf'];exact Q4v hl (by simpa[C.vss] using hK)
       . cases h
     . cases h
   . cases h
noncomputable def Q9a (s:Nat):List C->Option (List C)
 | []=>some []
 | v::r=>match J7H s v with
   | some vs=>match Q9a s r with
     | some l=>apK s vs l some
     | none=>none
   | none=>none
theorem Q4A {s:Nat}:∀{l rs:List C} {K:List V->Prop},Q9a s l=some rs->K (C.vs rs)->Q5z s (C.vs l) K
 | [],rs,K,h,hK=>by simp only[Q9a,Option.some.injEq] at h;subst h;simpa[Q5z,C.vs] using hK
 | v::r,rs,K,h,hK=>by
   simp only[Q9a] at h;split at h
   . rename_i vs hvs;split at h
     . rename_i l hl;obtain⟨a1,a2,a3,a4⟩:=J3X hvs;rw[X3p,if_pos (by omega),<- a2,List.take_length] at h;cases h;simp only[C.vs,Q5z];refine J3m a1 ?_;simp only[a3,a4];refine Q4A hl ?_;simpa[C.vs_map] using hK
     . cases h
   . cases h
noncomputable def X5U {α:Type} (n:Nat) (x:α):List α:=@Nat.rec (fun _=>List α) [] (fun _ ih=>x::ih) n
theorem J9m {α:Type} (n:Nat) (x:α):X5U n x=List.replicate n x:=by
 induction n with
 | zero=>rfl
 | succ n ih=>show x::X5U n x=_;rw[ih];rfl
noncomputable def fL {α β:Type} (l:List α):(List α->β)->β:=@List.rec α (fun _=>(List α->β)->β) (fun K=>K []) (fun x _ ih K=>ih fun r=>K (x::r)) l
theorem J5b {α β:Type}:∀(l:List α) (K:List α->β),fL l K=K l
 | [],_=>rfl
 | x::r,K=>J5b r fun r=>K (x::r)
noncomputable def mfI (es:List (Int×C)) (a:Int):Option C:=@List.rec (Int×C) (fun _=>Option C) none (fun p _ ih=>match ieq p.1 a with|true=>some p.2|false=>ih) es
theorem X2R {ik:IntKind}:∀(es:List (Int×C)) (a:Int),J1N (α:=KyT (.one ik)) (es.map fun p=>(p.1,p.2.v)) a=(mfI es a).map C.v
 | [],a=>rfl
 | (q,c)::r,a=>by
   have ih:=X2R (ik:=ik) r a;have e:mfI ((q,c)::r) a=match ieq q a with|true=>some c|false=>mfI r a:=rfl
   rw[e];simp only[List.map_cons,J1N,ih];have:=J47 q a;by_cases h:q=a
   . rw[if_pos h];subst h;simp[this]
   . rw[if_neg h];have:ieq q a=false:=by rw[this];simpa using h
     rw[this]
noncomputable def mpI (es:List (Int×C)) (a:Int) (v:C):List (Int×C):=@List.rec (Int×C) (fun _=>List (Int×C)) [(a,v)] (fun p r ih=>match ieq p.1 a with|true=>(p.1,v)::r|false=>p::ih) es
theorem X2O {ik:IntKind}:∀(es:List (Int×C)) (a:Int) (v:C),mput (α:=KyT (.one ik)) (es.map fun p=>(p.1,p.2.v)) a v.v=(mpI es a v).map fun p=>(p.1,p.2.v)
 | [],a,v=>rfl
 | (q,c)::r,a,v=>by
   have ih:=X2O (ik:=ik) r a v;have e:mpI ((q,c)::r) a v=match ieq q a with|true=>(q,v)::r|false=>(q,c)::mpI r a v:=rfl
   rw[e];simp only[List.map_cons,mput,ih];have:=J47 q a;by_cases h:q=a
   . rw[if_pos h];subst h;simp[this]
   . rw[if_neg h];have:ieq q a=false:=by rw[this];simpa using h
     rw[this];simp
noncomputable def mfS (es:List ((Nat×Nat)×C)) (l d:Nat):Option C:=@List.rec ((Nat×Nat)×C) (fun _=>Option C) none (fun p _ ih=>match eqS p.1.1 p.1.2 l d with|true=>some p.2|false=>ih) es
theorem J9I {l c l' c':Nat}:eqS l c l' c'=true↔J0r l c=J0r l' c':=by rw[Q4q];exact Go.MapKept.bytes_beq _ _
theorem X2Q:∀(es:List ((Nat×Nat)×C)) (l d:Nat),J1N (α:=KyT .str) (es.map fun p=>(J0r p.1.1 p.1.2,p.2.v)) (J0r l d)=(mfS es l d).map C.v
 | [],l,d=>rfl
 | ((q1,q2),c)::r,l,d=>by
   have ih:=X2Q r l d;have e:mfS (((q1,q2),c)::r) l d=match eqS q1 q2 l d with|true=>some c|false=>mfS r l d:=rfl
   rw[e];simp only[List.map_cons,J1N,ih];by_cases h:J0r q1 q2=J0r l d
   . rw[if_pos h,J9I.2 h];rfl
   . rw[if_neg h];have:eqS q1 q2 l d=false:=by rw[<- Bool.not_eq_true];exact fun e=>h (J9I.1 e)
     rw[this]
noncomputable def mpS (es:List ((Nat×Nat)×C)) (l d:Nat) (v:C):List ((Nat×Nat)×C):=@List.rec ((Nat×Nat)×C) (fun _=>List ((Nat×Nat)×C)) [((l,d),v)] (fun p r ih=>match eqS p.1.1 p.1.2 l d with|true=>(p.1,v)::r|false=>p::ih) es
theorem X2N:∀(es:List ((Nat×Nat)×C)) (l d:Nat) (v:C),mput (α:=KyT .str) (es.map fun p=>(J0r p.1.1 p.1.2,p.2.v)) (J0r l d) v.v=(mpS es l d v).map fun p=>(J0r p.1.1 p.1.2,p.2.v)
 | [],l,d,v=>rfl
 | ((q1,q2),c)::r,l,d,v=>by
   have ih:=X2N r l d v;have e:mpS (((q1,q2),c)::r) l d v=match eqS q1 q2 l d with|true=>((q1,q2),v)::r|false=>((q1,q2),c)::mpS r l d v:=rfl
   rw[e];simp only[List.map_cons,mput,ih];by_cases h:J0r q1 q2=J0r l d
   . rw[if_pos h,J9I.2 h];rfl
   . rw[if_neg h];have:eqS q1 q2 l d=false:=by rw[<- Bool.not_eq_true];exact fun e=>h (J9I.1 e)
     rw[this];rfl
noncomputable def X7u (z:V) (comma:Bool) (own:J0A) (ks:Nat) (o:Option C):Option R :=
 match o with
 | some v=>match comma with|true=>some ⟨.tup [v,.bool true],own,ks⟩|false=>some ⟨v,own,ks⟩
 | none=>match ofV z with
   | some c=>match comma with|true=>some ⟨.tup [c,.bool false],own,ks⟩|false=>some ⟨c,own,ks⟩
   | none=>none
def X8y (comma:Bool) (b:Bool) (K:V->Prop) (v:V):Prop:=match comma with|true=>K (.tup [v,.bool b])|false=>K v
theorem Q8j {z:V} {comma:Bool} {own:J0A} {ks:Nat} {o:Option C} {r:R} {K:V->Own->List Nat->Prop} (h:X7u z comma own ks o=some r) (hK:K r.v.v (J0L r.o) (ksV r.k)) {o':Option V} (ho:o'=o.map C.v) :
 X8M o' (X8y comma true fun v=>K v (J0L own) (ksV ks)) (X8y comma false (fun v=>K v (J0L own) (ksV ks)) z):=by
 subst ho;cases o with
 | some v =>
   refine⟨fun v' hv=>?_,fun e=>(by cases e)⟩;cases hv;cases comma<;>(simp only[X7u,Option.some.injEq] at h;subst h;simpa[C.v,C.vs,X8y] using hK)
 | none =>
   refine⟨fun v' hv=>(by cases hv),fun _=>?_⟩;simp only[X7u] at h;split at h
   . rename_i c hc;have:=X2H z hc;subst this;cases comma<;>(simp only[Option.some.injEq] at h;subst h;simpa[C.v,C.vs,X8y] using hK)
   . cases h
noncomputable def X25 (o:XOp) (env:J1e) (own:J0A) (ks:Nat):Option R :=
 match o with
 | .mks s bytes zs x=>match gx x env with
   | some (.int _ (.ofNat m))=>match Nat.ble m 4611686018427387904 with
     | true=>match Nat.ble (m*bytes) 140737488355328 with
       | true=>match X5W zs with
         | some zc=>frC ks fun k ks=>match s with
           | 1=>match zc with
             | [.nilslice]=>fL (X5U m C.nilslice) fun l=>some ⟨.vec k 1 0 m,(k,.cells l)::own,ks⟩
             | zc=>fL (X5U m zc) fun l=>fL (List.append zc [.bool false]) fun z=>some ⟨.vec k 1 0 m,(k,.vec m 1 z l)::own,ks⟩
           | s=>fL (X5U m zc) fun l=>fL (List.append zc [.bool false]) fun z=>some ⟨.vec k s 0 m,(k,.vec m s z l)::own,ks⟩
         | none=>none
       | false=>none
     | false=>none
   | _=>none
 | .mkmap ik=>match ik with
   | .one ik=>frC ks fun k ks=>some ⟨.map k,(k,.map ik [])::own,ks⟩
   | .str=>frC ks fun k ks=>some ⟨.map k,(k,.mapS [])::own,ks⟩
   | .pair _=>none
   | .st _=>none
 | .mget ik z comma m x=>match gx m env with
   | some (.map k)=>match gx x env with
     | some x=>match lk own k with
       | some (.map ik' es)=>match ik with
         | .one i=>match kEq ik' i with
           | true=>match x with
             | .int i' a=>match kEq i' ik' with
               | true=>X7u z comma own ks (mfI es a)
               | false=>none
             | _=>none
           | false=>none
         | _=>none
       | some (.mapS es)=>match ik with
         | .str=>match x with
           | .str l d=>X7u z comma own ks (mfS es l d)
           | _=>none
         | _=>none
       | _=>none
     | none=>none
   | _=>none
 | .mput ik m x y=>match gx m env with
   | some (.map k)=>match gx x env with
     | some x=>match gx y env with
       | some y=>match Q5S y with
         | true=>match lk own k with
           | some (.map ik' es)=>match ik with
             | .one i=>match kEq ik' i with
               | true=>match x with
                 | .int i' a=>match kEq i' ik' with
                   | true=>fL (mpI es a y) fun es'=>upC k (.map ik' es') own fun own'=>some ⟨.unit,own',ks⟩
                   | false=>none
                 | _=>none
               | false=>none
             | _=>none
           | some (.mapS es)=>match ik with
             | .str=>match x with
               | .str l d=>fL (mpS es l d y) fun es'=>upC k (.mapS es') own fun own'=>some ⟨.unit,own',ks⟩
               | _=>none
             | _=>none
           | _=>none
         | false=>none
       | none=>none
     | none=>none
   | _=>none
 | .asl n s x hi=>match gx x env with
   | some (.oel k s' i j)=>match i with
     | 0=>match j with
       | 0=>match lk own k with
         | some (.vec n' s'' z rows)=>match Nat.beq s s' with
           | true=>match Nat.beq s s'' with
             | true=>match Nat.ble n n' with
               | true=>match cbd hi env n n with
                 | some h=>Y2E (Q5A [k] own) fun own'=>some ⟨.fz h s false z rows,own',ks⟩
                 | none=>none
               | false=>none
             | false=>none
           | false=>none
         | _=>none
       | _=>none
     | _=>none
   | _=>none
 | .cpy s x y=>match gx x env with
   | some (.vec k s' lo len)=>match gx y env with
     | some y=>match X8G own s y with
       | some (m,z',rows')=>match lk own k with
         | some (.vec n s'' z rows)=>match Nat.beq s s' with
           | true=>match Nat.beq s s'' with
             | true=>match Nat.ble m len with
               | true=>match Nat.ble (lo+m) n with
                 | true=>match X0A z z' with
                   | true=>match Nat.ble 1 m with
                     | true=>tk m rows' fun q=>stC rows lo q fun Q0H=>upC k (.vec n s z Q0H) own fun own'=>fN m fun m'=>some ⟨.int .i64 (.ofNat m'),own',ks⟩
                     | false=>none
                   | false=>none
                 | false=>none
               | false=>none
             | false=>none
           | false=>none
         | _=>none
       | none=>none
     | none=>none
   | _=>none
 | _=>none
theorem Q7X (l:List V) (v:V):J3G (l++[v])=v:=by
 induction l with
 | nil=>rfl
 | cons x r ih =>
   cases r with
   | nil=>rfl
   | cons y r=>simpa[J3G] using ih
theorem Q3W (z:List C) (m:Nat):(fun(_:Nat) j=>(C.vs z).getD j default)=J4r (C.vs (z.append [.bool false])) (C.vss (List.replicate m z)):=by
 funext i j;have e:C.vs (z.append [.bool false])=C.vs z++[default]:=by rw[C.vs_map,C.vs_map];simp[C.v];rfl
 simp only[J4r,e,Q7X];simp only[List.getD_eq_getElem?_getD,C.vss_get,List.getElem?_replicate];by_cases h:i<m
 . simp[h]
 . simp only[h,if_false,Option.map_none,Option.getD_none];by_cases h2:j<(C.vs z).length
   . rw[List.getElem?_append_left h2]
   . rw[List.getElem?_append_right (by omega),List.getElem?_eq_none (by omega)];cases j-(C.vs z).length<;>simp
theorem X49 {o:XOp} {env:J1e} {own:J0A} {ks:Nat} {r:R} {K:V->Own->List Nat->Prop} (h:X25 o env own ks=some r) (hK:K r.v.v (J0L r.o) (ksV r.k)):Q54 o (J25 env) (J0L own) (ksV ks) K:=by
 cases o with
 | mks s bytes zs x =>
   simp only[X25] at h;split at h
   case h_2=>cases h
   rename_i k m hx;split at h
   case h_2=>cases h
   rename_i h1;split at h
   case h_2=>cases h
   rename_i h2;split at h
   case h_2=>cases h
   rename_i zc hz;have hzs:=J64 zs hz;subst hzs;simp only[Q54];refine J0B hx ?_;simp only[C.v];refine⟨m,rfl,Nat.le_of_ble_eq_true h1,Nat.le_of_ble_eq_true h2,?_⟩;obtain⟨h,b1⟩:=J3S h;refine b1 _ ?_;unfold X8u;split
   . split at h
     . split at h
       . rename_i hs _ _;rw[J5b,J9m] at h;cases h;refine .cells ?_;have e1:(C.vs [C.nilslice]).getD 0 default=.nilslice:=by simp[C.vs,C.v]
         rw[e1];have e2:C.vs (List.replicate m C.nilslice)=List.replicate m .nilslice:=by rw[C.vs_map,List.map_replicate];simp[C.v]
         simp only[C.v,J0L,List.map_cons,CB.b,e2] at hK;exact hK
       . rw[J5b,J9m,J5b] at h;cases h;refine .vec ?_;rw[Q3W zc m];simpa[C.v,J0L,CB.b] using hK
     . rename_i hne;exact(hne rfl).elim
   . rename_i hne;split at h
     . exact(hne rfl).elim
     . rw[J5b,J9m,J5b] at h;cases h;rw[Q3W zc m];simpa[C.v,J0L,CB.b] using hK
 | mkmap ik =>
   simp only[X25] at h;split at h
   . obtain⟨h,b1⟩:=J3S h;cases h;simp only[Q54];exact b1 _ (by simpa[C.v,J0L,CB.b] using hK)
   . obtain⟨h,b1⟩:=J3S h;cases h;simp only[Q54];exact b1 _ (by simpa[C.v,J0L,CB.b] using hK)
   . cases h
   . cases h
 | mget ik z comma m x =>
   simp only[X25] at h;split at h
   case h_2=>cases h
   rename_i k hm;split at h
   case h_2=>cases h
   rename_i x' hx;simp only[Q54];refine J0B hm (J0B hx ?_);split at h
   . rename_i ik' es hl;split at h
     . rename_i i;split at h
       . rename_i hk;have:=J5W hk;subst this;split at h
         . rename_i i' a;split at h
           . rename_i hk2;have:=J5W hk2;subst this;simp only[C.v,Q9L,J0x hl,CB.b,decide_true,J62];have:=Q8j h hK (X2R (ik:=i') es a);cases comma<;>exact this
           . cases h
         . cases h
       . cases h
     . cases h
   . rename_i es hl;split at h
     . split at h
       . rename_i l d;simp only[C.v,Q9L,J0x hl,CB.b,decide_true,J62];have:=Q8j h hK (X2Q es l d);cases comma<;>exact this
       . cases h
     . cases h
   . cases h
 | mput ik m x y =>
   simp only[X25] at h;split at h
   case h_2=>cases h
   rename_i k hm;split at h
   case h_2=>cases h
   rename_i x' hx;split at h
   case h_2=>cases h
   rename_i y' hy;split at h
   case h_2=>cases h
   rename_i hkf;have hkf':y'.v.kf2=true:=by rw[J7e];exact hkf
   simp only[Q54];refine J0B hm (J0B hx (J0B hy ?_));split at h
   . rename_i ik' es hl;split at h
     . rename_i i;split at h
       . rename_i hk;have:=J5W hk;subst this;split at h
         . rename_i i' a;split at h
           . rename_i hk2;have:=J5W hk2;subst this;rw[J5b] at h;obtain⟨o',c1,c2⟩:=J6F h;cases c1;simp only[C.v,Q9L,J0x hl,CB.b,decide_true,J62,hkf'];have:=c2 (fun own=>K (.raw (.tuple #[])) own (ksV ks)) (by simpa[C.v] using hK);simp only[CB.b] at this;have e:=X2O (ik:=i') es a y';rw[e];exact this
           . cases h
         . cases h
       . cases h
     . cases h
   . rename_i es hl;split at h
     . split at h
       . rename_i l d;rw[J5b] at h;obtain⟨o',c1,c2⟩:=J6F h;cases c1;simp only[C.v,Q9L,J0x hl,CB.b,decide_true,J62,hkf'];have:=c2 (fun own=>K (.raw (.tuple #[])) own (ksV ks)) (by simpa[C.v] using hK);simp only[CB.b] at this;have e:=X2N es l d y';rw[e];exact this
       . cases h
     . cases h
   . cases h
 | mrng x=>cases h
 | mnxt x=>cases h
 | ment x=>cases h
 | gix g n s x=>cases h
 | mln x=>cases h
 | asl n s x hi =>
   simp only[X25] at h;split at h
   case h_2=>cases h
   rename_i k s' i j hx;split at h
   case h_2=>cases h
   split at h
   case h_2=>cases h
   split at h
   case h_2=>cases h
   rename_i n' s'' z rows hl;split at h
   case h_2=>cases h
   rename_i h1;split at h
   case h_2=>cases h
   rename_i h2;split at h
   case h_2=>cases h
   rename_i h3;split at h
   case h_2=>cases h
   rename_i m hm;rw[Q2K] at h;cases h;simp only[Q54];refine J0B hx ?_;simp only[C.v,J0x hl,CB.b,h1,h2,h3];refine J2Z hm ?_;rw[J9K];simpa[C.v] using hK
 | cpy s x y =>
   simp only[X25] at h;split at h
   case h_2=>cases h
   rename_i k s' lo len hx;split at h
   case h_2=>cases h
   rename_i y' hy;split at h
   case h_2=>cases h
   rename_i m z' rows' hsrc;split at h
   case h_2=>cases h
   rename_i n s'' z rows hl;split at h
   case h_2=>cases h
   rename_i h1;split at h
   case h_2=>cases h
   rename_i h2;split at h
   case h_2=>cases h
   rename_i h3;split at h
   case h_2=>cases h
   rename_i h4;split at h
   case h_2=>cases h
   rename_i hz;split at h
   case h_2=>cases h
   rename_i h6;have h6:=Nat.le_of_ble_eq_true h6;simp only[Q54];refine J0B hx (J0B hy ?_);unfold vcpy;refine Q8P hsrc ?_;simp only[C.v,J0x hl,CB.b,h1,h2];have e1:=Nat.eq_of_beq_eq_true h1;subst e1;refine⟨Nat.le_of_ble_eq_true h3,Nat.le_of_ble_eq_true h4,?_⟩;rw[X0l] at h;split at h
   . rename_i h7;obtain⟨Q0H,g1,g2,g3,g4,g5⟩:=J5P _ _ _ _ _ h;obtain⟨o',c1,c2⟩:=J6F g1;rw[J4k] at c1;cases c1;have hl:(rows'.take m).length=m:=by simp;omega
     have g3:=g3 (fun e=>by rw[e] at hl;simp at hl;omega);rw[hl] at g3 g4;rw[Q1o g3 h7 (Q3G hz)];have:=c2 (fun own'=>K (.int .i64 m) own' (ksV ks)) (by simpa[C.v] using hK);simp only[CB.b,g4] at this;exact this
   . cases h
def Q42:C->Bool
 | .unit=>false
 | _=>true
noncomputable def X69:C->Bool
 | .tup vs=>J8W Q42 vs
 | v=>Q42 v
theorem Q7M {c:C} {K:V->Prop} (h:Q42 c=true) (hK:K c.v):X06 c.v K:=by
 cases c<;>simp only[Q42,reduceCtorEq] at h<;>simp only[C.v] at hK<;>simp only[C.v,X06]<;>first|exact hK|exact Q1B hK
theorem Q7L:∀{l:List C} {K:List V->Prop},J8W Q42 l=true->K (C.vs l)->X5Y (C.vs l) K
 | [],K,_,hK=>by simpa[X5Y,C.vs] using hK
 | c::r,K,h,hK=>by
   rw[Q1P,Bool.and_eq_true] at h;simp only[C.vs,X5Y];exact Q7M h.1 (Q7L h.2 (by simpa[C.vs] using hK))
theorem X4s {c:C} {K:V->Prop} (h:X69 c=true) (hK:K c.v):X05 c.v K:=by
 by_cases ht:∃vs,c=.tup vs
 . obtain⟨vs,rfl⟩:=ht;simp only[C.v,X05];exact Q7L h (by simpa[C.v] using hK)
 . have hu:Q42 c=true:=by
    cases c<;>first|exact h|exact(ht ⟨_,rfl⟩).elim
   have:=Q7M hu hK;cases c<;>first|exact(ht ⟨_,rfl⟩).elim|(simp only[C.v] at this ⊢;simp only[X05];exact this)
abbrev J2N:=FuncId->List C->J0A->Nat->Option R
structure J8Y (P:Program) (call:J2N):Prop where
 out:∀f args own ks r,call f args own ks=some r->J08 P f=true/\∀K:V->Own->List Nat->Prop,K r.v.v (J0L r.o) (ksV r.k)->J0G P f (C.vs args) (J0L own) (ksV ks) K
noncomputable def Q1x (call:J2N) (f:FuncId) (args:List C) (own:J0A) (ks:Nat):Option R:=match call f args own ks with
 | some r=>match X69 r.v with|true=>some r|false=>none
 | none=>none
noncomputable def o_p (b:Bool) (o:POp) (env:J1e) (own:J0A) (ks:Nat):Option R:=match o with
 | .slc s x lo hi mx same=>match mx with
   | none=>mkR (Y2K (match b with|true=>own|false=>[]) s x lo hi env) own ks
   | some mx=>match hi with
     | some hi=>mkR (X5c s x lo hi mx same env) own ks
     | none=>none
 | o=>mkR (J3l o env) own ks
noncomputable def X2I (sz:Option Nat) (x:X) (env:J1e) (own:J0A) (ks:Nat):Option R:=match gx x env with
 | some p=>mkR (X5h own sz p) own ks
 | none=>none
noncomputable def Q7c (sz:Nat) (a:X) (x:X) (env:J1e) (own:J0A) (ks:Nat):Option R:=match gx a env with
 | some p=>match gx x env with
   | some v=>Q2M own sz p v fun own'=>some ⟨.unit,own',ks⟩
   | none=>none
 | none=>none
noncomputable def X6U (x:X) (env:J1e) (own:J0A) (ks:Nat):Option R:=mkR (gx x env) own ks
noncomputable def X2J (call:J2N) (f:FuncId) (args:List X) (env:J1e) (own:J0A) (ks:Nat):Option R:=match gxs env args with
 | some vs=>Q1x call f vs own ks
 | none=>none
noncomputable def Q7d (call:J2N) (x:X) (args:List X) (env:J1e) (own:J0A) (ks:Nat):Option R:=match gx x env with
 | some (.fn (.func g) bd cap)=>match gxs env args with
   | some vs=>match bd with
     | true=>fL (List.append cap vs) fun l=>Q1x call g l own ks
     | false=>fL (List.append vs cap) fun l=>Q1x call g l own ks
   | none=>none
 | _=>none
noncomputable def Q7e (zs:List V) (ps:List (Nat×Nat×X)) (env:J1e) (own:J0A) (ks:Nat):Option R:=match X5W zs with
 | some zc=>match Q9b env ps zc with
   | some cs=>some ⟨.agg cs,own,ks⟩
   | none=>none
 | none=>none
noncomputable def Q7f (zs:List V) (env:J1e) (own:J0A) (ks:Nat):Option R:=match X5W zs with
 | some zc=>frC ks fun k ks=>some ⟨.loc k 0,(k,.cells zc)::own,ks⟩
 | none=>none
noncomputable def X6T (x:X) (env:J1e) (own:J0A) (ks:Nat):Option R:=match gx x env with
 | some v=>match Q4C v with
   | some cs=>frC ks fun k ks=>some ⟨.loc k 0,(k,.cells cs)::own,ks⟩
   | none=>none
 | none=>none
noncomputable def Q3Q (s:Nat) (n:Nat) (xs:List X) (env:J1e) (own:J0A) (ks:Nat):Option R:=match gxs env xs with
 | some vs=>match J8W Q5S vs with
   | true=>match Q8S s vs with
     | some rs=>frC ks fun k ks=>some ⟨.vec k s 0 n,(k,.vec n s [] rs)::own,ks⟩
     | none=>none
   | false=>match Q9a s vs with
     | some cs=>frC ks fun k ks=>some ⟨.vec k s 0 n,(k,.cells cs)::own,ks⟩
     | none=>none
 | none=>none
noncomputable def X6V (s:Nat) (bytes:Nat) (x:X) (y:X) (env:J1e) (own:J0A) (ks:Nat):Option R:=match gx x env with
 | some a=>match gx y env with
   | some c=>X5p own ks s bytes a c
   | none=>none
 | none=>none
noncomputable def o_xt (o:XOp) (env:J1e) (own:J0A) (ks:Nat):Option R:=X25 o env own ks
noncomputable def Q3R (n:Nat) (z:V) (_:J1e) (own:J0A) (ks:Nat):Option R:=match X5X z with
 | some c=>frC ks fun k ks=>fL (X5U n [c]) fun l=>some ⟨.oel k 1 0 0,(k,.vec n 1 [c] l)::own,ks⟩
 | none=>none
theorem Q29 (z:C) (m:Nat):(fun(_ _:Nat)=>z.v)=J4r (C.vs [z]) (C.vss (List.replicate m [z])):=by
 funext i j;simp only[J4r,C.vs,J3G];simp only[List.getD_eq_getElem?_getD,C.vss_get,List.getElem?_replicate];by_cases h:i<m
 . cases j<;>simp[h,C.vs]
 . cases j<;>simp[h]
noncomputable def cop (call:J2N) (b:Bool) (op:SOp) (env:J1e) (own:J0A) (ks:Nat):Option R :=
 match op with
 | .p o=>o_p b o env own ks
 | .load sz x=>X2I sz x env own ks
 | .store sz a x=>Q7c sz a x env own ks
 | .asg x=>X6U x env own ks
 | .call f args=>X2J call f args env own ks
 | .callv x args=>Q7d call x args env own ks
 | .build zs ps=>Q7e zs ps env own ks
 | .alloc zs=>Q7f zs env own ks
 | .box x=>X6T x env own ks
 | .bslice s n xs=>Q3Q s n xs env own ks
 | .app s bytes x y=>X6V s bytes x y env own ks
 | .xt o=>o_xt o env own ks
 | .clr _ _ _=>none
 | .alloca n z=>Q3R n z env own ks
def X5Q (b:Bool) (P:Program) (op:SOp) (env:Env) (own:Own) (ks:List Nat) (K:V->Own->List Nat->Prop):Prop :=
 match b with
 | true=>Q3l P op env own ks K
 | false=>vop P op env own ks K
theorem J17 {b:Bool} {P:Program} {op:SOp} {env:Env} {own:Own} {ks:List Nat} {K:V->Own->List Nat->Prop} (hne:∀s x lo hi mx same,op≠.p (.slc s x lo hi mx same)) (h:vop P op env own ks K):X5Q b P op env own ks K:=by
 cases b with
 | false=>exact h
 | true =>
   show Q3l P op env own ks K;unfold Q3l;split
   . exact(hne _ _ _ _ _ _ rfl).elim
   . exact h
theorem J7z {P:Program} {call:J2N} (hcall:J8Y P call) {f:FuncId} {args:List C} {own:J0A} {ks:Nat} {r:R} {K:V->Own->List Nat->Prop} (h:Q1x call f args own ks=some r) (hK:K r.v.v (J0L r.o) (ksV r.k)) :
 J08 P f=true/\J0G P f (C.vs args) (J0L own) (ksV ks) fun v own ks=>X05 v fun v=>K v own ks:=by
 unfold Q1x at h;split at h
 . rename_i r' hr;split at h
   . rename_i hl;cases h;obtain⟨a,b⟩:=hcall.out _ _ _ _ _ hr;exact⟨a,b _ (X4s hl hK)⟩
   . cases h
 . cases h
theorem Q8U {P:Program} {call:J2N} (hcall:J8Y P call) {b:Bool} {op:SOp} {env:J1e} {own:J0A} {ks:Nat} {r:R} {K:V->Own->List Nat->Prop} (h:cop call b op env own ks=some r) (hK:K r.v.v (J0L r.o) (ksV r.k)) :
 X5Q b P op (J25 env) (J0L own) (ksV ks) K:=by
 cases op with
 | p o =>
   simp only[cop,o_p] at h;split at h
   . split at h
     . rename_i s x lo hi mx same _;obtain⟨h1,h2,h3⟩:=Q00 h;rw[h2,h3] at hK;cases b with
       | true =>
         simp only[X5Q,Q3l];exact Q8R h1 hK
       | false =>
         simp only[X5Q,vop,J2F];exact Q8R (own:=[]) h1 hK
     . split at h
       . obtain⟨h1,h2,h3⟩:=Q00 h;rw[h2,h3] at hK;cases b with
         | true=>simp only[X5Q,Q3l];exact Q4u h1 hK
         | false=>simp only[X5Q,vop,J2F];exact Q4u h1 hK
       . cases h
   . rename_i hne;obtain⟨h1,h2,h3⟩:=Q00 h;rw[h2,h3] at hK;refine J17 (fun s x lo hi mx same e=>?_) ?_
     . cases e;exact hne _ _ _ _ _ _ rfl
     . simp only[vop];exact X1G h1 hK
 | load sz x =>
   refine J17 (fun _ _ _ _ _ _ e=>by cases e) ?_;simp only[cop,X2I] at h;split at h
   . rename_i p hp;obtain⟨h1,h2,h3⟩:=Q00 h;rw[h2,h3] at hK;simp only[vop];exact J0B hp (X1N h1 hK)
   . cases h
 | store sz a x =>
   refine J17 (fun _ _ _ _ _ _ e=>by cases e) ?_;simp only[cop,Q7c] at h;split at h
   . rename_i p hp;split at h
     . rename_i v hv;obtain⟨o',c1,c2⟩:=Q5B h;cases c1;simp only[vop];exact J0B hp (J0B hv (c2 _ (by simpa[C.v] using hK)))
     . cases h
   . cases h
 | asg x =>
   refine J17 (fun _ _ _ _ _ _ e=>by cases e) ?_;simp only[cop,X6U] at h;obtain⟨h1,h2,h3⟩:=Q00 h;rw[h2,h3] at hK;simp only[vop];exact J0B h1 hK
 | call f args =>
   refine J17 (fun _ _ _ _ _ _ e=>by cases e) ?_;simp only[cop,X2J] at h;split at h
   . rename_i vs hvs;simp only[vop];exact Q1i hvs (J7z hcall h hK).2
   . cases h
 | callv x args =>
   refine J17 (fun _ _ _ _ _ _ e=>by cases e) ?_;simp only[cop,Q7d] at h;split at h
   . rename_i g bd cap hx;split at h
     . rename_i vs hvs;simp only[vop];refine J0B hx (Q1i hvs ?_);simp only[C.v,X3J];cases bd with
       | true =>
         simp only at h;rw[J5b] at h;obtain⟨a1,a2⟩:=J7z hcall h hK;refine⟨a1,?_⟩;have e:C.vs (cap.append vs)=C.vs cap++C.vs vs:=by rw[C.vs_map,C.vs_map,C.vs_map];simp
         rw[e] at a2;exact a2
       | false =>
         simp only at h;rw[J5b] at h;obtain⟨a1,a2⟩:=J7z hcall h hK;refine⟨a1,?_⟩;have e:C.vs (vs.append cap)=C.vs vs++C.vs cap:=by rw[C.vs_map,C.vs_map,C.vs_map];simp
         rw[e] at a2;exact a2
     . cases h
   . cases h
 | build zs ps =>
   refine J17 (fun _ _ _ _ _ _ e=>by cases e) ?_;simp only[cop,Q7e] at h;split at h
   . rename_i zc hz;have:=J64 zs hz;subst this;split at h
     . rename_i cs hcs;cases h;simp only[vop];exact Q4B hcs (by simpa[C.v] using hK)
     . cases h
   . cases h
 | alloc zs =>
   refine J17 (fun _ _ _ _ _ _ e=>by cases e) ?_;simp only[cop,Q7f] at h;split at h
   . rename_i zc hz;have:=J64 zs hz;subst this;obtain⟨h,b1⟩:=J3S h;cases h;simp only[vop];exact b1 _ (by simpa[C.v,J0L,CB.b] using hK)
   . cases h
 | box x =>
   refine J17 (fun _ _ _ _ _ _ e=>by cases e) ?_;simp only[cop,X6T] at h;split at h
   . rename_i v hv;split at h
     . rename_i cs hcs;obtain⟨h,b1⟩:=J3S h;cases h;simp only[vop];exact J0B hv (J3m hcs (b1 _ (by simpa[C.v,J0L,CB.b] using hK)))
     . cases h
   . cases h
 | bslice s n xs =>
   refine J17 (fun _ _ _ _ _ _ e=>by cases e) ?_;simp only[cop,Q3Q] at h;split at h
   . rename_i vs hvs;simp only[vop];refine Q1i hvs ?_;rw[J26 J7e];split at h
     . rename_i hk;simp only[hk];split at h
       . rename_i rs hrs;obtain⟨h,b1⟩:=J3S h;cases h;refine Q4v hrs (b1 _ ?_);simpa[C.v,J0L,CB.b,C.vs,Q3z] using hK
       . cases h
     . rename_i hk;simp only[hk];split at h
       . rename_i cs hcs;obtain⟨h,b1⟩:=J3S h;cases h;refine Q4A hcs (b1 _ ?_);simpa[C.v,J0L,CB.b] using hK
       . cases h
   . cases h
 | app s bytes x y =>
   refine J17 (fun _ _ _ _ _ _ e=>by cases e) ?_;simp only[cop,X6V] at h;split at h
   . rename_i a ha;split at h
     . rename_i c hc;simp only[vop];exact J0B ha (J0B hc (X1Y h hK))
     . cases h
   . cases h
 | xt o =>
   refine J17 (fun _ _ _ _ _ _ e=>by cases e) ?_;simp only[cop,o_xt] at h;simp only[vop];exact X49 h hK
 | clr s zs x=>cases h
 | alloca n z =>
   refine J17 (fun _ _ _ _ _ _ e=>by cases e) ?_;simp only[cop,Q3R] at h;split at h
   . rename_i c hc;have:=Q2t hc;subst this;obtain⟨h,b1⟩:=J3S h;rw[J5b,J9m] at h;cases h;simp only[vop];refine b1 _ ?_;rw[Q29 c n];simpa[C.v,J0L,CB.b] using hK
   . cases h
end Go.Eng
