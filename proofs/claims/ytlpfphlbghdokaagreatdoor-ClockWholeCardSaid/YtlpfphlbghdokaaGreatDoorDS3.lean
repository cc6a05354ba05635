import Derived.Test.YtlpfphlbghdokaaGreatDoorMW1
import Derived.Test.YtlpfphlbghdokaaGreatDoorEngT
import Derived.Test.YtlpfphlbghdokaaGreatDoorAN1
import Derived.Test.YtlpfphlbghdokaaGreatDoorFW5
import Derived.Test.YtlpfphlbghdokaaGreatDoorSV1
import Derived.Test.YtlpfphlbghdokaaGreatDoorEngZ
namespace Go.Proofs.YtlpfphlbghdokaaGreatDoor
open Go.Eng Go.Plain
set_option maxRecDepth 100000
set_option linter.unusedVariables false
theorem Q4Z (p:Pr) (g:G) (k v x x' i j:Nat) (hx:x'=x) (hj:j<1) (a:Int) (ha:a=loP p g v x):VLe (J0L (J3j (J4z p g k (v*p.vars.length+x+1)) v) x' 0 [.int .i64 a] i j) (J3j (J4z p g k (v*p.vars.length+x)) v i j):=by
 obtain rfl:j=0:=by omega
 subst hx ha;apply VLe.of_eq;by_cases h:i=x'
 . subst h;have:=X1b (p:=p) (g:=g) (k:=k) (v:=v) (x:=i);simp[J0L,J3j,this]
 . have:=Q33 (p:=p) (g:=g) (k:=k) (i:=v*p.vars.length+x') (v:=v) (x:=i) (by omega);simp[J0L,J3j,h,this]
theorem X1c (p:Pr) (g:G) (k v x i j t:Nat) (hx:x<p.vars.length) (hj:j<p.vars.length) (hi:i≠v):VLe (J3j (J4z p g k (v*p.vars.length+x+1)) i j t) (J3j (J4z p g k (v*p.vars.length+x)) i j t):=by
 apply VLe.of_eq;have hne:i*p.vars.length+j≠v*p.vars.length+x:=fun q=>hi (by
  have a1:=congrArg (· / p.vars.length) q;simpa only[J4U hx,J4U hj] using a1)
 simp only[J3j];rw[Q33 hne]
theorem Q40 (p:Pr) (g:G) (k v x x' i j:Nat) (hk:k<J1e p g) (hv:v<g.ids.length) (hxm:x<p.vars.length) (h:J9D p g k (v*p.vars.length+x+1)) (h1:dgP p g k v x+1<szX p g v x) (hx:x'=x) (hi:i<p.vars.length) (hj:j<1) (a:Int) (ha:a=J4z p g k (v*p.vars.length+x+1) v x+1) :
 VLe (J0L (J3j (J4z p g k (v*p.vars.length+x+1)) v) x' 0 [.int .i64 a] i j) (J3j (fun v x=>gI (gC (cfK p g (k+1)) v) x) v i j):=by
 obtain rfl:j=0:=by omega
 subst hx ha;apply VLe.of_eq;have:=Q8H hk hv hxm h h1 hv hi;by_cases e:i=x'
 . subst e;rw[if_pos ⟨rfl,rfl⟩] at this;simp[J0L,J3j,this]
 . rw[if_neg (fun q=>e q.2)] at this;simp[J0L,J3j,e,this]
theorem Q2r (p:Pr) (g:G) (k v x i j t:Nat) (hk:k<J1e p g) (hv:v<g.ids.length) (hxm:x<p.vars.length) (h:J9D p g k (v*p.vars.length+x+1)) (h1:dgP p g k v x+1<szX p g v x) (hi:i<g.ids.length) (hj:j<p.vars.length) (hne:i≠v) :
 VLe (J3j (J4z p g k (v*p.vars.length+x+1)) i j t) (J3j (fun v x=>gI (gC (cfK p g (k+1)) v) x) i j t):=by
 apply VLe.of_eq;have:=Q8H hk hv hxm h h1 hi hj;rw[if_neg (fun q=>hne q.1)] at this;simp[J3j,this]
theorem J3G (f:Nat->Nat->Nat->V) (v i j t:Nat):VLe (J3n f v (f v) i j t) (f i j t):=by
 apply VLe.of_eq;simp only[J3n];split
 . rename_i e;rw[e]
 . rfl
theorem Q4Y (p:Pr) (g:G) (k v x i j t:Nat) (hk:k<J1e p g) (hv:v<g.ids.length) (hxm:x<p.vars.length) (h:J9D p g k (v*p.vars.length+x+1)) (h1:dgP p g k v x+1<szX p g v x) (hi:i<g.ids.length) (hj:j<p.vars.length) (ht:t<1) (a:Int) (ha:a=J4z p g k (v*p.vars.length+x+1) v x+1) :
 VLe (J3n (J3j (J4z p g k (v*p.vars.length+x+1))) v (J0L (J3j (J4z p g k (v*p.vars.length+x+1)) v) (0+x) 0 [.int .i64 a]) i j t) (J3j (fun v x=>gI (gC (cfK p g (k+1)) v) x) i j t):=by
 simp only[J3n];split
 . rename_i e;subst e;exact Q40 p g k i x (0+x) j t hk hv hxm h h1 (Nat.zero_add _) hj ht a ha
 . rename_i e;exact Q2r p g k v x i j t hk hv hxm h h1 hi hj e
set_option maxHeartbeats 8000000 in
theorem X3k (p:Pr) (hp:J2I p) (g:G) (hg:g.valid=true) (k:Nat) (hk:k<J1e p g) :
 J0J Tryz.prog 31 [Q8R p g,.vec 0 1 0 g.ids.length] [(0,J8m p g (fun v x=>gI (gC (cfK p g k) v) x) [])] KS.tail fun v own' _=>v=.tup []/\own'=[(0,J8m p g (fun v x=>gI (gC (cfK p g (k+1)) v) x) [])]:=by
 obtain⟨f1,f2,f3,f4,f5,f6,f7⟩:=J0e hg;have hvl:=hp.vlen;refine J1q (J3P ?_);refine J0d J0b Tryz.func31 rfl hc31 hr31 rfl ?_
 repeat' ((conv=>whnf);first|(refine Ar.i64 (by omega) (by omega) ?_)|(refine J0d J0b Tryz.func37 rfl hc37 hr37 rfl ?_)|(refine J1Y ?_)|(refine Chk.mk (by kernel_rfl) ?_)|(refine J0d J0b Tryz.func72 rfl hc72 hr72 rfl ?_))
 all_goals (conv=>whnf)
 refine J02 J0b [0,1] [] [5,6,7,8,9,10,11,12,13,14,15,16,17,18,19,20,21,22,23,24,25,26,27,28,29] [3,2,1,0] (fun j:Nat=>[(3,.int .i64 ((j:Int)-1))]) (fun own j=>J1I own 0 (J8m p g (J4z p g k (j*p.vars.length)) [])) (fun m j=>m=j/\j<=g.ids.length/\J9D p g k (j*p.vars.length)) g.ids.length g.ids.length ⟨rfl,Nat.le_refl _,fun j h1 h2=>(by rw[nP] at h2;omega)⟩ rfl (fun _=>rfl) ?_ ?_
 . refine J0f (fun _ _=>[(0,some 0),(1,some 1),(2,some 2),(3,some 3)]) ?_ ?_ rfl
   . repeat' (first|exact J0a.yld rfl|exact True.intro|(refine⟨⟨_,rfl,?_⟩,?_⟩)|exact J0a.kf rfl|exact J0a.loc rfl)
   . repeat' (first|(refine J0a.fn ?_)|(refine⟨rfl,rfl,rfl,rfl,rfl,?_⟩)|exact⟨rfl,rfl,True.intro,fun i hi=>rfl,fun i j t hi hn hj ht=>VLe.of_eq (congrArg (V.int .i64) (Q8G hi hj).symm)⟩|exact True.intro|(refine⟨⟨_,rfl,?_⟩,?_⟩)|exact J0a.kf rfl|exact J0a.loc rfl|exact J0a.vec rfl rfl rfl|(refine And.intro ?_ ?_))
 rintro m j ⟨hm,hj,hfull⟩;rcases Nat.eq_zero_or_pos j with h0|h0
 . subst h0
   repeat' ((conv=>whnf);first|(refine Br.ff ?_))
   all_goals (conv=>whnf)
   have hend:=fun v x hv hx=>X4K (v:=v) (x:=x) hk (by rw[Nat.zero_mul] at hfull;exact hfull) hv hx;exact⟨_,J1A.refl _,J1m (fun _=>[(0,some 0)]) _ _ ⟨rfl,rfl⟩ (J0a.kf rfl) (by repeat' (first|(refine⟨rfl,rfl,True.intro,fun i hi=>rfl,fun i j t hi hn hj ht=>VLe.of_eq (congrArg (V.int .i64) (by rw[Nat.zero_mul];exact hend i j hi hj))⟩)|exact True.intro|(refine⟨⟨_,rfl,?_⟩,?_⟩))) rfl⟩
 . obtain⟨v,rfl⟩:∃v,j=v+1:=⟨j-1,by omega⟩
   repeat' ((conv=>whnf);first|(refine Ix.mk v (by omega) (by omega) ?_)|(refine Br.dec ?_ ?_<;>intro _<;>try omega)|(refine Ar.i64 (by omega) (by omega) ?_)|(refine J0d J0b Tryz.func38 rfl hc38 hr38 rfl ?_)|(refine J1Y ?_)|(refine Chk.mk (by kernel_rfl) ?_)|(refine J0d J0b Tryz.func73 rfl hc73 hr73 rfl ?_)|(refine J1B J0b rfl rfl ?_))
   all_goals (conv=>whnf)
   refine J02 J0b [0,1] [8] [9,10,11,12,13,14,15,16,17,18,19,20,21,22,23,24,25,26,27,28,29] [8,7,6,5,3,2,1,0] (fun i:Nat=>[(3,.int .i64 ((i:Int)-1))]) (fun own i=>(8,.vec (Q4v p v) 1 (J3j (J4z p g k (v*p.vars.length+i)) v))::J1I (J1I (J1I own 5 (.cells [.int .i64 v])) 0 (J8m p g (J4z p g k (v*p.vars.length+i)) [])) 0 (J8m p g (J4z p g k (v*p.vars.length+i)) [(v,8)])) (fun m i=>m=i/\i<=p.vars.length/\J9D p g k (v*p.vars.length+i)) p.vars.length p.vars.length ⟨rfl,Nat.le_refl _,by rw[Nat.add_mul,Nat.one_mul] at hfull;exact hfull⟩ rfl (fun _=>rfl) ?_ ?_
   . refine J3t.trans ?_ (J09 (ks:=[8,9,10,11,12,13,14,15,16,17,18,19,20,21,22,23,24,25,26,27,28,29]) rfl rfl rfl (show v<g.ids.length by omega) rfl) (J2C rfl);have e:(v+1)*p.vars.length=v*p.vars.length+p.vars.length:=by rw[Nat.add_mul,Nat.one_mul]
     refine J0f (fun _ _=>[(0,some 0),(1,some 1),(2,some 2),(3,some 3),(5,some 5),(6,some 6),(7,some 7)]) ?_ ?_ rfl
     . repeat' (first|exact J0a.yld rfl|exact True.intro|(refine⟨⟨_,rfl,?_⟩,?_⟩)|exact J0a.kf rfl|exact J0a.loc rfl)
     . repeat' (first|(refine J0a.fn ?_)|(refine⟨rfl,rfl,rfl,rfl,rfl,?_⟩)|exact⟨rfl,rfl,True.intro,fun i hi=>rfl,fun i j t hi hn hj ht=>by rw[e];exact VLe.rfl⟩|exact True.intro|(refine⟨⟨_,rfl,?_⟩,?_⟩)|exact J0a.kf rfl|exact J0a.int (by omega)|exact J0a.loc rfl|exact J0a.vec rfl rfl rfl|(refine And.intro ?_ ?_))
   rintro m i ⟨hm,hi,hfi⟩;rcases Nat.eq_zero_or_pos i with h1|h1
   . subst h1
     repeat' ((conv=>whnf);first|(refine Br.tt ?_)|(refine Br.ff ?_)|(refine Ar.i64 (by omega) (by omega) ?_))
     all_goals (conv=>whnf)
     refine⟨_,v,by omega,⟨rfl,by omega,by rw[Nat.add_zero] at hfi;exact hfi⟩,?_⟩;refine J3t.trans (J15 (J1i (q:=8) (k:=0) (i:=v) [] rfl rfl (show v<g.ids.length by omega) (J0n rfl) (Nat.le_refl _) rfl (fun j hj=>(J0j (fun e=>hj e.symm)).symm))) ?_ (J6V rfl);have e:v*p.vars.length+0=v*p.vars.length:=Nat.add_zero _;refine J0f (fun _ _=>[(0,some 0),(1,some 1),(2,some 2),(3,some 3)]) ?_ ?_ rfl
     . repeat' (first|exact J0a.yld rfl|exact True.intro|(refine⟨⟨_,rfl,?_⟩,?_⟩)|exact J0a.int (by omega)|exact J0a.loc rfl)
     . repeat' (first|(refine J0a.fn ?_)|(refine⟨rfl,rfl,rfl,rfl,rfl,?_⟩)|exact⟨rfl,rfl,True.intro,fun i hi=>rfl,fun i j t hi hn hj ht=>(by rw[e];exact J3G _ _ _ _ _)⟩|exact True.intro|(refine⟨⟨_,rfl,?_⟩,?_⟩)|exact J0a.kf rfl|exact J0a.loc rfl|exact J0a.vec rfl rfl rfl|(refine And.intro ?_ ?_))
   . obtain⟨x,rfl⟩:∃x,i=x+1:=⟨i-1,by omega⟩;have hxm:x<p.vars.length:=by omega
     have hlm:Q4v p v=p.vars.length:=rfl;have hvn:v<g.ids.length:=by omega
     have hval:J4z p g k (v*p.vars.length+(x+1)) v (0+x)=loP p g v x+dgP p g k v x:=by rw[Nat.zero_add,<- Nat.add_assoc];exact Q8F
     have hval':J4z p g k (v*p.vars.length+x+1) v x=loP p g v x+dgP p g k v x:=Q8F;have hsz:=J4j hp g hg v hxm;have hdl:=Q7P p g k v hxm;have hbi:=J5U hg (hp.var x hxm) (v:=v) (by omega);have hhi:(bnd g (gV p.vars x) v).2=hiP p g v x:=rfl;have hlo:(bnd g (gV p.vars x) v).1=loP p g v x:=rfl;by_cases hd:dgP p g k v x+1<szX p g v x
     . repeat' ((conv=>whnf);first|(refine Ix.mk x (by omega) (by omega) ?_)|(refine Ix.mk v (by omega) (by omega) ?_)|(refine Br.ff ?_)|(refine Br.dec ?_ ?_<;>intro _<;>try omega)|(refine Ar.i64 (by omega) (by omega) ?_)|(refine Ix.mk 1 rfl (by omega) ?_)|(refine Ltn.mk (by omega) ?_)|(refine J1B J0b rfl rfl ?_)|(refine Opn.hd (by omega) ?_))
       all_goals (conv=>whnf)
       exact⟨_,J1i (q:=8) (k:=0) (i:=v) [] rfl rfl hvn (J0n rfl) (Nat.le_refl _) rfl (fun j hj=>(J0j (fun e=>hj e.symm)).symm),J1m (fun _=>[(0,some 0)]) _ _ ⟨rfl,rfl⟩ (J0a.kf rfl) (by repeat' (first|(refine⟨rfl,rfl,True.intro,fun i hi=>rfl,fun i j t hi hn hj ht=>Q4Y p g k v x i j t hk hvn hxm hfi hd hi hj ht _ (by omega)⟩)|exact True.intro|(refine⟨⟨_,rfl,?_⟩,?_⟩))) rfl⟩
     . repeat' ((conv=>whnf);first|(refine Ix.mk x (by omega) (by omega) ?_)|(refine Ix.mk v (by omega) (by omega) ?_)|(refine Br.tt ?_)|(refine Br.dec ?_ ?_<;>intro _<;>try omega)|(refine Ar.i64 (by omega) (by omega) ?_)|(refine Ix.mk 0 rfl (by omega) ?_)|(refine Ix.mk 1 rfl (by omega) ?_)|(refine Ltn.mk (by omega) ?_)|(refine J1B J0b rfl rfl ?_)|(refine Opn.hd (by omega) ?_))
       all_goals (conv=>whnf)
       have hf2:=Q7s hxm hfi (by omega);refine⟨_,x,by omega,⟨rfl,by omega,hf2⟩,?_⟩;refine J0f (fun _ _=>[(0,some 0),(1,some 1),(2,some 2),(3,some 3),(5,some 5),(6,some 6),(7,some 7),(8,some 8)]) ?_ ?_ rfl
       . repeat' (first|exact J0a.yld rfl|exact True.intro|(refine⟨⟨_,rfl,?_⟩,?_⟩)|exact J0a.int (by omega)|exact J0a.loc rfl)
       . repeat' (first|(refine J0a.fn ?_)|(refine⟨rfl,rfl,rfl,rfl,rfl,?_⟩)|exact⟨rfl,rfl,⟨rfl,rfl,True.intro⟩,fun i hi=>rfl,fun i j t hi hn hj ht=>X1c p g k v x i j t hxm hj (fun e=>by rw[e,J0n rfl] at hn;cases hn)⟩|exact Q4Z p g k v x _ _ _ (Nat.zero_add _) hj _ hlo|exact True.intro|(refine⟨⟨_,rfl,?_⟩,?_⟩)|exact J0a.kf rfl|exact J0a.loc rfl|exact J0a.vec rfl rfl rfl|(refine⟨Nat.le_refl _,rfl,fun i j hi hj=>?_⟩)|(refine And.intro ?_ ?_))
theorem Q4b (p:Pr) (g:G) (k v x x' i j:Nat) (hx:x'=x) (hj:j<1) (a:Int) (ha:a=J5X p g k (v*p.vars.length+x+1) v x+dgP p g k v x):VLe (J0L (J3j (J5X p g k (v*p.vars.length+x+1)) v) x' 0 [.int .i64 a] i j) (J3j (J5X p g k (v*p.vars.length+x)) v i j):=by
 obtain rfl:j=0:=by omega
 subst hx ha;apply VLe.of_eq;by_cases h:i=x'
 . subst h;have:=Q5q (p:=p) (g:=g) (k:=k) (v:=v) (x:=i);simp[J0L,J3j,this]
 . have:=J9Q (p:=p) (g:=g) (k:=k) (i:=v*p.vars.length+x') (v:=v) (x:=i) (by omega);simp[J0L,J3j,h,this]
theorem Q9h (p:Pr) (g:G) (k v x i j t:Nat) (hx:x<p.vars.length) (hj:j<p.vars.length) (hi:i≠v):VLe (J3j (J5X p g k (v*p.vars.length+x+1)) i j t) (J3j (J5X p g k (v*p.vars.length+x)) i j t):=by
 apply VLe.of_eq;have hne:i*p.vars.length+j≠v*p.vars.length+x:=fun q=>hi (by
  have a1:=congrArg (· / p.vars.length) q;simpa only[J4U hx,J4U hj] using a1)
 simp only[J3j];rw[J9Q hne]
theorem X4u (p:Pr) (g:G) (k:Nat) (f:Nat->Nat->Int) (hf:∀v x,v<g.ids.length->x<p.vars.length->f v x=gI (gC (cfK p g k) v) x):VLe (.fz g.ids.length 1 false fun i _=>.fz (Q4v p i) 1 false (J3j f i)) (cV (cfK p g k)):=by
 refine VLe.fz (J5s p g k).symm (fun h=>h) (fun i j hi hj=>?_);refine VLe.fz ?_ (fun h=>h) (fun a b ha hb=>VLe.of_eq (congrArg (V.int .i64) (hf i a hi ha)));rw[J7r p g k hi];simp[Q4v]
set_option maxHeartbeats 8000000 in
theorem Q4q (p:Pr) (hp:J2I p) (g:G) (hs:g.Small) (hg:g.valid=true) (hn:J1e p g<=32768) (k:Nat) (hk:k<J1e p g) :
 Ret Tryz.prog 10 [p.v,g.v,.int .i64 k] (.tup [cV (cfK p g k),.int .i64 0]):=by
 obtain⟨f1,f2,f3,f4,f5,f6,f7⟩:=J0e hg;have hvl:=hp.vlen;have h1:=J9i p hp g hs hg;have h2:=J3T p hp g hg;have h3:=Q0q p hp g hg _ (X3p p hp g hg);have h4:=Q0p p hp g hg hn;refine J0g rfl ?_;refine J0d J0b Tryz.func10 rfl hc10 hr10 rfl ?_
 repeat' ((conv=>whnf);first|(refine Br.ff ?_)|(refine Br.dec ?_ ?_<;>intro _<;>try omega)|(refine Ar.i64 (by omega) (by omega) ?_)|(refine h1.go ?_)|(refine h2.go ?_)|(refine h4.go ?_)|(refine J10 [(0,some 3)] [1] (h3.mono ?_) ⟨J0a.kf rfl,J0a.fn ⟨J0a.loc rfl,True.intro⟩,True.intro⟩ (by repeat' (first|exact True.intro|(refine⟨⟨_,rfl,?_⟩,?_⟩)|exact J0a.kf rfl|(refine And.intro ?_ ?_))) rfl;rintro _ _ _ ⟨rfl,rfl⟩)|(refine Chk.mk rfl ?_)|(refine J0d J0b Tryz.func37 rfl hc37 hr37 rfl ?_)|(refine J1Y ?_)|(refine J0d J0b Tryz.func72 rfl hc72 hr72 rfl ?_))
 all_goals (conv=>whnf)
 refine J02 J0b [0,1] [] [9,10,11,12,13,14,15,16,17,18,19,20,21,22,23,24,25,26,27,28,29] [7,6,5,4,3,2,1,0] (fun j:Nat=>[(3,.int .i64 ((j:Int)-1))]) (fun own j=>J1I (J1I own 4 (J8m p g (J5X p g k (j*p.vars.length)) [])) 2 (.cells [.int .i64 (J9P p g k (j*p.vars.length))])) (fun m j=>m=j/\j<=g.ids.length) g.ids.length g.ids.length ⟨rfl,Nat.le_refl _⟩ rfl (fun _=>rfl) ?_ ?_
 . have hst:=Q5p p g k;rw[nP] at hst;refine J0f (fun _ _=>[(0,some 0),(1,some 1),(2,some 2),(3,some 3),(4,some 4),(5,some 5),(6,some 6),(7,some 7)]) ?_ ?_ rfl
   . repeat' (first|exact J0a.yld rfl|exact True.intro|(refine⟨⟨_,rfl,?_⟩,?_⟩)|exact J0a.kf rfl|exact J0a.loc rfl)
   . repeat' (first|(refine J0a.fn ?_)|(refine⟨rfl,rfl,rfl,rfl,rfl,?_⟩)|exact⟨rfl,rfl,True.intro,fun i hi=>rfl,fun i j t hi hn hj ht=>VLe.of_eq (congrArg (V.int .i64) (Q4c hi hj).symm)⟩|exact J0a.int (by rw[hst])|exact True.intro|(refine⟨⟨_,rfl,?_⟩,?_⟩)|exact J0a.kf rfl|exact J0a.loc rfl|exact J0a.vec rfl rfl rfl|(refine And.intro ?_ ?_))
 rintro m j ⟨hm,hj⟩;rcases Nat.eq_zero_or_pos j with h0|h0
 . subst h0;have e:0*p.vars.length=0:=Nat.zero_mul _
   repeat' ((conv=>whnf);first|(refine Br.ff ?_)|(refine Len.mk (by omega) ?_))
   all_goals (conv=>whnf)
   all_goals exact VLe.tup ⟨X4u p g k _ (fun v x hv hx=>by rw[e];exact Q9j hv hx),VLe.rfl,True.intro⟩
 . obtain⟨v,rfl⟩:∃v,j=v+1:=⟨j-1,by omega⟩
   repeat' ((conv=>whnf);first|(refine Ix.mk v (by omega) (by omega) ?_)|(refine Br.dec ?_ ?_<;>intro _<;>try omega)|(refine Ar.i64 (by omega) (by omega) ?_)|(refine J0d J0b Tryz.func38 rfl hc38 hr38 rfl ?_)|(refine J1Y ?_)|(refine Chk.mk (by kernel_rfl) ?_)|(refine J0d J0b Tryz.func73 rfl hc73 hr73 rfl ?_)|(refine J1B J0b rfl rfl ?_))
   all_goals (conv=>whnf)
   refine J02 J0b [0,1] [12] [13,14,15,16,17,18,19,20,21,22,23,24,25,26,27,28,29] [12,11,10,9,7,6,5,4,3,2,1,0] (fun i:Nat=>[(3,.int .i64 ((i:Int)-1))]) (fun own i=>(12,.vec (Q4v p v) 1 (J3j (J5X p g k (v*p.vars.length+i)) v))::J1I (J1I (J1I (J1I own 9 (.cells [.int .i64 v])) 2 (.cells [.int .i64 (J9P p g k (v*p.vars.length+i))])) 4 (J8m p g (J5X p g k (v*p.vars.length+i)) [])) 4 (J8m p g (J5X p g k (v*p.vars.length+i)) [(v,12)])) (fun m i=>m=i/\i<=p.vars.length) p.vars.length p.vars.length ⟨rfl,Nat.le_refl _⟩ rfl (fun _=>rfl) ?_ ?_
   . refine J3t.trans ?_ (J09 (ks:=[12,13,14,15,16,17,18,19,20,21,22,23,24,25,26,27,28,29]) rfl rfl rfl (show v<g.ids.length by omega) rfl) (J2C rfl);have e:(v+1)*p.vars.length=v*p.vars.length+p.vars.length:=by rw[Nat.add_mul,Nat.one_mul]
     refine J0f (fun _ _=>[(0,some 0),(1,some 1),(2,some 2),(3,some 3),(4,some 4),(5,some 5),(6,some 6),(7,some 7),(9,some 9),(10,some 10),(11,some 11)]) ?_ ?_ rfl
     . repeat' (first|exact J0a.yld rfl|exact True.intro|(refine⟨⟨_,rfl,?_⟩,?_⟩)|exact J0a.kf rfl|exact J0a.loc rfl)
     . repeat' (first|(refine J0a.fn ?_)|(refine⟨rfl,rfl,rfl,rfl,rfl,?_⟩)|exact⟨rfl,rfl,True.intro,fun i hi=>rfl,fun i j t hi hn hj ht=>by rw[e];exact VLe.rfl⟩|exact J0a.int (by rw[e])|exact True.intro|(refine⟨⟨_,rfl,?_⟩,?_⟩)|exact J0a.kf rfl|exact J0a.int (by omega)|exact J0a.loc rfl|exact J0a.vec rfl rfl rfl|(refine And.intro ?_ ?_))
   rintro m i ⟨hm,hi⟩;rcases Nat.eq_zero_or_pos i with h1|h1
   . subst h1
     repeat' ((conv=>whnf);first|(refine Br.tt ?_)|(refine Br.ff ?_)|(refine Ar.i64 (by omega) (by omega) ?_))
     all_goals (conv=>whnf)
     refine⟨_,v,by omega,⟨rfl,by omega⟩,?_⟩;refine J3t.trans (J15 (J1i (q:=12) (k:=4) (i:=v) [] rfl rfl (show v<g.ids.length by omega) (J0n rfl) (Nat.le_refl _) rfl (fun j hj=>(J0j (fun e=>hj e.symm)).symm))) ?_ (J6V rfl);have e:v*p.vars.length+0=v*p.vars.length:=Nat.add_zero _;refine J0f (fun _ _=>[(0,some 0),(1,some 1),(2,some 2),(3,some 3),(4,some 4),(5,some 5),(6,some 6),(7,some 7)]) ?_ ?_ rfl
     . repeat' (first|exact J0a.yld rfl|exact True.intro|(refine⟨⟨_,rfl,?_⟩,?_⟩)|exact J0a.int (by omega)|exact J0a.loc rfl)
     . repeat' (first|(refine J0a.fn ?_)|(refine⟨rfl,rfl,rfl,rfl,rfl,?_⟩)|exact⟨rfl,rfl,True.intro,fun i hi=>rfl,fun i j t hi hn hj ht=>(by rw[e];exact J3G _ _ _ _ _)⟩|exact J0a.int (by rw[e])|exact True.intro|(refine⟨⟨_,rfl,?_⟩,?_⟩)|exact J0a.kf rfl|exact J0a.loc rfl|exact J0a.vec rfl rfl rfl|(refine And.intro ?_ ?_))
   . obtain⟨x,rfl⟩:∃x,i=x+1:=⟨i-1,by omega⟩;have hxm:x<p.vars.length:=by omega
     have hlm:Q4v p v=p.vars.length:=rfl;have hvn:v<g.ids.length:=by omega
     have hval:J5X p g k (v*p.vars.length+(x+1)) v (0+x)=loP p g v x:=by rw[Nat.zero_add,J5X,if_pos (by omega)];simp
     have hval':J5X p g k (v*p.vars.length+x+1) v x=loP p g v x:=by rw[J5X,if_pos (by omega)];simp
     have hsz:=J4j hp g hg v hxm;have hdl:=Q7P p g k v hxm;have hbi:=J5U hg (hp.var x hxm) (v:=v) (by omega);have hhi:(bnd g (gV p.vars x) v).2=hiP p g v x:=rfl;have hlo:(bnd g (gV p.vars x) v).1=loP p g v x:=rfl;have hrem:((J9P p g k (v*p.vars.length+(x+1)):Nat):Int).tmod ((bnd g (gV p.vars x) v).2-(bnd g (gV p.vars x) v).1+1)=(dgP p g k v x:Nat):=by
      rw[hhi,hlo,<- hsz,wrem (by have:=J2V p g 0;rw[szX];omega),<- X2A hxm];rfl
     have hquo:((J9P p g k (v*p.vars.length+(x+1)):Nat):Int).tdiv ((bnd g (gV p.vars x) v).2-(bnd g (gV p.vars x) v).1+1)=(J9P p g k (v*p.vars.length+x):Nat):=by
      rw[hhi,hlo,<- hsz,<- Q9i hvn hxm];rfl
     have hkl:J9P p g k (v*p.vars.length+(x+1))<=k:=Nat.div_le_self _ _;have hkl2:J9P p g k (v*p.vars.length+x)<=k:=Nat.div_le_self _ _
     repeat' ((conv=>whnf);first|(refine Ix.mk x (by omega) (by omega) ?_)|(refine Ix.mk v (by omega) (by omega) ?_)|(refine Sv.mk _ hrem.symm ?_)|(refine Ar.i64 (by rw[hquo];omega) (by rw[hquo];omega) ?_;rw[hquo])|(refine Br.tt ?_)|(refine Br.dec ?_ ?_<;>intro _<;>try omega)|(refine Ar.i64 (by omega) (by omega) ?_)|(refine Nz.mk (by omega) ?_)|(refine Ix.mk 0 rfl (by omega) ?_)|(refine Ix.mk 1 rfl (by omega) ?_)|(refine Ltn.mk (by omega) ?_)|(refine J1B J0b rfl rfl ?_)|(refine Opn.hd (by omega) ?_))
     all_goals (conv=>whnf)
     refine⟨_,x,by omega,⟨rfl,by omega⟩,?_⟩;refine J0f (fun _ _=>[(0,some 0),(1,some 1),(2,some 2),(3,some 3),(4,some 4),(5,some 5),(6,some 6),(7,some 7),(9,some 9),(10,some 10),(11,some 11),(12,some 12)]) ?_ ?_ rfl
     . repeat' (first|exact J0a.yld rfl|exact True.intro|(refine⟨⟨_,rfl,?_⟩,?_⟩)|exact J0a.int (by omega)|exact J0a.loc rfl)
     . repeat' (first|(refine J0a.fn ?_)|(refine⟨rfl,rfl,rfl,rfl,rfl,?_⟩)|exact⟨rfl,rfl,⟨rfl,rfl,True.intro⟩,fun i hi=>rfl,fun i j t hi hn hj ht=>Q9h p g k v x i j t hxm hj (fun e=>by rw[e,J0n rfl] at hn;cases hn)⟩|exact Q4b p g k v x _ _ _ (Nat.zero_add _) hj _ (by omega)|exact True.intro|(refine⟨⟨_,rfl,?_⟩,?_⟩)|exact J0a.kf rfl|exact J0a.loc rfl|exact J0a.vec rfl rfl rfl|(refine⟨Nat.le_refl _,rfl,fun i j hi hj=>?_⟩)|(refine And.intro ?_ ?_))
def Q1G (p:Pr) (g:G):Nat->Nat->Nat->V:=fun v x _=>.int .i64 (plP p g v x:Nat)
def plV (p:Pr) (g:G):V:=.fz g.ids.length 1 false fun v _=>.fz p.vars.length 1 false (Q1G p g v)
def bP (p:Pr) (g:G) (kd:Int):V:=.fe 1 5 (tab [[mvP p g,.fz g.ports.length 1 false (X2z g),.int .i64 kd,Q8R p g,plV p g]]) 0 0
def X4X (m j:Nat):Nat->Nat:=fun i=>if i<j then 0 else m
def X5L (j k:Nat):List (Nat×Nat):=if 0<j then[(j-1,k)] else[]
def J98 (p:Pr) (g:G) (v i:Nat):Nat->Nat->V:=fun x _=>if x<i then .int .i64 0 else .int .i64 (plP p g v x:Nat)
theorem Q5V (p:Pr) (g:G) (v x x' i j:Nat) (hx:x'=x) (hj:j<1) (a:Int) (ha:a=(plP p g v x:Nat)):VLe (J0L (J98 p g v (x+1)) x' 0 [.int .i64 a] i j) (J98 p g v x i j):=by
 obtain rfl:j=0:=by omega
 subst hx ha;apply VLe.of_eq;by_cases h:i=x'
 . subst h;simp[J0L,J98]
 . have h1:(i<x'+1)=(i<x'):=by simp;omega
   simp[J0L,J98,h,h1]
theorem Q3j (m v i:Nat):J2N (X4X m (v+1)) v m i=X4X m v i:=by
 simp only[J2N,X4X];by_cases h:i=v
 . rw[if_pos h,if_neg (by omega)]
 . rw[if_neg h];by_cases h2:i<v
   . rw[if_pos h2,if_pos (by omega)]
   . rw[if_neg h2,if_neg (by omega)]
theorem J7Y (p:Pr) (g:G) (v i j t:Nat):VLe (J3n (Q1G p g) v (J98 p g v 0) i j t) (Q1G p g i j t):=by
 apply VLe.of_eq;simp only[J3n];split
 . rename_i e;subst e;simp[J98,Q1G]
 . rfl
set_option maxHeartbeats 8000000 in
theorem Q4U (p:Pr) (hp:J2I p) (g:G) (hs:g.Small) (hg:g.valid=true) (kd:Int) (hn:J1e p g<=32768) :
 Ret Tryz.prog 28 [p.v,g.v,.int .i64 kd] (bP p g kd):=by
 obtain⟨f1,f2,f3,f4,f5,f6,f7⟩:=J0e hg;have hvl:=hp.vlen;have h1:=Q29 p hp g hg;have h2:=Q6v g hs hg;have h3:=J3T p hp g hg;refine J0g rfl ?_;refine J0d J0b Tryz.func28 rfl hc28 hr28 rfl ?_
 repeat' ((conv=>whnf);first|(refine Ar.i64 (by omega) (by omega) ?_)|(refine Bd.nat (by omega) ?_)|(refine Len.mk (by omega) ?_)|(refine MkS.vec ?_)|(refine h1.go ?_)|(refine h2.go ?_)|(refine h3.go ?_)|(refine And.intro rfl ?_))
 all_goals (conv=>whnf)
 refine J02 J0b [7] [4] [5,6,7,8,9,10,11,12,13,14,15,16,17,18,19,20,21,22,23,24,25,26,27,28,29] [4,3,2,1,0] (fun j:Nat=>[(8,.int .i64 (Mx.pr (szP p g) (j*p.vars.length) (nP p g-j*p.vars.length):Nat)),(9,.int .i64 ((j:Int)-1))])
  (fun own j=>(4,.vec (if 0<j then X4X p.vars.length j (j-1) else 0) 1 (Q1G p g (j-1)))::J1I (J1I own 3 (.fam g.ids.length 1 (X4X p.vars.length j) (Q1G p g) [])) 3 (.fam g.ids.length 1 (X4X p.vars.length j) (Q1G p g) (X5L j 4))) (fun m j=>m=j/\j<=g.ids.length) g.ids.length g.ids.length ⟨rfl,Nat.le_refl _⟩ rfl (fun _=>rfl) ?_ ?_
 . have e:X5L g.ids.length 4=[(g.ids.length-1,4)]:=if_pos (by omega);simp only[e,if_pos (show 0<g.ids.length by omega)];refine J3t.trans ?_ (J09 (ks:=[4,5,6,7,8,9,10,11,12,13,14,15,16,17,18,19,20,21,22,23,24,25,26,27,28,29]) rfl rfl rfl (by omega) rfl) (J2C rfl);have e1:nP p g-g.ids.length*p.vars.length=0:=Nat.sub_self _;refine J0f (fun _ _=>[(0,some 0),(1,some 1),(2,some 2),(3,some 3)]) ?_ ?_ rfl
   . repeat' (first|exact J0a.int (by rw[e1];rfl)|exact True.intro|(refine⟨⟨_,rfl,?_⟩,?_⟩)|exact J0a.kf rfl|exact J0a.loc rfl)
   . repeat' (first|exact⟨rfl,rfl,rfl,fun i hi=>⟨rfl,if_pos hi⟩⟩|exact True.intro|(refine⟨⟨_,rfl,?_⟩,?_⟩)|exact J0a.kf rfl|exact J0a.vec rfl rfl rfl|(refine And.intro ?_ ?_))
 rintro m j ⟨hm,hj⟩;rcases Nat.eq_zero_or_pos j with h0|h0
 . subst h0
   repeat' ((conv=>whnf);first|(refine Br.ff ?_)|(refine Len.mk (by omega) ?_))
   all_goals (conv=>whnf)
   refine X1g (fun a b ha hb=>?_);obtain rfl:a=0:=by omega
   have hb:b<5:=hb;rcases b with _|_|_|_|_|b
   . exact VLe.rfl
   . exact VLe.rfl
   . exact VLe.rfl
   . exact VLe.rfl
   . refine VLe.fz rfl (fun h=>h) (fun i j hi hj=>?_);exact VLe.fz (if_neg (by omega)) (fun h=>h) (fun _ _ _ _=>VLe.rfl)
   . omega
 . obtain⟨v,rfl⟩:∃v,j=v+1:=⟨j-1,by omega⟩;have e:X5L (v+1) 4=[(v,4)]:=if_pos (by omega);have ev:v+1-1=v:=rfl;simp only[e,ev,if_pos (Nat.succ_pos v)]
   repeat' ((conv=>whnf);first|(refine Ix.mk v (by omega) (by omega) ?_)|(refine Br.dec ?_ ?_<;>intro _<;>try omega)|(refine Ar.i64 (by omega) (by omega) ?_)|(refine Bd.nat (by omega) ?_)|(refine Len.mk (by omega) ?_)|(refine Ltn.mk (by omega) ?_)|(refine MkS.vec ?_)|(refine J1W.hd (by omega) ?_))
   all_goals (conv=>whnf)
   have hvn:v<g.ids.length:=by omega
   refine J02 J0b [7,9] [] [6,7,8,9,10,11,12,13,14,15,16,17,18,19,20,21,22,23,24,25,26,27,28,29] [5,4,3,2,1,0] (fun i:Nat=>[(8,.int .i64 (Mx.pr (szP p g) (v*p.vars.length+i) (nP p g-(v*p.vars.length+i)):Nat)),(10,.int .i64 ((i:Int)-1))])
    (fun own i=>J1I own 5 (.vec p.vars.length 1 (J98 p g v i))) (fun m i=>m=i/\i<=p.vars.length) p.vars.length p.vars.length ⟨rfl,Nat.le_refl _⟩ rfl (fun _=>rfl) ?_ ?_
   . have e2:(v+1)*p.vars.length=v*p.vars.length+p.vars.length:=by rw[Nat.add_mul,Nat.one_mul]
     refine J0f (fun _ _=>[(0,some 0),(1,some 1),(2,some 2),(3,some 3),(4,some 4),(5,some 5)]) ?_ ?_ rfl
     . repeat' (first|exact J0a.int (by rw[e2])|exact True.intro|(refine⟨⟨_,rfl,?_⟩,?_⟩)|exact J0a.kf rfl|exact J0a.loc rfl)
     . repeat' (first|exact⟨rfl,rfl,⟨rfl,rfl,True.intro⟩,fun i hi=>rfl,fun i j t hi hn hj ht=>VLe.rfl⟩|(refine⟨Nat.le_refl _,rfl,fun i j hi hj=>VLe.of_eq ?_⟩;rw[J98,if_pos hi];(obtain rfl:j=0:=(by omega));rfl)|exact True.intro|(refine⟨⟨_,rfl,?_⟩,?_⟩)|exact J0a.kf rfl|exact J0a.vec rfl rfl rfl|(refine⟨Nat.le_refl _,rfl,fun i j hi hj=>?_⟩)|exact VLe.rfl|(refine And.intro ?_ ?_))
   rintro m i ⟨hm,hi⟩;rcases Nat.eq_zero_or_pos i with h1|h1
   . subst h1
     repeat' ((conv=>whnf);first|(refine Br.ff ?_)|(refine Ar.i64 (by omega) (by omega) ?_))
     all_goals (conv=>whnf)
     refine⟨_,v,by omega,⟨rfl,by omega⟩,?_⟩;refine J3t.trans (J15 (J1i (q:=5) (k:=3) (i:=v) [] rfl rfl hvn (J0n rfl) (Nat.le_of_eq (if_pos rfl)) rfl (fun j hj=>(J0j (fun e=>hj e.symm)).symm))) ?_ (J6V rfl);have e0:v*p.vars.length+0=v*p.vars.length:=Nat.add_zero _;rcases Nat.eq_zero_or_pos v with h2|h2
     . subst h2;have e1:X5L 0 4=[]:=if_neg (by omega);simp only[e1,if_neg (Nat.lt_irrefl 0)];refine J0f (fun _ _=>[(0,some 0),(1,some 1),(2,some 2),(3,some 3),(4,none)]) ?_ ?_ rfl
       . repeat' (first|exact J0a.int (by rw[e0])|exact True.intro|(refine⟨⟨_,rfl,?_⟩,?_⟩)|exact J0a.kf rfl|exact J0a.loc rfl)
       . repeat' (first|exact⟨rfl,rfl,True.intro,fun i hi=>(Q3j _ _ _).symm,fun i j t hi hn hj ht=>J7Y p g 0 i j t⟩|exact True.intro|(refine⟨⟨_,rfl,?_⟩,?_⟩)|exact J0a.kf rfl|exact J0a.vec rfl rfl rfl|(refine⟨⟨_,_,rfl⟩,?_⟩)|(refine And.intro ?_ ?_))
     . have e1:X5L v 4=[(v-1,4)]:=if_pos h2;simp only[e1,if_pos h2];refine J3t.trans ?_ (J09 (ks:=[4,5,6,7,8,9,10,11,12,13,14,15,16,17,18,19,20,21,22,23,24,25,26,27,28,29]) rfl rfl rfl (show v-1<g.ids.length by omega) rfl) (J2C rfl);refine J0f (fun _ _=>[(0,some 0),(1,some 1),(2,some 2),(3,some 3)]) ?_ ?_ rfl
       . repeat' (first|exact J0a.int (by rw[e0])|exact True.intro|(refine⟨⟨_,rfl,?_⟩,?_⟩)|exact J0a.int (by omega)|exact J0a.loc rfl)
       . repeat' (first|exact⟨rfl,rfl,True.intro,fun i hi=>(Q3j _ _ _).symm,fun i j t hi hn hj ht=>J7Y p g v i j t⟩|exact True.intro|(refine⟨⟨_,rfl,?_⟩,?_⟩)|exact J0a.kf rfl|exact J0a.vec rfl rfl rfl|(refine And.intro ?_ ?_))
   . obtain⟨x,rfl⟩:∃x,i=x+1:=⟨i-1,by omega⟩;have hxm:x<p.vars.length:=by omega
     have hix:=J7L hvn hxm;have hb:=J5U hg (hp.var x hxm) (v:=v) (by omega);have hsz:=J4j hp g hg v hxm;have hst:=Q6d p g hix;have hle:=X3a p g (Nat.le_of_lt hix);have hle2:=X3a p g (show v*p.vars.length+(x+1)<=nP p g from hix);rw[J3D p g hxm] at hst;have hmul:((Mx.pr (szP p g) (v*p.vars.length+(x+1)) (nP p g-(v*p.vars.length+(x+1))):Nat):Int)*((bnd g (gV p.vars x) v).2-(bnd g (gV p.vars x) v).1+1)=(Mx.pr (szP p g) (v*p.vars.length+x) (nP p g-(v*p.vars.length+x)):Nat):=by
      rw[hst,Int.natCast_mul,hsz,Int.mul_comm];rfl
     repeat' ((conv=>whnf);first|(refine Ix.mk x (by omega) (by omega) ?_)|(refine Ix.mk v (by omega) (by omega) ?_)|(refine Ar.i64 (by rw[hmul];omega) (by rw[hmul];omega) ?_;rw[hmul])|(refine Br.dec ?_ ?_<;>intro _<;>try omega)|(refine Ar.i64 (by omega) (by omega) ?_)|(refine Ix.mk 0 rfl (by omega) ?_)|(refine Ix.mk 1 rfl (by omega) ?_)|(refine Ltn.mk (by omega) ?_)|(refine Opn.hdl (by omega) (show J2N _ _ _ _=p.vars.length from if_pos rfl) ?_))
     all_goals (conv=>whnf)
     refine⟨_,x,by omega,⟨rfl,by omega⟩,?_⟩;refine J0f (fun _ _=>[(0,some 0),(1,some 1),(2,some 2),(3,some 3),(4,some 4),(5,some 5)]) ?_ ?_ rfl
     . repeat' (first|exact True.intro|(refine⟨⟨_,rfl,?_⟩,?_⟩)|exact J0a.kf rfl|exact J0a.int (by omega)|exact J0a.loc rfl)
     . repeat' (first|exact⟨rfl,rfl,⟨rfl,rfl,True.intro⟩,fun i hi=>rfl,fun i j t hi hn hj ht=>VLe.rfl⟩|exact Q5V _ _ _ _ _ _ _ (Nat.zero_add _) hj _ rfl|exact True.intro|(refine⟨⟨_,rfl,?_⟩,?_⟩)|exact J0a.kf rfl|exact J0a.vec rfl rfl rfl|(refine⟨Nat.le_refl _,rfl,fun i j hi hj=>?_⟩)|exact VLe.rfl|(refine And.intro ?_ ?_))
abbrev cF (c:Cf):Nat->Nat->Int:=fun v x=>gI (gC c v) x
theorem Q13 {p:Pr} {g:G} {c:Cf} (hc:J1s p g c) (F:Nat->Nat->Nat->V) (hF:∀i j,VLe (F i j 0) (J3j (cF c) i j 0)):VLe (.fz g.ids.length 1 false fun i _=>.fz (Q4v p i) 1 false (F i)) (cV c):=by
 refine VLe.fz hc.len.symm (fun h=>h) (fun i j hi hj=>?_);refine VLe.fz ?_ (fun h=>h) (fun a b ha hb=>?_)
 . rw[hc.row i (by rw[hc.len];exact hi)];rfl
 . obtain rfl:b=0:=by omega
   exact hF i a
theorem X2U (c:Cf) (v i j:Nat):VLe (J3n (J3j (cF c)) v (J3j (cF c) v) i j 0) (J3j (cF c) i j 0):=J3G _ _ _ _ _
set_option maxHeartbeats 8000000 in
theorem Q9R (p:Pr) (hp:J2I p) (g:G) (hg:g.valid=true) (c:Cf) (hc:J1s p g c) (v:Nat) (hv:v<g.ids.length) (r:Nat) (hr:r<p.rules.length) :
 J0J Tryz.prog 66 [mvP p g,.vec 0 1 0 g.ids.length,.int .i64 v,.int .i64 r] [(0,J8m p g (cF c) [])] KS.tail fun X own' _=>X=.vec 1 1 0 p.vars.length/\own'=[(1,.vec p.vars.length 1 (vI (J27 p g c v r))),(0,J8m p g (cF c) [])]:=by
 obtain⟨f1,f2,f3,f4,f5,f6,f7⟩:=J0e hg;have hcl:=hc.len;have hrow:=hc.row v (by omega);have hvl:=hp.vlen;have hsl:=hp.slen r hr;have hlm:Q4v p v=p.vars.length:=rfl;refine J1q (J3P ?_);refine J7u 28 0 v rfl rfl hv rfl ?_;show J0J Tryz.prog _ _ [(28,.vec (Q4v p v) 1 (J3j (cF c) v)),(0,J8m p g (cF c) [(v,28)])] [1,2,3,4,5,6,7,8,9,10,11,12,13,14,15,16,17,18,19,20,21,22,23,24,25,26,27,29] _;refine J0d J0b Tryz.func66 rfl hc66 hr66 rfl ?_
 repeat' ((conv=>whnf);first|(refine Ix.nat (by omega) ?_)|(refine Len.mk (by omega) ?_)|(refine Ltn.mk (by omega) ?_)|(refine Opn.hd (by omega) ?_))
 all_goals (conv=>whnf)
 refine J02 J0b [0,1,2,9,26,27] [] [2,3,4,5,6,7,8,9,10,11,12,13,14,15,16,17,18,19,20,21,22,23,24,25,26,27,29] [1,28,0] (fun j:Nat=>[(28,.int .i64 j)]) (fun own j=>J1I own 1 (.vec (Q4v p v) 1 (vI (X1s p g c v ((gRl p.rules r).sets.take j))))) (fun m j=>m=(gRl p.rules r).sets.length-j/\j<=(gRl p.rules r).sets.length) (gRl p.rules r).sets.length 0 ⟨rfl,Nat.zero_le _⟩ rfl (fun _=>rfl) ?_ ?_
 . refine J0f (fun _ _=>[(0,some 0),(1,some 1),(28,some 28)]) ?_ ?_ rfl
   . repeat' (first|exact True.intro|(refine⟨⟨_,rfl,?_⟩,?_⟩)|exact J0a.kf rfl|exact J0a.vec rfl rfl rfl)
   . repeat' (first|exact⟨rfl,rfl,⟨rfl,rfl,True.intro⟩,fun i hi=>rfl,fun i j t hi hn hj ht=>VLe.rfl⟩|exact VLe.of_eq (by rw[J0E,Nat.zero_add];rfl)|exact True.intro|(refine⟨⟨_,rfl,?_⟩,?_⟩)|(refine⟨Nat.le_refl _,rfl,fun i j hi hj=>?_⟩)|exact VLe.rfl)
 rintro m j ⟨hm,hj⟩;have hpl:=J80 p g c v ((gRl p.rules r).sets.take j);by_cases hjl:j<(gRl p.rules r).sets.length
 . obtain⟨s1,s2,s3⟩:=hp.set r hr j hjl;simp only[Tm.okB,Bool.and_eq_true,decide_eq_true_eq] at s3;have hval:=Q34 p.pg g hg (hc.fit hp hg) v (by omega) (gS (gRl p.rules r).sets j).2 s3.2 s3.1;have hbr:=X01 (gV p.vars (gS (gRl p.rules r).sets j).1.toNat).kind (bnd g (gV p.vars (gS (gRl p.rules r).sets j).1.toNat) v).1 (bnd g (gV p.vars (gS (gRl p.rules r).sets j).1.toNat) v).2 ((gS (gRl p.rules r).sets j).2.sem g c v (-1))
   repeat' ((conv=>whnf);first|(refine Br.dec ?_ ?_<;>intro _<;>try omega)|(refine Ar.i64 (by omega) (by omega) ?_)|(refine Ix.nat (by omega) ?_)|(refine Ix.int (by omega) (by omega) ?_)|(refine Ltn.mk (by omega) ?_)|(refine J0F hval rfl ⟨Nat.le_refl _,Nat.le_refl _,VLe.rfl,Q13 hc _ (fun i j=>X2U c v i j),VLe.rfl,VLe.rfl,True.intro⟩ ?_)|(refine hbr.go ?_)|(refine And.intro rfl ?_))
   all_goals (conv=>whnf)
   refine⟨(gRl p.rules r).sets.length-(j+1),j+1,by omega,⟨rfl,by omega⟩,?_⟩;simp only[X3O _ j hjl,Q6a];refine J0f (fun _ _=>[(0,some 0),(1,some 1),(28,some 28)]) ?_ ?_ rfl
   . repeat' (first|exact True.intro|(refine⟨⟨_,rfl,?_⟩,?_⟩)|exact J0a.kf rfl|exact J0a.vec rfl rfl rfl)
   . repeat' (first|exact⟨rfl,rfl,⟨rfl,rfl,True.intro⟩,fun i hi=>rfl,fun i j t hi hn hj ht=>VLe.rfl⟩|exact⟨Nat.le_refl _,rfl,fun i t hi ht=>by simp only[Nat.zero_add];exact Q84 _ _ _ _ _ (by rw[J80];omega) ht⟩|exact True.intro|(refine⟨⟨_,rfl,?_⟩,?_⟩)|(refine⟨Nat.le_refl _,rfl,fun i j hi hj=>?_⟩)|exact VLe.rfl)
 . repeat' ((conv=>whnf);first|(refine Br.dec ?_ ?_<;>intro _<;>try omega))
   all_goals (conv=>whnf)
   have et:(gRl p.rules r).sets.take j=(gRl p.rules r).sets:=List.take_of_length_le (by omega);exact⟨_,J1i (q:=28) (k:=0) (i:=v) [] rfl rfl hv (J0n rfl) (Nat.le_refl _) rfl (fun j hj=>(J0j (fun e=>hj e.symm)).symm),J1m (fun _=>[(1,some 1),(0,some 0)]) _ _ ⟨rfl,rfl⟩ (J0a.vec rfl rfl rfl) (by repeat' (first|(refine⟨rfl,rfl,True.intro,fun i hi=>rfl,fun i j t hi hn hj ht=>J3G _ _ _ _ _⟩)|(refine⟨Nat.le_refl _,rfl,fun i j hi hj=>(by rw[et];exact VLe.rfl)⟩)|exact True.intro|(refine⟨⟨_,rfl,?_⟩,?_⟩))) rfl⟩
end Go.Proofs.YtlpfphlbghdokaaGreatDoor
namespace Go.Plain
abbrev St:=Nat->Bool
structure Adj (n:Nat) (a:Nat->Nat->Bool):Prop where
 sym:∀u v,u<n->v<n->a u v=true->a v u=true
 irr:∀v,v<n->a v v=false
 rng:∀u v,u<n->a u v=true->v<n
def nbM (n:Nat) (a:Nat->Nat->Bool) (m:St) (v:Nat):Bool:=(List.range n).any fun u=>a v u&&m u
def enI (n:Nat) (a:Nat->Nat->Bool) (m:St) (v:Nat):Bool:=match m v with|true=>nbM n a m v|false=>!nbM n a m v
def stI (s m:St):St:=fun v=>match s v with|true=>!m v|false=>m v
variable {n:Nat} {a:Nat->Nat->Bool} {m s:St}
def left (n:Nat) (a:Nat->Nat->Bool) (m p s:St):St:=fun v=>p v&&!s v&&enI n a (stI s m) v
end Go.Plain
namespace Go.Proofs.YtlpfphlbghdokaaGreatDoor
open Go.Eng
set_option maxRecDepth 100000
set_option linter.unusedVariables false
theorem J2b (b:Bool):(J1G b≠0)↔b=true:=by cases b<;>simp[J1G]
theorem Q3n (b:Bool):(J1G b=0)↔b=false:=by cases b<;>simp[J1G]
abbrev adN (g:G):Nat->Nat->Bool:=adj g
theorem J9z {g:G} (hg:g.valid=true):Go.Plain.Adj g.ids.length (adN g):=by
 obtain⟨f1,f2,f3,f4,f5,f6,f7⟩:=J0e hg;refine⟨fun u v hu hv h=>Q8I hg (by omega) h,fun v hv=>Q8J hg (by omega),fun u v hu h=>?_⟩;obtain⟨l,hl,e⟩:=J2H.1 h;have:=(J1k.1 (f6 u (by omega))).1 l hl;omega
theorem Q2b (l:List Int):0<J7m l↔∃a∈l,a≠0:=by
 rw[J7m,List.countP_pos_iff];simp only[decide_eq_true_eq]
theorem Q7q {l:List (Int×Int)} {a:Int×Int} (h:a∈l):∃i,i<l.length/\gF l i=a:=by
 obtain⟨i,hi,e⟩:=List.mem_iff_getElem.1 h;exact⟨i,hi,by simp[gF,List.getD,hi,e]⟩
end Go.Proofs.YtlpfphlbghdokaaGreatDoor
namespace Go.Proofs.YtlpfphlbghdokaaGreatDoor
open Go.Eng Go.Plain
set_option maxRecDepth 100000
set_option linter.unusedVariables false
end Go.Proofs.YtlpfphlbghdokaaGreatDoor
namespace Go.Proofs.YtlpfphlbghdokaaGreatDoor
open Go.Eng Go.Plain
set_option maxRecDepth 100000
set_option linter.unusedVariables false
set_option linter.unusedSectionVars false
section
variable {p:Pr} (hp:J2I p) {g:G} (hg:g.valid=true) {kd:Int} (hk:dk kd=true) {leg:Cf->Bool} {R M:Int} {Inv:Cf->Cnt->Prop} (hS:Srv p g kd leg R M Inv) (he:∀c,(chs g kd (enN p g c)).2=0)
include hp hg hk he
theorem Q2S {k s:Nat} (hs:s∈(chs g kd (enN p g (cfK p g k))).1):J7B p g kd (cfK p g k) s:=by
 have h32:=Q4K p hg (cfK p g k);have h24:=X0q p hg (cfK p g k);have h1:=(J7q hk h32 (J43 h32 s hs) (he _)).1 hs;obtain⟨a,b,c⟩:=J2D.1 h1;have hpt:=(J1M (J43 h32 s hs)).1 b;exact⟨a,hpt,c,Nat.lt_of_le_of_lt hpt.le h24⟩
theorem X08 {k:Nat} {a:Nat×Nat} (ha:a∈(J5D p g kd).ar k):J7B p g kd (cfK p g k) a.1/\a.2=rkC p g (J0R p g (cfK p g k) a.1)/\J1s p g (J0R p g (cfK p g k) a.1):=by
 have ha:a∈J7P p g kd k:=ha;rw[J7P] at ha;obtain⟨s,hs,rfl⟩:=List.mem_map.1 ha;have h:=Q2S hp hg hk he hs;exact⟨h,rfl,J17 hp hg (J1T hp hg k) h.part⟩
end
end Go.Proofs.YtlpfphlbghdokaaGreatDoor
namespace Go.Proofs.YtlpfphlbghdokaaGreatDoor
open Go.Eng Go.Plain
set_option maxRecDepth 100000
set_option linter.unusedVariables false
def gwF (p:Pr) (g:G) (c:Cf) (v x:Nat):Nat->Nat->V:=fun u _=>.int .i64 (if u<v then gwK p g c u else if u=v then gwS p g c v x else 0)
theorem X3H (p:Pr) (g:G) (c:Cf) (u j:Nat) (F:Nat->Nat->V) (hF:F u j=.int .i64 0):VLe (F u j) (gwF p g c 0 0 u j):=by
 apply VLe.of_eq;rw[hF,gwF];by_cases h:u=0
 . subst h;rfl
 . rw[if_neg (by omega),if_neg h]
theorem X3J (p:Pr) (g:G) (c:Cf) (v u j:Nat) (h:¬ 0<=J0U p g c v):VLe (gwF p g c v 0 u j) (gwF p g c (v+1) 0 u j):=by
 apply VLe.of_eq;rw[gwF,gwF];congr 1;by_cases h1:u<v
 . rw[if_pos h1,if_pos (by omega)]
 . rw[if_neg h1];by_cases h2:u=v
   . subst h2;rw[if_pos rfl,if_pos (by omega),gwK,if_neg h];rfl
   . rw[if_neg h2,if_neg (by omega)];by_cases h3:u=v+1
     . rw[if_pos h3];rfl
     . rw[if_neg h3]
theorem X6d (p:Pr) (g:G) (c:Cf) (v u j:Nat) (h:0<=J0U p g c v):VLe (gwF p g c v p.vars.length u j) (gwF p g c (v+1) 0 u j):=by
 apply VLe.of_eq;rw[gwF,gwF];congr 1;by_cases h1:u<v
 . rw[if_pos h1,if_pos (by omega)]
 . rw[if_neg h1];by_cases h2:u=v
   . subst h2;rw[if_pos rfl,if_pos (by omega),gwK,if_pos h]
   . rw[if_neg h2,if_neg (by omega)];by_cases h3:u=v+1
     . rw[if_pos h3];rfl
     . rw[if_neg h3]
theorem X3I (p:Pr) (g:G) (c:Cf) (v v' x u j:Nat) (hv:v'=v) (hj:j<1) (a:Int) (ha:a=gwS p g c v (x+1)):VLe (J0L (gwF p g c v x) v' 0 [.int .i64 a] u j) (gwF p g c v (x+1) u j):=by
 obtain rfl:j=0:=by omega
 subst hv ha;apply VLe.of_eq;by_cases h:u=v'
 . subst h;simp[J0L,gwF]
 . simp[J0L,gwF,h]
def arX (cl:List Nat) (T:Nat->Nat) (i m:Nat) (t:Int):Nat->Nat->V:=fun q j=>match j with
 | 0=>.int .u32 (if q<m then gN cl q else 0:Nat)
 | _+1=>.int .i64 (if q<i then (T (gN cl q):Int) else if q=i then t else 0)
theorem X09 (cl:List Nat) (T:Nat->Nat) (q j:Nat) (hj:j<2):VLe ((fun(_ j:Nat)=>[V.int .u32 0,V.int .i64 0].getD j default) q j) (arX cl T 0 0 0 q j):=by
 apply VLe.of_eq;rcases j with _|_|j
 . rfl
 . show V.int .i64 0=V.int .i64 _;congr 1;rw[if_neg (by omega)];by_cases h:q=0
   . rw[if_pos h]
   . rw[if_neg h]
 . omega
theorem X4G (cl:List Nat) (T:Nat->Nat) (i i' q j:Nat) (hi:i'=i) (hj:j<2) (s k:Int) (hs:s=(gN cl i:Nat)):VLe (J0L (arX cl T i i 0) i' 0 [.int .u32 s,.int .i64 k] q j) (arX cl T i (i+1) k q j):=by
 subst hi hs;apply VLe.of_eq;by_cases h:q=i'
 . subst h;rcases j with _|_|j
   . simp[J0L,arX]
   . simp[J0L,arX]
   . omega
 . rcases j with _|_|j
   . have:(q<i'+1)=(q<i'):=by simp;omega
     simp[J0L,arX,h,this]
   . simp[J0L,arX,h]
   . omega
theorem X6Y (cl:List Nat) (T:Nat->Nat) (i i' q j j':Nat) (hi:i'=i) (hj':j'=1) (hj:j<2) (t t':Int):VLe (J0L (arX cl T i (i+1) t) i' j' [.int .i64 t'] q j) (arX cl T i (i+1) t' q j):=by
 subst hi hj';apply VLe.of_eq;by_cases h:q=i'
 . subst h;rcases j with _|_|j
   . simp[J0L,arX]
   . simp[J0L,arX]
   . omega
 . rcases j with _|_|j
   . simp[J0L,arX,h]
   . simp[J0L,arX,h]
   . omega
theorem X1a (cl:List Nat) (T:Nat->Nat) (i q j:Nat) (t:Int) (ht:t=(T (gN cl i):Nat)):VLe (arX cl T i (i+1) t q j) (arX cl T (i+1) (i+1) 0 q j):=by
 subst ht;apply VLe.of_eq;rcases j with _|j
 . rfl
 . show V.int .i64 _=V.int .i64 _;congr 1;by_cases h:q<i
   . rw[if_pos h,if_pos (by omega)]
   . rw[if_neg h];by_cases h2:q=i
     . rw[if_pos h2,if_pos (by omega),h2]
     . rw[if_neg h2,if_neg (by omega)];by_cases h3:q=i+1
       . rw[if_pos h3]
       . rw[if_neg h3]
theorem X4H (cl:List Nat) (T:Nat->Nat) (q j:Nat) (hq:q<cl.length):VLe (arX cl T cl.length cl.length 0 q j) (vAr (cl.map fun s=>(s,T s)) q j):=by
 apply VLe.of_eq;have hg:gA (cl.map fun s=>(s,T s)) q=(gN cl q,T (gN cl q)):=by
  simp[gA,gN,List.getD_eq_getElem?_getD,List.getElem?_eq_getElem hq]
 rcases j with _|j
 . show V.int .u32 _=V.int .u32 _;rw[hg,if_pos hq]
 . show V.int .i64 _=V.int .i64 _;rw[hg,if_pos hq]
theorem Q9S {p:Pr} (hp:J2I p) {g:G} (hg:g.valid=true) {c:Cf} (hc:J1s p g c) {v x:Nat} (hv:v<g.ids.length) (hx:x<p.vars.length) (hr:0<=J0U p g c v) :
 (bnd g (gV p.vars x) v).1<=gI (J27 p g c v (J0U p g c v).toNat) x/\gI (J27 p g c v (J0U p g c v).toNat) x<=(bnd g (gV p.vars x) v).2:=by
 have hcl:=hc.len;have hs:J19 (2 ^ v) (enN p g c):=fun i hi=>by
  have e:=Q1J hi;rw[J4g,Bool.and_eq_true,decide_eq_true_eq,decide_eq_true_eq,<- e];exact⟨hv,hr⟩
 have hd:=J17 hp hg hc hs;have hrow:=J2z p g c (2 ^ v) (v:=v) (by omega);rw[Nat.testBit_two_pow_self,if_pos rfl] at hrow;have h2:=hd.val v (by rw[J25];omega) x hx;rw[hrow] at h2;exact h2
set_option maxHeartbeats 16000000 in
theorem Q5G (p:Pr) (hp:J2I p) (g:G) (hg:g.valid=true) (kd:Int) (hk:dk kd=true) (hn:J1e p g<=32768) (c:Cf) (hc:J1s p g c) (he:(chs g kd (enN p g c)).2=0) :
 J0J Tryz.prog 30 [bP p g kd,.vec 0 1 0 g.ids.length,.int .i64 (rkC p g c)] [(999,GB),(0,J8m p g (cF c) [])] KS.tail fun X own' _=>X=.tup [.int .u32 (enN p g c),.vec 1 2 0 (chs g kd (enN p g c)).1.length,.int .i64 0] /\
  own'=[(1,.vec (chs g kd (enN p g c)).1.length 2 (vAr ((chs g kd (enN p g c)).1.map fun s=>(s,rkC p g (J0R p g c s))))),(999,GB),(0,J8m p g (cF c) [])]:=by
 obtain⟨f1,f2,f3,f4,f5,f6,f7⟩:=J0e hg;have hcl:=hc.len;have hvl:=hp.vlen;refine J1q ?_;refine J0d J0b Tryz.func30 rfl hc30 hr30 rfl ?_
 repeat' ((conv=>whnf);first|fail)
 all_goals (conv=>whnf)
 refine J02 J0b [0,1,2,10,21,22] [] [2,3,4,5,6,7,8,9,10,11,12,13,14,15,16,17,18,19,20,21,22,23,24,25,26,27,28,29] [1,999,0] (fun v:Nat=>[(9,.int .u32 (nb (fun u=>decide (0<=J0U p g c u)) v)),(23,.int .i64 v)]) (fun own v=>J1I own 1 (.vec 24 1 (gwF p g c v 0))) (fun m v=>m=g.ids.length-v/\v<=g.ids.length) g.ids.length 0 ⟨rfl,Nat.zero_le _⟩ rfl (fun _=>rfl) ?_ ?_
 . refine J0f (fun _ _=>[(0,some 0),(1,some 1),(999,some 999)]) ?_ ?_ rfl
   . repeat' (first|exact True.intro|exact J0a.oel rfl rfl|(refine⟨⟨_,rfl,?_⟩,?_⟩)|exact J0a.kf rfl|exact J0a.vec rfl rfl rfl)
   . repeat' (first|exact⟨rfl,rfl,True.intro,fun i hi=>rfl,fun i j t hi hn hj ht=>VLe.rfl⟩|exact X3H p g c i j (fun _ _=>.int .i64 0) rfl|exact True.intro|exact⟨rfl,rfl,rfl⟩|(refine⟨⟨_,rfl,?_⟩,?_⟩)|(refine⟨Nat.le_refl _,rfl,fun i j hi hj=>?_⟩))
 rintro m v ⟨hm,hv⟩;by_cases hvn:v<g.ids.length
 . have hru:=Q5P p hp g hg c hc v (by omega);by_cases hr0:0<=J0U p g c v
   . have hrl:=Q2X p g c v;have hmo:=Q9R p hp g hg c hc v hvn (J0U p g c v).toNat (by omega);rw[show(((J0U p g c v).toNat:Nat):Int)=J0U p g c v by omega] at hmo
     repeat' ((conv=>whnf);first|(refine Br.dec ?_ ?_<;>intro _<;>try omega)|(refine Ar.sh1 (by omega) ?_)|(refine Sv.mk _ rfl ?_)|(refine Nn.mk (by omega) ?_)|(refine J0F hru rfl ⟨Nat.le_refl _,VLe.rfl,Q13 hc _ (fun i j=>VLe.rfl),VLe.rfl,True.intro⟩ ?_)|(refine J10 [(0,some 0)] [1] (hmo.mono ?_) ⟨J0a.kf rfl,J0a.vec rfl rfl rfl,J0a.kf rfl,J0a.kf rfl,True.intro⟩ (by repeat' (first|(refine⟨rfl,rfl,True.intro,fun i hi=>rfl,fun i j t hi hn hj ht=>VLe.rfl⟩)|exact True.intro|(refine⟨⟨_,rfl,?_⟩,?_⟩))) rfl;rintro _ _ _ ⟨rfl,rfl⟩)|(refine Chk.mk rfl ?_))
     all_goals (conv=>whnf)
     refine J1v J0b [0,1,2,9,10,11,21,22,23,46,47] [3] [4,5,6,7,8,9,10,11,12,13,14,15,16,17,18,19,20,21,22,23,24,25,26,27,28,29] [3,2,1,999,0] (fun x:Nat=>[(48,.int .i64 x)]) (fun x=>(3,.vec (Q4v p v) 1 (J3j (cF c) v))::J1I [(2,.vec p.vars.length 1 (vI (J27 p g c v (J0U p g c v).toNat))),(1,.vec 24 1 (gwF p g c v x)),(999,GB),(0,J8m p g (cF c) [])] 0 (J8m p g (cF c) [(v,3)])) (fun m x=>m=p.vars.length-x/\x<=p.vars.length) p.vars.length 0 ⟨rfl,Nat.zero_le _⟩ rfl (fun _=>rfl) ?_ ?_
     . refine J3t.trans ?_ (J09 (own:=[(2,.vec p.vars.length 1 (vI (J27 p g c v (J0U p g c v).toNat))),(1,.vec 24 1 (gwF p g c v 0)),(999,GB),(0,J8m p g (cF c) [])]) (ks:=[3,4,5,6,7,8,9,10,11,12,13,14,15,16,17,18,19,20,21,22,23,24,25,26,27,28,29]) rfl rfl rfl hvn rfl) (J2C rfl);refine J0f (fun _ _=>[(0,some 0),(1,some 1),(2,some 2),(999,some 999)]) ?_ ?_ rfl
       . repeat' (first|exact True.intro|exact J0a.oel rfl rfl|(refine⟨⟨_,rfl,?_⟩,?_⟩)|exact J0a.kf rfl|exact J0a.vec rfl rfl rfl)
       . repeat' (first|exact⟨rfl,rfl,True.intro,fun i hi=>rfl,fun i j t hi hn hj ht=>VLe.rfl⟩|exact True.intro|exact⟨rfl,rfl,rfl⟩|(refine⟨⟨_,rfl,?_⟩,?_⟩)|(refine⟨Nat.le_refl _,rfl,fun i j hi hj=>?_⟩)|exact VLe.rfl)
     rintro m2 x ⟨hm2,hx⟩;have hlm:Q4v p v=p.vars.length:=rfl;by_cases hxn:x<p.vars.length
     . have hgx:=Q7j hp hg hc hvn hxn hr0 hn;have hgs:=Q1W hp hg hc hvn hr0 hn (x:=x) (by omega);have hgs2:=Q1W hp hg hc hvn hr0 hn (x:=x+1) (by omega);have hb1:=hc.val v (by omega) x hxn;have hmi:=Q9S hp hg hc hvn hxn hr0;have hbi:=J5U hg (hp.var x hxn) (v:=v) (by omega);have hmz:gI (J27 p g c v (J0U p g c v).toNat) (0+x)=gI (J27 p g c v (J0U p g c v).toNat) x:=by rw[Nat.zero_add]
       have hcv:cF c v (0+x)=gI (gC c v) x:=by rw[Nat.zero_add]
       have hmulx:(gI (J27 p g c v (J0U p g c v).toNat) (0+x)-cF c v (0+x))*(plP p g v x:Nat)=gwX p g c v x:=by rw[Nat.zero_add];rfl
       have hsum:(if v<v then gwK p g c v else if v=v then gwS p g c v x else 0)+gwX p g c v x=gwS p g c v (x+1):=by
        rw[if_neg (Nat.lt_irrefl _),if_pos rfl];rfl
       repeat' ((conv=>whnf);first|(refine Ar.i64 (by rw[hmulx];omega) (by rw[hmulx];omega) ?_;rw[hmulx])|(refine Ar.i64 (by rw[hsum];omega) (by rw[hsum];omega) ?_;rw[hsum])|(refine Br.dec ?_ ?_<;>intro _<;>try omega)|(refine Ar.i64 (by omega) (by omega) ?_)|(refine Ix.nat (by omega) ?_)|(refine Ltn.mk (by omega) ?_)|(refine Opn.hd (by omega) ?_))
       all_goals (conv=>whnf)
       refine⟨_,x+1,by omega,⟨rfl,by omega⟩,?_⟩;refine J0f (fun _ _=>[(0,some 0),(1,some 1),(2,some 2),(3,some 3),(999,some 999)]) ?_ ?_ rfl
       . repeat' (first|exact True.intro|exact J0a.oel rfl rfl|(refine⟨⟨_,rfl,?_⟩,?_⟩)|exact J0a.kf rfl|exact J0a.vec rfl rfl rfl)
       . repeat' (first|exact⟨rfl,rfl,⟨rfl,rfl,True.intro⟩,fun i hi=>rfl,fun i j t hi hn hj ht=>VLe.rfl⟩|exact X3I _ _ _ _ _ _ _ _ rfl hj _ rfl|exact True.intro|exact⟨rfl,rfl,rfl⟩|(refine⟨⟨_,rfl,?_⟩,?_⟩)|(refine⟨Nat.le_refl _,rfl,fun i j hi hj=>?_⟩)|exact VLe.rfl)
     . repeat' ((conv=>whnf);first|(refine Br.dec ?_ ?_<;>intro _<;>try omega)|(refine Ar.i64 (by omega) (by omega) ?_))
       all_goals (conv=>whnf)
       have ex:x=p.vars.length:=by omega
       have hx:=X5T (p:=fun u=>decide (0<=J0U p g c u)) (k:=v) (by omega) (decide_eq_true hr0);refine⟨_,v+1,by omega,⟨rfl,by omega⟩,?_⟩;refine J3t.trans (J15 (J1i (q:=3) (k:=0) (i:=v) [] rfl rfl hvn (J0n rfl) (Nat.le_refl _) rfl (fun j hj=>(J0j (fun e=>hj e.symm)).symm))) ?_ (J6V rfl);refine J0f (fun _ _=>[(0,some 0),(1,some 1),(999,some 999)]) ?_ ?_ rfl
       . repeat' (first|exact J0a.int hx|exact True.intro|exact J0a.oel rfl rfl|(refine⟨⟨_,rfl,?_⟩,?_⟩)|exact J0a.kf rfl|exact J0a.vec rfl rfl rfl)
       . repeat' (first|exact⟨rfl,rfl,True.intro,fun i hi=>rfl,fun i j t hi hn hj ht=>J3G _ _ _ _ _⟩|(rw[ex];exact X6d _ _ _ _ _ _ hr0)|exact True.intro|exact⟨rfl,rfl,rfl⟩|(refine⟨⟨_,rfl,?_⟩,?_⟩)|(refine⟨Nat.le_refl _,rfl,fun i j hi hj=>?_⟩))
   . repeat' ((conv=>whnf);first|(refine Br.dec ?_ ?_<;>intro _<;>try omega)|(refine Ar.i64 (by omega) (by omega) ?_)|(refine J0F hru rfl ⟨Nat.le_refl _,VLe.rfl,Q13 hc _ (fun i j=>VLe.rfl),VLe.rfl,True.intro⟩ ?_))
     all_goals (conv=>whnf)
     have hx:=X5U (p:=fun u=>decide (0<=J0U p g c u)) (k:=v) (decide_eq_false hr0);refine⟨_,v+1,by omega,⟨rfl,by omega⟩,?_⟩;refine J0f (fun _ _=>[(0,some 0),(1,some 1),(999,some 999)]) ?_ ?_ rfl
     . repeat' (first|exact J0a.int (by rw[hx])|exact True.intro|exact J0a.oel rfl rfl|(refine⟨⟨_,rfl,?_⟩,?_⟩)|exact J0a.kf rfl|exact J0a.vec rfl rfl rfl)
     . repeat' (first|exact⟨rfl,rfl,True.intro,fun i hi=>rfl,fun i j t hi hn hj ht=>VLe.rfl⟩|exact X3J _ _ _ _ _ _ hr0|exact True.intro|exact⟨rfl,rfl,rfl⟩|(refine⟨⟨_,rfl,?_⟩,?_⟩)|(refine⟨Nat.le_refl _,rfl,fun i j hi hj=>?_⟩))
 . have ev:v=g.ids.length:=by omega
   subst ev;have h32:=Q4K p hg c;have hch:=Q1R g hg kd (enN p g c) h32 (Q7G p hg c);rw[he] at hch;have hcl2:=X4l (g:=g) (k:=kd) h32;have hcm:∀s,s∈(chs g kd (enN p g c)).1->s<4294967296/\J19 s (enN p g c):=fun s hs=>⟨J43 h32 s hs,(J1M (J43 h32 s hs)).1 (J2D.1 ((J7q hk h32 (J43 h32 s hs) he).1 hs)).2.1⟩;change RG _ [_,_,.int .u32 (nb (fun u=>decide (0<=J0U p g c u)) g.ids.length:Nat)] _ at hch;generalize (chs g kd (enN p g c)).1=cl at *
   repeat' ((conv=>whnf);first|(refine Br.ff ?_)|(refine Br.dec ?_ ?_<;>intro _<;>try omega)|(refine Bd.nat (by omega) ?_)|(refine Len.mk (by omega) ?_)|(refine hch.gog ?_))
   all_goals (conv=>whnf)
   refine J1v J0b [2,9,10,17,99,100] [] [4,5,6,7,8,9,10,11,12,13,14,15,16,17,18,19,20,21,22,23,24,25,26,27,28,29] [3,2,1,999,0] (fun i:Nat=>[(101,.int .i64 i)]) (fun i=>[(3,.cells [.vec 2 2 0 cl.length]),(2,.vec cl.length 2 (arX cl (fun s=>rkC p g (J0R p g c s)) i i 0)),(1,.vec 24 1 (gwF p g c g.ids.length 0)),(999,GB),(0,J8m p g (cF c) [])]) (fun m i=>m=cl.length-i/\i<=cl.length) cl.length 0 ⟨rfl,Nat.zero_le _⟩ rfl (fun _=>rfl) ?_ ?_
   . refine J0f (fun _ _=>[(0,some 0),(1,some 1),(2,some 2),(3,some 3),(999,some 999)]) ?_ ?_ rfl
     . repeat' (first|exact True.intro|exact J0a.oel rfl rfl|(refine⟨⟨_,rfl,?_⟩,?_⟩)|exact J0a.kf rfl|exact J0a.loc rfl)
     . repeat' (first|exact⟨rfl,rfl,True.intro,fun i hi=>rfl,fun i j t hi hn hj ht=>VLe.rfl⟩|exact X09 _ _ _ _ hj|exact True.intro|exact⟨rfl,rfl,rfl⟩|(refine⟨⟨_,rfl,?_⟩,?_⟩)|exact J0a.vec rfl rfl rfl|(refine⟨Nat.le_refl _,rfl,fun i j hi hj=>?_⟩)|exact VLe.rfl|(refine And.intro ?_ ?_))
   rintro m i ⟨hm2,hi⟩;by_cases hil:i<cl.length
   . obtain⟨s32,spt⟩:=hcm (gN cl i) (X6j hil);generalize hs:gN cl i=s at *
     repeat' ((conv=>whnf);first|(refine Br.dec ?_ ?_<;>intro _<;>try omega)|(refine Ix.nat (by omega) ?_)|(refine Ltn.mk (by omega) ?_)|(refine J0d J0b Tryz.func68 rfl X9U X9f rfl ?_)|(refine J1Y ?_)|(refine Chk.mk (by kernel_rfl) ?_)|(refine J0d J0b Tryz.func108 rfl X3G X3D rfl ?_))
     all_goals (conv=>whnf)
     have hkc:=Q5Z hp hg hc;have hsn:∀u,s.testBit u=true->u<g.ids.length:=fun u hu=>by
      have:=spt u hu;rw[J4g,Bool.and_eq_true,decide_eq_true_eq] at this;exact this.1
     refine J02 J0b [0,1] [] [7,8,9,10,11,12,13,14,15,16,17,18,19,20,21,22,23,24,25,26,27,28,29] [6,5,4,3,2,1,999,0] (fun b:Nat=>[]) (fun own b=>J1I (J1I own 5 (.cells [.int .u32 (upS s b)])) 2 (.vec cl.length 2 (arX cl (fun s=>rkC p g (J0R p g c s)) i (i+1) (toS p g c (rkC p g c) s b)))) (fun m b=>m=g.ids.length-b/\b<=g.ids.length) g.ids.length 0 ⟨rfl,Nat.zero_le _⟩ rfl (fun _=>rfl) ?_ ?_
     . have hx:=J8M s32;have ht0:toS p g c (rkC p g c) s 0=(rkC p g c:Nat):=by rw[toS,J9G];exact Int.add_zero _
       refine J0f (fun _ _=>[(0,some 0),(1,some 1),(2,some 2),(3,some 3),(4,some 4),(5,some 5),(6,some 6),(999,some 999)]) ?_ ?_ rfl
       . repeat' (first|exact J0a.yld rfl|exact True.intro|(refine⟨⟨_,rfl,?_⟩,?_⟩)|exact J0a.loc rfl)
       . repeat' (first|exact⟨rfl,rfl,True.intro,fun i hi=>rfl,fun i j t hi hn hj ht=>VLe.rfl⟩|exact J0a.int (by rw[hx,<- hs])|(refine J0a.fn ?_)|(refine⟨rfl,rfl,rfl,rfl,rfl,?_⟩)|(rw[ht0];exact X4G _ _ _ _ _ _ (Nat.zero_add _) hj _ _ rfl)|exact True.intro|exact J0a.oel rfl rfl|exact⟨rfl,rfl,rfl⟩|(refine⟨⟨_,rfl,?_⟩,?_⟩)|exact J0a.kf rfl|exact J0a.loc rfl|exact J0a.vec rfl rfl rfl|(refine⟨Nat.le_refl _,rfl,fun i j hi hj=>?_⟩)|exact VLe.rfl|(refine And.intro ?_ ?_))
     rintro m3 b ⟨hm3,hb⟩;have hul:=Q2F s b;have hbn:=Q5A hp hg hc hn (k:=rkC p g c) (s:=s) (b:=b) (by omega) hb;by_cases hu:upS s b=0
     . have hte:=X2N hp hg hc spt;rw[Q2J hb (fun u h1 h2=>Q1y s32 hu u h1)] at hte
       repeat' ((conv=>whnf);first|(refine Br.bne ?_ ?_<;>intro _<;>try omega)|(refine Ar.i64 (by omega) (by omega) ?_))
       all_goals (conv=>whnf)
       refine⟨_,i+1,by omega,⟨rfl,by omega⟩,?_⟩;refine J0f (fun _ _=>[(0,some 0),(1,some 1),(2,some 2),(3,some 3),(999,some 999)]) ?_ ?_ rfl
       . repeat' (first|exact True.intro|exact J0a.oel rfl rfl|(refine⟨⟨_,rfl,?_⟩,?_⟩)|exact J0a.kf rfl|exact J0a.loc rfl)
       . repeat' (first|exact⟨rfl,rfl,True.intro,fun i hi=>rfl,fun i j t hi hn hj ht=>VLe.rfl⟩|exact X1a _ _ _ _ _ _ (by rw[hs];exact hte)|exact True.intro|exact⟨rfl,rfl,rfl⟩|(refine⟨⟨_,rfl,?_⟩,?_⟩)|exact J0a.vec rfl rfl rfl|(refine⟨Nat.le_refl _,rfl,fun i j hi hj=>?_⟩)|exact VLe.rfl|(refine And.intro ?_ ?_))
     . obtain⟨v1,v2,v3,v4,v5⟩:=J8N s32 hu;have htz:=X2B _ hu hul;have hr:J4a .and .u32 ((upS s b:Nat):Int) ((upS s b:Nat)-1:Int)=((upS s (ctz (upS s b)+1):Nat):Int):=by
        rw[<- v5,show((upS s b:Nat):Int)-1=((upS s b-1:Nat):Int) by omega,J2h hul (by omega)]
       generalize ctz (upS s b)=v at *;have hvn:=hsn v v3;have hts:=Q9p (p:=p) (g:=g) (c:=c) (k:=rkC p g c) v3;rw[Q2J v2 v4] at hts;have hbn2:=Q5A hp hg hc hn (k:=rkC p g c) (s:=s) (b:=v+1) (by omega) hvn;have hsum:(if 0+i<i then ((rkC p g (J0R p g c (gN cl (0+i))):Nat):Int) else if 0+i=i then toS p g c (rkC p g c) s b else 0)+(if v<g.ids.length then gwK p g c v else if v=g.ids.length then gwS p g c g.ids.length 0 else 0)=toS p g c (rkC p g c) s (v+1):=by
        rw[Nat.zero_add,if_neg (Nat.lt_irrefl _),if_pos rfl,if_pos hvn,hts]
       repeat' ((conv=>whnf);first|(refine Ar.i64 (by rw[hsum];omega) (by rw[hsum];omega) ?_;rw[hsum])|(refine Br.tt ?_)|(refine Br.bne ?_ ?_<;>intro _<;>try omega)|(refine Ar.u32 (by omega) (by omega) ?_)|(refine Sv.mk _ rfl ?_)|(refine Ix.nat (by omega) ?_)|(refine Ltn.mk (by omega) ?_)|(refine htz.gog ?_)|(refine J1B J0b rfl rfl ?_))
       all_goals (conv=>whnf)
       refine⟨_,v+1,by omega,⟨rfl,hvn⟩,?_⟩;refine J0f (fun _ _=>[(0,some 0),(1,some 1),(2,some 2),(3,some 3),(4,some 4),(5,some 5),(6,some 6),(999,some 999)]) ?_ ?_ rfl
       . repeat' (first|exact J0a.yld rfl|exact True.intro|(refine⟨⟨_,rfl,?_⟩,?_⟩)|exact J0a.loc rfl)
       . repeat' (first|exact⟨rfl,rfl,True.intro,fun i hi=>rfl,fun i j t hi hn hj ht=>VLe.rfl⟩|exact J0a.int hr|(refine J0a.fn ?_)|(refine⟨rfl,rfl,rfl,rfl,rfl,?_⟩)|exact X6Y _ _ _ _ _ _ _ (Nat.zero_add _) rfl hj _ _|exact True.intro|exact J0a.oel rfl rfl|exact⟨rfl,rfl,rfl⟩|(refine⟨⟨_,rfl,?_⟩,?_⟩)|exact J0a.kf rfl|exact J0a.loc rfl|exact J0a.vec rfl rfl rfl|(refine⟨Nat.le_refl _,rfl,fun i j hi hj=>?_⟩)|exact VLe.rfl|(refine And.intro ?_ ?_))
   . have ei:i=cl.length:=by omega
     subst ei
     repeat' ((conv=>whnf);first|(refine Br.dec ?_ ?_<;>intro _<;>try omega)|(refine And.intro rfl ?_))
     all_goals (conv=>whnf)
     exact J1m (fun _=>[(0,some 0),(1,some 2),(999,some 999)]) _ _ ⟨rfl,rfl⟩ (J0a.tup ⟨J0a.kf rfl,J0a.vec rfl rfl rfl,J0a.kf rfl,True.intro⟩) (by repeat' (first|(refine⟨rfl,rfl,True.intro,fun i hi=>rfl,fun i j t hi hn hj ht=>VLe.rfl⟩)|(refine⟨Nat.le_refl _,rfl,fun i j hi hj=>X4H _ _ _ _ hi⟩)|exact True.intro|exact⟨rfl,rfl,rfl⟩|(refine⟨⟨_,rfl,?_⟩,?_⟩))) rfl
end Go.Proofs.YtlpfphlbghdokaaGreatDoor
namespace Go.Proofs.YtlpfphlbghdokaaGreatDoor
open Go.Eng Go.Plain
set_option maxRecDepth 100000
set_option linter.unusedVariables false
def X07 (p:Pr) (g:G) (kd:Int) (k:Nat):Nat->Nat->V:=fun i _=>if i<k then arV (J7P p g kd i) else .nilslice
def X30 (p:Pr) (g:G) (k:Nat):Nat->Nat->V:=fun i _=>.int .u32 (if i<k then enN p g (cfK p g i) else 0:Nat)
theorem Q8A (p:Pr) (g:G) (kd:Int) (i j:Nat) (hj:j<1):VLe ((fun(_ j:Nat)=>[V.nilslice].getD j default) i j) (X07 p g kd 0 i j):=by
 obtain rfl:j=0:=by omega
 exact VLe.rfl
theorem Q7D (p:Pr) (g:G) (i j:Nat) (hj:j<1):VLe ((fun(_ j:Nat)=>[V.int .u32 0].getD j default) i j) (X30 p g 0 i j):=by
 obtain rfl:j=0:=by omega
 exact VLe.rfl
theorem X0n (p:Pr) (g:G) (k k' i j:Nat) (hk:k'=k) (hj:j<1):VLe (J0L (X30 p g k) k' 0 [.int .u32 (enN p g (cfK p g k))] i j) (X30 p g (k+1) i j):=by
 obtain rfl:j=0:=by omega
 subst hk;apply VLe.of_eq;by_cases h:i=k'
 . subst h;simp[J0L,X30]
 . have h1:(i<k'+1)=(i<k'):=by simp;omega
   simp[J0L,X30,h,h1]
theorem X06 (p:Pr) (g:G) (kd:Int) (k k' i j:Nat) (X:V) (hX:VLe X (arV (J7P p g kd k))) (hk:k'=k) (hj:j<1):VLe (J0L (X07 p g kd k) k' 0 [X] i j) (X07 p g kd (k+1) i j):=by
 obtain rfl:j=0:=by omega
 subst hk;by_cases h:i=k'
 . subst h;have e1:J0L (X07 p g kd i) i 0 [X] i 0=X:=by simp[J0L]
   have e2:X07 p g kd (i+1) i 0=arV (J7P p g kd i):=by simp[X07]
   rw[e1,e2];exact hX
 . apply VLe.of_eq;have h1:(i<k'+1)=(i<k'):=by simp;omega
   simp[J0L,X07,h,h1]
theorem X6F (p:Pr) (g:G) {v x:Nat} (hv:v<g.ids.length) (hx:x<p.vars.length):loP p g v x=cF (cfK p g 0) v x:=by
 show _=gI (gC (cfK p g 0) v) x;rw[J3N p g 0 hv hx,dgP,Mx.dg_zero];simp
theorem X4F (p:Pr) (g:G) (kd:Int) (k n:Nat) (hn:n=(chs g kd (enN p g (cfK p g k))).1.length):VLe (.fz n 2 false (J0l 0 (vAr ((chs g kd (enN p g (cfK p g k))).1.map fun s=>(s,rkC p g (J0R p g (cfK p g k) s)))))) (arV (J7P p g kd k)):=by
 refine VLe.fz ?_ (fun h=>h) (fun i j hi hj=>VLe.of_eq (by rw[J0E,Nat.zero_add];rfl));rw[hn,J7P,List.length_map]
set_option maxHeartbeats 16000000 in
theorem Q5M (p:Pr) (hp:J2I p) (g:G) (hs:g.Small) (hg:g.valid=true) (kd:Int) (hk:dk kd=true) (hn:J1e p g<=32768) (he:∀c,(chs g kd (enN p g c)).2=0) (ht:(J5D p g kd).tot (J1e p g)<=262144) :
 RG 9 [p.v,g.v,.int .i64 kd] (.tup [(J5D p g kd).v,.int .i64 0]):=by
 obtain⟨f1,f2,f3,f4,f5,f6,f7⟩:=J0e hg;have hvl:=hp.vlen;have h1:=Q6K p hp g hs hg hn;have h2:=Q7L kd;rw[hk] at h2;have h3:=Q4U p hp g hs hg kd hn;have h4:=Q6D p hp g hs hg;refine J3W rfl ?_;refine J0d J0b Tryz.func9 rfl hc9 hr9 rfl ?_
 repeat' ((conv=>whnf);first|(refine Br.tt ?_)|(refine Br.ff ?_)|(refine Bd.nat (by omega) ?_)|(refine Len.mk (by omega) ?_)|(refine MkS.vec ?_)|(refine h1.go ?_)|(refine h2.go ?_)|(refine h3.go ?_)|(refine J10 [] [0] (h4.mono ?_) ⟨J0a.kf rfl,J0a.kf rfl,True.intro⟩ True.intro rfl;rintro _ _ _ ⟨rfl,rfl⟩)|(refine Chk.mk rfl ?_))
 all_goals (conv=>whnf)
 refine J1v J0b [6,10,11,12,56] [] [7,8,9,10,11,12,13,14,15,16,17,18,19,20,21,22,23,24,25,26,27,28,29] [6,5,4,3,2,1,0,999] (fun k:Nat=>[(14,.int .i64 ((J5D p g kd).tot k)),(57,.int .i64 k)]) (fun k=>[(6,J8m p g (cF (cfK p g k)) []),(5,.cells [.vec 3 1 0 (J1e p g),.vec 4 1 0 (J1e p g)]),(4,.vec (J1e p g) 1 (X07 p g kd k)),(3,.vec (J1e p g) 1 (X30 p g k)),(2,.cells [.nilslice,.nilslice]),(1,.cells [.fz g.ids.length 1 false (vI g.ids),.fz g.ports.length 1 false (vP g.ports)]),(0,.cells [.str p.nm,p.pg.vs,p.pg.rs]),(999,GB)]) (fun m k=>m=J1e p g-k/\k<=J1e p g) (J1e p g) 0 ⟨rfl,Nat.zero_le _⟩ rfl (fun _=>rfl) ?_ ?_
 . refine J0f (fun _ _=>[(0,some 0),(1,some 1),(2,some 2),(3,some 3),(4,some 4),(5,some 5),(6,some 6),(999,some 999)]) ?_ ?_ rfl
   . repeat' (first|exact True.intro|(refine⟨⟨_,rfl,?_⟩,?_⟩)|exact J0a.kf rfl|exact J0a.loc rfl|exact J0a.vec rfl rfl rfl)
   . repeat' (first|exact⟨rfl,rfl,True.intro,fun i hi=>rfl,fun i j t hi hn hj ht=>VLe.of_eq (congrArg (V.int .i64) (X6F p g hi hj))⟩|exact Q8A _ _ _ _ _ hj|exact Q7D _ _ _ _ hj|exact True.intro|exact⟨rfl,rfl,rfl⟩|(refine⟨⟨_,rfl,?_⟩,?_⟩)|exact J0a.kf rfl|exact J0a.vec rfl rfl rfl|(refine⟨Nat.le_refl _,rfl,fun i j hi hj=>?_⟩)|(refine And.intro ?_ ?_))
 rintro m k ⟨hm,hkc⟩;by_cases hkn:k<J1e p g
 . have hst:=Q5G p hp g hg kd hk hn (cfK p g k) (J1T hp hg k) (he _);rw[X5s hkn] at hst;have had:=X3k p hp g hg k hkn;have htk:=J24 (fun k=>((J5D p g kd).ar k).length) (show k+1<=J1e p g by omega);change (J5D p g kd).tot (k+1)<=(J5D p g kd).tot (J1e p g) at htk;have htn:(J5D p g kd).tot (k+1)=(J5D p g kd).tot k+(chs g kd (enN p g (cfK p g k))).1.length:=by
    show(J5D p g kd).tot k+(J7P p g kd k).length=_;rw[J7P,List.length_map]
   repeat' ((conv=>whnf);first|(refine Br.ff ?_)|(refine Br.dec ?_ ?_<;>intro _<;>try omega)|(refine Ar.i64 (by omega) (by omega) ?_)|(refine Ix.nat (by omega) ?_)|(refine Len.mk (by omega) ?_)|(refine Ltn.mk (by omega) ?_)|(refine J10 [(999,some 999),(0,some 6)] [1] (hst.mono ?_) ⟨J0a.kf rfl,J0a.vec rfl rfl rfl,J0a.kf rfl,True.intro⟩ (by repeat' (first|(refine⟨rfl,rfl,True.intro,fun i hi=>rfl,fun i j t hi hn hj ht=>VLe.rfl⟩)|exact True.intro|exact⟨rfl,rfl,rfl⟩|(refine⟨⟨_,rfl,?_⟩,?_⟩))) rfl;rintro _ _ _ ⟨rfl,rfl⟩)|(refine J10 [(0,some 6)] [] (had.mono ?_) ⟨J0a.kf rfl,J0a.vec rfl rfl rfl,True.intro⟩ (by repeat' (first|(refine⟨rfl,rfl,True.intro,fun i hi=>rfl,fun i j t hi hn hj ht=>VLe.rfl⟩)|exact True.intro|(refine⟨⟨_,rfl,?_⟩,?_⟩))) rfl;rintro _ _ _ ⟨rfl,rfl⟩)|(refine Chk.mk rfl ?_)|(refine And.intro rfl ?_))
   all_goals (conv=>whnf)
   refine⟨_,k+1,by omega,⟨rfl,by omega⟩,?_⟩;refine J0f (fun _ _=>[(0,some 0),(1,some 1),(2,some 2),(3,some 3),(4,some 4),(5,some 5),(6,some 6),(999,some 999)]) ?_ ?_ rfl
   . repeat' (first|exact True.intro|(refine⟨⟨_,rfl,?_⟩,?_⟩)|exact J0a.kf rfl|exact J0a.int (by omega)|exact J0a.loc rfl|exact J0a.vec rfl rfl rfl)
   . repeat' (first|exact⟨rfl,rfl,True.intro,fun i hi=>rfl,fun i j t hi hn hj ht=>VLe.rfl⟩|exact X0n _ _ _ _ _ _ (Nat.zero_add _) hj|exact X06 p g kd _ _ _ _ _ (X4F p g kd k _ rfl) (Nat.zero_add _) hj|exact True.intro|exact⟨rfl,rfl,rfl⟩|(refine⟨⟨_,rfl,?_⟩,?_⟩)|exact J0a.kf rfl|exact J0a.vec rfl rfl rfl|(refine⟨Nat.le_refl _,rfl,fun i j hi hj=>?_⟩)|(refine And.intro ?_ ?_))
 . have ek:k=J1e p g:=by omega
   subst ek
   repeat' ((conv=>whnf);first|(refine Br.dec ?_ ?_<;>intro _<;>try omega)|(refine Len.mk (by omega) ?_))
   all_goals (conv=>whnf)
   refine VLe.tup ⟨VLe.agg ⟨VLe.fz rfl (fun h=>h) (fun i j hi hj=>VLe.of_eq ?_),VLe.fz rfl (fun h=>h) (fun i j hi hj=>VLe.of_eq ?_),True.intro⟩,VLe.rfl,True.intro⟩
   . rw[J0E,Nat.zero_add,X30,if_pos hi];rfl
   . rw[J0E,Nat.zero_add,X07,if_pos hi];rfl
end Go.Proofs.YtlpfphlbghdokaaGreatDoor
namespace Go.Proofs.YtlpfphlbghdokaaGreatDoor
open Go.Eng Go.Plain
set_option maxRecDepth 100000
set_option linter.unusedVariables false
theorem Q5T {sz:Nat->Nat} {m B:Nat}:∀{n:Nat},(∀v,v<n->Mx.pr sz (v*m) m<=B)->Mx.pr sz 0 (n*m)<=B ^ n
 | 0,_=>by simp[Mx.pr]
 | n+1,h=>by
   rw[Nat.add_mul,Nat.one_mul,J82,Nat.zero_add,Nat.pow_succ];exact Nat.mul_le_mul (Q5T fun v hv=>h v (by omega)) (h n (by omega))
theorem Q6t {l:List Nat} {m:Nat} (hn:l.Pairwise (·<·)) (h:∀a∈l,a<m):l.length<=m:=by
 have h1:l.Nodup:=by
  rw[List.nodup_iff_pairwise_ne];exact hn.imp fun {a b} h=>Nat.ne_of_lt h
 have:=List.Nodup.length_le_of_subset h1 (fun a ha=>List.mem_range.2 (h a ha));simpa using this
theorem X4k {p:Pr} {g:G} (hg:g.valid=true) {kd:Int} (hk:dk kd=true) (c:Cf):(chs g kd (enN p g c)).1.length<=2 ^ g.ids.length:=by
 have h32:=Q4K p hg c;have hpw:=Q7F p g c;refine Q6t (J8u h32) fun a ha=>?_;by_cases he:(chs g kd (enN p g c)).2=0
 . have h1:=(J7q hk h32 (J43 h32 a ha) he).1 ha;obtain⟨_,b,_⟩:=J2D.1 h1;exact Nat.lt_of_le_of_lt ((J1M (J43 h32 a ha)).1 b).le hpw
 . rw[(Q8d hk he).2.1] at ha;cases ha
theorem Q5x {p:Pr} {g:G} (hg:g.valid=true) {kd:Int} (hk:dk kd=true):(J5D p g kd).tot (J1e p g)<=J1e p g*2 ^ g.ids.length:=by
 rw[Tsy.tot];refine Q1B _ _ (fun k=>?_) _;show(J7P p g kd k).length<=_;rw[J7P,List.length_map];exact X4k hg hk _
theorem X4f:∀{n e:Nat},e<2 ^ n->n<=32->cnt e 32<=n:=by
 intro n e h hn;have e1:(32:Nat)=n+(32-n):=by omega
 rw[e1,J7l,Nat.shiftRight_eq_div_pow,Nat.div_eq_of_lt h,Q3H (fun i _=>Nat.zero_testBit i)];have:=J7k e n;omega
theorem J6i {p:Pr} {g:G} (hg:g.valid=true) {kd:Int} (hk:dk kd=true) (hn:g.ids.length<=10) (c:Cf):(chs g kd (enN p g c)).2=0:=by
 apply Classical.byContradiction;intro h;have h1:=(Q8d hk h).2.2.1;have h2:=X4f (Q7F p g c) (by omega);omega
end Go.Proofs.YtlpfphlbghdokaaGreatDoor
namespace Go.Proofs.YtlpfphlbghdokaaGreatDoor
open Go.Eng Go.Plain
set_option maxRecDepth 100000
set_option linter.unusedVariables false
set_option linter.unusedSectionVars false
theorem Q51 {P:Program} {f:FuncId} {args args':List V} {Φ:V->Prop} (hk:J2K V.kf args'=true) (hl:LLe args' args) (h:Q8M P f args Φ):Q8M P f args' Φ:=fun own ks=>by
 constructor;intro M w σ us hlen hd hh;obtain⟨d1,d2⟩:=hl.dens (M:=M) (w:=w) (us:=us) hlen (fun i v u hv hu=>(hd i v u hv hu).kf (J0s hk v (List.mem_of_getElem? hv)) Sg.none);exact(h own ks).out M w σ us d1 (fun i v u hv hu=>(d2 i v u hv hu).mono (Ext.mk (fun _ _ h=>⟨h,rfl⟩) (Nat.le_refl _)) (Sg.none_le σ)) hh
theorem Q0b {P:Program} {f:FuncId} {args args':List V} {X:V} (hk:J2K V.kf args'=true) (hl:LLe args' args) (h:Ret P f args X):Ret P f args' X :=
 Q8M.ret (Φ:=fun v=>v=X) (Q51 hk hl (h.p rfl)) (fun _ h=>h)
def blW (n:Nat) (lg:Nat->Bool):V:=.fz n 1 false (J0l 0 (vBl lg))
theorem X6N (n:Nat) (lg:Nat->Bool):VLe (blW n lg) (blV n lg):=VLe.fz rfl (fun h=>h) fun i j hi hj=>VLe.of_eq (by rw[J0E,Nat.zero_add];rfl)
theorem Q86 (lg:Nat->Bool) (n m i j:Nat) (hm:m=n) (hi:i<n+1) (hj:j<1) (b:Bool) (F:Nat->Nat->V) (hF:F 0 0=.bool b) (hb:b=lg n):VLe (J5p (J0l 0 (vBl lg)) m (J0l 0 F) i j) (vBl lg i j):=by
 obtain rfl:j=0:=by omega
 subst hm;apply VLe.of_eq;by_cases h:i<m
 . rw[J2c h,J0E,Nat.zero_add]
 . rw[J2d h];have:i=m:=by omega
   subst this;simp[J0l,hF,vBl,hb]
theorem X39 {p:Pr} (hp:J2I p) {g:G} (hg:g.valid=true) {c:Cf} (h:J1s p g c):J3R c:=by
 obtain⟨f1,f2,f3,f4,f5,f6,f7⟩:=J0e hg;have hl:=h.len;have hv:=hp.vlen;refine⟨by omega,fun r hr=>?_⟩;obtain⟨i,hi,e⟩:=List.mem_iff_getElem.1 hr;have h2:gC c i=r:=by simp[gC,List.getD,hi,e]
 have:=h.row i hi;rw[<- h2];omega
theorem X6x {g:G} (hg:g.valid=true) {v:Nat} (hv:v<g.ports.length):(gR g.ports v).length<=g.ports.length:=by
 obtain⟨f1,f2,f3,f4,f5,f6,f7⟩:=J0e hg;have h:=f6 v hv;rw[okR,Bool.and_eq_true,decide_eq_true_eq] at h;have h1:=List.Nodup.length_le_of_subset (l₂:=(List.range g.ports.length).map Int.ofNat) h.2 (fun a ha=>by
  obtain⟨l,hl,rfl⟩:=List.mem_map.1 ha;have h2:=List.all_eq_true.1 h.1 l hl;simp only[okL,Bool.and_eq_true,decide_eq_true_eq] at h2;exact List.mem_map.2 ⟨l.1.toNat,List.mem_range.2 (by omega),by simp;omega⟩)
 simpa using h1
theorem X0F {p:Pr} {g:G} {B:Nat} (h:∀v,v<g.ids.length->Mx.pr (szP p g) (v*p.vars.length) p.vars.length<=B):J1e p g<=B ^ g.ids.length:=Q5T h
section
variable {p:Pr} (hp:J2I p) {g:G} (hs:g.Small) (hg:g.valid=true) {kd:Int} (hk:dk kd=true) {leg:Cf->Bool} {R M:Int} {Inv:Cf->Cnt->Prop} (hS:Srv p g kd leg R M Inv)
 (h10:g.ids.length<=10) (hN:J1e p g<=32768) (hNm:J1e p g*2 ^ g.ids.length<=262144)
include hp hs hg hk h10 hN hNm
theorem Q1n:RG 9 [p.v,g.v,.int .i64 kd] (.tup [(J5D p g kd).v,.int .i64 0]) :=
 Q5M p hp g hs hg kd hk hN (J6i hg hk h10) (Nat.le_trans (Q5x hg hk) hNm)
theorem Q2x:(J5D p g kd).Ok:=X5n hp hg hk hN (J6i hg hk h10) (Nat.le_trans (Q5x hg hk) hNm)
include hS
end
end Go.Proofs.YtlpfphlbghdokaaGreatDoor
namespace Go.Proofs.YtlpfphlbghdokaaGreatDoor
open Go.Eng Go.Plain
set_option maxRecDepth 100000
set_option linter.unusedVariables false
set_option linter.unusedSectionVars false
section
variable {p:Pr} (hp:J2I p) {g:G} (hs:g.Small) (hg:g.valid=true) {kd:Int} (hk:dk kd=true) {leg:Cf->Bool} {R:Int} {Inv:Cf->Cnt->Prop} (hS:X65 p g kd leg R Inv)
 (h10:g.ids.length<=10) (hN:J1e p g<=32768) (hNm:J1e p g*2 ^ g.ids.length<=262144)
include hp hs hg hk h10 hN hNm hS
theorem Q1m:Ret Tryz.prog 12 [(J5D p g kd).v,blW (J1e p g) (J59 p g leg)] (.tup [blV (J1e p g) fun _=>false,.int .i64 0]):=by
 have hok:=Q2x hp hs hg hk h10 hN hNm;refine Q0b (args:=[(J5D p g kd).v,blV (J1e p g) (J59 p g leg)]) rfl ⟨VLe.rfl,X6N _ _,True.intro⟩ (X0i (J5D p g kd) hok (J59 p g leg) (fun k hk' hl=>?_) (fun c hC u=>?_))
 . exact(hok.ne k hk').1 (hS.en _ (J1T hp hg k) hl)
 . exact X3U hp hg hS hok (fun k _ s hs'=>Q2S hp hg hk (J6i hg hk h10) hs') c hC u
theorem J8F:Ret Tryz.prog 13 [(J5D p g kd).v,blW (J1e p g) (J59 p g leg)] (.tup [.bool true,.int .i64 0]) :=
 Q0b (args:=[(J5D p g kd).v,blV (J1e p g) (J59 p g leg)]) rfl ⟨VLe.rfl,X6N _ _,True.intro⟩ (Q4Q (J5D p g kd) (Q2x hp hs hg hk h10 hN hNm) (J59 p g leg) (fun k _ hl a ha=>by
  obtain⟨h1,h2,h3⟩:=X08 hp hg hk (J6i hg hk h10) ha;rw[h2,J59,X12 hp hg h3];exact hS.closed _ _ (J1T hp hg k) hl h1))
end
end Go.Proofs.YtlpfphlbghdokaaGreatDoor
namespace Go.Proofs.YtlpfphlbghdokaaGreatDoor
open Go.Eng
set_option maxRecDepth 100000
set_option linter.unusedVariables false
theorem Q6Y:∀{l m:List Nat},l.Nodup->(∀a∈l,a∈m)->l.length<=m.length
 | [],m,_,_=>Nat.zero_le _
 | a::l,m,hn,hs=>by
   rw[List.nodup_cons] at hn;have ham:=hs a (by simp);have h1:=Q6Y (l:=l) (m:=m.erase a) hn.2 (fun b hb=>(List.mem_erase_of_ne (fun e=>hn.1 (by rw[<- e];exact hb))).2 (hs b (by simp[hb])));have h2:=List.length_erase_of_mem ham;have h3:=List.length_pos_of_mem ham;simp only[List.length_cons];omega
abbrev Pt:=List (List (Int×Int))
def toN (p:Pt) (v i:Nat):Nat:=(gF (gR p v) i).1.toNat
def lay (p:Pt) (f:Nat):Nat->Nat->Int
 | 0,v=>if v=f then 0 else -1
 | k+1,v=>if 0<=lay p f k v then lay p f k v else if (gR p v).any (fun l=>decide (lay p f k l.1.toNat=k)) then (k:Int)+1 else -1
structure J7R (p:Pt) (f:Nat) (r:Nat->Int):Prop where
 low:∀v,v<p.length->-1<=r v
 from_:r f=0
 back:∀v,v<p.length->v≠f->0<=r v->∃l∈gR p v,r l.1.toNat=r v-1/\0<=r l.1.toNat
 on:∀v,v<p.length->0<=r v->∀l∈gR p v,0<=r l.1.toNat/\r l.1.toNat<=r v+1
structure Und (p:Pt):Prop where
 rng:∀v,v<p.length->∀l∈gR p v,l.1.toNat<p.length
 sym:∀v,v<p.length->∀l∈gR p v,∃m∈gR p l.1.toNat,m.1.toNat=v
theorem J7R.at_ {p:Pt} {f:Nat} {r:Nat->Int} (hu:Und p) (h:J7R p f r) (hf:f<p.length):∀k v,v<p.length->lay p f k v=if 0<=r v/\r v<=k then r v else -1
 | 0,v,hv=>by
   simp only[lay];by_cases e:v=f
   . subst e;rw[if_pos rfl,h.from_];simp
   . rw[if_neg e];by_cases h0:0<=r v
     . obtain⟨l,_,h1,h2⟩:=h.back v hv e h0;rw[if_neg (by omega)]
     . rw[if_neg (by omega)]
 | k+1,v,hv=>by
   have ih:=fun v hv=>J7R.at_ hu h hf k v hv;have hl:=h.low v hv;rw[lay];by_cases h0:0<=r v/\r v<=k
   . have e1:lay p f k v=r v:=by rw[ih v hv,if_pos h0]
     rw[e1,if_pos h0.1];exact(if_pos ⟨h0.1,by omega⟩).symm
   . have e1:lay p f k v=-1:=by rw[ih v hv,if_neg h0]
     rw[e1,if_neg (by decide)];by_cases h1:0<=r v/\r v=k+1
     . have hvf:v≠f:=fun e=>by subst e;rw[h.from_] at h1;omega
       obtain⟨l,hl,q1,q2⟩:=h.back v hv hvf h1.1;have ha:(gR p v).any (fun l=>decide (lay p f k l.1.toNat=k))=true:=by
        rw[List.any_eq_true];refine⟨l,hl,decide_eq_true ?_⟩;rw[ih _ (hu.rng v hv l hl),if_pos ⟨q2,by omega⟩];omega
       rw[if_pos ha];refine Eq.trans ?_ (if_pos ⟨h1.1,by omega⟩).symm;omega
     . refine Eq.trans (if_neg ?_) (if_neg (show ¬ (0<=r v/\r v<=((k+1:Nat):Int)) by omega)).symm;intro ha;rw[List.any_eq_true] at ha;obtain⟨l,hl,e⟩:=ha;have e:=of_decide_eq_true e;have hlr:=hu.rng v hv l hl;rw[ih _ hlr] at e;split at e
       . rename_i h2;obtain⟨m,hm,em⟩:=hu.sym v hv l hl;obtain⟨q1,q2⟩:=h.on _ hlr h2.1 m hm;rw[em] at q1 q2;omega
       . omega
theorem J7R.lt {p:Pt} {f:Nat} {r:Nat->Int} (hu:Und p) (h:J7R p f r) {v:Nat} (hv:v<p.length):r v<p.length:=by
 have key:∀m:Nat,∀v,v<p.length->r v=m->∃l:List Nat,l.length=m+1/\l.Nodup/\(∀u∈l,u<p.length)/\∀u∈l,r u<=m:=by
  intro m
  induction m with
  | zero=>intro v hv e;exact⟨[v],rfl,by simp,by simpa using hv,by simp;omega⟩
  | succ m ih =>
    intro v hv e;have hvf:v≠f:=fun x=>by subst x;rw[h.from_] at e;omega
    obtain⟨l,hl,q1,q2⟩:=h.back v hv hvf (by omega);obtain⟨L,l1,l2,l3,l4⟩:=ih _ (hu.rng v hv l hl) (by omega);refine⟨v::L,by simp[l1],List.nodup_cons.2 ⟨fun hm=>?_,l2⟩,?_,?_⟩
    . have:=l4 v hm;omega
    . intro u hu;rcases List.mem_cons.1 hu with rfl|hu
      . exact hv
      . exact l3 u hu
    . intro u hu;rcases List.mem_cons.1 hu with rfl|hu
      . omega
      . have:=l4 u hu;omega
 rcases Int.lt_or_le (r v) 0 with h0|h0
 . omega
 . obtain⟨L,l1,l2,l3,_⟩:=key (r v).toNat v hv (by omega);have:L.length<=(List.range p.length).length:=Q6Y l2 (fun u hu=>List.mem_range.2 (l3 u hu));rw[l1,List.length_range] at this;omega
theorem J7R.eq {p:Pt} {f:Nat} {r:Nat->Int} (hu:Und p) (h:J7R p f r) (hf:f<p.length) {v:Nat} (hv:v<p.length):lay p f (p.length-1) v=r v:=by
 have h1:=h.lt hu hv;have h2:=h.low v hv;rw[h.at_ hu hf _ v hv];split
 . rfl
 . omega
def Q73 (p:Nat->Bool):Nat->Nat
 | 0=>0
 | n+1=>Q73 p n+if p n then 1 else 0
theorem J9q {p q:Nat->Bool}:∀{n:Nat},(∀v,v<n->p v=q v)->Q73 p n=Q73 q n
 | 0,_=>rfl
 | n+1,h=>by
   have h1:=J9q (n:=n) fun v hv=>h v (by omega);simp only[Q73,h1,h n (by omega)]
theorem J9p {p q:Nat->Bool} {u:Nat} (hp:p u=true) (hq:q u=false) (h:∀v,v≠u->p v=q v):∀{n:Nat},u<n->Q73 p n=Q73 q n+1
 | n+1,hn=>by
   simp only[Q73];by_cases e:u=n
   . subst e;rw[J9q (fun v hv=>h v (by omega)),hp,hq];simp
   . rw[J9p hp hq h (n:=n) (by omega),h n (fun x=>e x.symm)];omega
def unv (r:List Int) (n:Nat):Nat:=Q73 (fun v=>decide (gI r v<0)) n
theorem J8h (r:List Int) (u v:Nat) (d:Int) (hu:u<r.length):gI (r.set u d) v=if v=u then d else gI r v:=by
 simp only[gI,List.getD,List.getElem?_set];by_cases h:u=v
 . subst h;simp[hu]
 . have:¬ v=u:=fun e=>h e.symm;simp[h,this]
structure BI (p:Pt) (f:Nat) (q:List Nat) (r:List Int):Prop where
 len:r.length=p.length
 low:∀v,v<p.length->-1<=gI r v
 from_:gI r f=0
 back:∀v,v<p.length->v≠f->0<=gI r v->∃l∈gR p v,gI r l.1.toNat=gI r v-1/\0<=gI r l.1.toNat
 qn:∀u∈q,u<p.length/\0<=gI r u
 sorted:q.Pairwise fun a b=>gI r a<=gI r b
structure BO (p:Pt) (f:Nat) (q:List Nat) (r:List Int):Prop extends BI p f q r where
 top:∀u∈q,∀v,v<p.length->gI r v<=gI r u+1
 done:∀v,v<p.length->0<=gI r v->v∉q->∀l∈gR p v,0<=gI r l.1.toNat/\gI r l.1.toNat<=gI r v+1
structure BP (p:Pt) (f v i:Nat) (q:List Nat) (r:List Int):Prop extends BI p f q r where
 vn:v<p.length/\0<=gI r v
 most:∀x,x<p.length->gI r x<=gI r v+1
 least:∀u∈q,gI r v<=gI r u
 done:∀x,x<p.length->0<=gI r x->x∉q->x≠v->∀l∈gR p x,0<=gI r l.1.toNat/\gI r l.1.toNat<=gI r x+1
 seen:∀l∈(gR p v).take i,0<=gI r l.1.toNat
theorem BO.pop {p:Pt} {f v:Nat} {q:List Nat} {r:List Int} (h:BO p f (v::q) r):BP p f v 0 q r where
 len:=h.len
 low:=h.low
 from_:=h.from_
 back:=h.back
 qn:=fun u hu=>h.qn u (by simp[hu])
 sorted:=(List.pairwise_cons.1 h.sorted).2
 vn:=h.qn v (by simp)
 most:=h.top v (by simp)
 least:=(List.pairwise_cons.1 h.sorted).1
 done:=fun x hx h0 hq hv=>h.done x hx h0 (by simp only[List.mem_cons,not_or];exact⟨hv,hq⟩)
 seen:=by simp
theorem BP.fin {p:Pt} {f v i:Nat} {q:List Nat} {r:List Int} (hu:Und p) (h:BP p f v i q r) (hi:(gR p v).length<=i):BO p f q r where
 toBI:=h.toBI
 top:=fun u hu x hx=>by have:=h.least u hu;have:=h.most x hx;omega
 done:=fun x hx h0 hq=>by
  by_cases e:x=v
  . subst e;intro l hl;refine⟨h.seen l (by rw[List.take_of_length_le hi];exact hl),h.most _ (hu.rng x hx l hl)⟩
  . exact h.done x hx h0 hq e
theorem BP.skip {p:Pt} {f v i:Nat} {q:List Nat} {r:List Int} (h:BP p f v i q r) (hi:i<(gR p v).length) (h0:0<=gI r (toN p v i)):BP p f v (i+1) q r where
 toBI:=h.toBI
 vn:=h.vn
 most:=h.most
 least:=h.least
 done:=h.done
 seen:=fun l hl=>by
  rw[J3r _ i hi] at hl;rcases List.mem_append.1 hl with h1|h1
  . exact h.seen l h1
  . simp at h1;rw[h1];exact h0
theorem BP.visit {p:Pt} {f v i:Nat} {q:List Nat} {r:List Int} (hu:Und p) (h:BP p f v i q r) (hi:i<(gR p v).length) (h0:gI r (toN p v i)<0) :
 BP p f v (i+1) (q++[toN p v i]) (r.set (toN p v i) (gI r v+1))/\unv r p.length=unv (r.set (toN p v i) (gI r v+1)) p.length+1:=by
 obtain⟨hv,hv0⟩:=h.vn;have hun:toN p v i<p.length:=hu.rng v hv _ (J3c hi);obtain⟨m,hm,hmv⟩:=hu.sym v hv _ (J3c hi);have hg:=fun x=>J8h r (toN p v i) x (gI r v+1) (by rw[h.len];exact hun);change m∈gR p (toN p v i) at hm;have hlast:(gF (gR p v) i).1.toNat=toN p v i:=rfl;generalize toN p v i=u at *;have hvu:v≠u:=fun e=>by subst e;omega
 have keep:∀x,0<=gI r x->gI (r.set u (gI r v+1)) x=gI r x:=fun x hx=>by
  rw[hg,if_neg (fun e=>by subst e;omega)]
 have hle:∀x,x<p.length->gI (r.set u (gI r v+1)) x<=gI r v+1:=fun x hx=>by
  rw[hg];split
  . omega
  . exact h.most x hx
 refine⟨{ len:=by simp[h.len],low:=?_,from_:=?_,back:=?_,qn:=?_,sorted:=?_,vn:=?_,most:=?_,least:=?_,done:=?_,seen:=?_ },?_⟩
 . intro x hx;rw[hg];split
   . omega
   . exact h.low x hx
 . rw[keep f (by rw[h.from_];omega)];exact h.from_
 . intro x hx hxf hx0;by_cases e:x=u
   . subst e;refine⟨m,hm,?_⟩;rw[hmv,keep v hv0,hg,if_pos rfl];omega
   . rw[hg,if_neg e] at hx0 ⊢;obtain⟨l,hl,a,b⟩:=h.back x hx hxf hx0;exact⟨l,hl,by rw[keep _ b];exact a,by rw[keep _ b];exact b⟩
 . intro w hw;rcases List.mem_append.1 hw with h1|h1
   . obtain⟨a,b⟩:=h.qn w h1;exact⟨a,by rw[keep w b];exact b⟩
   . simp at h1;subst h1;exact⟨hun,by rw[hg,if_pos rfl];omega⟩
 . rw[List.pairwise_append];refine⟨h.sorted.imp_of_mem fun {a b} ha hb hab=>?_,by simp,fun a ha b hb=>?_⟩
   . rw[keep a (h.qn a ha).2,keep b (h.qn b hb).2];exact hab
   . simp at hb;subst hb;rw[keep a (h.qn a ha).2,hg,if_pos rfl];exact h.most a (h.qn a ha).1
 . exact⟨hv,by rw[keep v hv0];exact hv0⟩
 . intro x hx;rw[keep v hv0];exact hle x hx
 . intro w hw;rw[keep v hv0];rcases List.mem_append.1 hw with h1|h1
   . rw[keep w (h.qn w h1).2];exact h.least w h1
   . simp at h1;subst h1;rw[hg,if_pos rfl];omega
 . intro x hx hx0 hq hxv l hl;have hxu:x≠u:=fun e=>hq (by simp[e]);rw[hg,if_neg hxu] at hx0;rw[keep x hx0];obtain⟨a,b⟩:=h.done x hx hx0 (fun e=>hq (by simp[e])) hxv l hl;rw[keep _ a];exact⟨a,b⟩
 . intro l hl;rw[J3r _ i hi] at hl;rcases List.mem_append.1 hl with h1|h1
   . rw[keep _ (h.seen l h1)];exact h.seen l h1
   . simp at h1;rw[h1,hlast,hg,if_pos rfl];omega
 . refine J9p (u:=u) (by simpa using h0) (by rw[hg,if_pos rfl];simp;omega) (fun x hx=>?_) hun;show decide _=decide _;rw[hg,if_neg hx]
theorem BO.found {p:Pt} {f:Nat} {r:List Int} (h:BO p f [] r):J7R p f (gI r) where
 low:=h.low
 from_:=h.from_
 back:=h.back
 on:=fun v hv h0 l hl=>h.done v hv h0 (by simp) l hl
end Go.Proofs.YtlpfphlbghdokaaGreatDoor
namespace Go.Proofs.YtlpfphlbghdokaaGreatDoor
open Go.Eng
set_option maxRecDepth 100000
set_option linter.unusedVariables false
theorem J6p {g:G} (hg:g.valid=true):Und g.ports:=by
 obtain⟨f1,f2,f3,f4,f5,f6,f7⟩:=J0e hg;refine⟨fun v hv l hl=>?_,fun v hv l hl=>⟨_,f7 v hv l hl,by simp⟩⟩;have h:=f6 v hv;rw[okR,Bool.and_eq_true,List.all_eq_true] at h;have:=h.1 _ hl;rw[okL,decide_eq_true_eq] at this;omega
def dst (g:G) (f:Nat):List Int:=(List.range g.ports.length).map (lay g.ports f (g.ports.length-1))
theorem J2E (g:G) (f:Nat):(dst g f).length=g.ports.length:=by simp[dst]
theorem J4t (g:G) (f:Nat) {v:Nat} (hv:v<g.ports.length):gI (dst g f) v=lay g.ports f (g.ports.length-1) v:=by
 simp[dst,gI,hv]
theorem Q1F {g:G} (hg:g.valid=true) (v:Nat):(gR g.ports v).length<=24:=by
 obtain⟨f1,f2,f3,f4,f5,f6,f7⟩:=J0e hg;by_cases h:v<g.ports.length
 . have:=Q1N h (f6 v h);omega
 . rw[show gR g.ports v=[] by simp only[gR,List.getD];rw[List.getElem?_eq_none (by omega)];rfl];simp
theorem Q1M {n v:Nat} {r:List (Int×Int)} (h:okR n v r=true) {i:Nat} (hi:i<r.length):0<=(gF r i).1/\(gF r i).1<n:=by
 rw[okR,Bool.and_eq_true,List.all_eq_true] at h;have:=h.1 _ (J3c hi);rw[okL,decide_eq_true_eq] at this;exact⟨this.1,this.2.1⟩
def vN (l:List Nat):Nat->Nat->V:=fun i _=>.int .i64 (l.getD i 0:Nat)
def X3z (j:Nat):Nat->Nat->V:=fun i _=>.int .i64 (if i<j then -1 else 0)
theorem Q7c (n j i t:Nat) (hi:i<n) (ht:t<1):VLe (J0L (X3z j) j 0 [.int .i64 (-1)] i t) (X3z (j+1) i t):=by
 obtain rfl:t=0:=by omega
 apply VLe.of_eq;by_cases h:i=j
 . subst h;simp[J0L,X3z]
 . have h1:(i<j+1)=(i<j):=by simp;omega
   simp[J0L,X3z,h,h1]
theorem X2w (r:List Int) (u i t:Nat) (d:Int) (hu:u<r.length) (ht:t<1):VLe (J0L (vI r) u 0 [.int .i64 d] i t) (vI (r.set u d) i t):=by
 obtain rfl:t=0:=by omega
 apply VLe.of_eq;simp only[J0L,vI,J8h r u i d hu];by_cases h:i=u
 . subst h;simp
 . simp[h]
theorem X3x (n f i t:Nat) (hf:f<n) (hi:i<n) (ht:t<1):VLe (J0L (X3z n) f 0 [.int .i64 0] i t) (vI ((List.replicate n (-1)).set f 0) i t):=by
 obtain rfl:t=0:=by omega
 apply VLe.of_eq;simp only[J0L,vI];rw[J8h _ _ _ _ (by simpa using hf)];by_cases h:i=f
 . subst h;simp
 . rw[if_neg (by simp[h]),if_neg h];simp[X3z,hi,gI]
theorem Q2d (p:Nat->Bool):∀n,Q73 p n<=n
 | 0=>Nat.le_refl _
 | n+1=>by have:=Q2d p n;rw[Q73];split<;>omega
theorem X02 {p:Pt} (hu:Und p) {f:Nat} (hf:f<p.length):BO p f [f] ((List.replicate p.length (-1)).set f 0):=by
 have hg:=fun x=>J8h (List.replicate p.length (-1)) f x 0 (by simpa using hf);have hr:∀x,x<p.length->gI (List.replicate p.length (-1)) x=-1:=fun x hx=>by simp[gI,hx]
 have hv:∀x,x<p.length->x≠f->gI ((List.replicate p.length (-1)).set f 0) x=-1:=fun x hx h=>by rw[hg,if_neg h,hr x hx]
 have h0:gI ((List.replicate p.length (-1)).set f 0) f=0:=by rw[hg,if_pos rfl]
 refine { len:=by simp,low:=fun x hx=>?_,from_:=h0,back:=fun x hx hxf h=>?_,qn:=fun u hu=>?_,sorted:=by simp,top:=fun u hu x hx=>?_,done:=fun x hx h hq=>?_ }
 . by_cases e:x=f
   . subst e;rw[h0];decide
   . rw[hv x hx e];decide
 . rw[hv x hx hxf] at h;omega
 . simp at hu;subst hu;exact⟨hf,by rw[h0];decide⟩
 . simp at hu;subst hu;rw[h0];by_cases e:x=u
   . subst e;rw[h0];decide
   . rw[hv x hx e];decide
 . have:x≠f:=by simpa using hq
   rw[hv x hx this] at h;omega
theorem Q9w (lo:Nat) (f:Nat->Nat->V) (i j:Nat):J0l lo f i j=f (lo+i) j:=by
 cases lo with
 | zero=>simp[J0l]
 | succ n=>simp[J0l]
theorem Q85 (Q:List Nat) (lo u i t:Nat) (hlo:lo<=Q.length) (hi:i<Q.length-lo+1) (ht:t<1) :
 VLe (J5p (J0l lo (vN Q)) (Q.length-lo) (J0l 0 (tab [[.int .i64 (u:Int)]])) i t) (vN (Q.drop lo++[u]) i t):=by
 obtain rfl:t=0:=by omega
 apply VLe.of_eq;by_cases h:i<Q.length-lo
 . rw[J2c h];simp only[Q9w,vN];have:(Q.drop lo++[u]).getD i 0=Q.getD (lo+i) 0:=by
    rw[List.getD_eq_getElem?_getD,List.getD_eq_getElem?_getD,List.getElem?_append_left (by simpa using h),List.getElem?_drop]
   rw[this]
 . rw[J2d h];have:i=Q.length-lo:=by omega
   subst this;simp[J0l,tab,vN]
theorem X3y {n f:Nat} (hf:f<n):∀y,y<n->gI ((List.replicate n (-1)).set f 0) y+unv ((List.replicate n (-1)).set f 0) n<n:=by
 have hg:=fun x=>J8h (List.replicate n (-1)) f x 0 (by simpa using hf);have h1:unv ((List.replicate n (-1)).set f 0) n+1<=n:=by
  have:=J9p (p:=fun _=>true) (q:=fun v=>decide (v≠f)) (u:=f) rfl (by simp) (fun v hv=>by simp[hv]) hf;have h2:unv ((List.replicate n (-1)).set f 0) n=Q73 (fun v=>decide (v≠f)) n:=J9q fun v hv=>by
   rw[hg];by_cases e:v=f
   . simp[e]
   . simp[e,gI,hv]
  have h3:=Q2d (fun _=>true) n;omega
 intro y hy;rw[hg];split
 . omega
 . simp only[gI,List.getD,List.getElem?_replicate,hy,if_true,Option.getD_some];omega
theorem Q5j (Q:List Nat) (lo i t:Nat) (a:Int) (u:Nat) (hlo:lo<=Q.length) (hi:i<Q.length-lo+1) (ht:t<1) (hu:a=u) :
 VLe (J5p (J0l lo (vN Q)) (Q.length-lo) (J0l 0 (tab [[.int .i64 a]])) i t) (vN (Q.drop lo++[u]) i t):=by
 subst hu;exact Q85 Q lo u i t hlo hi ht
set_option maxHeartbeats 16000000 in
theorem J6z (g:G) (hg:g.valid=true) (f:Nat) (hf:f<g.ports.length):Ret Tryz.prog 61 [g.v,.int .i64 f] (.fz (dst g f).length 1 false (vI (dst g f))):=by
 obtain⟨f1,f2,f3,f4,f5,f6,f7⟩:=J0e hg;have hu:=J6p hg;refine J0g rfl ?_;refine J0d J0b Tryz.func61 rfl hc61 hr61 rfl ?_
 repeat' ((conv=>whnf);first|(refine Bd.nat (by omega) ?_)|(refine Len.mk (by omega) ?_)|(refine MkS.vec ?_))
 all_goals (conv=>whnf)
 refine J1v J0b [1,2,5,16] [] [2,3,4,5,6,7,8,9,10,11,12,13,14,15,16,17,18,19,20,21,22,23,24,25,26,27,28,29] [1,0] (fun j:Nat=>[(17,.int .i64 j)]) (fun j=>[(1,.vec g.ports.length 1 (X3z j)),(0,.cells [.fz g.ids.length 1 false (vI g.ids),.fz g.ports.length 1 false (vP g.ports)])]) (fun m j=>m=g.ports.length-j/\j<=g.ports.length) g.ports.length 0 ⟨rfl,Nat.zero_le _⟩ rfl (fun _=>rfl) ?_ ?_
 . refine J0f (fun _ _=>[(0,some 0),(1,some 1)]) ?_ ?_ rfl
   . repeat' (first|exact True.intro|(refine⟨⟨_,rfl,?_⟩,?_⟩)|exact J0a.kf rfl|exact J0a.loc rfl|exact J0a.vec rfl rfl rfl)
   . repeat' (first|exact⟨Nat.le_refl _,rfl,fun i j hi hj=>VLe.of_eq (by obtain rfl:j=0:=(by omega);rfl)⟩|exact True.intro|(refine⟨⟨_,rfl,?_⟩,?_⟩)|exact J0a.kf rfl|(refine And.intro ?_ ?_))
 rintro m j ⟨hm,hj⟩;by_cases hjn:j<g.ports.length
 . repeat' ((conv=>whnf);first|(refine Br.dec ?_ ?_<;>intro _<;>try omega)|(refine Ar.i64 (by omega) (by omega) ?_)|(refine Ix.nat (by omega) ?_)|(refine Ltn.mk (by omega) ?_))
   all_goals (conv=>whnf)
   refine⟨g.ports.length-(j+1),j+1,by omega,⟨rfl,by omega⟩,?_⟩;refine J0f (fun _ _=>[(0,some 0),(1,some 1)]) ?_ ?_ rfl
   . repeat' (first|exact True.intro|(refine⟨⟨_,rfl,?_⟩,?_⟩)|exact J0a.kf rfl|exact J0a.loc rfl|exact J0a.vec rfl rfl rfl)
   . repeat' (first|exact⟨Nat.le_refl _,rfl,fun i t hi ht=>by simp only[Nat.zero_add];exact Q7c _ _ _ _ hi ht⟩|exact True.intro|(refine⟨⟨_,rfl,?_⟩,?_⟩)|exact J0a.kf rfl|(refine And.intro ?_ ?_))
 . have ej:j=g.ports.length:=by omega
   subst ej
   repeat' ((conv=>whnf);first|(refine Br.dec ?_ ?_<;>intro _<;>try omega)|(refine Ix.nat (by omega) ?_)|(refine Ltn.mk (by omega) ?_))
   all_goals (conv=>whnf)
   refine J1v J0b [2,5] [2] [3,4,5,6,7,8,9,10,11,12,13,14,15,16,17,18,19,20,21,22,23,24,25,26,27,28,29] [2,1,0] (fun x:Nat×List Nat×List Int=>[(7,.vec 2 1 x.1 (x.2.1.length-x.1))]) (fun x=>[(2,.vec x.2.1.length 1 (vN x.2.1)),(1,.vec g.ports.length 1 (vI x.2.2)),(0,.cells [.fz g.ids.length 1 false (vI g.ids),.fz g.ports.length 1 false (vP g.ports)])])
    (fun m x=>m=2*unv x.2.2 g.ports.length+(x.2.1.length-x.1)/\x.1<=x.2.1.length/\x.2.1.length<=60/\m<=50/\BO g.ports f (x.2.1.drop x.1) x.2.2/\∀y,y<g.ports.length->gI x.2.2 y+unv x.2.2 g.ports.length<g.ports.length) _ (0,[f],(List.replicate g.ports.length (-1)).set f 0) ⟨rfl,by simp,by simp,?_,X02 hu hf,X3y hf⟩ rfl (fun _=>rfl) ?_ ?_
   . have:=Q2d (fun v=>decide (gI ((List.replicate g.ports.length (-1)).set f 0) v<0)) g.ports.length;simp only[unv,List.length_cons,List.length_nil];omega
   . refine J0f (fun _ _=>[(0,some 0),(1,some 1),(2,some 2)]) ?_ ?_ rfl
     . repeat' (first|exact True.intro|(refine⟨⟨_,rfl,?_⟩,?_⟩)|exact J0a.loc rfl|exact J0a.vec rfl rfl rfl)
     . repeat' (first|exact⟨Nat.le_refl _,rfl,fun i t hi ht=>by simp only[Nat.zero_add];exact X3x _ _ _ _ hf hi ht⟩|exact⟨Nat.le_refl _,rfl,fun i t hi ht=>VLe.of_eq (by obtain rfl:i=0:=(by simpa using hi);obtain rfl:t=0:=(by omega);rfl)⟩|exact True.intro|(refine⟨⟨_,rfl,?_⟩,?_⟩)|exact J0a.kf rfl|(refine And.intro ?_ ?_))
   rintro m ⟨lo,Q,r⟩ ⟨hm,hlo,hQ,hm50,hbo,hbd⟩;simp only at hm hlo hQ hbo hbd ⊢;by_cases hq:lo<Q.length
   . obtain⟨v,hv⟩:∃v,Q.getD lo 0=v:=⟨_,rfl⟩;have hdrop:Q.drop lo=v::Q.drop (lo+1):=by
      rw[List.drop_eq_getElem_cons hq,<- hv];simp[hq]
     rw[hdrop] at hbo;have hbp:=hbo.pop;obtain⟨hvn,hv0⟩:=hbp.vn;have hrl:=Q1F hg v;have hlen:=hbp.len;have hQv:vN Q lo 0=.int .i64 (v:Int):=by simp only[vN,hv]
     have hQ0:Q.getD (lo+0) 0=v:=hv
     repeat' ((conv=>whnf);first|(refine Ix.mk v (by omega) (by omega) ?_)|(refine Br.dec ?_ ?_<;>intro _<;>try omega)|(refine Br.nble ?_ ?_<;>intro _<;>try omega)|(refine Ix.mk 0 rfl (by omega) ?_)|(refine Bd.mk 1 rfl (by omega) ?_)|(refine Ltn.mk (by omega) ?_))
     all_goals (conv=>whnf)
     refine J1v J0b [2,5,8,41,42] [2] [3,4,5,6,7,8,9,10,11,12,13,14,15,16,17,18,19,20,21,22,23,24,25,26,27,28,29] [2,1,0] (fun x:Nat×Nat×List Nat×List Int=>[(7,.vec 2 1 x.2.1 (x.2.2.1.length-x.2.1)),(43,.int .i64 x.1)]) (fun x=>[(2,.vec x.2.2.1.length 1 (vN x.2.2.1)),(1,.vec g.ports.length 1 (vI x.2.2.2)),(0,.cells [.fz g.ids.length 1 false (vI g.ids),.fz g.ports.length 1 false (vP g.ports)])])
      (fun k x=>k=(gR g.ports v).length-x.1/\x.1<=(gR g.ports v).length/\x.2.1<=x.2.2.1.length/\x.2.2.1.length<=60/\2*unv x.2.2.2 g.ports.length+(x.2.2.1.length-x.2.1)<m/\BP g.ports f v x.1 (x.2.2.1.drop x.2.1) x.2.2.2/\∀y,y<g.ports.length->gI x.2.2.2 y+unv x.2.2.2 g.ports.length<g.ports.length) _ (0,lo+1,Q,r) ⟨rfl,by simp,by simp only;omega,hQ,by simp only;omega,hbp,hbd⟩ rfl (fun _=>rfl) ?_ ?_
     . exact J0k (fun _ _=>[(0,some 0),(1,some 1),(2,some 2)])
     rintro k ⟨i,lo2,Q2,r2⟩ ⟨hk,hi,hlo2,hQ2,hm2,hbp2,hbd2⟩;simp only at hk hi hlo2 hQ2 hm2 hbp2 hbd2 ⊢;obtain⟨_,hv2⟩:=hbp2.vn;have hlen2:=hbp2.len;have hvb:0<=gI r2 (0+v)/\gI r2 (0+v)<=24:=by rw[Nat.zero_add];have:=hbd2 v hvn;omega
     by_cases hil:i<(gR g.ports v).length
     . have hr:=Q1M (f6 v hvn) hil;have hr':toN g.ports v i<g.ports.length:=by show(gF (gR g.ports v) i).1.toNat<_;omega
       by_cases hneg:gI r2 (gF (gR g.ports v) i).1.toNat<0
       . obtain⟨hbp3,hun⟩:=hbp2.visit hu hil hneg;have hneg2:gI r2 (0+(gF (gR g.ports v) i).1.toNat)<0:=by rw[Nat.zero_add];exact hneg
         repeat' ((conv=>whnf);first|(refine Ix.mk v (by omega) (by omega) ?_)|(refine Br.dec ?_ ?_<;>intro _<;>try omega)|(refine Br.nbeq ?_ ?_<;>intro _<;>try omega)|(refine Ar.i64 (by omega) (by omega) ?_)|(refine Ix.nat (by omega) ?_)|(refine Ix.int (by omega) (by omega) ?_)|(refine Len.mk (by omega) ?_)|(refine Ltn.mk (by omega) ?_))
         all_goals (conv=>whnf)
         have hdl:(Q2.drop lo2++[toN g.ports v i]).length=Q2.length-lo2+1:=by simp
         refine⟨(gR g.ports v).length-(i+1),(i+1,0,Q2.drop lo2++[toN g.ports v i],r2.set (toN g.ports v i) (gI r2 v+1)),by omega,⟨rfl,by simp only;omega,by simp,by simp only[hdl];omega,by simp only[hdl];omega,hbp3,fun y hy=>?_⟩,?_⟩
         . have hb:=hbd2 y hy;have hb2:=hbd2 v hvn;simp only;rw[J8h _ _ _ _ (by rw[hlen2];exact hr')];split<;>omega
         simp only[hdl];refine J0f (fun env own=>[(0,some 0),(1,some 1),(2,X6q env 66)]) ?_ ?_ rfl
         . repeat' (first|exact True.intro|(refine⟨⟨_,rfl,?_⟩,?_⟩)|exact J0a.kf rfl|exact J0a.loc rfl|exact J0a.vec rfl rfl rfl)
         . repeat' (first|exact⟨Nat.le_refl _,rfl,fun a t ha ht=>by simp only[Nat.zero_add];exact X2w _ _ _ _ _ (by rw[hlen2];exact hr') ht⟩|exact⟨by omega,rfl,fun a t ha ht=>Q5j _ _ _ _ _ _ hlo2 ha ht (show(gF (gR g.ports v) i).1=((gF (gR g.ports v) i).1.toNat:Nat) by omega)⟩|exact True.intro|(refine⟨⟨_,rfl,?_⟩,?_⟩)|exact J0a.kf rfl|(refine And.intro ?_ ?_))
       . have hneg2:¬ gI r2 (0+(gF (gR g.ports v) i).1.toNat)<0:=by rw[Nat.zero_add];exact hneg
         have hbp3:=hbp2.skip hil (show 0<=gI r2 (gF (gR g.ports v) i).1.toNat by omega)
         repeat' ((conv=>whnf);first|(refine Br.dec ?_ ?_<;>intro _<;>try omega)|(refine Ar.i64 (by omega) (by omega) ?_)|(refine Ix.nat (by omega) ?_)|(refine Ix.int (by omega) (by omega) ?_)|(refine Ltn.mk (by omega) ?_))
         all_goals (conv=>whnf)
         refine⟨(gR g.ports v).length-(i+1),(i+1,lo2,Q2,r2),by omega,⟨rfl,by simp only;omega,hlo2,hQ2,hm2,hbp3,hbd2⟩,?_⟩;exact J0k (fun env own=>[(0,some 0),(1,some 1),(2,some 2)])
     . have hfin:=hbp2.fin hu (by omega)
       repeat' ((conv=>whnf);first|(refine Br.dec ?_ ?_<;>intro _<;>try omega))
       all_goals (conv=>whnf)
       refine⟨_,(lo2,Q2,r2),hm2,⟨rfl,hlo2,hQ2,by omega,hfin,hbd2⟩,?_⟩;exact J0k (fun env own=>[(0,some 0),(1,some 1),(2,some 2)])
   . have e:lo=Q.length:=by omega
     subst e;rw[List.drop_length] at hbo;have hfd:=hbo.found;have hlen:=hbo.len
     repeat' ((conv=>whnf);first|(refine Br.dec ?_ ?_<;>intro _<;>try omega)|(refine Len.mk (by omega) ?_))
     all_goals (conv=>whnf)
     refine VLe.fz (J2E g f).symm (fun h=>h) (fun i t hi ht=>VLe.of_eq ?_);rw[Q9w];simp only[vI,Nat.zero_add];rw[J4t g f hi,hfd.eq hu hf hi]
end Go.Proofs.YtlpfphlbghdokaaGreatDoor
namespace Go.Proofs.YtlpfphlbghdokaaGreatDoor
open Go.Eng
set_option maxRecDepth 100000
set_option linter.unusedVariables false
theorem J6a (p:Pt) (f:Nat):∀k v,-1<=lay p f k v/\lay p f k v<=k
 | 0,v=>by rw[lay];split<;>omega
 | k+1,v=>by
   have:=J6a p f k v;rw[lay];split
   . omega
   . split<;>omega
theorem J6T {p:Pt} {f k v:Nat} (h:0<=lay p f k v):∀m,lay p f (k+m) v=lay p f k v
 | 0=>rfl
 | m+1=>by
   have:=J6T h m;rw[<- Nat.add_assoc,lay,this,if_pos h]
theorem Q0u {p:Pt} {f:Nat}:∀{k v:Nat},0<=lay p f k v->lay p f (lay p f k v).toNat v=lay p f k v
 | 0,v,h=>by
   have:=J6a p f 0 v;have e:lay p f 0 v=0:=by omega
   rw[e];exact e
 | k+1,v,h=>by
   by_cases h0:0<=lay p f k v
   . have e:lay p f (k+1) v=lay p f k v:=by rw[lay,if_pos h0]
     rw[e];exact Q0u h0
   . have e:lay p f (k+1) v=(k:Int)+1:=by
      rw[lay,if_neg h0] at h ⊢;split at h
      . rename_i q;rw[if_pos q]
      . omega
     rw[e,show((k:Int)+1).toNat=k+1 by omega,e]
theorem Q4y {p:Pt} {f k m v:Nat} (h:0<=lay p f k v) (h':0<=lay p f m v):lay p f k v=lay p f m v:=by
 rcases Nat.le_total k m with q|q
 . have:=J6T h (m-k);rw[show k+(m-k)=m by omega] at this;exact this.symm
 . have:=J6T h' (k-m);rw[show m+(k-m)=k by omega] at this;exact this
theorem Q0v {p:Pt} {f:Nat}:∀{k v:Nat},0<=lay p f k v->v≠f->∃l∈gR p v,lay p f k l.1.toNat=lay p f k v-1/\0<=lay p f k l.1.toNat
 | 0,v,h,hv=>by rw[lay,if_neg hv] at h;omega
 | k+1,v,h,hv=>by
   by_cases h0:0<=lay p f k v
   . obtain⟨l,hl,a,b⟩:=Q0v h0 hv;have e1:lay p f (k+1) v=lay p f k v:=by rw[lay,if_pos h0]
     have e2:lay p f (k+1) l.1.toNat=lay p f k l.1.toNat:=by rw[lay,if_pos b]
     exact⟨l,hl,by rw[e1,e2];exact a,by rw[e2];exact b⟩
   . by_cases ha:(gR p v).any (fun l=>decide (lay p f k l.1.toNat=k))=true
     . have e1:lay p f (k+1) v=(k:Int)+1:=by rw[lay,if_neg h0,if_pos ha]
       rw[List.any_eq_true] at ha;obtain⟨l,hl,e⟩:=ha;have e:=of_decide_eq_true e;have e2:lay p f (k+1) l.1.toNat=k:=by rw[lay,if_pos (by omega)];exact e
       exact⟨l,hl,by rw[e1,e2];omega,by rw[e2];omega⟩
     . rw[lay,if_neg h0,if_neg ha] at h;omega
open Classical in
noncomputable def Q92 (p:Pt) (f v:Nat):Int:=if h:∃k,0<=lay p f k v then lay p f (Classical.choose h) v else -1
theorem J6U {p:Pt} {f k v:Nat} (h:0<=lay p f k v):Q92 p f v=lay p f k v:=by
 have hx:∃k,0<=lay p f k v:=⟨k,h⟩;rw[Q92,dif_pos hx];exact Q4y (Classical.choose_spec hx) h
theorem Q3l {p:Pt} {f v:Nat} (h:0<=Q92 p f v):∃k,0<=lay p f k v/\Q92 p f v=lay p f k v:=by
 by_cases hx:∃k,0<=lay p f k v
 . obtain⟨k,hk⟩:=hx;exact⟨k,hk,J6U hk⟩
 . rw[Q92,dif_neg hx] at h;omega
theorem Q91 (p:Pt) (f v:Nat):-1<=Q92 p f v:=by
 rw[Q92];split
 . exact(J6a p f _ v).1
 . omega
theorem Q4z {p:Pt} (f:Nat) (hu:Und p):J7R p f (Q92 p f):=by
 have hf0:lay p f 0 f=0:=by rw[lay,if_pos rfl]
 refine⟨fun v _=>Q91 p f v,by rw[J6U (k:=0) (by omega),hf0],fun v hv hvf h=>?_,fun v hv h l hl=>?_⟩
 . obtain⟨k,hk,e⟩:=Q3l h;obtain⟨l,hl,a,b⟩:=Q0v hk hvf;exact⟨l,hl,by rw[J6U b,e];exact a,by rw[J6U b];exact b⟩
 . obtain⟨k,hk,e⟩:=Q3l h;obtain⟨m,hm,em⟩:=hu.sym v hv l hl;have hs:=Q0u hk;have hd:((lay p f k v).toNat:Int)=lay p f k v:=by omega
   generalize (lay p f k v).toNat=d at *;have key:0<=lay p f (d+1) l.1.toNat:=by
    rw[lay];split
    . assumption
    . rw[if_pos (by rw[List.any_eq_true];exact⟨m,hm,by rw[em,hs,<- hd];simp⟩)];omega
   have hle:=(J6a p f (d+1) l.1.toNat).2;rw[J6U key,e,<- hd];omega
theorem Q0Q {g:G} (hg:g.valid=true):J7R g.ports 0 (fun v=>gI (dst g 0) v):=by
 obtain⟨f1,f2,f3,f4,f5,f6,f7⟩:=J0e hg;have hu:=J6p hg;have hF:=Q4z 0 hu;have he:∀v,v<g.ports.length->gI (dst g 0) v=Q92 g.ports 0 v:=fun v hv=>by rw[J4t g 0 hv];exact hF.eq hu (by omega) hv
 refine⟨fun v hv=>by rw[he v hv];exact hF.low v hv,by rw[he 0 (by omega)];exact hF.from_,fun v hv h0 h=>?_,fun v hv h l hl=>?_⟩
 . rw[he v hv] at h ⊢;obtain⟨l,hl,a,b⟩:=hF.back v hv h0 h;exact⟨l,hl,by rw[he _ (hu.rng v hv l hl)];exact a,by rw[he _ (hu.rng v hv l hl)];exact b⟩
 . rw[he v hv] at h ⊢;rw[he _ (hu.rng v hv l hl)];exact hF.on v hv h l hl
end Go.Proofs.YtlpfphlbghdokaaGreatDoor
namespace Go.Proofs.YtlpfphlbghdokaaGreatDoor
open Go.Eng
set_option maxRecDepth 100000
set_option linter.unusedVariables false
theorem X6e (l:List Int) (hl:l.length<=1000):Ret Tryz.prog 60 [.fz l.length 1 false (vI l)] (.int .i64 (J4y l (-1))):=by
 refine J0g rfl ?_;refine J0d J0b Tryz.func60 rfl hc60 hr60 rfl ?_
 repeat' ((conv=>whnf);first|fail)
 all_goals (conv=>whnf)
 refine J0N J0b [6,7] (fun i:Nat=>[(3,.int .i64 (J4y (l.take i) (-1))),(8,.int .i64 i)]) (fun m i=>m=l.length-i/\i<=l.length) l.length 0 ⟨rfl,Nat.zero_le _⟩ ?_ ?_
 . exact J0k (fun _ _=>[])
 rintro m i ⟨hm,hi⟩
 repeat' ((conv=>whnf);first|(refine Br.dec ?_ ?_<;>intro _<;>try omega)|(refine Ar.i64 (by omega) (by omega) ?_)|(refine Sv.mk _ rfl ?_)|(refine Ix.nat (by omega) ?_))
 all_goals (conv=>whnf)
 . refine⟨l.length-(i+1),i+1,by omega,⟨rfl,by omega⟩,?_⟩;simp only[J1p l i (by omega),J4O];exact J0k (fun _ _=>[])
 . rw[List.take_of_length_le (by omega)];exact VLe.rfl
def X5R (l:List Int):Bool:=l.any fun a=>decide (a<0)
theorem Q1Q {l:List Int}:X5R l=false↔∀a∈l,0<=a:=by
 rw[X5R,List.any_eq_false];constructor
 . intro h a ha;have:=h a ha;simp at this;omega
 . intro h a ha;have:=h a ha;simp;omega
def G.conn (g:G):Bool:=g.valid&&!X5R (dst g 0)
theorem Q18 (g:G) (hs:g.Small):Ret Tryz.prog 59 [g.v] (.bool g.conn):=by
 have hval:=J8J g hs;refine J0g rfl ?_;refine J0d J0b Tryz.func59 rfl hc59 hr59 rfl ?_;rw[G.conn];by_cases hg:g.valid=true
 . obtain⟨f1,f2,f3,f4,f5,f6,f7⟩:=J0e hg;have hsr:=J6z g hg 0 (by omega);have hdl:=J2E g 0;rw[hg] at hval ⊢;rw[Bool.true_and];generalize dst g 0=l at *
   repeat' ((conv=>whnf);first|(refine Br.tt ?_)|(refine hval.go ?_)|(refine hsr.go ?_))
   all_goals (conv=>whnf)
   refine J0N J0b [9,10] (fun i:Nat=>[(11,.int .i64 i)]) (fun m i=>m=l.length-i/\i<=l.length/\∀a∈l.take i,0<=a) l.length 0 ⟨rfl,Nat.zero_le _,by simp⟩ ?_ ?_
   . exact J0k (fun _ _=>[(0,some 0)])
   rintro m i ⟨hm,hi,hall⟩
   repeat' ((conv=>whnf);first|(refine Br.dec ?_ ?_<;>intro _<;>try omega)|(refine Ar.i64 (by omega) (by omega) ?_)|(refine Ix.nat (by omega) ?_))
   all_goals (conv=>whnf)
   . refine VLe.bool ?_;have:X5R l=true:=by
      rw[X5R,List.any_eq_true];exact⟨gI l i,J63 (by omega),by simp;omega⟩
     rw[this];rfl
   . refine⟨l.length-(i+1),i+1,by omega,⟨rfl,by omega,?_⟩,?_⟩
     . rw[J1p l i (by omega)];intro a ha;rcases List.mem_append.1 ha with h|h
       . exact hall a h
       . simp at h;omega
     . exact J0k (fun _ _=>[(0,some 0)])
   . rw[List.take_of_length_le (by omega)] at hall;rw[Q1Q.2 hall];exact VLe.rfl
 . simp only[Bool.not_eq_true] at hg;rw[hg] at hval ⊢
   repeat' ((conv=>whnf);first|(refine Br.ff ?_)|(refine hval.go ?_))
   all_goals (conv=>whnf)
   all_goals exact VLe.rfl
theorem J0o {g:G} (h:g.conn=true):g.valid=true/\∀v,v<g.ports.length->0<=gI (dst g 0) v:=by
 simp only[G.conn,Bool.and_eq_true,Bool.not_eq_true'] at h;exact⟨h.1,fun v hv=>Q1Q.1 h.2 _ (J63 (by rw[J2E];exact hv))⟩
theorem Q60 (p:Pt) (f:Nat):∀k v,-1<=lay p f k v/\lay p f k v<=k
 | 0,v=>by rw[lay];split<;>omega
 | k+1,v=>by
   have:=Q60 p f k v;rw[lay];split
   . omega
   . split<;>omega
end Go.Proofs.YtlpfphlbghdokaaGreatDoor
