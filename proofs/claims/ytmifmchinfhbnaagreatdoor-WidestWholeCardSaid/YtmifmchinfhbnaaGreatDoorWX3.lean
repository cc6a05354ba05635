import Derived.Test.YtmifmchinfhbnaaGreatDoorBP2
import Derived.Test.YtmifmchinfhbnaaGreatDoorDC5
import Derived.Test.YtmifmchinfhbnaaGreatDoorSV1
import Derived.Test.YtmifmchinfhbnaaGreatDoorEngZ
namespace Go.Proofs.YtmifmchinfhbnaaGreatDoor
open Go.Eng Go.Plain
set_option maxRecDepth 100000
set_option linter.unusedVariables false
def gwF (p:Pr) (g:G) (c:Cf) (v x:Nat):Nat->Nat->V:=fun u _=>.int .i64 (if u<v then gwK p g c u else if u=v then gwS p g c v x else 0)
theorem X41 (p:Pr) (g:G) (c:Cf) (u j:Nat) (F:Nat->Nat->V) (hF:F u j=.int .i64 0):VLe (F u j) (gwF p g c 0 0 u j):=by
 apply VLe.of_eq;rw[hF,gwF];by_cases h:u=0
 . subst h;rfl
 . rw[if_neg (by omega),if_neg h]
theorem X43 (p:Pr) (g:G) (c:Cf) (v u j:Nat) (h:¬ 0<=J1m p g c v):VLe (gwF p g c v 0 u j) (gwF p g c (v+1) 0 u j):=by
 apply VLe.of_eq;rw[gwF,gwF];congr 1;by_cases h1:u<v
 . rw[if_pos h1,if_pos (by omega)]
 . rw[if_neg h1];by_cases h2:u=v
   . subst h2;rw[if_pos rfl,if_pos (by omega),gwK,if_neg h];rfl
   . rw[if_neg h2,if_neg (by omega)];by_cases h3:u=v+1
     . rw[if_pos h3];rfl
     . rw[if_neg h3]
theorem X7G (p:Pr) (g:G) (c:Cf) (v u j:Nat) (h:0<=J1m p g c v):VLe (gwF p g c v p.vars.length u j) (gwF p g c (v+1) 0 u j):=by
 apply VLe.of_eq;rw[gwF,gwF];congr 1;by_cases h1:u<v
 . rw[if_pos h1,if_pos (by omega)]
 . rw[if_neg h1];by_cases h2:u=v
   . subst h2;rw[if_pos rfl,if_pos (by omega),gwK,if_pos h]
   . rw[if_neg h2,if_neg (by omega)];by_cases h3:u=v+1
     . rw[if_pos h3];rfl
     . rw[if_neg h3]
theorem X42 (p:Pr) (g:G) (c:Cf) (v v' x u j:Nat) (hv:v'=v) (hj:j<1) (a:Int) (ha:a=gwS p g c v (x+1)):VLe (J00 (gwF p g c v x) v' 0 [.int .i64 a] u j) (gwF p g c v (x+1) u j):=by
 obtain rfl:j=0:=by omega
 subst hv ha;apply VLe.of_eq;by_cases h:u=v'
 . subst h;simp[J00,gwF]
 . simp[J00,gwF,h]
def arX (cl:List Nat) (T:Nat->Nat) (i m:Nat) (t:Int):Nat->Nat->V:=fun q j=>match j with
 | 0=>.int .u32 (if q<m then gN cl q else 0:Nat)
 | _+1=>.int .i64 (if q<i then (T (gN cl q):Int) else if q=i then t else 0)
theorem X19 (cl:List Nat) (T:Nat->Nat) (q j:Nat) (hj:j<2):VLe ((fun(_ j:Nat)=>[V.int .u32 0,V.int .i64 0].getD j default) q j) (arX cl T 0 0 0 q j):=by
 apply VLe.of_eq;rcases j with _|_|j
 . rfl
 . show V.int .i64 0=V.int .i64 _;congr 1;rw[if_neg (by omega)];by_cases h:q=0
   . rw[if_pos h]
   . rw[if_neg h]
 . omega
theorem X52 (cl:List Nat) (T:Nat->Nat) (i i' q j:Nat) (hi:i'=i) (hj:j<2) (s k:Int) (hs:s=(gN cl i:Nat)):VLe (J00 (arX cl T i i 0) i' 0 [.int .u32 s,.int .i64 k] q j) (arX cl T i (i+1) k q j):=by
 subst hi hs;apply VLe.of_eq;by_cases h:q=i'
 . subst h;rcases j with _|_|j
   . simp[J00,arX]
   . simp[J00,arX]
   . omega
 . rcases j with _|_|j
   . have:(q<i'+1)=(q<i'):=by simp;omega
     simp[J00,arX,h,this]
   . simp[J00,arX,h]
   . omega
theorem X8l (cl:List Nat) (T:Nat->Nat) (i i' q j j':Nat) (hi:i'=i) (hj':j'=1) (hj:j<2) (t t':Int):VLe (J00 (arX cl T i (i+1) t) i' j' [.int .i64 t'] q j) (arX cl T i (i+1) t' q j):=by
 subst hi hj';apply VLe.of_eq;by_cases h:q=i'
 . subst h;rcases j with _|_|j
   . simp[J00,arX]
   . simp[J00,arX]
   . omega
 . rcases j with _|_|j
   . simp[J00,arX,h]
   . simp[J00,arX,h]
   . omega
theorem X2a (cl:List Nat) (T:Nat->Nat) (i q j:Nat) (t:Int) (ht:t=(T (gN cl i):Nat)):VLe (arX cl T i (i+1) t q j) (arX cl T (i+1) (i+1) 0 q j):=by
 subst ht;apply VLe.of_eq;rcases j with _|j
 . rfl
 . show V.int .i64 _=V.int .i64 _;congr 1;by_cases h:q<i
   . rw[if_pos h,if_pos (by omega)]
   . rw[if_neg h];by_cases h2:q=i
     . rw[if_pos h2,if_pos (by omega),h2]
     . rw[if_neg h2,if_neg (by omega)];by_cases h3:q=i+1
       . rw[if_pos h3]
       . rw[if_neg h3]
theorem X53 (cl:List Nat) (T:Nat->Nat) (q j:Nat) (hq:q<cl.length):VLe (arX cl T cl.length cl.length 0 q j) (vAr (cl.map fun s=>(s,T s)) q j):=by
 apply VLe.of_eq;have hg:gA (cl.map fun s=>(s,T s)) q=(gN cl q,T (gN cl q)):=by
  simp[gA,gN,List.getD_eq_getElem?_getD,List.getElem?_eq_getElem hq]
 rcases j with _|j
 . show V.int .u32 _=V.int .u32 _;rw[hg,if_pos hq]
 . show V.int .i64 _=V.int .i64 _;rw[hg,if_pos hq]
theorem X0Q {p:Pr} (hp:J2M p) {g:G} (hg:g.valid=true) {c:Cf} (hc:J1G p g c) {v x:Nat} (hv:v<g.ids.length) (hx:x<p.vars.length) (hr:0<=J1m p g c v) :
 (bnd g (gV p.vars x) v).1<=gI (J3D p g c v (J1m p g c v).toNat) x/\gI (J3D p g c v (J1m p g c v).toNat) x<=(bnd g (gV p.vars x) v).2:=by
 have hcl:=hc.len;have hs:J2s (2 ^ v) (enN p g c):=fun i hi=>by
  have e:=Q2t hi;rw[J46,Bool.and_eq_true,decide_eq_true_eq,decide_eq_true_eq,<- e];exact⟨hv,hr⟩
 have hd:=J1s hp hg hc hs;have hrow:=J3i p g c (2 ^ v) (v:=v) (by omega);rw[Nat.testBit_two_pow_self,if_pos rfl] at hrow;have h2:=hd.val v (by rw[J3L];omega) x hx;rw[hrow] at h2;exact h2
set_option maxHeartbeats 16000000 in
theorem Q6D (p:Pr) (hp:J2M p) (g:G) (hg:g.valid=true) (kd:Int) (hk:dk kd=true) (hn:J0X p g<=32768) (c:Cf) (hc:J1G p g c) (he:(chs g kd (enN p g c)).2=0) :
 J0G Tryz.prog 28 [bP p g kd,.vec 0 1 0 g.ids.length,.int .i64 (rkC p g c)] [(999,GB),(0,J8D p g (cF c) [])] KS.tail fun X own' _=>X=.tup [.int .u32 (enN p g c),.vec 1 2 0 (chs g kd (enN p g c)).1.length,.int .i64 0] /\
  own'=[(1,.vec (chs g kd (enN p g c)).1.length 2 (vAr ((chs g kd (enN p g c)).1.map fun s=>(s,rkC p g (J0A p g c s))))),(999,GB),(0,J8D p g (cF c) [])]:=by
 obtain⟨f1,f2,f3,f4,f5,f6,f7⟩:=J0f hg;have hcl:=hc.len;have hvl:=hp.vlen;refine J1u ?_;refine J0d J0b Tryz.func28 rfl hc28 hr28 rfl ?_
 repeat' ((conv=>whnf);first|fail)
 all_goals (conv=>whnf)
 refine J0u J0b [0,1,2,10,21,22] [] [2,3,4,5,6,7,8,9,10,11,12,13,14,15,16,17,18,19,20,21,22,23,24,25,26,27,28,29] [1,999,0] (fun v:Nat=>[(9,.int .u32 (nb (fun u=>decide (0<=J1m p g c u)) v)),(23,.int .i64 v)]) (fun own v=>J1l own 1 (.vec 24 1 (gwF p g c v 0))) (fun m v=>m=g.ids.length-v/\v<=g.ids.length) g.ids.length 0 ⟨rfl,Nat.zero_le _⟩ rfl (fun _=>rfl) ?_ ?_
 . refine J0c (fun _ _=>[(0,some 0),(1,some 1),(999,some 999)]) ?_ ?_ rfl
   . repeat' (first|exact True.intro|exact J0a.oel rfl rfl|(refine⟨⟨_,rfl,?_⟩,?_⟩)|exact J0a.kf rfl|exact J0a.vec rfl rfl rfl)
   . repeat' (first|exact⟨rfl,rfl,True.intro,fun i hi=>rfl,fun i j t hi hn hj ht=>VLe.rfl⟩|exact X41 p g c i j (fun _ _=>.int .i64 0) rfl|exact True.intro|exact⟨rfl,rfl,rfl⟩|(refine⟨⟨_,rfl,?_⟩,?_⟩)|(refine⟨Nat.le_refl _,rfl,fun i j hi hj=>?_⟩))
 rintro m v ⟨hm,hv⟩;by_cases hvn:v<g.ids.length
 . have hru:=X4e p hp g hg c hc v (by omega);by_cases hr0:0<=J1m p g c v
   . have hrl:=Q3H p g c v;have hmo:=X0P p hp g hg c hc v hvn (J1m p g c v).toNat (by omega);rw[show(((J1m p g c v).toNat:Nat):Int)=J1m p g c v by omega] at hmo
     repeat' ((conv=>whnf);first|(refine Br.dec ?_ ?_<;>intro _<;>try omega)|(refine Ar.sh1 (by omega) ?_)|(refine Sv.mk _ rfl ?_)|(refine Nn.mk (by omega) ?_)|(refine J1j hru rfl ⟨Nat.le_refl _,VLe.rfl,Q2M hc _ (fun i j=>VLe.rfl),VLe.rfl,True.intro⟩ ?_)|(refine J1E [(0,some 0)] [1] (hmo.mono ?_) ⟨J0a.kf rfl,J0a.vec rfl rfl rfl,J0a.kf rfl,J0a.kf rfl,True.intro⟩ (by repeat' (first|(refine⟨rfl,rfl,True.intro,fun i hi=>rfl,fun i j t hi hn hj ht=>VLe.rfl⟩)|exact True.intro|(refine⟨⟨_,rfl,?_⟩,?_⟩))) rfl;rintro _ _ _ ⟨rfl,rfl⟩)|(refine Chk.mk rfl ?_))
     all_goals (conv=>whnf)
     refine J1M J0b [0,1,2,9,10,11,21,22,23,46,47] [3] [4,5,6,7,8,9,10,11,12,13,14,15,16,17,18,19,20,21,22,23,24,25,26,27,28,29] [3,2,1,999,0] (fun x:Nat=>[(48,.int .i64 x)]) (fun x=>(3,.vec (Q5q p v) 1 (J3r (cF c) v))::J1l [(2,.vec p.vars.length 1 (vI (J3D p g c v (J1m p g c v).toNat))),(1,.vec 24 1 (gwF p g c v x)),(999,GB),(0,J8D p g (cF c) [])] 0 (J8D p g (cF c) [(v,3)])) (fun m x=>m=p.vars.length-x/\x<=p.vars.length) p.vars.length 0 ⟨rfl,Nat.zero_le _⟩ rfl (fun _=>rfl) ?_ ?_
     . refine J3c.trans ?_ (J0V (own:=[(2,.vec p.vars.length 1 (vI (J3D p g c v (J1m p g c v).toNat))),(1,.vec 24 1 (gwF p g c v 0)),(999,GB),(0,J8D p g (cF c) [])]) (ks:=[3,4,5,6,7,8,9,10,11,12,13,14,15,16,17,18,19,20,21,22,23,24,25,26,27,28,29]) rfl rfl rfl hvn rfl) (J2G rfl);refine J0c (fun _ _=>[(0,some 0),(1,some 1),(2,some 2),(999,some 999)]) ?_ ?_ rfl
       . repeat' (first|exact True.intro|exact J0a.oel rfl rfl|(refine⟨⟨_,rfl,?_⟩,?_⟩)|exact J0a.kf rfl|exact J0a.vec rfl rfl rfl)
       . repeat' (first|exact⟨rfl,rfl,True.intro,fun i hi=>rfl,fun i j t hi hn hj ht=>VLe.rfl⟩|exact True.intro|exact⟨rfl,rfl,rfl⟩|(refine⟨⟨_,rfl,?_⟩,?_⟩)|(refine⟨Nat.le_refl _,rfl,fun i j hi hj=>?_⟩)|exact VLe.rfl)
     rintro m2 x ⟨hm2,hx⟩;have hlm:Q5q p v=p.vars.length:=rfl;by_cases hxn:x<p.vars.length
     . have hgx:=Q8k hp hg hc hvn hxn hr0 hn;have hgs:=Q2F hp hg hc hvn hr0 hn (x:=x) (by omega);have hgs2:=Q2F hp hg hc hvn hr0 hn (x:=x+1) (by omega);have hb1:=hc.val v (by omega) x hxn;have hmi:=X0Q hp hg hc hvn hxn hr0;have hbi:=J5W hg (hp.var x hxn) (v:=v) (by omega);have hmz:gI (J3D p g c v (J1m p g c v).toNat) (0+x)=gI (J3D p g c v (J1m p g c v).toNat) x:=by rw[Nat.zero_add]
       have hcv:cF c v (0+x)=gI (gC c v) x:=by rw[Nat.zero_add]
       have hmulx:(gI (J3D p g c v (J1m p g c v).toNat) (0+x)-cF c v (0+x))*(plP p g v x:Nat)=gwX p g c v x:=by rw[Nat.zero_add];rfl
       have hsum:(if v<v then gwK p g c v else if v=v then gwS p g c v x else 0)+gwX p g c v x=gwS p g c v (x+1):=by
        rw[if_neg (Nat.lt_irrefl _),if_pos rfl];rfl
       repeat' ((conv=>whnf);first|(refine Ar.i64 (by rw[hmulx];omega) (by rw[hmulx];omega) ?_;rw[hmulx])|(refine Ar.i64 (by rw[hsum];omega) (by rw[hsum];omega) ?_;rw[hsum])|(refine Br.dec ?_ ?_<;>intro _<;>try omega)|(refine Ar.i64 (by omega) (by omega) ?_)|(refine Ix.nat (by omega) ?_)|(refine Ltn.mk (by omega) ?_)|(refine Opn.hd (by omega) ?_))
       all_goals (conv=>whnf)
       refine⟨_,x+1,by omega,⟨rfl,by omega⟩,?_⟩;refine J0c (fun _ _=>[(0,some 0),(1,some 1),(2,some 2),(3,some 3),(999,some 999)]) ?_ ?_ rfl
       . repeat' (first|exact True.intro|exact J0a.oel rfl rfl|(refine⟨⟨_,rfl,?_⟩,?_⟩)|exact J0a.kf rfl|exact J0a.vec rfl rfl rfl)
       . repeat' (first|exact⟨rfl,rfl,⟨rfl,rfl,True.intro⟩,fun i hi=>rfl,fun i j t hi hn hj ht=>VLe.rfl⟩|exact X42 _ _ _ _ _ _ _ _ rfl hj _ rfl|exact True.intro|exact⟨rfl,rfl,rfl⟩|(refine⟨⟨_,rfl,?_⟩,?_⟩)|(refine⟨Nat.le_refl _,rfl,fun i j hi hj=>?_⟩)|exact VLe.rfl)
     . repeat' ((conv=>whnf);first|(refine Br.dec ?_ ?_<;>intro _<;>try omega)|(refine Ar.i64 (by omega) (by omega) ?_))
       all_goals (conv=>whnf)
       have ex:x=p.vars.length:=by omega
       have hx:=Y0q (p:=fun u=>decide (0<=J1m p g c u)) (k:=v) (by omega) (decide_eq_true hr0);refine⟨_,v+1,by omega,⟨rfl,by omega⟩,?_⟩;refine J3c.trans (J1R (J1h (q:=3) (k:=0) (i:=v) [] rfl rfl hvn (J0n rfl) (Nat.le_refl _) rfl (fun j hj=>(J0j (fun e=>hj e.symm)).symm))) ?_ (J64 rfl);refine J0c (fun _ _=>[(0,some 0),(1,some 1),(999,some 999)]) ?_ ?_ rfl
       . repeat' (first|exact J0a.int hx|exact True.intro|exact J0a.oel rfl rfl|(refine⟨⟨_,rfl,?_⟩,?_⟩)|exact J0a.kf rfl|exact J0a.vec rfl rfl rfl)
       . repeat' (first|exact⟨rfl,rfl,True.intro,fun i hi=>rfl,fun i j t hi hn hj ht=>J3N _ _ _ _ _⟩|(rw[ex];exact X7G _ _ _ _ _ _ hr0)|exact True.intro|exact⟨rfl,rfl,rfl⟩|(refine⟨⟨_,rfl,?_⟩,?_⟩)|(refine⟨Nat.le_refl _,rfl,fun i j hi hj=>?_⟩))
   . repeat' ((conv=>whnf);first|(refine Br.dec ?_ ?_<;>intro _<;>try omega)|(refine Ar.i64 (by omega) (by omega) ?_)|(refine J1j hru rfl ⟨Nat.le_refl _,VLe.rfl,Q2M hc _ (fun i j=>VLe.rfl),VLe.rfl,True.intro⟩ ?_))
     all_goals (conv=>whnf)
     have hx:=Y0r (p:=fun u=>decide (0<=J1m p g c u)) (k:=v) (decide_eq_false hr0);refine⟨_,v+1,by omega,⟨rfl,by omega⟩,?_⟩;refine J0c (fun _ _=>[(0,some 0),(1,some 1),(999,some 999)]) ?_ ?_ rfl
     . repeat' (first|exact J0a.int (by rw[hx])|exact True.intro|exact J0a.oel rfl rfl|(refine⟨⟨_,rfl,?_⟩,?_⟩)|exact J0a.kf rfl|exact J0a.vec rfl rfl rfl)
     . repeat' (first|exact⟨rfl,rfl,True.intro,fun i hi=>rfl,fun i j t hi hn hj ht=>VLe.rfl⟩|exact X43 _ _ _ _ _ _ hr0|exact True.intro|exact⟨rfl,rfl,rfl⟩|(refine⟨⟨_,rfl,?_⟩,?_⟩)|(refine⟨Nat.le_refl _,rfl,fun i j hi hj=>?_⟩))
 . have ev:v=g.ids.length:=by omega
   subst ev;have h32:=Q1z p hg c;have hch:=Q2y g hg kd (enN p g c) h32 (J9L p hg c);rw[he] at hch;have hcl2:=X5F (g:=g) (k:=kd) h32;have hcm:∀s,s∈(chs g kd (enN p g c)).1->s<4294967296/\J2s s (enN p g c):=fun s hs=>⟨J48 h32 s hs,(J1T (J48 h32 s hs)).1 (J2c.1 ((J7x hk h32 (J48 h32 s hs) he).1 hs)).2.1⟩;change RG _ [_,_,.int .u32 (nb (fun u=>decide (0<=J1m p g c u)) g.ids.length:Nat)] _ at hch;generalize (chs g kd (enN p g c)).1=cl at *
   repeat' ((conv=>whnf);first|(refine Br.ff ?_)|(refine Br.dec ?_ ?_<;>intro _<;>try omega)|(refine Bd.nat (by omega) ?_)|(refine Len.mk (by omega) ?_)|(refine hch.gog ?_))
   all_goals (conv=>whnf)
   refine J1M J0b [2,9,10,17,99,100] [] [4,5,6,7,8,9,10,11,12,13,14,15,16,17,18,19,20,21,22,23,24,25,26,27,28,29] [3,2,1,999,0] (fun i:Nat=>[(101,.int .i64 i)]) (fun i=>[(3,.cells [.vec 2 2 0 cl.length]),(2,.vec cl.length 2 (arX cl (fun s=>rkC p g (J0A p g c s)) i i 0)),(1,.vec 24 1 (gwF p g c g.ids.length 0)),(999,GB),(0,J8D p g (cF c) [])]) (fun m i=>m=cl.length-i/\i<=cl.length) cl.length 0 ⟨rfl,Nat.zero_le _⟩ rfl (fun _=>rfl) ?_ ?_
   . refine J0c (fun _ _=>[(0,some 0),(1,some 1),(2,some 2),(3,some 3),(999,some 999)]) ?_ ?_ rfl
     . repeat' (first|exact True.intro|exact J0a.oel rfl rfl|(refine⟨⟨_,rfl,?_⟩,?_⟩)|exact J0a.kf rfl|exact J0a.loc rfl)
     . repeat' (first|exact⟨rfl,rfl,True.intro,fun i hi=>rfl,fun i j t hi hn hj ht=>VLe.rfl⟩|exact X19 _ _ _ _ hj|exact True.intro|exact⟨rfl,rfl,rfl⟩|(refine⟨⟨_,rfl,?_⟩,?_⟩)|exact J0a.vec rfl rfl rfl|(refine⟨Nat.le_refl _,rfl,fun i j hi hj=>?_⟩)|exact VLe.rfl|(refine And.intro ?_ ?_))
   rintro m i ⟨hm2,hi⟩;by_cases hil:i<cl.length
   . obtain⟨s32,spt⟩:=hcm (gN cl i) (J8x hil);generalize hs:gN cl i=s at *
     repeat' ((conv=>whnf);first|(refine Br.dec ?_ ?_<;>intro _<;>try omega)|(refine Ix.nat (by omega) ?_)|(refine Ltn.mk (by omega) ?_)|(refine J0d J0b Tryz.func65 rfl Y1f Y0B rfl ?_)|(refine J1z ?_)|(refine Chk.mk (by kernel_rfl) ?_)|(refine J0d J0b Tryz.func106 rfl X40 X4X rfl ?_))
     all_goals (conv=>whnf)
     have hkc:=Q6Z hp hg hc;have hsn:∀u,s.testBit u=true->u<g.ids.length:=fun u hu=>by
      have:=spt u hu;rw[J46,Bool.and_eq_true,decide_eq_true_eq] at this;exact this.1
     refine J0u J0b [0,1] [] [7,8,9,10,11,12,13,14,15,16,17,18,19,20,21,22,23,24,25,26,27,28,29] [6,5,4,3,2,1,999,0] (fun b:Nat=>[]) (fun own b=>J1l (J1l own 5 (.cells [.int .u32 (upS s b)])) 2 (.vec cl.length 2 (arX cl (fun s=>rkC p g (J0A p g c s)) i (i+1) (toS p g c (rkC p g c) s b)))) (fun m b=>m=g.ids.length-b/\b<=g.ids.length) g.ids.length 0 ⟨rfl,Nat.zero_le _⟩ rfl (fun _=>rfl) ?_ ?_
     . have hx:=J83 s32;have ht0:toS p g c (rkC p g c) s 0=(rkC p g c:Nat):=by rw[toS,J97];exact Int.add_zero _
       refine J0c (fun _ _=>[(0,some 0),(1,some 1),(2,some 2),(3,some 3),(4,some 4),(5,some 5),(6,some 6),(999,some 999)]) ?_ ?_ rfl
       . repeat' (first|exact J0a.yld rfl|exact True.intro|(refine⟨⟨_,rfl,?_⟩,?_⟩)|exact J0a.loc rfl)
       . repeat' (first|exact⟨rfl,rfl,True.intro,fun i hi=>rfl,fun i j t hi hn hj ht=>VLe.rfl⟩|exact J0a.int (by rw[hx,<- hs])|(refine J0a.fn ?_)|(refine⟨rfl,rfl,rfl,rfl,rfl,?_⟩)|(rw[ht0];exact X52 _ _ _ _ _ _ (Nat.zero_add _) hj _ _ rfl)|exact True.intro|exact J0a.oel rfl rfl|exact⟨rfl,rfl,rfl⟩|(refine⟨⟨_,rfl,?_⟩,?_⟩)|exact J0a.kf rfl|exact J0a.loc rfl|exact J0a.vec rfl rfl rfl|(refine⟨Nat.le_refl _,rfl,fun i j hi hj=>?_⟩)|exact VLe.rfl|(refine And.intro ?_ ?_))
     rintro m3 b ⟨hm3,hb⟩;have hul:=Q3r s b;have hbn:=Q6v hp hg hc hn (k:=rkC p g c) (s:=s) (b:=b) (by omega) hb;by_cases hu:upS s b=0
     . have hte:=X3X hp hg hc spt;rw[Q3x hb (fun u h1 h2=>Q2h s32 hu u h1)] at hte
       repeat' ((conv=>whnf);first|(refine Br.bne ?_ ?_<;>intro _<;>try omega)|(refine Ar.i64 (by omega) (by omega) ?_))
       all_goals (conv=>whnf)
       refine⟨_,i+1,by omega,⟨rfl,by omega⟩,?_⟩;refine J0c (fun _ _=>[(0,some 0),(1,some 1),(2,some 2),(3,some 3),(999,some 999)]) ?_ ?_ rfl
       . repeat' (first|exact True.intro|exact J0a.oel rfl rfl|(refine⟨⟨_,rfl,?_⟩,?_⟩)|exact J0a.kf rfl|exact J0a.loc rfl)
       . repeat' (first|exact⟨rfl,rfl,True.intro,fun i hi=>rfl,fun i j t hi hn hj ht=>VLe.rfl⟩|exact X2a _ _ _ _ _ _ (by rw[hs];exact hte)|exact True.intro|exact⟨rfl,rfl,rfl⟩|(refine⟨⟨_,rfl,?_⟩,?_⟩)|exact J0a.vec rfl rfl rfl|(refine⟨Nat.le_refl _,rfl,fun i j hi hj=>?_⟩)|exact VLe.rfl|(refine And.intro ?_ ?_))
     . obtain⟨v1,v2,v3,v4,v5⟩:=J84 s32 hu;have htz:=X3O _ hu hul;have hr:J5X .and .u32 ((upS s b:Nat):Int) ((upS s b:Nat)-1:Int)=((upS s (ctz (upS s b)+1):Nat):Int):=by
        rw[<- v5,show((upS s b:Nat):Int)-1=((upS s b-1:Nat):Int) by omega,J2j hul (by omega)]
       generalize ctz (upS s b)=v at *;have hvn:=hsn v v3;have hts:=X0c (p:=p) (g:=g) (c:=c) (k:=rkC p g c) v3;rw[Q3x v2 v4] at hts;have hbn2:=Q6v hp hg hc hn (k:=rkC p g c) (s:=s) (b:=v+1) (by omega) hvn;have hsum:(if 0+i<i then ((rkC p g (J0A p g c (gN cl (0+i))):Nat):Int) else if 0+i=i then toS p g c (rkC p g c) s b else 0)+(if v<g.ids.length then gwK p g c v else if v=g.ids.length then gwS p g c g.ids.length 0 else 0)=toS p g c (rkC p g c) s (v+1):=by
        rw[Nat.zero_add,if_neg (Nat.lt_irrefl _),if_pos rfl,if_pos hvn,hts]
       repeat' ((conv=>whnf);first|(refine Ar.i64 (by rw[hsum];omega) (by rw[hsum];omega) ?_;rw[hsum])|(refine Br.tt ?_)|(refine Br.bne ?_ ?_<;>intro _<;>try omega)|(refine Ar.u32 (by omega) (by omega) ?_)|(refine Sv.mk _ rfl ?_)|(refine Ix.nat (by omega) ?_)|(refine Ltn.mk (by omega) ?_)|(refine htz.gog ?_)|(refine J1f J0b rfl rfl ?_))
       all_goals (conv=>whnf)
       refine⟨_,v+1,by omega,⟨rfl,hvn⟩,?_⟩;refine J0c (fun _ _=>[(0,some 0),(1,some 1),(2,some 2),(3,some 3),(4,some 4),(5,some 5),(6,some 6),(999,some 999)]) ?_ ?_ rfl
       . repeat' (first|exact J0a.yld rfl|exact True.intro|(refine⟨⟨_,rfl,?_⟩,?_⟩)|exact J0a.loc rfl)
       . repeat' (first|exact⟨rfl,rfl,True.intro,fun i hi=>rfl,fun i j t hi hn hj ht=>VLe.rfl⟩|exact J0a.int hr|(refine J0a.fn ?_)|(refine⟨rfl,rfl,rfl,rfl,rfl,?_⟩)|exact X8l _ _ _ _ _ _ _ (Nat.zero_add _) rfl hj _ _|exact True.intro|exact J0a.oel rfl rfl|exact⟨rfl,rfl,rfl⟩|(refine⟨⟨_,rfl,?_⟩,?_⟩)|exact J0a.kf rfl|exact J0a.loc rfl|exact J0a.vec rfl rfl rfl|(refine⟨Nat.le_refl _,rfl,fun i j hi hj=>?_⟩)|exact VLe.rfl|(refine And.intro ?_ ?_))
   . have ei:i=cl.length:=by omega
     subst ei
     repeat' ((conv=>whnf);first|(refine Br.dec ?_ ?_<;>intro _<;>try omega)|(refine And.intro rfl ?_))
     all_goals (conv=>whnf)
     exact J1A (fun _=>[(0,some 0),(1,some 2),(999,some 999)]) _ _ ⟨rfl,rfl⟩ (J0a.tup ⟨J0a.kf rfl,J0a.vec rfl rfl rfl,J0a.kf rfl,True.intro⟩) (by repeat' (first|(refine⟨rfl,rfl,True.intro,fun i hi=>rfl,fun i j t hi hn hj ht=>VLe.rfl⟩)|(refine⟨Nat.le_refl _,rfl,fun i j hi hj=>X53 _ _ _ _ hi⟩)|exact True.intro|exact⟨rfl,rfl,rfl⟩|(refine⟨⟨_,rfl,?_⟩,?_⟩))) rfl
def X18 (p:Pr) (g:G) (kd:Int) (k:Nat):Nat->Nat->V:=fun i _=>if i<k then arV (J7Y p g kd i) else .nilslice
def X5k (p:Pr) (g:G) (k:Nat):Nat->Nat->V:=fun i _=>.int .u32 (if i<k then enN p g (cfK p g i) else 0:Nat)
theorem Q9r (p:Pr) (g:G) (kd:Int) (i j:Nat) (hj:j<1):VLe ((fun(_ j:Nat)=>[V.nilslice].getD j default) i j) (X18 p g kd 0 i j):=by
 obtain rfl:j=0:=by omega
 exact VLe.rfl
theorem Q8D (p:Pr) (g:G) (i j:Nat) (hj:j<1):VLe ((fun(_ j:Nat)=>[V.int .u32 0].getD j default) i j) (X5k p g 0 i j):=by
 obtain rfl:j=0:=by omega
 exact VLe.rfl
theorem X1q (p:Pr) (g:G) (k k' i j:Nat) (hk:k'=k) (hj:j<1):VLe (J00 (X5k p g k) k' 0 [.int .u32 (enN p g (cfK p g k))] i j) (X5k p g (k+1) i j):=by
 obtain rfl:j=0:=by omega
 subst hk;apply VLe.of_eq;by_cases h:i=k'
 . subst h;simp[J00,X5k]
 . have h1:(i<k'+1)=(i<k'):=by simp;omega
   simp[J00,X5k,h,h1]
theorem X17 (p:Pr) (g:G) (kd:Int) (k k' i j:Nat) (X:V) (hX:VLe X (arV (J7Y p g kd k))) (hk:k'=k) (hj:j<1):VLe (J00 (X18 p g kd k) k' 0 [X] i j) (X18 p g kd (k+1) i j):=by
 obtain rfl:j=0:=by omega
 subst hk;by_cases h:i=k'
 . subst h;have e1:J00 (X18 p g kd i) i 0 [X] i 0=X:=by simp[J00]
   have e2:X18 p g kd (i+1) i 0=arV (J7Y p g kd i):=by simp[X18]
   rw[e1,e2];exact hX
 . apply VLe.of_eq;have h1:(i<k'+1)=(i<k'):=by simp;omega
   simp[J00,X18,h,h1]
theorem X74 (p:Pr) (g:G) {v x:Nat} (hv:v<g.ids.length) (hx:x<p.vars.length):loP p g v x=cF (cfK p g 0) v x:=by
 show _=gI (gC (cfK p g 0) v) x;rw[J3W p g 0 hv hx,dgP,Mx.dg_zero];simp
theorem X51 (p:Pr) (g:G) (kd:Int) (k n:Nat) (hn:n=(chs g kd (enN p g (cfK p g k))).1.length):VLe (.fz n 2 false (J0l 0 (vAr ((chs g kd (enN p g (cfK p g k))).1.map fun s=>(s,rkC p g (J0A p g (cfK p g k) s)))))) (arV (J7Y p g kd k)):=by
 refine VLe.fz ?_ (fun h=>h) (fun i j hi hj=>VLe.of_eq (by rw[J0v,Nat.zero_add];rfl));rw[hn,J7Y,List.length_map]
set_option maxHeartbeats 16000000 in
theorem Q6M (p:Pr) (hp:J2M p) (g:G) (hs:g.Small) (hg:g.valid=true) (kd:Int) (hk:dk kd=true) (hn:J0X p g<=32768) (he:∀c,(chs g kd (enN p g c)).2=0) (ht:(J4l p g kd).tot (J0X p g)<=262144) :
 RG 8 [p.v,g.v,.int .i64 kd] (.tup [(J4l p g kd).v,.int .i64 0]):=by
 obtain⟨f1,f2,f3,f4,f5,f6,f7⟩:=J0f hg;have hvl:=hp.vlen;have h1:=Q7L p hp g hs hg hn;have h2:=Q8K kd;rw[hk] at h2;have h3:=Q5K p hp g hs hg kd hn;have h4:=Q7D p hp g hs hg;refine J32 rfl ?_;refine J0d J0b Tryz.func8 rfl hc8 hr8 rfl ?_
 repeat' ((conv=>whnf);first|(refine Br.tt ?_)|(refine Br.ff ?_)|(refine Bd.nat (by omega) ?_)|(refine Len.mk (by omega) ?_)|(refine MkS.vec ?_)|(refine h1.go ?_)|(refine h2.go ?_)|(refine h3.go ?_)|(refine J1E [] [0] (h4.mono ?_) ⟨J0a.kf rfl,J0a.kf rfl,True.intro⟩ True.intro rfl;rintro _ _ _ ⟨rfl,rfl⟩)|(refine Chk.mk rfl ?_))
 all_goals (conv=>whnf)
 refine J1M J0b [6,10,11,12,56] [] [7,8,9,10,11,12,13,14,15,16,17,18,19,20,21,22,23,24,25,26,27,28,29] [6,5,4,3,2,1,0,999] (fun k:Nat=>[(14,.int .i64 ((J4l p g kd).tot k)),(57,.int .i64 k)]) (fun k=>[(6,J8D p g (cF (cfK p g k)) []),(5,.cells [.vec 3 1 0 (J0X p g),.vec 4 1 0 (J0X p g)]),(4,.vec (J0X p g) 1 (X18 p g kd k)),(3,.vec (J0X p g) 1 (X5k p g k)),(2,.cells [.nilslice,.nilslice]),(1,.cells [.fz g.ids.length 1 false (vI g.ids),.fz g.ports.length 1 false (vP g.ports)]),(0,.cells [.str p.nm,p.pg.vs,p.pg.rs]),(999,GB)]) (fun m k=>m=J0X p g-k/\k<=J0X p g) (J0X p g) 0 ⟨rfl,Nat.zero_le _⟩ rfl (fun _=>rfl) ?_ ?_
 . refine J0c (fun _ _=>[(0,some 0),(1,some 1),(2,some 2),(3,some 3),(4,some 4),(5,some 5),(6,some 6),(999,some 999)]) ?_ ?_ rfl
   . repeat' (first|exact True.intro|(refine⟨⟨_,rfl,?_⟩,?_⟩)|exact J0a.kf rfl|exact J0a.loc rfl|exact J0a.vec rfl rfl rfl)
   . repeat' (first|exact⟨rfl,rfl,True.intro,fun i hi=>rfl,fun i j t hi hn hj ht=>VLe.of_eq (congrArg (V.int .i64) (X74 p g hi hj))⟩|exact Q9r _ _ _ _ _ hj|exact Q8D _ _ _ _ hj|exact True.intro|exact⟨rfl,rfl,rfl⟩|(refine⟨⟨_,rfl,?_⟩,?_⟩)|exact J0a.kf rfl|exact J0a.vec rfl rfl rfl|(refine⟨Nat.le_refl _,rfl,fun i j hi hj=>?_⟩)|(refine And.intro ?_ ?_))
 rintro m k ⟨hm,hkc⟩;by_cases hkn:k<J0X p g
 . have hst:=Q6D p hp g hg kd hk hn (cfK p g k) (J1q hp hg k) (he _);rw[X6P hkn] at hst;have had:=X4E p hp g hg k hkn;have htk:=J4P (fun k=>((J4l p g kd).ar k).length) (show k+1<=J0X p g by omega);change (J4l p g kd).tot (k+1)<=(J4l p g kd).tot (J0X p g) at htk;have htn:(J4l p g kd).tot (k+1)=(J4l p g kd).tot k+(chs g kd (enN p g (cfK p g k))).1.length:=by
    show(J4l p g kd).tot k+(J7Y p g kd k).length=_;rw[J7Y,List.length_map]
   repeat' ((conv=>whnf);first|(refine Br.ff ?_)|(refine Br.dec ?_ ?_<;>intro _<;>try omega)|(refine Ar.i64 (by omega) (by omega) ?_)|(refine Ix.nat (by omega) ?_)|(refine Len.mk (by omega) ?_)|(refine Ltn.mk (by omega) ?_)|(refine J1E [(999,some 999),(0,some 6)] [1] (hst.mono ?_) ⟨J0a.kf rfl,J0a.vec rfl rfl rfl,J0a.kf rfl,True.intro⟩ (by repeat' (first|(refine⟨rfl,rfl,True.intro,fun i hi=>rfl,fun i j t hi hn hj ht=>VLe.rfl⟩)|exact True.intro|exact⟨rfl,rfl,rfl⟩|(refine⟨⟨_,rfl,?_⟩,?_⟩))) rfl;rintro _ _ _ ⟨rfl,rfl⟩)|(refine J1E [(0,some 6)] [] (had.mono ?_) ⟨J0a.kf rfl,J0a.vec rfl rfl rfl,True.intro⟩ (by repeat' (first|(refine⟨rfl,rfl,True.intro,fun i hi=>rfl,fun i j t hi hn hj ht=>VLe.rfl⟩)|exact True.intro|(refine⟨⟨_,rfl,?_⟩,?_⟩))) rfl;rintro _ _ _ ⟨rfl,rfl⟩)|(refine Chk.mk rfl ?_)|(refine And.intro rfl ?_))
   all_goals (conv=>whnf)
   refine⟨_,k+1,by omega,⟨rfl,by omega⟩,?_⟩;refine J0c (fun _ _=>[(0,some 0),(1,some 1),(2,some 2),(3,some 3),(4,some 4),(5,some 5),(6,some 6),(999,some 999)]) ?_ ?_ rfl
   . repeat' (first|exact True.intro|(refine⟨⟨_,rfl,?_⟩,?_⟩)|exact J0a.kf rfl|exact J0a.int (by omega)|exact J0a.loc rfl|exact J0a.vec rfl rfl rfl)
   . repeat' (first|exact⟨rfl,rfl,True.intro,fun i hi=>rfl,fun i j t hi hn hj ht=>VLe.rfl⟩|exact X1q _ _ _ _ _ _ (Nat.zero_add _) hj|exact X17 p g kd _ _ _ _ _ (X51 p g kd k _ rfl) (Nat.zero_add _) hj|exact True.intro|exact⟨rfl,rfl,rfl⟩|(refine⟨⟨_,rfl,?_⟩,?_⟩)|exact J0a.kf rfl|exact J0a.vec rfl rfl rfl|(refine⟨Nat.le_refl _,rfl,fun i j hi hj=>?_⟩)|(refine And.intro ?_ ?_))
 . have ek:k=J0X p g:=by omega
   subst ek
   repeat' ((conv=>whnf);first|(refine Br.dec ?_ ?_<;>intro _<;>try omega)|(refine Len.mk (by omega) ?_))
   all_goals (conv=>whnf)
   refine VLe.tup ⟨VLe.agg ⟨VLe.fz rfl (fun h=>h) (fun i j hi hj=>VLe.of_eq ?_),VLe.fz rfl (fun h=>h) (fun i j hi hj=>VLe.of_eq ?_),True.intro⟩,VLe.rfl,True.intro⟩
   . rw[J0v,Nat.zero_add,X5k,if_pos hi];rfl
   . rw[J0v,Nat.zero_add,X18,if_pos hi];rfl
theorem Q6S {sz:Nat->Nat} {m B:Nat}:∀{n:Nat},(∀v,v<n->Mx.pr sz (v*m) m<=B)->Mx.pr sz 0 (n*m)<=B ^ n
 | 0,_=>by simp[Mx.pr]
 | n+1,h=>by
   rw[Nat.add_mul,Nat.one_mul,J9r,Nat.zero_add,Nat.pow_succ];exact Nat.mul_le_mul (Q6S fun v hv=>h v (by omega)) (h n (by omega))
theorem Q7u {l:List Nat} {m:Nat} (hn:l.Pairwise (·<·)) (h:∀a∈l,a<m):l.length<=m:=by
 have h1:l.Nodup:=by
  rw[List.nodup_iff_pairwise_ne];exact hn.imp fun {a b} h=>Nat.ne_of_lt h
 have:=List.Nodup.length_le_of_subset h1 (fun a ha=>List.mem_range.2 (h a ha));simpa using this
theorem X5E {p:Pr} {g:G} (hg:g.valid=true) {kd:Int} (hk:dk kd=true) (c:Cf):(chs g kd (enN p g c)).1.length<=2 ^ g.ids.length:=by
 have h32:=Q1z p hg c;have hpw:=Q4t p g c;refine Q7u (J8L h32) fun a ha=>?_;by_cases he:(chs g kd (enN p g c)).2=0
 . have h1:=(J7x hk h32 (J48 h32 a ha) he).1 ha;obtain⟨_,b,_⟩:=J2c.1 h1;exact Nat.lt_of_le_of_lt ((J1T (J48 h32 a ha)).1 b).le hpw
 . rw[(Q87 hk he).2.1] at ha;cases ha
theorem Q6t {p:Pr} {g:G} (hg:g.valid=true) {kd:Int} (hk:dk kd=true):(J4l p g kd).tot (J0X p g)<=J0X p g*2 ^ g.ids.length:=by
 rw[Tsy.tot];refine Q6B _ _ (fun k=>?_) _;show(J7Y p g kd k).length<=_;rw[J7Y,List.length_map];exact X5E hg hk _
theorem X5B:∀{n e:Nat},e<2 ^ n->n<=32->cnt e 32<=n:=by
 intro n e h hn;have e1:(32:Nat)=n+(32-n):=by omega
 rw[e1,J5w,Nat.shiftRight_eq_div_pow,Nat.div_eq_of_lt h,J9S (fun i _=>Nat.zero_testBit i)];have:=J4p e n;omega
theorem J20 {p:Pr} {g:G} (hg:g.valid=true) {kd:Int} (hk:dk kd=true) (hn:g.ids.length<=10) (c:Cf):(chs g kd (enN p g c)).2=0:=by
 apply Classical.byContradiction;intro h;have h1:=(Q87 hk h).2.2.1;have h2:=X5B (Q4t p g c) (by omega);omega
end Go.Proofs.YtmifmchinfhbnaaGreatDoor
namespace Go.Proofs.YtmifmchinfhbnaaGreatDoor
open Go.Eng Go.Plain
set_option maxRecDepth 100000
set_option linter.unusedVariables false
set_option linter.unusedSectionVars false
theorem J6P {P:Program} {f:FuncId} {args args':List V} {Φ:V->Prop} (hk:J2L V.kf args'=true) (hl:LLe args' args) (h:J8U P f args Φ):J8U P f args' Φ:=fun own ks=>by
 constructor;intro M w σ us hlen hd hh;obtain⟨d1,d2⟩:=hl.dens (M:=M) (w:=w) (us:=us) hlen (fun i v u hv hu=>(hd i v u hv hu).kf (J0t hk v (List.mem_of_getElem? hv)) Sg.none);exact(h own ks).out M w σ us d1 (fun i v u hv hu=>(d2 i v u hv hu).mono (Ext.mk (fun _ _ h=>⟨h,rfl⟩) (Nat.le_refl _)) (Sg.none_le σ)) hh
theorem Q0L {P:Program} {f:FuncId} {args args':List V} {X:V} (hk:J2L V.kf args'=true) (hl:LLe args' args) (h:Ret P f args X):Ret P f args' X :=
 J8U.ret (Φ:=fun v=>v=X) (J6P hk hl (h.p rfl)) (fun _ h=>h)
theorem X0x {P:Program} {f:FuncId} {args:List V} {Φ:V->Prop} {X:V} (h:J8U P f args Φ) (hX:∀v,Φ v->v.kf=true/\VLe v X):Ret P f args X:=fun own ks=>by
 constructor;intro M w σ us hlen hd hh;refine((h own ks).out M w σ us hlen hd hh).mono ?_;rintro e w' ⟨M',σ',v,own',ks',u,rfl,hv,hh',tr,kd,hΦ,rfl,rfl⟩;obtain⟨hk,hl⟩:=hX v hΦ;exact⟨M',σ',X,_,_,u,rfl,(hl.out _ _ _ (hv.kf hk Sg.none)).mono (Ext.mk (fun _ _ h=>⟨h,rfl⟩) (Nat.le_refl _)) (Sg.none_le σ'),hh',tr,kd,rfl,rfl,rfl⟩
def blW (n:Nat) (lg:Nat->Bool):V:=.fz n 1 false (J0l 0 (vBl lg))
theorem X12 (n:Nat) (lg:Nat->Bool):VLe (blW n lg) (blV n lg):=VLe.fz rfl (fun h=>h) fun i j hi hj=>VLe.of_eq (by rw[J0v,Nat.zero_add];rfl)
theorem Q9X (lg:Nat->Bool) (n m i j:Nat) (hm:m=n) (hi:i<n+1) (hj:j<1) (b:Bool) (F:Nat->Nat->V) (hF:F 0 0=.bool b) (hb:b=lg n):VLe (J43 (J0l 0 (vBl lg)) m (J0l 0 F) i j) (vBl lg i j):=by
 obtain rfl:j=0:=by omega
 subst hm;apply VLe.of_eq;by_cases h:i<m
 . rw[J1I h,J0v,Nat.zero_add]
 . rw[J1J h];have:i=m:=by omega
   subst this;simp[J0l,hF,vBl,hb]
theorem X5w {p:Pr} (hp:J2M p) {g:G} (hg:g.valid=true) {c:Cf} (h:J1G p g c):J7N c:=by
 obtain⟨f1,f2,f3,f4,f5,f6,f7⟩:=J0f hg;have hl:=h.len;have hv:=hp.vlen;refine⟨by omega,fun r hr=>?_⟩;obtain⟨i,hi,e⟩:=List.mem_iff_getElem.1 hr;have h2:gC c i=r:=by simp[gC,List.getD,hi,e]
 have:=h.row i hi;rw[<- h2];omega
theorem X7X {g:G} (hg:g.valid=true) {v:Nat} (hv:v<g.ports.length):(gR g.ports v).length<=g.ports.length:=by
 obtain⟨f1,f2,f3,f4,f5,f6,f7⟩:=J0f hg;have h:=f6 v hv;rw[okR,Bool.and_eq_true,decide_eq_true_eq] at h;have h1:=List.Nodup.length_le_of_subset (l₂:=(List.range g.ports.length).map Int.ofNat) h.2 (fun a ha=>by
  obtain⟨l,hl,rfl⟩:=List.mem_map.1 ha;have h2:=List.all_eq_true.1 h.1 l hl;simp only[okL,Bool.and_eq_true,decide_eq_true_eq] at h2;exact List.mem_map.2 ⟨l.1.toNat,List.mem_range.2 (by omega),by simp;omega⟩)
 simpa using h1
theorem X1I {p:Pr} {g:G} {B:Nat} (h:∀v,v<g.ids.length->Mx.pr (szP p g) (v*p.vars.length) p.vars.length<=B):J0X p g<=B ^ g.ids.length:=Q6S h
section
variable {p:Pr} (hp:J2M p) {g:G} (hs:g.Small) (hg:g.valid=true) {kd:Int} (hk:dk kd=true) {leg:Cf->Bool} {R M:Int} {Inv:Cf->Cnt->Prop} (hS:Srv p g kd leg R M Inv)
 (h10:g.ids.length<=10) (hN:J0X p g<=32768) (hNm:J0X p g*2 ^ g.ids.length<=262144)
include hp hs hg hk h10 hN hNm
theorem Q16:RG 8 [p.v,g.v,.int .i64 kd] (.tup [(J4l p g kd).v,.int .i64 0]) :=
 Q6M p hp g hs hg kd hk hN (J20 hg hk h10) (Nat.le_trans (Q6t hg hk) hNm)
theorem J57:(J4l p g kd).Ok:=X6I hp hg hk hN (J20 hg hk h10) (Nat.le_trans (Q6t hg hk) hNm)
include hS
theorem Q4X:Ret Tryz.prog 11 [(J4l p g kd).v,blW (J0X p g) (J3G p g leg)] (.tup [blV (J0X p g) fun _=>false,.int .i64 0]):=by
 refine Q0L (args:=[(J4l p g kd).v,blV (J0X p g) (J3G p g leg)]) rfl ⟨VLe.rfl,X12 _ _,True.intro⟩ (X0x (X5z (J4l p g kd) (J57 hp hs hg hk h10 hN hNm) (J3G p g leg)) ?_);rintro _ ⟨L,hL,rfl⟩;have hall:=Q2j hp hg hk hS (J20 hg hk h10) hL;refine⟨rfl,VLe.tup ⟨VLe.fz rfl (fun h=>h) (fun i j hi hj=>VLe.bool ?_),VLe.rfl,True.intro⟩⟩;have:decide (i∈L)=true:=decide_eq_true (hall i hi);show(!decide (i∈L))=false;rw[this];rfl
theorem Q0f:Ret Tryz.prog 12 [(J4l p g kd).v,blW (J0X p g) (J3G p g leg)] (.tup [.bool true,.int .i64 0]) :=
 Q0L (args:=[(J4l p g kd).v,blV (J0X p g) (J3G p g leg)]) rfl ⟨VLe.rfl,X12 _ _,True.intro⟩ (Q5G (J4l p g kd) (J57 hp hs hg hk h10 hN hNm) (J3G p g leg) (fun k _ hl a ha=>Q47 hp hg hk hS (J20 hg hk h10) hl ha))
theorem Q0e (hR:0<=R):J8U Tryz.prog 13 [(J4l p g kd).v,blW (J0X p g) (J3G p g leg)] fun v=>∃r:Nat->Nat,(∀k,k<J0X p g->(r k:Int)<=R)/\v=.tup [inV (J0X p g) r,.int .i64 0]:=by
 have h:=Q6X (J4l p g kd) (J57 hp hs hg hk h10 hN hNm) (J3G p g leg) (fun L hL=>Q2j hp hg hk hS (J20 hg hk h10) hL) (2 ^ g.ids.length) (fun k _=>Q4t p g _) hNm (X2f p g R Inv) (X6H hp hg hk hS (J20 hg hk h10));refine J6P (args:=[(J4l p g kd).v,blV (J0X p g) (J3G p g leg)]) rfl ⟨VLe.rfl,X12 _ _,True.intro⟩ (fun own ks=>(h own ks).mono ?_);rintro _ _ _ ⟨⟨r,h1,h2,rfl⟩,rfl,rfl⟩;refine⟨⟨r,fun k hk'=>?_,rfl⟩,rfl,rfl⟩;cases e:J3G p g leg k with
 | true=>have:=h1 k hk' e;omega
 | false=>exact X6U hp hg hS e (h2 k hk' e)
theorem Q15:J8U Tryz.prog 14 [(J4l p g kd).v,blW (J0X p g) (J3G p g leg)] fun v=>∃r:Nat->Nat,(0<=M->∀k,k<J0X p g->(r k:Int)<=M)/\v=.tup [inV (J0X p g) r,.int .i64 0]:=by
 have h:=X0N (J4l p g kd) (J57 hp hs hg hk h10 hN hNm) (J3G p g leg) (fun L hL=>Q2j hp hg hk hS (J20 hg hk h10) hL) (X3w p g M Inv) (X6J hp hg hk hS (J20 hg hk h10));refine J6P (args:=[(J4l p g kd).v,blV (J0X p g) (J3G p g leg)]) rfl ⟨VLe.rfl,X12 _ _,True.intro⟩ (fun own ks=>(h own ks).mono ?_);rintro _ _ _ ⟨⟨r,h1,h2,rfl⟩,rfl,rfl⟩;refine⟨⟨r,fun hM k hk'=>?_,rfl⟩,rfl,rfl⟩;cases e:J3G p g leg k with
 | true=>have:=h1 k hk' e;omega
 | false=>exact X7p hp hg hS e (h2 k hk' e) hM
end
end Go.Proofs.YtmifmchinfhbnaaGreatDoor
namespace Go.Proofs.YtmifmchinfhbnaaGreatDoor
open Go.Eng
set_option maxRecDepth 100000
set_option linter.unusedVariables false
theorem Q7Z:∀{l m:List Nat},l.Nodup->(∀a∈l,a∈m)->l.length<=m.length
 | [],m,_,_=>Nat.zero_le _
 | a::l,m,hn,hs=>by
   rw[List.nodup_cons] at hn;have ham:=hs a (by simp);have h1:=Q7Z (l:=l) (m:=m.erase a) hn.2 (fun b hb=>(List.mem_erase_of_ne (fun e=>hn.1 (by rw[<- e];exact hb))).2 (hs b (by simp[hb])));have h2:=List.length_erase_of_mem ham;have h3:=List.length_pos_of_mem ham;simp only[List.length_cons];omega
abbrev Pt:=List (List (Int×Int))
def toN (p:Pt) (v i:Nat):Nat:=(gF (gR p v) i).1.toNat
def lay (p:Pt) (f:Nat):Nat->Nat->Int
 | 0,v=>if v=f then 0 else -1
 | k+1,v=>if 0<=lay p f k v then lay p f k v else if (gR p v).any (fun l=>decide (lay p f k l.1.toNat=k)) then (k:Int)+1 else -1
structure J70 (p:Pt) (f:Nat) (r:Nat->Int):Prop where
 low:∀v,v<p.length->-1<=r v
 from_:r f=0
 back:∀v,v<p.length->v≠f->0<=r v->∃l∈gR p v,r l.1.toNat=r v-1/\0<=r l.1.toNat
 on:∀v,v<p.length->0<=r v->∀l∈gR p v,0<=r l.1.toNat/\r l.1.toNat<=r v+1
structure Und (p:Pt):Prop where
 rng:∀v,v<p.length->∀l∈gR p v,l.1.toNat<p.length
 sym:∀v,v<p.length->∀l∈gR p v,∃m∈gR p l.1.toNat,m.1.toNat=v
theorem J70.at_ {p:Pt} {f:Nat} {r:Nat->Int} (hu:Und p) (h:J70 p f r) (hf:f<p.length):∀k v,v<p.length->lay p f k v=if 0<=r v/\r v<=k then r v else -1
 | 0,v,hv=>by
   simp only[lay];by_cases e:v=f
   . subst e;rw[if_pos rfl,h.from_];simp
   . rw[if_neg e];by_cases h0:0<=r v
     . obtain⟨l,_,h1,h2⟩:=h.back v hv e h0;rw[if_neg (by omega)]
     . rw[if_neg (by omega)]
 | k+1,v,hv=>by
   have ih:=fun v hv=>J70.at_ hu h hf k v hv;have hl:=h.low v hv;rw[lay];by_cases h0:0<=r v/\r v<=k
   . have e1:lay p f k v=r v:=by rw[ih v hv,if_pos h0]
     rw[e1,if_pos h0.1];exact(if_pos ⟨h0.1,by omega⟩).symm
   . have e1:lay p f k v=-1:=by rw[ih v hv,if_neg h0]
     rw[e1,if_neg (by decide)];by_cases h1:0<=r v/\r v=k+1
     . have hvf:v≠f:=fun e=>by subst e;rw[h.from_] at h1;omega
       obtain⟨l,hl,q1,q2⟩:=h.back v hv hvf h1.1;have ha:(gR p v).any (fun l=>decide (lay p f k l.1.toNat=k))=true:=by
        rw[List.any_eq_true];refine⟨l,hl,decide_eq_true ?_⟩;rw[ih _ (hu.rng v hv l hl),if_pos ⟨q2,by omega⟩];omega
       rw[if_pos ha];refine Eq.trans ?_ (if_pos ⟨h1.1,by omega⟩).symm;omega
     . refine Eq.trans (if_neg ?_) (if_neg (show ¬ (0<=r v/\r v<=((k+1:Nat):Int)) by omega)).symm;intro ha;rw[List.any_eq_true] at ha;obtain⟨l,hl,e⟩:=ha;have e:=of_decide_eq_true e;have hlr:=hu.rng v hv l hl;rw[ih _ hlr] at e;split at e
       . rename_i h2;obtain⟨m,hm,em⟩:=hu.sym v hv l hl;obtain⟨q1,q2⟩:=h.on _ hlr h2.1 m hm;rw[em] at q1 q2;omega
       . omega
theorem J70.lt {p:Pt} {f:Nat} {r:Nat->Int} (hu:Und p) (h:J70 p f r) {v:Nat} (hv:v<p.length):r v<p.length:=by
 have key:∀m:Nat,∀v,v<p.length->r v=m->∃l:List Nat,l.length=m+1/\l.Nodup/\(∀u∈l,u<p.length)/\∀u∈l,r u<=m:=by
  intro m
  induction m with
  | zero=>intro v hv e;exact⟨[v],rfl,by simp,by simpa using hv,by simp;omega⟩
  | succ m ih =>
    intro v hv e;have hvf:v≠f:=fun x=>by subst x;rw[h.from_] at e;omega
    obtain⟨l,hl,q1,q2⟩:=h.back v hv hvf (by omega);obtain⟨L,l1,l2,l3,l4⟩:=ih _ (hu.rng v hv l hl) (by omega);refine⟨v::L,by simp[l1],List.nodup_cons.2 ⟨fun hm=>?_,l2⟩,?_,?_⟩
    . have:=l4 v hm;omega
    . intro u hu;rcases List.mem_cons.1 hu with rfl|hu
      . exact hv
      . exact l3 u hu
    . intro u hu;rcases List.mem_cons.1 hu with rfl|hu
      . omega
      . have:=l4 u hu;omega
 rcases Int.lt_or_le (r v) 0 with h0|h0
 . omega
 . obtain⟨L,l1,l2,l3,_⟩:=key (r v).toNat v hv (by omega);have:L.length<=(List.range p.length).length:=Q7Z l2 (fun u hu=>List.mem_range.2 (l3 u hu));rw[l1,List.length_range] at this;omega
theorem J70.eq {p:Pt} {f:Nat} {r:Nat->Int} (hu:Und p) (h:J70 p f r) (hf:f<p.length) {v:Nat} (hv:v<p.length):lay p f (p.length-1) v=r v:=by
 have h1:=h.lt hu hv;have h2:=h.low v hv;rw[h.at_ hu hf _ v hv];split
 . rfl
 . omega
def J7Q (p:Nat->Bool):Nat->Nat
 | 0=>0
 | n+1=>J7Q p n+if p n then 1 else 0
theorem J9U {p q:Nat->Bool}:∀{n:Nat},(∀v,v<n->p v=q v)->J7Q p n=J7Q q n
 | 0,_=>rfl
 | n+1,h=>by
   have h1:=J9U (n:=n) fun v hv=>h v (by omega);simp only[J7Q,h1,h n (by omega)]
theorem J9T {p q:Nat->Bool} {u:Nat} (hp:p u=true) (hq:q u=false) (h:∀v,v≠u->p v=q v):∀{n:Nat},u<n->J7Q p n=J7Q q n+1
 | n+1,hn=>by
   simp only[J7Q];by_cases e:u=n
   . subst e;rw[J9U (fun v hv=>h v (by omega)),hp,hq];simp
   . rw[J9T hp hq h (n:=n) (by omega),h n (fun x=>e x.symm)];omega
def unv (r:List Int) (n:Nat):Nat:=J7Q (fun v=>decide (gI r v<0)) n
theorem J7e (r:List Int) (u v:Nat) (d:Int) (hu:u<r.length):gI (r.set u d) v=if v=u then d else gI r v:=by
 simp only[gI,List.getD,List.getElem?_set];by_cases h:u=v
 . subst h;simp[hu]
 . have:¬ v=u:=fun e=>h e.symm;simp[h,this]
structure BI (p:Pt) (f:Nat) (q:List Nat) (r:List Int):Prop where
 len:r.length=p.length
 low:∀v,v<p.length->-1<=gI r v
 from_:gI r f=0
 back:∀v,v<p.length->v≠f->0<=gI r v->∃l∈gR p v,gI r l.1.toNat=gI r v-1/\0<=gI r l.1.toNat
 qn:∀u∈q,u<p.length/\0<=gI r u
 sorted:q.Pairwise fun a b=>gI r a<=gI r b
structure BO (p:Pt) (f:Nat) (q:List Nat) (r:List Int):Prop extends BI p f q r where
 top:∀u∈q,∀v,v<p.length->gI r v<=gI r u+1
 done:∀v,v<p.length->0<=gI r v->v∉q->∀l∈gR p v,0<=gI r l.1.toNat/\gI r l.1.toNat<=gI r v+1
structure BP (p:Pt) (f v i:Nat) (q:List Nat) (r:List Int):Prop extends BI p f q r where
 vn:v<p.length/\0<=gI r v
 most:∀x,x<p.length->gI r x<=gI r v+1
 least:∀u∈q,gI r v<=gI r u
 done:∀x,x<p.length->0<=gI r x->x∉q->x≠v->∀l∈gR p x,0<=gI r l.1.toNat/\gI r l.1.toNat<=gI r x+1
 seen:∀l∈(gR p v).take i,0<=gI r l.1.toNat
theorem BO.pop {p:Pt} {f v:Nat} {q:List Nat} {r:List Int} (h:BO p f (v::q) r):BP p f v 0 q r where
 len:=h.len
 low:=h.low
 from_:=h.from_
 back:=h.back
 qn:=fun u hu=>h.qn u (by simp[hu])
 sorted:=(List.pairwise_cons.1 h.sorted).2
 vn:=h.qn v (by simp)
 most:=h.top v (by simp)
 least:=(List.pairwise_cons.1 h.sorted).1
 done:=fun x hx h0 hq hv=>h.done x hx h0 (by simp only[List.mem_cons,not_or];exact⟨hv,hq⟩)
 seen:=by simp
theorem BP.fin {p:Pt} {f v i:Nat} {q:List Nat} {r:List Int} (hu:Und p) (h:BP p f v i q r) (hi:(gR p v).length<=i):BO p f q r where
 toBI:=h.toBI
 top:=fun u hu x hx=>by have:=h.least u hu;have:=h.most x hx;omega
 done:=fun x hx h0 hq=>by
  by_cases e:x=v
  . subst e;intro l hl;refine⟨h.seen l (by rw[List.take_of_length_le hi];exact hl),h.most _ (hu.rng x hx l hl)⟩
  . exact h.done x hx h0 hq e
theorem BP.skip {p:Pt} {f v i:Nat} {q:List Nat} {r:List Int} (h:BP p f v i q r) (hi:i<(gR p v).length) (h0:0<=gI r (toN p v i)):BP p f v (i+1) q r where
 toBI:=h.toBI
 vn:=h.vn
 most:=h.most
 least:=h.least
 done:=h.done
 seen:=fun l hl=>by
  rw[J28 _ i hi] at hl;rcases List.mem_append.1 hl with h1|h1
  . exact h.seen l h1
  . simp at h1;rw[h1];exact h0
theorem BP.visit {p:Pt} {f v i:Nat} {q:List Nat} {r:List Int} (hu:Und p) (h:BP p f v i q r) (hi:i<(gR p v).length) (h0:gI r (toN p v i)<0) :
 BP p f v (i+1) (q++[toN p v i]) (r.set (toN p v i) (gI r v+1))/\unv r p.length=unv (r.set (toN p v i) (gI r v+1)) p.length+1:=by
 obtain⟨hv,hv0⟩:=h.vn;have hun:toN p v i<p.length:=hu.rng v hv _ (J2X hi);obtain⟨m,hm,hmv⟩:=hu.sym v hv _ (J2X hi);have hg:=fun x=>J7e r (toN p v i) x (gI r v+1) (by rw[h.len];exact hun);change m∈gR p (toN p v i) at hm;have hlast:(gF (gR p v) i).1.toNat=toN p v i:=rfl;generalize toN p v i=u at *;have hvu:v≠u:=fun e=>by subst e;omega
 have keep:∀x,0<=gI r x->gI (r.set u (gI r v+1)) x=gI r x:=fun x hx=>by
  rw[hg,if_neg (fun e=>by subst e;omega)]
 have hle:∀x,x<p.length->gI (r.set u (gI r v+1)) x<=gI r v+1:=fun x hx=>by
  rw[hg];split
  . omega
  . exact h.most x hx
 refine⟨{ len:=by simp[h.len],low:=?_,from_:=?_,back:=?_,qn:=?_,sorted:=?_,vn:=?_,most:=?_,least:=?_,done:=?_,seen:=?_ },?_⟩
 . intro x hx;rw[hg];split
   . omega
   . exact h.low x hx
 . rw[keep f (by rw[h.from_];omega)];exact h.from_
 . intro x hx hxf hx0;by_cases e:x=u
   . subst e;refine⟨m,hm,?_⟩;rw[hmv,keep v hv0,hg,if_pos rfl];omega
   . rw[hg,if_neg e] at hx0 ⊢;obtain⟨l,hl,a,b⟩:=h.back x hx hxf hx0;exact⟨l,hl,by rw[keep _ b];exact a,by rw[keep _ b];exact b⟩
 . intro w hw;rcases List.mem_append.1 hw with h1|h1
   . obtain⟨a,b⟩:=h.qn w h1;exact⟨a,by rw[keep w b];exact b⟩
   . simp at h1;subst h1;exact⟨hun,by rw[hg,if_pos rfl];omega⟩
 . rw[List.pairwise_append];refine⟨h.sorted.imp_of_mem fun {a b} ha hb hab=>?_,by simp,fun a ha b hb=>?_⟩
   . rw[keep a (h.qn a ha).2,keep b (h.qn b hb).2];exact hab
   . simp at hb;subst hb;rw[keep a (h.qn a ha).2,hg,if_pos rfl];exact h.most a (h.qn a ha).1
 . exact⟨hv,by rw[keep v hv0];exact hv0⟩
 . intro x hx;rw[keep v hv0];exact hle x hx
 . intro w hw;rw[keep v hv0];rcases List.mem_append.1 hw with h1|h1
   . rw[keep w (h.qn w h1).2];exact h.least w h1
   . simp at h1;subst h1;rw[hg,if_pos rfl];omega
 . intro x hx hx0 hq hxv l hl;have hxu:x≠u:=fun e=>hq (by simp[e]);rw[hg,if_neg hxu] at hx0;rw[keep x hx0];obtain⟨a,b⟩:=h.done x hx hx0 (fun e=>hq (by simp[e])) hxv l hl;rw[keep _ a];exact⟨a,b⟩
 . intro l hl;rw[J28 _ i hi] at hl;rcases List.mem_append.1 hl with h1|h1
   . rw[keep _ (h.seen l h1)];exact h.seen l h1
   . simp at h1;rw[h1,hlast,hg,if_pos rfl];omega
 . refine J9T (u:=u) (by simpa using h0) (by rw[hg,if_pos rfl];simp;omega) (fun x hx=>?_) hun;show decide _=decide _;rw[hg,if_neg hx]
theorem BO.found {p:Pt} {f:Nat} {r:List Int} (h:BO p f [] r):J70 p f (gI r) where
 low:=h.low
 from_:=h.from_
 back:=h.back
 on:=fun v hv h0 l hl=>h.done v hv h0 (by simp) l hl
end Go.Proofs.YtmifmchinfhbnaaGreatDoor
namespace Go.Proofs.YtmifmchinfhbnaaGreatDoor
open Go.Eng
set_option maxRecDepth 100000
set_option linter.unusedVariables false
theorem Q3s {g:G} (hg:g.valid=true):Und g.ports:=by
 obtain⟨f1,f2,f3,f4,f5,f6,f7⟩:=J0f hg;refine⟨fun v hv l hl=>?_,fun v hv l hl=>⟨_,f7 v hv l hl,by simp⟩⟩;have h:=f6 v hv;rw[okR,Bool.and_eq_true,List.all_eq_true] at h;have:=h.1 _ hl;rw[okL,decide_eq_true_eq] at this;omega
def dst (g:G) (f:Nat):List Int:=(List.range g.ports.length).map (lay g.ports f (g.ports.length-1))
theorem J9M (g:G) (f:Nat):(dst g f).length=g.ports.length:=by simp[dst]
theorem Q8L (g:G) (f:Nat) {v:Nat} (hv:v<g.ports.length):gI (dst g f) v=lay g.ports f (g.ports.length-1) v:=by
 simp[dst,gI,hv]
theorem J9l {g:G} (hg:g.valid=true) (v:Nat):(gR g.ports v).length<=24:=by
 obtain⟨f1,f2,f3,f4,f5,f6,f7⟩:=J0f hg;by_cases h:v<g.ports.length
 . have:=Q2u h (f6 v h);omega
 . rw[show gR g.ports v=[] by simp only[gR,List.getD];rw[List.getElem?_eq_none (by omega)];rfl];simp
theorem Q7m {n v:Nat} {r:List (Int×Int)} (h:okR n v r=true) {i:Nat} (hi:i<r.length):0<=(gF r i).1/\(gF r i).1<n:=by
 rw[okR,Bool.and_eq_true,List.all_eq_true] at h;have:=h.1 _ (J2X hi);rw[okL,decide_eq_true_eq] at this;exact⟨this.1,this.2.1⟩
def vN (l:List Nat):Nat->Nat->V:=fun i _=>.int .i64 (l.getD i 0:Nat)
def X4T (j:Nat):Nat->Nat->V:=fun i _=>.int .i64 (if i<j then -1 else 0)
theorem Q8c (n j i t:Nat) (hi:i<n) (ht:t<1):VLe (J00 (X4T j) j 0 [.int .i64 (-1)] i t) (X4T (j+1) i t):=by
 obtain rfl:t=0:=by omega
 apply VLe.of_eq;by_cases h:i=j
 . subst h;simp[J00,X4T]
 . have h1:(i<j+1)=(i<j):=by simp;omega
   simp[J00,X4T,h,h1]
theorem Q6c (r:List Int) (u i t:Nat) (d:Int) (hu:u<r.length) (ht:t<1):VLe (J00 (vI r) u 0 [.int .i64 d] i t) (vI (r.set u d) i t):=by
 obtain rfl:t=0:=by omega
 apply VLe.of_eq;simp only[J00,vI,J7e r u i d hu];by_cases h:i=u
 . subst h;simp
 . simp[h]
theorem X4Q (n f i t:Nat) (hf:f<n) (hi:i<n) (ht:t<1):VLe (J00 (X4T n) f 0 [.int .i64 0] i t) (vI ((List.replicate n (-1)).set f 0) i t):=by
 obtain rfl:t=0:=by omega
 apply VLe.of_eq;simp only[J00,vI];rw[J7e _ _ _ _ (by simpa using hf)];by_cases h:i=f
 . subst h;simp
 . rw[if_neg (by simp[h]),if_neg h];simp[X4T,hi,gI]
theorem Q2T (p:Nat->Bool):∀n,J7Q p n<=n
 | 0=>Nat.le_refl _
 | n+1=>by have:=Q2T p n;rw[J7Q];split<;>omega
theorem X10 {p:Pt} (hu:Und p) {f:Nat} (hf:f<p.length):BO p f [f] ((List.replicate p.length (-1)).set f 0):=by
 have hg:=fun x=>J7e (List.replicate p.length (-1)) f x 0 (by simpa using hf);have hr:∀x,x<p.length->gI (List.replicate p.length (-1)) x=-1:=fun x hx=>by simp[gI,hx]
 have hv:∀x,x<p.length->x≠f->gI ((List.replicate p.length (-1)).set f 0) x=-1:=fun x hx h=>by rw[hg,if_neg h,hr x hx]
 have h0:gI ((List.replicate p.length (-1)).set f 0) f=0:=by rw[hg,if_pos rfl]
 refine { len:=by simp,low:=fun x hx=>?_,from_:=h0,back:=fun x hx hxf h=>?_,qn:=fun u hu=>?_,sorted:=by simp,top:=fun u hu x hx=>?_,done:=fun x hx h hq=>?_ }
 . by_cases e:x=f
   . subst e;rw[h0];decide
   . rw[hv x hx e];decide
 . rw[hv x hx hxf] at h;omega
 . simp at hu;subst hu;exact⟨hf,by rw[h0];decide⟩
 . simp at hu;subst hu;rw[h0];by_cases e:x=u
   . subst e;rw[h0];decide
   . rw[hv x hx e];decide
 . have:x≠f:=by simpa using hq
   rw[hv x hx this] at h;omega
theorem Q6I (lo:Nat) (f:Nat->Nat->V) (i j:Nat):J0l lo f i j=f (lo+i) j:=by
 cases lo with
 | zero=>simp[J0l]
 | succ n=>simp[J0l]
theorem Q9W (Q:List Nat) (lo u i t:Nat) (hlo:lo<=Q.length) (hi:i<Q.length-lo+1) (ht:t<1) :
 VLe (J43 (J0l lo (vN Q)) (Q.length-lo) (J0l 0 (tab [[.int .i64 (u:Int)]])) i t) (vN (Q.drop lo++[u]) i t):=by
 obtain rfl:t=0:=by omega
 apply VLe.of_eq;by_cases h:i<Q.length-lo
 . rw[J1I h];simp only[Q6I,vN];have:(Q.drop lo++[u]).getD i 0=Q.getD (lo+i) 0:=by
    rw[List.getD_eq_getElem?_getD,List.getD_eq_getElem?_getD,List.getElem?_append_left (by simpa using h),List.getElem?_drop]
   rw[this]
 . rw[J1J h];have:i=Q.length-lo:=by omega
   subst this;simp[J0l,tab,vN]
theorem X4R {n f:Nat} (hf:f<n):∀y,y<n->gI ((List.replicate n (-1)).set f 0) y+unv ((List.replicate n (-1)).set f 0) n<n:=by
 have hg:=fun x=>J7e (List.replicate n (-1)) f x 0 (by simpa using hf);have h1:unv ((List.replicate n (-1)).set f 0) n+1<=n:=by
  have:=J9T (p:=fun _=>true) (q:=fun v=>decide (v≠f)) (u:=f) rfl (by simp) (fun v hv=>by simp[hv]) hf;have h2:unv ((List.replicate n (-1)).set f 0) n=J7Q (fun v=>decide (v≠f)) n:=J9U fun v hv=>by
   rw[hg];by_cases e:v=f
   . simp[e]
   . simp[e,gI,hv]
  have h3:=Q2T (fun _=>true) n;omega
 intro y hy;rw[hg];split
 . omega
 . simp only[gI,List.getD,List.getElem?_replicate,hy,if_true,Option.getD_some];omega
theorem Q6f (Q:List Nat) (lo i t:Nat) (a:Int) (u:Nat) (hlo:lo<=Q.length) (hi:i<Q.length-lo+1) (ht:t<1) (hu:a=u) :
 VLe (J43 (J0l lo (vN Q)) (Q.length-lo) (J0l 0 (tab [[.int .i64 a]])) i t) (vN (Q.drop lo++[u]) i t):=by
 subst hu;exact Q9W Q lo u i t hlo hi ht
set_option maxHeartbeats 16000000 in
theorem Q6L (g:G) (hg:g.valid=true) (f:Nat) (hf:f<g.ports.length):Ret Tryz.prog 99 [g.v,.int .i64 f] (.fz (dst g f).length 1 false (vI (dst g f))):=by
 obtain⟨f1,f2,f3,f4,f5,f6,f7⟩:=J0f hg;have hu:=Q3s hg;refine J0h rfl ?_;refine J0d J0b Tryz.func99 rfl hc99 hr99 rfl ?_
 repeat' ((conv=>whnf);first|(refine Bd.nat (by omega) ?_)|(refine Len.mk (by omega) ?_)|(refine MkS.vec ?_))
 all_goals (conv=>whnf)
 refine J1M J0b [1,2,5,16] [] [2,3,4,5,6,7,8,9,10,11,12,13,14,15,16,17,18,19,20,21,22,23,24,25,26,27,28,29] [1,0] (fun j:Nat=>[(17,.int .i64 j)]) (fun j=>[(1,.vec g.ports.length 1 (X4T j)),(0,.cells [.fz g.ids.length 1 false (vI g.ids),.fz g.ports.length 1 false (vP g.ports)])]) (fun m j=>m=g.ports.length-j/\j<=g.ports.length) g.ports.length 0 ⟨rfl,Nat.zero_le _⟩ rfl (fun _=>rfl) ?_ ?_
 . refine J0c (fun _ _=>[(0,some 0),(1,some 1)]) ?_ ?_ rfl
   . repeat' (first|exact True.intro|(refine⟨⟨_,rfl,?_⟩,?_⟩)|exact J0a.kf rfl|exact J0a.loc rfl|exact J0a.vec rfl rfl rfl)
   . repeat' (first|exact⟨Nat.le_refl _,rfl,fun i j hi hj=>VLe.of_eq (by obtain rfl:j=0:=(by omega);rfl)⟩|exact True.intro|(refine⟨⟨_,rfl,?_⟩,?_⟩)|exact J0a.kf rfl|(refine And.intro ?_ ?_))
 rintro m j ⟨hm,hj⟩;by_cases hjn:j<g.ports.length
 . repeat' ((conv=>whnf);first|(refine Br.dec ?_ ?_<;>intro _<;>try omega)|(refine Ar.i64 (by omega) (by omega) ?_)|(refine Ix.nat (by omega) ?_)|(refine Ltn.mk (by omega) ?_))
   all_goals (conv=>whnf)
   refine⟨g.ports.length-(j+1),j+1,by omega,⟨rfl,by omega⟩,?_⟩;refine J0c (fun _ _=>[(0,some 0),(1,some 1)]) ?_ ?_ rfl
   . repeat' (first|exact True.intro|(refine⟨⟨_,rfl,?_⟩,?_⟩)|exact J0a.kf rfl|exact J0a.loc rfl|exact J0a.vec rfl rfl rfl)
   . repeat' (first|exact⟨Nat.le_refl _,rfl,fun i t hi ht=>by simp only[Nat.zero_add];exact Q8c _ _ _ _ hi ht⟩|exact True.intro|(refine⟨⟨_,rfl,?_⟩,?_⟩)|exact J0a.kf rfl|(refine And.intro ?_ ?_))
 . have ej:j=g.ports.length:=by omega
   subst ej
   repeat' ((conv=>whnf);first|(refine Br.dec ?_ ?_<;>intro _<;>try omega)|(refine Ix.nat (by omega) ?_)|(refine Ltn.mk (by omega) ?_))
   all_goals (conv=>whnf)
   refine J1M J0b [2,5] [2] [3,4,5,6,7,8,9,10,11,12,13,14,15,16,17,18,19,20,21,22,23,24,25,26,27,28,29] [2,1,0] (fun x:Nat×List Nat×List Int=>[(7,.vec 2 1 x.1 (x.2.1.length-x.1))]) (fun x=>[(2,.vec x.2.1.length 1 (vN x.2.1)),(1,.vec g.ports.length 1 (vI x.2.2)),(0,.cells [.fz g.ids.length 1 false (vI g.ids),.fz g.ports.length 1 false (vP g.ports)])])
    (fun m x=>m=2*unv x.2.2 g.ports.length+(x.2.1.length-x.1)/\x.1<=x.2.1.length/\x.2.1.length<=60/\m<=50/\BO g.ports f (x.2.1.drop x.1) x.2.2/\∀y,y<g.ports.length->gI x.2.2 y+unv x.2.2 g.ports.length<g.ports.length) _ (0,[f],(List.replicate g.ports.length (-1)).set f 0) ⟨rfl,by simp,by simp,?_,X10 hu hf,X4R hf⟩ rfl (fun _=>rfl) ?_ ?_
   . have:=Q2T (fun v=>decide (gI ((List.replicate g.ports.length (-1)).set f 0) v<0)) g.ports.length;simp only[unv,List.length_cons,List.length_nil];omega
   . refine J0c (fun _ _=>[(0,some 0),(1,some 1),(2,some 2)]) ?_ ?_ rfl
     . repeat' (first|exact True.intro|(refine⟨⟨_,rfl,?_⟩,?_⟩)|exact J0a.loc rfl|exact J0a.vec rfl rfl rfl)
     . repeat' (first|exact⟨Nat.le_refl _,rfl,fun i t hi ht=>by simp only[Nat.zero_add];exact X4Q _ _ _ _ hf hi ht⟩|exact⟨Nat.le_refl _,rfl,fun i t hi ht=>VLe.of_eq (by obtain rfl:i=0:=(by simpa using hi);obtain rfl:t=0:=(by omega);rfl)⟩|exact True.intro|(refine⟨⟨_,rfl,?_⟩,?_⟩)|exact J0a.kf rfl|(refine And.intro ?_ ?_))
   rintro m ⟨lo,Q,r⟩ ⟨hm,hlo,hQ,hm50,hbo,hbd⟩;simp only at hm hlo hQ hbo hbd ⊢;by_cases hq:lo<Q.length
   . obtain⟨v,hv⟩:∃v,Q.getD lo 0=v:=⟨_,rfl⟩;have hdrop:Q.drop lo=v::Q.drop (lo+1):=by
      rw[List.drop_eq_getElem_cons hq,<- hv];simp[hq]
     rw[hdrop] at hbo;have hbp:=hbo.pop;obtain⟨hvn,hv0⟩:=hbp.vn;have hrl:=J9l hg v;have hlen:=hbp.len;have hQv:vN Q lo 0=.int .i64 (v:Int):=by simp only[vN,hv]
     have hQ0:Q.getD (lo+0) 0=v:=hv
     repeat' ((conv=>whnf);first|(refine Ix.mk v (by omega) (by omega) ?_)|(refine Br.dec ?_ ?_<;>intro _<;>try omega)|(refine Br.nble ?_ ?_<;>intro _<;>try omega)|(refine Ix.mk 0 rfl (by omega) ?_)|(refine Bd.mk 1 rfl (by omega) ?_)|(refine Ltn.mk (by omega) ?_))
     all_goals (conv=>whnf)
     refine J1M J0b [2,5,8,41,42] [2] [3,4,5,6,7,8,9,10,11,12,13,14,15,16,17,18,19,20,21,22,23,24,25,26,27,28,29] [2,1,0] (fun x:Nat×Nat×List Nat×List Int=>[(7,.vec 2 1 x.2.1 (x.2.2.1.length-x.2.1)),(43,.int .i64 x.1)]) (fun x=>[(2,.vec x.2.2.1.length 1 (vN x.2.2.1)),(1,.vec g.ports.length 1 (vI x.2.2.2)),(0,.cells [.fz g.ids.length 1 false (vI g.ids),.fz g.ports.length 1 false (vP g.ports)])])
      (fun k x=>k=(gR g.ports v).length-x.1/\x.1<=(gR g.ports v).length/\x.2.1<=x.2.2.1.length/\x.2.2.1.length<=60/\2*unv x.2.2.2 g.ports.length+(x.2.2.1.length-x.2.1)<m/\BP g.ports f v x.1 (x.2.2.1.drop x.2.1) x.2.2.2/\∀y,y<g.ports.length->gI x.2.2.2 y+unv x.2.2.2 g.ports.length<g.ports.length) _ (0,lo+1,Q,r) ⟨rfl,by simp,by simp only;omega,hQ,by simp only;omega,hbp,hbd⟩ rfl (fun _=>rfl) ?_ ?_
     . exact J0k (fun _ _=>[(0,some 0),(1,some 1),(2,some 2)])
     rintro k ⟨i,lo2,Q2,r2⟩ ⟨hk,hi,hlo2,hQ2,hm2,hbp2,hbd2⟩;simp only at hk hi hlo2 hQ2 hm2 hbp2 hbd2 ⊢;obtain⟨_,hv2⟩:=hbp2.vn;have hlen2:=hbp2.len;have hvb:0<=gI r2 (0+v)/\gI r2 (0+v)<=24:=by rw[Nat.zero_add];have:=hbd2 v hvn;omega
     by_cases hil:i<(gR g.ports v).length
     . have hr:=Q7m (f6 v hvn) hil;have hr':toN g.ports v i<g.ports.length:=by show(gF (gR g.ports v) i).1.toNat<_;omega
       by_cases hneg:gI r2 (gF (gR g.ports v) i).1.toNat<0
       . obtain⟨hbp3,hun⟩:=hbp2.visit hu hil hneg;have hneg2:gI r2 (0+(gF (gR g.ports v) i).1.toNat)<0:=by rw[Nat.zero_add];exact hneg
         repeat' ((conv=>whnf);first|(refine Ix.mk v (by omega) (by omega) ?_)|(refine Br.dec ?_ ?_<;>intro _<;>try omega)|(refine Br.nbeq ?_ ?_<;>intro _<;>try omega)|(refine Ar.i64 (by omega) (by omega) ?_)|(refine Ix.nat (by omega) ?_)|(refine Ix.int (by omega) (by omega) ?_)|(refine Len.mk (by omega) ?_)|(refine Ltn.mk (by omega) ?_))
         all_goals (conv=>whnf)
         have hdl:(Q2.drop lo2++[toN g.ports v i]).length=Q2.length-lo2+1:=by simp
         refine⟨(gR g.ports v).length-(i+1),(i+1,0,Q2.drop lo2++[toN g.ports v i],r2.set (toN g.ports v i) (gI r2 v+1)),by omega,⟨rfl,by simp only;omega,by simp,by simp only[hdl];omega,by simp only[hdl];omega,hbp3,fun y hy=>?_⟩,?_⟩
         . have hb:=hbd2 y hy;have hb2:=hbd2 v hvn;simp only;rw[J7e _ _ _ _ (by rw[hlen2];exact hr')];split<;>omega
         simp only[hdl];refine J0c (fun env own=>[(0,some 0),(1,some 1),(2,X5p env 66)]) ?_ ?_ rfl
         . repeat' (first|exact True.intro|(refine⟨⟨_,rfl,?_⟩,?_⟩)|exact J0a.kf rfl|exact J0a.loc rfl|exact J0a.vec rfl rfl rfl)
         . repeat' (first|exact⟨Nat.le_refl _,rfl,fun a t ha ht=>by simp only[Nat.zero_add];exact Q6c _ _ _ _ _ (by rw[hlen2];exact hr') ht⟩|exact⟨by omega,rfl,fun a t ha ht=>Q6f _ _ _ _ _ _ hlo2 ha ht (show(gF (gR g.ports v) i).1=((gF (gR g.ports v) i).1.toNat:Nat) by omega)⟩|exact True.intro|(refine⟨⟨_,rfl,?_⟩,?_⟩)|exact J0a.kf rfl|(refine And.intro ?_ ?_))
       . have hneg2:¬ gI r2 (0+(gF (gR g.ports v) i).1.toNat)<0:=by rw[Nat.zero_add];exact hneg
         have hbp3:=hbp2.skip hil (show 0<=gI r2 (gF (gR g.ports v) i).1.toNat by omega)
         repeat' ((conv=>whnf);first|(refine Br.dec ?_ ?_<;>intro _<;>try omega)|(refine Ar.i64 (by omega) (by omega) ?_)|(refine Ix.nat (by omega) ?_)|(refine Ix.int (by omega) (by omega) ?_)|(refine Ltn.mk (by omega) ?_))
         all_goals (conv=>whnf)
         refine⟨(gR g.ports v).length-(i+1),(i+1,lo2,Q2,r2),by omega,⟨rfl,by simp only;omega,hlo2,hQ2,hm2,hbp3,hbd2⟩,?_⟩;exact J0k (fun env own=>[(0,some 0),(1,some 1),(2,some 2)])
     . have hfin:=hbp2.fin hu (by omega)
       repeat' ((conv=>whnf);first|(refine Br.dec ?_ ?_<;>intro _<;>try omega))
       all_goals (conv=>whnf)
       refine⟨_,(lo2,Q2,r2),hm2,⟨rfl,hlo2,hQ2,by omega,hfin,hbd2⟩,?_⟩;exact J0k (fun env own=>[(0,some 0),(1,some 1),(2,some 2)])
   . have e:lo=Q.length:=by omega
     subst e;rw[List.drop_length] at hbo;have hfd:=hbo.found;have hlen:=hbo.len
     repeat' ((conv=>whnf);first|(refine Br.dec ?_ ?_<;>intro _<;>try omega)|(refine Len.mk (by omega) ?_))
     all_goals (conv=>whnf)
     refine VLe.fz (J9M g f).symm (fun h=>h) (fun i t hi ht=>VLe.of_eq ?_);rw[Q6I];simp only[vI,Nat.zero_add];rw[Q8L g f hi,hfd.eq hu hf hi]
end Go.Proofs.YtmifmchinfhbnaaGreatDoor
namespace Go.Proofs.YtmifmchinfhbnaaGreatDoor
open Go.Eng
set_option maxRecDepth 100000
set_option linter.unusedVariables false
theorem J6g (p:Pt) (f:Nat):∀k v,-1<=lay p f k v/\lay p f k v<=k
 | 0,v=>by rw[lay];split<;>omega
 | k+1,v=>by
   have:=J6g p f k v;rw[lay];split
   . omega
   . split<;>omega
theorem J62 {p:Pt} {f k v:Nat} (h:0<=lay p f k v):∀m,lay p f (k+m) v=lay p f k v
 | 0=>rfl
 | m+1=>by
   have:=J62 h m;rw[<- Nat.add_assoc,lay,this,if_pos h]
theorem Q1a {p:Pt} {f:Nat}:∀{k v:Nat},0<=lay p f k v->lay p f (lay p f k v).toNat v=lay p f k v
 | 0,v,h=>by
   have:=J6g p f 0 v;have e:lay p f 0 v=0:=by omega
   rw[e];exact e
 | k+1,v,h=>by
   by_cases h0:0<=lay p f k v
   . have e:lay p f (k+1) v=lay p f k v:=by rw[lay,if_pos h0]
     rw[e];exact Q1a h0
   . have e:lay p f (k+1) v=(k:Int)+1:=by
      rw[lay,if_neg h0] at h ⊢;split at h
      . rename_i q;rw[if_pos q]
      . omega
     rw[e,show((k:Int)+1).toNat=k+1 by omega,e]
theorem Q5t {p:Pt} {f k m v:Nat} (h:0<=lay p f k v) (h':0<=lay p f m v):lay p f k v=lay p f m v:=by
 rcases Nat.le_total k m with q|q
 . have:=J62 h (m-k);rw[show k+(m-k)=m by omega] at this;exact this.symm
 . have:=J62 h' (k-m);rw[show m+(k-m)=k by omega] at this;exact this
theorem Q1b {p:Pt} {f:Nat}:∀{k v:Nat},0<=lay p f k v->v≠f->∃l∈gR p v,lay p f k l.1.toNat=lay p f k v-1/\0<=lay p f k l.1.toNat
 | 0,v,h,hv=>by rw[lay,if_neg hv] at h;omega
 | k+1,v,h,hv=>by
   by_cases h0:0<=lay p f k v
   . obtain⟨l,hl,a,b⟩:=Q1b h0 hv;have e1:lay p f (k+1) v=lay p f k v:=by rw[lay,if_pos h0]
     have e2:lay p f (k+1) l.1.toNat=lay p f k l.1.toNat:=by rw[lay,if_pos b]
     exact⟨l,hl,by rw[e1,e2];exact a,by rw[e2];exact b⟩
   . by_cases ha:(gR p v).any (fun l=>decide (lay p f k l.1.toNat=k))=true
     . have e1:lay p f (k+1) v=(k:Int)+1:=by rw[lay,if_neg h0,if_pos ha]
       rw[List.any_eq_true] at ha;obtain⟨l,hl,e⟩:=ha;have e:=of_decide_eq_true e;have e2:lay p f (k+1) l.1.toNat=k:=by rw[lay,if_pos (by omega)];exact e
       exact⟨l,hl,by rw[e1,e2];omega,by rw[e2];omega⟩
     . rw[lay,if_neg h0,if_neg ha] at h;omega
open Classical in
noncomputable def X0Y (p:Pt) (f v:Nat):Int:=if h:∃k,0<=lay p f k v then lay p f (Classical.choose h) v else -1
theorem J63 {p:Pt} {f k v:Nat} (h:0<=lay p f k v):X0Y p f v=lay p f k v:=by
 have hx:∃k,0<=lay p f k v:=⟨k,h⟩;rw[X0Y,dif_pos hx];exact Q5t (Classical.choose_spec hx) h
theorem Q4a {p:Pt} {f v:Nat} (h:0<=X0Y p f v):∃k,0<=lay p f k v/\X0Y p f v=lay p f k v:=by
 by_cases hx:∃k,0<=lay p f k v
 . obtain⟨k,hk⟩:=hx;exact⟨k,hk,J63 hk⟩
 . rw[X0Y,dif_neg hx] at h;omega
theorem X0X (p:Pt) (f v:Nat):-1<=X0Y p f v:=by
 rw[X0Y];split
 . exact(J6g p f _ v).1
 . omega
theorem Q5u {p:Pt} (f:Nat) (hu:Und p):J70 p f (X0Y p f):=by
 have hf0:lay p f 0 f=0:=by rw[lay,if_pos rfl]
 refine⟨fun v _=>X0X p f v,by rw[J63 (k:=0) (by omega),hf0],fun v hv hvf h=>?_,fun v hv h l hl=>?_⟩
 . obtain⟨k,hk,e⟩:=Q4a h;obtain⟨l,hl,a,b⟩:=Q1b hk hvf;exact⟨l,hl,by rw[J63 b,e];exact a,by rw[J63 b];exact b⟩
 . obtain⟨k,hk,e⟩:=Q4a h;obtain⟨m,hm,em⟩:=hu.sym v hv l hl;have hs:=Q1a hk;have hd:((lay p f k v).toNat:Int)=lay p f k v:=by omega
   generalize (lay p f k v).toNat=d at *;have key:0<=lay p f (d+1) l.1.toNat:=by
    rw[lay];split
    . assumption
    . rw[if_pos (by rw[List.any_eq_true];exact⟨m,hm,by rw[em,hs,<- hd];simp⟩)];omega
   have hle:=(J6g p f (d+1) l.1.toNat).2;rw[J63 key,e,<- hd];omega
theorem Q1A {g:G} (hg:g.valid=true):J70 g.ports 0 (fun v=>gI (dst g 0) v):=by
 obtain⟨f1,f2,f3,f4,f5,f6,f7⟩:=J0f hg;have hu:=Q3s hg;have hF:=Q5u 0 hu;have he:∀v,v<g.ports.length->gI (dst g 0) v=X0Y g.ports 0 v:=fun v hv=>by rw[Q8L g 0 hv];exact hF.eq hu (by omega) hv
 refine⟨fun v hv=>by rw[he v hv];exact hF.low v hv,by rw[he 0 (by omega)];exact hF.from_,fun v hv h0 h=>?_,fun v hv h l hl=>?_⟩
 . rw[he v hv] at h ⊢;obtain⟨l,hl,a,b⟩:=hF.back v hv h0 h;exact⟨l,hl,by rw[he _ (hu.rng v hv l hl)];exact a,by rw[he _ (hu.rng v hv l hl)];exact b⟩
 . rw[he v hv] at h ⊢;rw[he _ (hu.rng v hv l hl)];exact hF.on v hv h l hl
end Go.Proofs.YtmifmchinfhbnaaGreatDoor
namespace Go.Proofs.YtmifmchinfhbnaaGreatDoor
open Go.Eng
set_option maxRecDepth 100000
set_option linter.unusedVariables false
def X7i (l:List Int):Bool:=l.any fun a=>decide (a<0)
theorem Q2x {l:List Int}:X7i l=false↔∀a∈l,0<=a:=by
 rw[X7i,List.any_eq_false];constructor
 . intro h a ha;have:=h a ha;simp at this;omega
 . intro h a ha;have:=h a ha;simp;omega
def G.conn (g:G):Bool:=g.valid&&!X7i (dst g 0)
theorem Q8W (g:G) (hs:g.Small):Ret Tryz.prog 57 [g.v] (.bool g.conn):=by
 have hval:=Q3q g hs;refine J0h rfl ?_;refine J0d J0b Tryz.func57 rfl hc57 hr57 rfl ?_;rw[G.conn];by_cases hg:g.valid=true
 . obtain⟨f1,f2,f3,f4,f5,f6,f7⟩:=J0f hg;have hsr:=Q6L g hg 0 (by omega);have hdl:=J9M g 0;rw[hg] at hval ⊢;rw[Bool.true_and];generalize dst g 0=l at *
   repeat' ((conv=>whnf);first|(refine Br.tt ?_)|(refine hval.go ?_)|(refine hsr.go ?_))
   all_goals (conv=>whnf)
   refine J1a J0b [9,10] (fun i:Nat=>[(11,.int .i64 i)]) (fun m i=>m=l.length-i/\i<=l.length/\∀a∈l.take i,0<=a) l.length 0 ⟨rfl,Nat.zero_le _,by simp⟩ ?_ ?_
   . exact J0k (fun _ _=>[(0,some 0)])
   rintro m i ⟨hm,hi,hall⟩
   repeat' ((conv=>whnf);first|(refine Br.dec ?_ ?_<;>intro _<;>try omega)|(refine Ar.i64 (by omega) (by omega) ?_)|(refine Ix.nat (by omega) ?_))
   all_goals (conv=>whnf)
   . refine VLe.bool ?_;have:X7i l=true:=by
      rw[X7i,List.any_eq_true];exact⟨gI l i,J8y (by omega),by simp;omega⟩
     rw[this];rfl
   . refine⟨l.length-(i+1),i+1,by omega,⟨rfl,by omega,?_⟩,?_⟩
     . rw[J1D l i (by omega)];intro a ha;rcases List.mem_append.1 ha with h|h
       . exact hall a h
       . simp at h;omega
     . exact J0k (fun _ _=>[(0,some 0)])
   . rw[List.take_of_length_le (by omega)] at hall;rw[Q2x.2 hall];exact VLe.rfl
 . simp only[Bool.not_eq_true] at hg;rw[hg] at hval ⊢
   repeat' ((conv=>whnf);first|(refine Br.ff ?_)|(refine hval.go ?_))
   all_goals (conv=>whnf)
   all_goals exact VLe.rfl
theorem J0o {g:G} (h:g.conn=true):g.valid=true/\∀v,v<g.ports.length->0<=gI (dst g 0) v:=by
 simp only[G.conn,Bool.and_eq_true,Bool.not_eq_true'] at h;exact⟨h.1,fun v hv=>Q2x.1 h.2 _ (J8y (by rw[J9M];exact hv))⟩
end Go.Proofs.YtmifmchinfhbnaaGreatDoor
namespace Go.Proofs.YtmifmchinfhbnaaGreatDoor
open Go.Eng
set_option maxRecDepth 100000
set_option linter.unusedVariables false
abbrev X2h:=List (Int×Int)
theorem X1e {l:X2h} {i:Nat} (h:i<l.length):l.drop i=gF l i::l.drop (i+1):=by
 rw[List.drop_eq_getElem_cons h];simp only[gF,List.getD,List.getElem?_eq_getElem h,Option.getD_some]
def fpI (p:Int×Int->Bool):Nat->X2h->Int
 | _,[]=>-1
 | k,l::r=>if p l then k else fpI p (k+1) r
theorem J7f (p:Int×Int->Bool):∀(l:X2h) (k i:Nat),i<=l.length->(∀a∈l.take i,p a=false)->fpI p k l=fpI p (k+i) (l.drop i)
 | _,k,0,_,_=>by simp
 | [],k,i+1,h,_=>by simp at h
 | a::r,k,i+1,h,h2=>by
   have ha:p a=false:=h2 a (by simp);simp only[fpI,ha,List.drop_succ_cons];rw[if_neg (by simp),J7f p r (k+1) i (by simpa using h) (fun x hx=>h2 x (by simp[hx]))];congr 1;omega
theorem Q1t (p:Int×Int->Bool):∀(l:X2h) (k:Nat),fpI p k l=-1\/((k:Int)<=fpI p k l/\fpI p k l<(k+l.length:Nat))
 | [],k=>.inl rfl
 | a::r,k=>by
   simp only[fpI];split
   . right;simp;omega
   . rcases Q1t p r (k+1) with h|h
     . exact .inl h
     . right;simp at *;omega
end Go.Proofs.YtmifmchinfhbnaaGreatDoor
namespace Go.Proofs.YtmifmchinfhbnaaGreatDoor
open Go.Eng
set_option maxRecDepth 100000
set_option linter.unusedVariables false
theorem Q6o (a b:Int) (f:Nat->Nat->V) (h0:f 0 0=.int .i64 a) (h1:f 1 0=.int .i64 b):∀i j:Nat,i<2->j<1->VLe (f i j) (vI [a,b] i j):=by
 intro i j hi hj;obtain rfl:j=0:=by omega
 rcases (show i=0\/i=1 by omega) with rfl|rfl
 . rw[h0];exact VLe.rfl
 . rw[h1];exact VLe.rfl
end Go.Proofs.YtmifmchinfhbnaaGreatDoor
namespace Go.Proofs.YtmifmchinfhbnaaGreatDoor
open Go.Eng
set_option maxRecDepth 100000
set_option linter.unusedVariables false
theorem Q8Y {n m:Nat} {B B':Nat->Nat->Int×Int} {c:Cf} (h:∀v x,v<n->x<m->B v x=B' v x):X24 n m B c=X24 n m B' c:=by
 rw[Bool.eq_iff_iff,J4c,J4c];refine⟨fun⟨a,b⟩=>⟨a,fun v hv=>⟨(b v hv).1,fun x hx=>by rw[<- h v x hv hx];exact(b v hv).2 x hx⟩⟩,fun⟨a,b⟩=>⟨a,fun v hv=>⟨(b v hv).1,fun x hx=>by rw[h v x hv hx];exact(b v hv).2 x hx⟩⟩⟩
end Go.Proofs.YtmifmchinfhbnaaGreatDoor
namespace Go.Proofs.YtmifmchinfhbnaaGreatDoor
open Go.Eng
set_option maxRecDepth 100000
set_option linter.unusedVariables false
end Go.Proofs.YtmifmchinfhbnaaGreatDoor
namespace Go.Plain.Tree
structure Net (n:Nat) (a:Nat->Nat->Bool) (D:Nat->Nat):Prop where
 rng:∀u v,u<n->a u v=true->v<n
 root:∀v,v<n->(D v=0↔v=0)
 near:∀v,v<n->v≠0->∃u,a v u=true/\D u+1=D v
 step:∀u v,u<n->a u v=true->D u<=D v+1
 top:∀v,v<n->D v+1<=n
structure St where
 d:Nat->Int
 p:Nat->Int
structure Rule (n:Nat) (a:Nat->Nat->Bool) (D:Nat->Nat) (P:Nat->Int) (tg:(Nat->Int)->Nat->Int×Int):Prop where
 root:∀d,tg d 0=(0,-1)
 right:∀d v,v<n->v≠0->(∀u,a v u=true->D u+1=D v->d u=((D u:Nat):Int))->(∀u,a v u=true->D v<=D u->(D v:Int)<=d u)->tg d v=(((D v:Nat):Int),P v)
 low:∀d v (k:Nat),v<n->v≠0->k+1<=n->(∀u,a v u=true->(k:Int)<=d u)->((k+1:Nat):Int)<=(tg d v).1
 proot:P 0=-1
variable {n:Nat} {a:Nat->Nat->Bool} {D:Nat->Nat} {P:Nat->Int} {tg:(Nat->Int)->Nat->Int×Int}
def right (D:Nat->Nat) (P:Nat->Int) (s:St) (v:Nat):Prop:=s.d v=((D v:Nat):Int)/\s.p v=P v
def off (tg:(Nat->Int)->Nat->Int×Int) (s:St) (v:Nat):Prop:=(s.d v,s.p v)≠tg s.d v
def Step (n:Nat) (tg:(Nat->Int)->Nat->Int×Int) (s:St) (c:Nat->Bool) (s':St):Prop :=
 ∀v,v<n->(c v=true->off tg s v->(s'.d v,s'.p v)=tg s.d v)/\(c v=false\/¬ off tg s v->s'.d v=s.d v/\s'.p v=s.p v)
structure Ok (n:Nat) (D:Nat->Nat) (P:Nat->Int) (s:St) (k:Nat):Prop where
 low:∀v,v<n->D v<k->right D P s v
 far:∀v,v<n->k<=D v->(k:Int)<=s.d v
def bad (D:Nat->Nat) (P:Nat->Int) (s:St) (k v:Nat):Prop:=(D v=k/\¬ right D P s v)\/(k<D v/\s.d v<(k:Int)+1)
theorem Ok.start {s:St} (h:∀v,v<n->0<=s.d v):Ok n D P s 0:=⟨fun v _ h=>by omega,fun v hv _=>by simpa using h v hv⟩
theorem Ok.tgt (hN:Net n a D) (hR:Rule n a D P tg) {s:St} {k:Nat} (h:Ok n D P s k) {v:Nat} (hv:v<n) (hk:D v<=k):tg s.d v=(((D v:Nat):Int),P v):=by
 by_cases h0:v=0
 . subst h0;rw[hR.root,(hN.root 0 hv).2 rfl,hR.proot];rfl
 . refine hR.right s.d v hv h0 (fun u hu e=>?_) (fun u hu e=>?_)
   . exact(h.low u (hN.rng v u hv hu) (by omega)).1
   . have hun:=hN.rng v u hv hu;by_cases q:D u<k
     . rw[(h.low u hun q).1];omega
     . have:=h.far u hun (by omega);omega
theorem Ok.tgfar (hN:Net n a D) (hR:Rule n a D P tg) {s:St} {k:Nat} (h:Ok n D P s k) {v:Nat} (hv:v<n) (hk:k<D v):((k+1:Nat):Int)<=(tg s.d v).1:=by
 have h0:v≠0:=fun e=>by have:=(hN.root v hv).2 e;omega
 have ht:=hN.top v hv;refine hR.low s.d v k hv h0 (by omega) fun u hu=>?_;have:=hN.step v u hv hu;exact h.far u (hN.rng v u hv hu) (by omega)
theorem Ok.off_bad (hN:Net n a D) (hR:Rule n a D P tg) {s:St} {k:Nat} (h:Ok n D P s k) {v:Nat} (hv:v<n) (hb:bad D P s k v):off tg s v:=by
 rcases hb with ⟨h1,h2⟩ | ⟨h1,h2⟩
 . intro e;rw[h.tgt hN hR hv (by omega)] at e;exact h2 ⟨(Prod.mk.inj e).1,(Prod.mk.inj e).2⟩
 . intro e;have:=h.tgfar hN hR hv h1;rw[<- e] at this;simp only at this;omega
theorem Ok.step (hN:Net n a D) (hR:Rule n a D P tg) {s s':St} {c:Nat->Bool} {k:Nat} (h:Ok n D P s k) (hs:Step n tg s c s') :
 Ok n D P s' k/\∀v,v<n->bad D P s' k v->bad D P s k v/\c v=false:=by
 have key:∀v,v<n->(c v=true/\off tg s v/\(s'.d v,s'.p v)=tg s.d v)\/((c v=false\/¬ off tg s v)/\s'.d v=s.d v/\s'.p v=s.p v):=fun v hv=>by
  obtain⟨h1,h2⟩:=hs v hv;by_cases q:c v=false\/¬ off tg s v
  . exact .inr ⟨q,h2 q⟩
  . have qc:c v=true:=by
     cases e:c v with
     | true=>rfl
     | false=>exact(q (.inl e)).elim
    have qo:off tg s v:=Classical.byContradiction fun e=>q (.inr e);exact .inl ⟨qc,qo,h1 qc qo⟩
 have low':∀v,v<n->D v<k->right D P s' v:=fun v hv hk=>by
  rcases key v hv with ⟨_,_,e⟩ | ⟨_,e1,e2⟩
  . rw[h.tgt hN hR hv (by omega)] at e;exact⟨(Prod.mk.inj e).1,(Prod.mk.inj e).2⟩
  . obtain⟨r1,r2⟩:=h.low v hv hk;exact⟨by rw[e1];exact r1,by rw[e2];exact r2⟩
 have far':∀v,v<n->k<=D v->(k:Int)<=s'.d v:=fun v hv hk=>by
  rcases key v hv with ⟨_,_,e⟩ | ⟨_,e1,_⟩
  . by_cases q:D v=k
    . rw[h.tgt hN hR hv (by omega)] at e;rw[(Prod.mk.inj e).1];omega
    . have:=h.tgfar hN hR hv (by omega);rw[<- e] at this;simp only at this;omega
  . rw[e1];exact h.far v hv hk
 refine⟨⟨low',far'⟩,fun v hv hb=>?_⟩;rcases key v hv with ⟨_,_,e⟩ | ⟨q,e1,e2⟩
 . exfalso;rcases hb with ⟨h1,h2⟩ | ⟨h1,h2⟩
   . rw[h.tgt hN hR hv (by omega)] at e;exact h2 ⟨(Prod.mk.inj e).1,(Prod.mk.inj e).2⟩
   . have:=h.tgfar hN hR hv h1;rw[<- e] at this;simp only at this;omega
 . have hb0:bad D P s k v:=by
    rcases hb with ⟨h1,h2⟩ | ⟨h1,h2⟩
    . exact .inl ⟨h1,fun r=>h2 ⟨by rw[e1];exact r.1,by rw[e2];exact r.2⟩⟩
    . exact .inr ⟨h1,by rw[<- e1];exact h2⟩
   refine⟨hb0,?_⟩;rcases q with q|q
   . exact q
   . exact(q (h.off_bad hN hR hv hb0)).elim
theorem Ok.next {s:St} {k:Nat} (h:Ok n D P s k) (hb:∀v,v<n->¬ bad D P s k v):Ok n D P s (k+1):=by
 refine⟨fun v hv hk=>?_,fun v hv hk=>?_⟩
 . by_cases e:D v=k
   . exact Classical.byContradiction fun q=>hb v hv (.inl ⟨e,q⟩)
   . exact h.low v hv (by omega)
 . have:=hb v hv;apply Classical.byContradiction;intro q;exact this (.inr ⟨by omega,by omega⟩)
theorem Ok.all (hN:Net n a D) (hR:Rule n a D P tg) {s:St} {k:Nat} (h:Ok n D P s k) {v:Nat} (hv:v<n) (hk:D v<k):¬ off tg s v:=fun e=>by
 obtain⟨r1,r2⟩:=h.low v hv hk;apply e;rw[h.tgt hN hR hv (by omega),r1,r2]
end Go.Plain.Tree
namespace Go.Proofs.YtmifmchinfhbnaaGreatDoor
open Go.Eng
set_option maxRecDepth 100000
set_option linter.unusedVariables false
def Dg (g:G) (v:Nat):Nat:=(gI (dst g 0) v).toNat
theorem X7U {g:G} (h:g.conn=true) {v:Nat} (hv:v<g.ids.length):((Dg g v:Nat):Int)=gI (dst g 0) v:=by
 obtain⟨h1,h2⟩:=J0o h;obtain⟨f1,f2,f3,f4,f5,f6,f7⟩:=J0f h1;have:=h2 v (by omega);rw[Dg];omega
theorem X8x {g:G} (h:g.conn=true):Go.Plain.Tree.Net g.ids.length (adN g) (Dg g):=by
 obtain⟨h1,h2⟩:=J0o h;obtain⟨f1,f2,f3,f4,f5,f6,f7⟩:=J0f h1;have hu:=Q3s h1;have hF:=Q1A h1;have hD:=fun v (hv:v<g.ids.length)=>X7U h hv;have near:∀v,v<g.ids.length->v≠0->∃u,adN g v u=true/\Dg g u+1=Dg g v:=fun v hv h0=>by
  obtain⟨l,hl,a,b⟩:=hF.back v (by omega) h0 (h2 v (by omega));have hln:=hu.rng v (by omega) l hl;have e1:=hD v hv;have e2:=hD l.1.toNat (by omega);exact⟨l.1.toNat,J3b.2 ⟨l,hl,rfl⟩,by omega⟩
 refine⟨fun u v hu' hv=>(Q3b h1).rng u v hu' hv,fun v hv=>⟨fun e=>?_,fun e=>?_⟩,near,fun u v hun huv=>?_,fun v hv=>?_⟩
 . apply Classical.byContradiction;intro h0;obtain⟨u,_,q⟩:=near v hv h0;omega
 . subst e;have:=hD 0 hv;have e0:=hF.from_;omega
 . have hvn:=(Q3b h1).rng u v hun huv;have hvu:=(Q3b h1).sym u v hun hvn huv;obtain⟨l,hl,e⟩:=J3b.1 hvu;have:=(hF.on v (by omega) (h2 v (by omega)) l hl).2;rw[e] at this;have e1:=hD v hvn;have e2:=hD u hun;omega
 . have:=hF.lt hu (v:=v) (by omega);have e1:=hD v hv;omega
theorem Q7E:∀(l:List Int) (m:Int),Q11 l m<=m/\∀a∈l,Q11 l m<=a
 | [],m=>⟨Int.le_refl _,by simp⟩
 | a::r,m=>by
   have q1:(if a<m then a else m)<=m:=by split<;>omega
   have q2:(if a<m then a else m)<=a:=by split<;>omega
   obtain⟨h1,h2⟩:=Q7E r (if a<m then a else m);rw[Q11];refine⟨Int.le_trans h1 q1,fun b hb=>?_⟩;rcases List.mem_cons.1 hb with e|hb
   . rw[e];exact Int.le_trans h1 q2
   . exact h2 b hb
theorem J9t:∀(l:List Int) (m k:Int),k<=m->(∀a∈l,k<=a)->k<=Q11 l m
 | [],m,k,h,_=>h
 | a::r,m,k,h,ha=>by
   rw[Q11];exact J9t r _ k (by have:=ha a (by simp);split<;>omega) (fun b hb=>ha b (by simp[hb]))
theorem J9J {p q:Int×Int->Bool}:∀{r:X2h} {k:Nat},(∀l∈r,p l=q l)->fpI p k r=fpI q k r
 | [],_,_=>rfl
 | l::r,k,h=>by rw[fpI,fpI,h l (by simp),J9J (fun x hx=>h x (by simp[hx]))]
abbrev dC (c:Cf) (v:Nat):Int:=gI (gC c v) 0
abbrev pC (c:Cf) (v:Nat):Int:=gI (gC c v) 1
theorem Q0N (r:X2h) (f:Int×Int->Int):((List.range r.length).map fun i=>f (gF r i))=r.map f:=by
 refine List.ext_getElem (by simp) fun i h1 h2=>?_;simp at h1;simp[gF,List.getD,h1]
theorem Q8d {f:Int×Int->Int} {p:Int×Int->Bool}:∀{r:X2h} {k:Nat},(∀l∈r,f l≠0↔p l=true)->Q1h k (r.map f)=fpI p k r
 | [],_,_=>rfl
 | l::r,k,h=>by
   have h1:=h l (by simp);rw[List.map_cons,Q1h,fpI,Q8d (fun x hx=>h x (by simp[hx]))];by_cases e:p l=true
   . rw[if_pos (h1.2 e),if_pos e]
   . rw[if_neg (fun q=>e (h1.1 q)),if_neg e]
end Go.Proofs.YtmifmchinfhbnaaGreatDoor
namespace Go.Proofs.YtmifmchinfhbnaaGreatDoor
open Go.Eng
set_option maxRecDepth 100000
set_option linter.unusedVariables false
def exN (n x w:Nat):Nat:=max (x+1) (w*n)
theorem X1m {n x y w:Nat} (h:x<=y):exN n x w<=exN n y w:=by simp only[exN];omega
theorem Q8z {n x w:Nat}:x<exN n x w:=by simp only[exN];omega
inductive Wk (g:G):Nat->Nat->Prop
 | nil:Wk g 0 0
 | step {v x:Nat} {l:Int×Int} (hv:v<g.ids.length) (hl:l∈gR g.ports v) (h:Wk g l.1.toNat x):Wk g v (exN g.ids.length x l.2.toNat)
theorem Q39 {p:Nat->Prop}:∀(x:Nat),p x->∃x,p x/\∀y,p y->x<=y:=by
 intro x
 induction x using Nat.strongRecOn with
 | _ x ih =>
   intro h;by_cases q:∃y,p y/\y<x
   . obtain⟨y,h1,h2⟩:=q;exact ih y h2 h1
   . exact⟨x,h,fun y hy=>Nat.le_of_not_lt fun e=>q ⟨y,hy,e⟩⟩
noncomputable def Tv (g:G) (v:Nat):Nat:=by
 classical exact if h:∃x,Wk g v x then Classical.choose (Q39 _ (Classical.choose_spec h)) else 0
theorem Q6q {g:G} {v:Nat} (h:∃x,Wk g v x):Wk g v (Tv g v)/\∀y,Wk g v y->Tv g v<=y:=by
 unfold Tv;rw[dif_pos h];exact Classical.choose_spec (Q39 _ (Classical.choose_spec h))
theorem X6v {g:G} (h:g.conn=true):∀(d v:Nat),v<g.ids.length->Dg g v=d->∃x,Wk g v x/\(d=0->x=0)/\(0<d->x+1<=15*g.ids.length+d):=by
 obtain⟨h1,h2⟩:=J0o h;obtain⟨f1,f2,f3,f4,f5,f6,f7⟩:=J0f h1;have hN:=X8x h;intro d
 induction d with
 | zero =>
   intro v hv hd;have:=(hN.root v hv).1 hd;subst this;exact⟨0,.nil,fun _=>rfl,fun h=>by omega⟩
 | succ d ih =>
   intro v hv hd;have h0:v≠0:=fun e=>by have:=(hN.root v hv).2 e;omega
   obtain⟨u,hu,e⟩:=hN.near v hv h0;obtain⟨l,hl,rfl⟩:=J3b.1 hu;have hun:=hN.rng v _ hv hu;obtain⟨x,hx,hb1,hb2⟩:=ih l.1.toNat hun (by omega);refine⟨_,.step hv hl hx,fun h=>by omega,fun _=>?_⟩;have hw:=((J0B.1 (f6 v (by omega))).1 l hl).2.2.2.2;have hw2:l.2.toNat*g.ids.length<=15*g.ids.length:=Nat.mul_le_mul_right _ (by omega);simp only[exN];rcases Nat.eq_zero_or_pos d with e0|e0
   . have:=hb1 e0;omega
   . have:=hb2 e0;omega
theorem X6C {g:G} (h:g.conn=true) {v:Nat} (hv:v<g.ids.length):Wk g v (Tv g v):=by
 obtain⟨x,hx,_⟩:=X6v h _ v hv rfl;exact(Q6q ⟨x,hx⟩).1
theorem Q99 {g:G} {v x:Nat} (h:Wk g v x):Tv g v<=x:=(Q6q ⟨x,h⟩).2 x h
theorem J5g (g:G):Tv g 0=0:=Nat.le_zero.1 (Q99 .nil)
theorem J85 {g:G} (h:g.conn=true) {v:Nat} (hv:v<g.ids.length) {l:Int×Int} (hl:l∈gR g.ports v):Tv g v<=exN g.ids.length (Tv g l.1.toNat) l.2.toNat:=by
 have hln:=(X8x h).rng v l.1.toNat hv (J3b.2 ⟨l,hl,rfl⟩);exact Q99 (.step hv hl (X6C h hln))
theorem Q2i {g:G} (h:g.conn=true) {v:Nat} (hv:v<g.ids.length) (h0:v≠0):∃l∈gR g.ports v,Tv g v=exN g.ids.length (Tv g l.1.toNat) l.2.toNat:=by
 have hw:=X6C h hv;generalize hx:Tv g v=t at hw;cases hw with
 | nil=>exact(h0 rfl).elim
 | step hv' hl hu =>
   rename_i x l;refine⟨l,hl,Nat.le_antisymm ?_ (X1m (Q99 hu))⟩;rw[<- hx];exact J85 h hv hl
theorem X3R {g:G} (h:g.conn=true) {v:Nat} (hv:v<g.ids.length):Tv g v=0↔v=0:=by
 refine⟨fun e=>Classical.byContradiction fun h0=>?_,fun e=>by subst e;exact J5g g⟩;obtain⟨l,_,q⟩:=Q2i h hv h0;have:=Q8z (n:=g.ids.length) (x:=Tv g l.1.toNat) (w:=l.2.toNat);omega
theorem J78 {g:G} (h:g.conn=true) {v:Nat} (hv:v<g.ids.length):Tv g v+2<=16*g.ids.length:=by
 obtain⟨x,hx,hb1,hb2⟩:=X6v h _ v hv rfl;have:=Q99 hx;have ht:=(X8x h).top v hv;rcases Nat.eq_zero_or_pos (Dg g v) with e|e
 . have:=hb1 e;omega
 . have:=hb2 e;omega
noncomputable def rkV (g:G) (v:Nat):Nat:=J7Q (fun u=>decide (Tv g u<Tv g v)) g.ids.length
theorem Q84 {p q:Nat->Bool}:∀{n:Nat},(∀v,v<n->p v=true->q v=true)->J7Q p n<=J7Q q n
 | 0,_=>Nat.le_refl _
 | n+1,h=>by
   have h1:=Q84 (n:=n) fun v hv=>h v (by omega);have h2:=h n (by omega);simp only[J7Q];cases hp:p n<;>cases hq:q n<;>simp_all<;>omega
theorem Q83 {p q:Nat->Bool} {u:Nat} (hp:p u=false) (hq:q u=true):∀{n:Nat},u<n->(∀v,v<n->p v=true->q v=true)->J7Q p n<J7Q q n
 | n+1,hn,h=>by
   have h2:=h n (by omega);simp only[J7Q];by_cases e:u=n
   . subst e;have h1:=Q84 (n:=u) fun v hv=>h v (by omega);rw[hp,hq];simp;omega
   . have h1:=Q83 hp hq (n:=n) (by omega) fun v hv=>h v (by omega);cases hp:p n<;>cases hq:q n<;>simp_all<;>omega
theorem Q4A (p:Nat->Bool):∀(n:Nat),J7Q p n<=n
 | 0=>Nat.le_refl _
 | n+1=>by
   have:=Q4A p n;simp only[J7Q];split<;>omega
theorem Q4z {p:Nat->Bool} {u:Nat} (hp:p u=false):∀{n:Nat},u<n->J7Q p n+1<=n
 | n+1,hn=>by
   simp only[J7Q];by_cases e:u=n
   . subst e;have:=Q4A p u;rw[hp];simp;omega
   . have:=Q4z hp (n:=n) (by omega);split<;>omega
theorem Y0f {g:G} {u v:Nat} (hu:u<g.ids.length) (h:Tv g u<Tv g v):rkV g u<rkV g v :=
 Q83 (u:=u) (by simp) (by simpa using h) hu fun w _ q=>by simp only[decide_eq_true_eq] at q ⊢;omega
theorem X6O {g:G} {v:Nat} (hv:v<g.ids.length):rkV g v+1<=g.ids.length:=Q4z (u:=v) (by simp) hv
def exI (g:G) (y w:Int):Int:=if y+1<w*g.ids.length then w*g.ids.length else y+1
theorem J7n (g:G) (x:Nat) {w:Int} (hw:0<=w):exI g x w=((exN g.ids.length x w.toNat:Nat):Int):=by
 obtain⟨k,rfl⟩:∃k:Nat,w=(k:Int):=⟨w.toNat,by omega⟩;have e:((k:Int)*(g.ids.length:Int))=((k*g.ids.length:Nat):Int):=by push_cast;rfl
 rw[exI,exN,e,Int.toNat_natCast];generalize k*g.ids.length=m;split<;>omega
theorem X1n {g:G} {y z w:Int} (h:y<=z):exI g y w<=exI g z w:=by
 rw[exI,exI];generalize w*(g.ids.length:Int)=m;split<;>split<;>omega
structure VIn (g:G) (r:Nat) (x:List Int):Prop where
 len:x.length=g.ids.length
 root:gI x 0=0
 low:∀v,v<g.ids.length->((Tv g v:Nat):Int)<=gI x v
 top:∀v,v<g.ids.length->gI x v<=1073741824
 ok:∀v,v<g.ids.length->rkV g v<r->gI x v=((Tv g v:Nat):Int)
structure VPs (g:G) (r v i:Nat) (x:List Int):Prop where
 base:VIn g r x
 before:∀u,u<v->u<g.ids.length->rkV g u<=r->gI x u=((Tv g u:Nat):Int)
 here:∀j,j<i->j<(gR g.ports v).length->Tv g v=exN g.ids.length (Tv g (gF (gR g.ports v) j).1.toNat) (gF (gR g.ports v) j).2.toNat->rkV g v<=r->gI x v=((Tv g v:Nat):Int)
theorem VPs.start {g:G} {r:Nat} {x:List Int} (h:VIn g r x):VPs g r 0 0 x:=⟨h,fun u hu=>by omega,fun j hj=>by omega⟩
def Q62 (g:G) (x:List Int) (v:Nat) (l:Int×Int):List Int:=x.set v (if exI g (gI x l.1.toNat) l.2<gI x v then exI g (gI x l.1.toNat) l.2 else gI x v)
theorem VPs.step {g:G} (h:g.conn=true) {r v i:Nat} {x:List Int} (hp:VPs g r v i x) (hv:v<g.ids.length) (hi:i<(gR g.ports v).length):VPs g r v (i+1) (Q62 g x v (gF (gR g.ports v) i)):=by
 obtain⟨h1,h2⟩:=J0o h;obtain⟨f1,f2,f3,f4,f5,f6,f7⟩:=J0f h1;have hB:=hp.base;have hl:=J2X hi;have hok:=(J0B.1 (f6 v (by omega))).1 _ hl;generalize hL:gF (gR g.ports v) i=l at *;have hun:l.1.toNat<g.ids.length:=by omega
 have hw:0<=l.2:=by omega
 have hlen:=hB.len;have hg:∀u,gI (Q62 g x v l) u=if u=v then (if exI g (gI x l.1.toNat) l.2<gI x v then exI g (gI x l.1.toNat) l.2 else gI x v) else gI x u:=fun u=>J7e x v u _ (by omega)
 have hlow:((Tv g v:Nat):Int)<=exI g (gI x l.1.toNat) l.2:=by
  have h3:=J85 h hv hl;have h4:=X1n (g:=g) (w:=l.2) (hB.low l.1.toNat hun);rw[J7n g _ hw] at h4;omega
 have hst:∀u,u<g.ids.length->gI x u=((Tv g u:Nat):Int)->gI (Q62 g x v l) u=((Tv g u:Nat):Int):=fun u hu e=>by
  rw[hg];split
  . rename_i q;subst q;split<;>omega
  . exact e
 refine⟨⟨by rw[Q62,List.length_set];exact hlen,?_,fun u hu=>?_,fun u hu=>?_,fun u hu q=>hst u hu (hB.ok u hu q)⟩,fun u hu hun q=>hst u hun (hp.before u hu hun q),fun j hj hj2 e q=>?_⟩
 . have:=hst 0 (by omega) (by rw[J5g];exact hB.root);rw[J5g] at this;exact this
 . rw[hg];have:=hB.low u hu;split
   . rename_i q;subst q;split<;>omega
   . exact this
 . rw[hg];have:=hB.top u hu;split
   . rename_i q;subst q;split<;>omega
   . exact this
 . by_cases ej:j=i
   . subst ej;rw[hL] at e;have hlt:Tv g l.1.toNat<Tv g v:=by rw[e];exact Q8z
     have hrk:=Y0f hun hlt;have hx:=hB.ok l.1.toNat hun (by omega);have hlo:=hB.low v hv;rw[hg,if_pos rfl,hx,J7n g _ hw,<- e];split<;>omega
   . exact hst v hv (hp.here j (by omega) hj2 e q)
theorem VPs.row {g:G} (h:g.conn=true) {r v:Nat} {x:List Int} (hp:VPs g r v (gR g.ports v).length x) (hv:v<g.ids.length):VPs g r (v+1) 0 x:=by
 refine⟨hp.base,fun u hu hun q=>?_,fun j hj=>by omega⟩;by_cases e:u=v
 . subst e;by_cases h0:u=0
   . subst h0;rw[J5g];exact hp.base.root
   . obtain⟨l,hl,e⟩:=Q2i h hun h0;obtain⟨j,hj,ej⟩:=List.getElem_of_mem hl;have ej:gF (gR g.ports u) j=l:=by rw[<- ej];simp[gF,List.getD,hj]
     exact hp.here j hj hj (by rw[ej];exact e) q
 . exact hp.before u (by omega) hun q
theorem VPs.over {g:G} {r v:Nat} {x:List Int} (hp:VPs g r v 0 x) (hv:g.ids.length<=v):VIn g (r+1) x :=
 ⟨hp.base.len,hp.base.root,hp.base.low,hp.base.top,fun u hu q=>hp.before u (by omega) hu (by omega)⟩
noncomputable def J2f (g:G):List Int:=(List.range g.ids.length).map fun v=>((Tv g v:Nat):Int)
theorem J2O (g:G):(J2f g).length=g.ids.length:=by simp[J2f]
theorem J3u {g:G} {v:Nat} (hv:v<g.ids.length):gI (J2f g) v=((Tv g v:Nat):Int):=by simp[J2f,gI,List.getD,hv]
theorem VIn.done {g:G} {x:List Int} (h:VIn g g.ids.length x):x=J2f g:=by
 refine List.ext_getElem (by rw[J2O,h.len]) fun i h1 h2=>?_;have hi:i<g.ids.length:=by rw[<- h.len];exact h1
 have e1:=h.ok i hi (by have:=X6O (g:=g) hi;omega);have e2:=J3u (g:=g) hi;simp only[gI,List.getD,List.getElem?_eq_getElem h1,List.getElem?_eq_getElem h2,Option.getD_some] at e1 e2;rw[e1,e2]
theorem VIn.start {g:G} (h:g.conn=true) {x:List Int} (hl:x.length=g.ids.length) (h0:gI x 0=0) (hx:∀v,v<g.ids.length->v≠0->16*(g.ids.length:Int)<=gI x v/\gI x v<=1073741824):VIn g 0 x:=by
 refine⟨hl,h0,fun v hv=>?_,fun v hv=>?_,fun v hv q=>by omega⟩
 . by_cases e:v=0
   . subst e;rw[J5g,h0];exact Int.le_refl _
   . have:=(hx v hv e).1;have:=J78 h hv;omega
 . by_cases e:v=0
   . subst e;omega
   . exact(hx v hv e).2
end Go.Proofs.YtmifmchinfhbnaaGreatDoor
namespace Go.Plain.Val
structure Net (n:Nat) (a:Nat->Nat->Bool) (D:Nat->Nat):Prop where
 rng:∀u v,u<n->a u v=true->v<n
 root:∀v,v<n->(D v=0↔v=0)
structure St where
 d:Nat->Int
 p:Nat->Int
structure Rule (n:Nat) (a:Nat->Nat->Bool) (D:Nat->Nat) (P:Nat->Int) (tg:(Nat->Int)->Nat->Int×Int):Prop where
 root:∀d,tg d 0=(0,-1)
 right:∀d v,v<n->v≠0->(∀u,a v u=true->D u<D v->d u=((D u:Nat):Int))->(∀u,a v u=true->D v<=D u->(D v:Int)<=d u)->tg d v=(((D v:Nat):Int),P v)
 low:∀d v (k:Nat),v<n->v≠0->k<D v->(∀u,a v u=true->(D u<k->d u=((D u:Nat):Int))/\(k<=D u->(k:Int)<=d u))->((k+1:Nat):Int)<=(tg d v).1
 proot:P 0=-1
variable {n:Nat} {a:Nat->Nat->Bool} {D:Nat->Nat} {P:Nat->Int} {tg:(Nat->Int)->Nat->Int×Int}
def right (D:Nat->Nat) (P:Nat->Int) (s:St) (v:Nat):Prop:=s.d v=((D v:Nat):Int)/\s.p v=P v
def off (tg:(Nat->Int)->Nat->Int×Int) (s:St) (v:Nat):Prop:=(s.d v,s.p v)≠tg s.d v
def Step (n:Nat) (tg:(Nat->Int)->Nat->Int×Int) (s:St) (c:Nat->Bool) (s':St):Prop :=
 ∀v,v<n->(c v=true->off tg s v->(s'.d v,s'.p v)=tg s.d v)/\(c v=false\/¬ off tg s v->s'.d v=s.d v/\s'.p v=s.p v)
structure Ok (n:Nat) (D:Nat->Nat) (P:Nat->Int) (s:St) (k:Nat):Prop where
 low:∀v,v<n->D v<k->right D P s v
 far:∀v,v<n->k<=D v->(k:Int)<=s.d v
def bad (D:Nat->Nat) (P:Nat->Int) (s:St) (k v:Nat):Prop:=(D v=k/\¬ right D P s v)\/(k<D v/\s.d v<(k:Int)+1)
theorem Ok.start {s:St} (h:∀v,v<n->0<=s.d v):Ok n D P s 0:=⟨fun v _ h=>by omega,fun v hv _=>by simpa using h v hv⟩
theorem Ok.tgt (hN:Net n a D) (hR:Rule n a D P tg) {s:St} {k:Nat} (h:Ok n D P s k) {v:Nat} (hv:v<n) (hk:D v<=k):tg s.d v=(((D v:Nat):Int),P v):=by
 by_cases h0:v=0
 . subst h0;rw[hR.root,(hN.root 0 hv).2 rfl,hR.proot];rfl
 . refine hR.right s.d v hv h0 (fun u hu e=>?_) (fun u hu e=>?_)
   . exact(h.low u (hN.rng v u hv hu) (by omega)).1
   . have hun:=hN.rng v u hv hu;by_cases q:D u<k
     . rw[(h.low u hun q).1];omega
     . have:=h.far u hun (by omega);omega
theorem Ok.tgfar (hN:Net n a D) (hR:Rule n a D P tg) {s:St} {k:Nat} (h:Ok n D P s k) {v:Nat} (hv:v<n) (hk:k<D v):((k+1:Nat):Int)<=(tg s.d v).1:=by
 have h0:v≠0:=fun e=>by have:=(hN.root v hv).2 e;omega
 refine hR.low s.d v k hv h0 hk fun u hu=>⟨fun q=>(h.low u (hN.rng v u hv hu) q).1,fun q=>h.far u (hN.rng v u hv hu) q⟩
theorem Ok.off_bad (hN:Net n a D) (hR:Rule n a D P tg) {s:St} {k:Nat} (h:Ok n D P s k) {v:Nat} (hv:v<n) (hb:bad D P s k v):off tg s v:=by
 rcases hb with ⟨h1,h2⟩ | ⟨h1,h2⟩
 . intro e;rw[h.tgt hN hR hv (by omega)] at e;exact h2 ⟨(Prod.mk.inj e).1,(Prod.mk.inj e).2⟩
 . intro e;have:=h.tgfar hN hR hv h1;rw[<- e] at this;simp only at this;omega
theorem Ok.step (hN:Net n a D) (hR:Rule n a D P tg) {s s':St} {c:Nat->Bool} {k:Nat} (h:Ok n D P s k) (hs:Step n tg s c s') :
 Ok n D P s' k/\∀v,v<n->bad D P s' k v->bad D P s k v/\c v=false:=by
 have key:∀v,v<n->(c v=true/\off tg s v/\(s'.d v,s'.p v)=tg s.d v)\/((c v=false\/¬ off tg s v)/\s'.d v=s.d v/\s'.p v=s.p v):=fun v hv=>by
  obtain⟨h1,h2⟩:=hs v hv;by_cases q:c v=false\/¬ off tg s v
  . exact .inr ⟨q,h2 q⟩
  . have qc:c v=true:=by
     cases e:c v with
     | true=>rfl
     | false=>exact(q (.inl e)).elim
    have qo:off tg s v:=Classical.byContradiction fun e=>q (.inr e);exact .inl ⟨qc,qo,h1 qc qo⟩
 have low':∀v,v<n->D v<k->right D P s' v:=fun v hv hk=>by
  rcases key v hv with ⟨_,_,e⟩ | ⟨_,e1,e2⟩
  . rw[h.tgt hN hR hv (by omega)] at e;exact⟨(Prod.mk.inj e).1,(Prod.mk.inj e).2⟩
  . obtain⟨r1,r2⟩:=h.low v hv hk;exact⟨by rw[e1];exact r1,by rw[e2];exact r2⟩
 have far':∀v,v<n->k<=D v->(k:Int)<=s'.d v:=fun v hv hk=>by
  rcases key v hv with ⟨_,_,e⟩ | ⟨_,e1,_⟩
  . by_cases q:D v=k
    . rw[h.tgt hN hR hv (by omega)] at e;rw[(Prod.mk.inj e).1];omega
    . have:=h.tgfar hN hR hv (by omega);rw[<- e] at this;simp only at this;omega
  . rw[e1];exact h.far v hv hk
 refine⟨⟨low',far'⟩,fun v hv hb=>?_⟩;rcases key v hv with ⟨_,_,e⟩ | ⟨q,e1,e2⟩
 . exfalso;rcases hb with ⟨h1,h2⟩ | ⟨h1,h2⟩
   . rw[h.tgt hN hR hv (by omega)] at e;exact h2 ⟨(Prod.mk.inj e).1,(Prod.mk.inj e).2⟩
   . have:=h.tgfar hN hR hv h1;rw[<- e] at this;simp only at this;omega
 . have hb0:bad D P s k v:=by
    rcases hb with ⟨h1,h2⟩ | ⟨h1,h2⟩
    . exact .inl ⟨h1,fun r=>h2 ⟨by rw[e1];exact r.1,by rw[e2];exact r.2⟩⟩
    . exact .inr ⟨h1,by rw[<- e1];exact h2⟩
   refine⟨hb0,?_⟩;rcases q with q|q
   . exact q
   . exact(q (h.off_bad hN hR hv hb0)).elim
theorem Ok.next {s:St} {k:Nat} (h:Ok n D P s k) (hb:∀v,v<n->¬ bad D P s k v):Ok n D P s (k+1):=by
 refine⟨fun v hv hk=>?_,fun v hv hk=>?_⟩
 . by_cases e:D v=k
   . exact Classical.byContradiction fun q=>hb v hv (.inl ⟨e,q⟩)
   . exact h.low v hv (by omega)
 . have:=hb v hv;apply Classical.byContradiction;intro q;exact this (.inr ⟨by omega,by omega⟩)
theorem Ok.all (hN:Net n a D) (hR:Rule n a D P tg) {s:St} {k:Nat} (h:Ok n D P s k) {v:Nat} (hv:v<n) (hk:D v<k):¬ off tg s v:=fun e=>by
 obtain⟨r1,r2⟩:=h.low v hv hk;apply e;rw[h.tgt hN hR hv (by omega),r1,r2]
end Go.Plain.Val
namespace Go.Proofs.YtmifmchinfhbnaaGreatDoor
open Go.Eng
set_option maxRecDepth 100000
set_option linter.unusedVariables false
noncomputable def upW (g:G) (v:Nat):Int:=if v=0 then -1 else fpI (fun l=>decide (exI g ((Tv g l.1.toNat:Nat):Int) l.2=((Tv g v:Nat):Int))) 0 (gR g.ports v)
def mnW (g:G) (d:Nat->Int) (v:Nat):Int:=Q11 ((gR g.ports v).map fun l=>exI g (d l.1.toNat) l.2) 1073741824
def tgW (g:G) (d:Nat->Int) (v:Nat):Int×Int :=
 if v=0 then (0,-1) else (if mnW g d v<16*g.ids.length then mnW g d v else 16*g.ids.length,fpI (fun l=>decide (exI g (d l.1.toNat) l.2=mnW g d v)) 0 (gR g.ports v))
theorem Q1y (g:G) (y w:Int):y<exI g y w:=by
 rw[exI];generalize w*(g.ids.length:Int)=m;split<;>omega
theorem X7h {g:G} (h:g.conn=true):Go.Plain.Val.Net g.ids.length (adN g) (Tv g) :=
 ⟨fun u v hu hv=>(X8x h).rng u v hu hv,fun v hv=>X3R h hv⟩
theorem Q6P {g:G} (h:g.conn=true):Go.Plain.Val.Rule g.ids.length (adN g) (Tv g) (upW g) (tgW g):=by
 obtain⟨h1,h2⟩:=J0o h;obtain⟨f1,f2,f3,f4,f5,f6,f7⟩:=J0f h1;refine⟨fun d=>if_pos rfl,fun d v hv h0 hr1 hr2=>?_,fun d v k hv h0 hk hd=>?_,if_pos rfl⟩
 . have ht:=J78 h hv;have hok:=(J0B.1 (f6 v (by omega))).1;have hmem:∀l∈gR g.ports v,adN g v l.1.toNat=true:=fun l hl=>J3b.2 ⟨l,hl,rfl⟩;have hle:∀l∈gR g.ports v,((Tv g v:Nat):Int)<=exI g (d l.1.toNat) l.2:=fun l hl=>by
    have hw:0<=l.2:=by have:=hok l hl;omega
    by_cases q:Tv g l.1.toNat<Tv g v
    . rw[hr1 _ (hmem l hl) q,J7n g _ hw];have:=J85 h hv hl;omega
    . have:=hr2 _ (hmem l hl) (by omega);have:=Q1y g (d l.1.toNat) l.2;omega
   have hm:mnW g d v=((Tv g v:Nat):Int):=by
    obtain⟨l,hl,e⟩:=Q2i h hv h0;have hw:0<=l.2:=by have:=hok l hl;omega
    have hlt:Tv g l.1.toNat<Tv g v:=by rw[e];exact Q8z
    have a1:=(Q7E ((gR g.ports v).map fun l=>exI g (d l.1.toNat) l.2) 1073741824).2 _ (List.mem_map.2 ⟨l,hl,rfl⟩);rw[hr1 _ (hmem l hl) hlt,J7n g _ hw,<- e] at a1;have a2:((Tv g v:Nat):Int)<=Q11 ((gR g.ports v).map fun l=>exI g (d l.1.toNat) l.2) 1073741824:=by
     refine J9t _ _ _ (by omega) fun b hb=>?_;obtain⟨l',hl',rfl⟩:=List.mem_map.1 hb;exact hle l' hl'
    rw[mnW];omega
   rw[tgW,if_neg h0,hm,if_pos (by omega),upW,if_neg h0];refine Prod.ext rfl ?_;refine J9J fun l hl=>?_;by_cases q:Tv g l.1.toNat<Tv g v
   . rw[hr1 _ (hmem l hl) q]
   . have q1:=hr2 _ (hmem l hl) (by omega);have q2:=Q1y g (d l.1.toNat) l.2;have q3:=Q1y g ((Tv g l.1.toNat:Nat):Int) l.2;rw[decide_eq_false (by omega),decide_eq_false (by omega)]
 . have ht:=J78 h hv;have hok:=(J0B.1 (f6 v (by omega))).1;have hm:((k+1:Nat):Int)<=mnW g d v:=by
    refine J9t _ _ _ (by omega) fun b hb=>?_;obtain⟨l,hl,rfl⟩:=List.mem_map.1 hb;have hw:0<=l.2:=by have:=hok l hl;omega
    obtain⟨d1,d2⟩:=hd _ (J3b.2 ⟨l,hl,rfl⟩);by_cases q:Tv g l.1.toNat<k
    . rw[d1 q,J7n g _ hw];have:=J85 h hv hl;omega
    . have:=d2 (by omega);have:=Q1y g (d l.1.toNat) l.2;omega
   rw[tgW,if_neg h0];simp only;split<;>omega
def qxT:Tm:=.bin 33 (.leaf 12 0) (.leaf 1 1)
def qwT:Tm:=.bin 30 (.leaf 16 0) (.leaf 6 0)
def exT:Tm:=.ite (.bin 39 qxT qwT) qxT qwT
def mwT:Tm:=.agg 24 exT
def X7l:Tm:=.bin 30 (.leaf 1 16) (.leaf 6 0)
def xWT:Tm:=.ite (.bin 37 mwT X7l) mwT X7l
def pWT:Tm:=.agg 23 (.bin 35 exT mwT)
def X3W:Tm:=.bin 41 (.leaf 10 0) (.bin 42 (.bin 36 (.leaf 5 0) (.leaf 1 0)) (.bin 36 (.leaf 5 1) (.leaf 4 0)))
def X4I:Tm:=.bin 41 (.un 19 (.leaf 10 0)) (.bin 42 (.bin 36 (.leaf 5 0) xWT) (.bin 36 (.leaf 5 1) pWT))
def NnW (g:G) (c:Cf):Prop:=∀v,v<g.ids.length->0<=dC c v/\dC c v<=16*g.ids.length
theorem X2Y {g:G} (hg:g.valid=true) {c:Cf} (hd:NnW g c) {v i:Nat} (hv:v<g.ids.length) (hi:i<(gR g.ports v).length):exT.sem g c v (i:Nat)=exI g (dC c (gF (gR g.ports v) i).1.toNat) (gF (gR g.ports v) i).2:=by
 obtain⟨f1,f2,f3,f4,f5,f6,f7⟩:=J0f hg;have hok:=(J0B.1 (f6 v (by omega))).1 _ (J2X hi);have hdl:=hd (gF (gR g.ports v) i).1.toNat (by omega);have e1:qxT.sem g c v (i:Nat)=dC c (gF (gR g.ports v) i).1.toNat+1:=by
  show sat (gI (gC c (nbV g v i)) 0+1)=_;have:nbV g v i=(gF (gR g.ports v) i).1.toNat:=by simp[nbV]
  rw[this];have hd2:0<=gI (gC c (gF (gR g.ports v) i).1.toNat) 0/\gI (gC c (gF (gR g.ports v) i).1.toNat) 0<=16*g.ids.length:=hdl;exact Q6N (by unfold inR;omega)
 have hmul:∃m:Nat,(gF (gR g.ports v) i).2*(g.ids.length:Int)=(m:Int)/\m<=15*24:=by
  refine⟨(gF (gR g.ports v) i).2.toNat*g.ids.length,?_,Nat.mul_le_mul (by omega) f2⟩
  push_cast
  rw[Int.toNat_of_nonneg (by omega)]
 obtain⟨m,hm,hm2⟩:=hmul;have e2:qwT.sem g c v (i:Nat)=(gF (gR g.ports v) i).2*(g.ids.length:Int):=by
  show sat ((gF (gR g.ports v) ((i:Nat):Int).toNat).2*(g.ids.length:Int))=_;rw[Int.toNat_natCast,hm];exact Q6N (by unfold inR;omega)
 show(if J3g (decide (qxT.sem g c v (i:Nat) > qwT.sem g c v (i:Nat)))≠0 then qxT.sem g c v (i:Nat) else qwT.sem g c v (i:Nat))=_;rw[e1,e2,exI];simp only[J67,decide_eq_true_eq];generalize (gF (gR g.ports v) i).2*(g.ids.length:Int)=t;split<;>split<;>omega
theorem X7t {g:G} (hg:g.valid=true) {c:Cf} (hd:NnW g c) {v:Nat} (hv:v<g.ids.length):((List.range (gR g.ports v).length).map fun(i:Nat)=>exT.sem g c v (i:Nat))=(gR g.ports v).map fun l=>exI g (dC c l.1.toNat) l.2:=by
 rw[<- Q0N (gR g.ports v) (fun l=>exI g (dC c l.1.toNat) l.2)];refine List.map_congr_left fun i hi=>?_;exact X2Y hg hd hv (List.mem_range.1 hi)
theorem X2J {g:G} (hg:g.valid=true) {c:Cf} (hd:NnW g c) {v:Nat} (hv:v<g.ids.length) (port:Int):mwT.sem g c v port=mnW g (dC c) v:=by
 show Q11 ((List.range (gR g.ports v).length).map fun(i:Nat)=>exT.sem g c v (i:Nat)) 1073741824=_;rw[X7t hg hd hv];rfl
theorem X4z {g:G} (hg:g.valid=true) (c:Cf) (v:Nat) (port:Int):X7l.sem g c v port=16*(g.ids.length:Int):=by
 obtain⟨f1,f2,f3,f4,f5,f6,f7⟩:=J0f hg;show sat (16*(g.ids.length:Int))=_;exact Q6N (by unfold inR;omega)
theorem X7q {g:G} (hg:g.valid=true) {c:Cf} (hd:NnW g c) {v:Nat} (hv:v<g.ids.length):0<=mnW g (dC c) v:=by
 obtain⟨f1,f2,f3,f4,f5,f6,f7⟩:=J0f hg;have hok:=(J0B.1 (f6 v (by omega))).1;refine J9t _ _ _ (by omega) fun b hb=>?_;obtain⟨l,hl,rfl⟩:=List.mem_map.1 hb;have:=hok l hl;have:=(hd l.1.toNat (by omega)).1;have:=Q1y g (dC c l.1.toNat) l.2;omega
theorem X2i {g:G} (hg:g.valid=true) {c:Cf} (hd:NnW g c) {v:Nat} (hv:v<g.ids.length) (h0:v≠0) (port:Int):xWT.sem g c v port=(tgW g (dC c) v).1:=by
 show(if J3g (decide (mwT.sem g c v port<X7l.sem g c v port))≠0 then mwT.sem g c v port else X7l.sem g c v port)=_;rw[X2J hg hd hv,X4z hg,tgW,if_neg h0];simp only[J67,decide_eq_true_eq]
theorem X2y {g:G} (hg:g.valid=true) {c:Cf} (hd:NnW g c) {v:Nat} (hv:v<g.ids.length) (h0:v≠0) (port:Int):pWT.sem g c v port=(tgW g (dC c) v).2:=by
 show Q1h 0 ((List.range (gR g.ports v).length).map fun(i:Nat)=>J3g (decide (exT.sem g c v (i:Nat)=mwT.sem g c v (i:Nat))))=_;rw[tgW,if_neg h0];simp only;have e:((List.range (gR g.ports v).length).map fun(i:Nat)=>J3g (decide (exT.sem g c v (i:Nat)=mwT.sem g c v (i:Nat))))=(gR g.ports v).map fun l=>J3g (decide (exI g (dC c l.1.toNat) l.2=mnW g (dC c) v)):=by
  rw[<- Q0N (gR g.ports v) (fun l=>J3g (decide (exI g (dC c l.1.toNat) l.2=mnW g (dC c) v)))];refine List.map_congr_left fun i hi=>?_;rw[X2Y hg hd hv (List.mem_range.1 hi),X2J hg hd hv]
 rw[e];exact Q8d fun l _=>by rw[J67]
def Q3S (g:G) (c:Cf) (v:Nat):Bool:=decide ((dC c v,pC c v)≠tgW g (dC c) v)
theorem Q3v (g:G) (c:Cf) (v:Nat):X3W.sem g c v (-1)=J3g (decide (v=0)&&Q3S g c v):=by
 show J3g (decide (J3g (decide (v=0))≠0/\J3g (decide (J3g (decide (dC c v≠0))≠0\/J3g (decide (pC c v≠-1))≠0))≠0))=_;congr 1;simp only[J67,decide_eq_true_eq];by_cases h0:v=0
 . rw[Q3S,tgW,if_pos h0];simp only[h0,true_and,decide_true,Bool.true_and];rw[decide_eq_decide];simp only[ne_eq,Prod.mk.injEq];exact(Classical.not_and_iff_not_or_not).symm
 . simp[h0]
theorem Q35 {g:G} (hg:g.valid=true) {c:Cf} (hd:NnW g c) {v:Nat} (hv:v<g.ids.length):X4I.sem g c v (-1)=J3g (!decide (v=0)&&Q3S g c v):=by
 show J3g (decide (J3g (decide (J3g (decide (v=0))=0))≠0/\J3g (decide (J3g (decide (dC c v≠xWT.sem g c v (-1)))≠0\/J3g (decide (pC c v≠pWT.sem g c v (-1)))≠0))≠0))=_;congr 1;simp only[J67,X02,decide_eq_true_eq,decide_eq_false_iff_not];by_cases h0:v=0
 . simp[h0]
 . rw[X2i hg hd hv h0,X2y hg hd hv h0,Q3S];simp only[h0,not_false_eq_true,true_and,decide_false,Bool.not_false,Bool.true_and];rw[decide_eq_decide];generalize tgW g (dC c) v=t;obtain⟨t1,t2⟩:=t;simp only[ne_eq,Prod.mk.injEq];exact(Classical.not_and_iff_not_or_not).symm
end Go.Proofs.YtmifmchinfhbnaaGreatDoor
