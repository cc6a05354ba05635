import Derived.Test.YtobpogkghbakmaaGreatDoorAW3
import Derived.Test.YtobpogkghbakmaaGreatDoorEvB
import Derived.Test.YtobpogkghbakmaaGreatDoorDC8
import Derived.Test.YtobpogkghbakmaaGreatDoorEngT
import Derived.Test.YtobpogkghbakmaaGreatDoorLFG
namespace Go.Proofs.YtobpogkghbakmaaGreatDoor
open Go.Eng Go.Plain
set_option maxRecDepth 100000
set_option linter.unusedVariables false
abbrev ownB (s:Tsy):Blk:=.cells [.fz s.n 1 false (vEn s),.fz s.n 1 false (vArs s)]
theorem mx_n (a b:Nat) (x:Int) (hx:x=(b:Int)):(if x > (a:Int) then x else (a:Int))=((max a b:Nat):Int):=by
 subst hx;split<;>omega
structure RdI (s:Tsy) (lg:Nat->Bool) (Q:Nat->Nat->Nat->Prop) (i:Nat) (r:Nat->Nat):Prop where
 leg:∀k,k<s.n->lg k=true->r k=0
 out:∀k,k<s.n->k<i->lg k=false->Q k (s.en k) (r k)
theorem RdI.start (s:Tsy) (lg:Nat->Bool) (Q:Nat->Nat->Nat->Prop):RdI s lg Q 0 (fun _=>0):=⟨fun _ _ _=>rfl,fun k _ h=>by omega⟩
theorem RdI.skip {s:Tsy} {lg:Nat->Bool} {Q:Nat->Nat->Nat->Prop} {i:Nat} {r:Nat->Nat} (h:RdI s lg Q i r) (hl:lg i=true):RdI s lg Q (i+1) r :=
 ⟨h.leg,fun k hk hki hlk=>h.out k hk (by
   rcases Nat.lt_or_ge k i with q|q
   . exact q
   . have:k=i:=by omega
     subst this;rw[hl] at hlk;cases hlk) hlk⟩
theorem RdI.put {s:Tsy} {lg:Nat->Bool} {Q:Nat->Nat->Nat->Prop} {i:Nat} {r:Nat->Nat} (h:RdI s lg Q i r) (hl:lg i=false) {v:Nat} (hv:Q i (s.en i) v):RdI s lg Q (i+1) (fun k=>if k=i then v else r k):=by
 refine⟨fun k hk hlk=>?_,fun k hk hki hlk=>?_⟩
 . show(if k=i then v else r k)=0;rw[if_neg (fun e=>by rw[e,hl] at hlk;cases hlk)];exact h.leg k hk hlk
 . show Q k (s.en k) (if k=i then v else r k);by_cases e:k=i
   . subst e;rw[if_pos rfl];exact hv
   . rw[if_neg e];exact h.out k hk (by omega) hlk
set_option maxHeartbeats 16000000 in
theorem rounds_ok (s:Tsy) (hs:s.Ok) (lg:Nat->Bool) (hall:∀L,An.Ord s.n s.to lg L->∀k,k<s.n->k∈L) (m0:Nat) (hm0:∀k,k<s.n->s.en k<m0) (hnm:s.n*m0<=262144) (Q:Nat->Nat->Nat->Prop) (hQ:RQ s lg Q) :
 RetP Tryz.prog 26 [s.v,blV s.n lg] fun v=>∃r:Nat->Nat,(∀k,k<s.n->lg k=true->r k=0)/\(∀k,k<s.n->lg k=false->Q k (s.en k) (r k))/\v=.tup [inV s.n r,.int .i64 0]:=by
 have n1:=hs.n1;have n2:=hs.n2;have hwo:=worder_ok s hs lg hall;have hre:=reach_ok s hs lg m0 hm0 hnm;refine ret_frzP2 rfl ?_;refine fn_rule mixed Tryz.func26 rfl hc26 hr26 rfl ?_
 repeat' ((conv=>whnf);first|(refine Br.ff ?_)|(refine hwo.go ?_;rintro _ ⟨L,hL,hLn,rfl⟩)|(refine hre.go ?_;rintro _ ⟨F,hF1,hF2,rfl⟩))
 all_goals (conv=>whnf)
 refine loop_w mixed [1,2,8,9,42,43] [] [2,3,4,5,6,7,8,9,10,11,12,13,14,15,16,17,18,19,20,21,22,23,24,25,26,27,28,29] [1,0] (fun x:Nat×List (KyT (.st KP)×V)=>[(44,.int .i64 x.1)]) (fun x=>[(1,.map (.st KP) x.2),(0,ownB s)]) (fun m x=>m=s.n-x.1/\x.1<=s.n/\MpI s lg Q (capR x.1 0) x.2) s.n (0,[]) ⟨rfl,Nat.zero_le _,MpI.nil _ _ _ _⟩ rfl (fun _=>rfl) ?_ ?_
 . refine weak_by (fun _ _=>[(0,some 0),(1,some 1)]) ?_ ?_ rfl
   . repeat' (first|exact True.intro|exact VRen.map rfl|(refine⟨⟨_,rfl,?_⟩,?_⟩)|exact VRen.kf rfl|exact VRen.loc rfl)
   . repeat' (first|exact⟨rfl,rfl⟩|exact True.intro|(refine⟨⟨_,rfl,?_⟩,?_⟩)|exact VRen.kf rfl|(refine And.intro ?_ ?_))
 rintro m x ⟨hm,hx,hM⟩;by_cases hxn:x.1<s.n
 . have hv:gQ L x.1<s.n:=hL.lt _ (gQ_mem (by omega));have hfl:=hF1 (gQ L x.1);have hfv:=hF2 (gQ L x.1);have hrow:=hs.row hv
   repeat' ((conv=>whnf);first|(refine Ix.mk (gQ L x.1) (by rfl) hv ?_)|(refine Br.dec ?_ ?_<;>intro _<;>try omega)|(refine Ix.nat (by omega) ?_))
   all_goals (conv=>whnf)
   refine loop_w mixed [1,2,8,9,11,42,43,44,51,52] [] [2,3,4,5,6,7,8,9,10,11,12,13,14,15,16,17,18,19,20,21,22,23,24,25,26,27,28,29] [1,0] (fun y:Nat×List (KyT (.st KP)×V)=>[(53,.int .i64 y.1)]) (fun y=>[(1,.map (.st KP) y.2),(0,ownB s)]) (fun m y=>m=(F (gQ L x.1)).length-y.1/\y.1<=(F (gQ L x.1)).length/\MpI s lg Q (capR x.1 y.1) y.2) (F (gQ L x.1)).length (0,x.2) ⟨rfl,Nat.zero_le _,hM⟩ rfl (fun _=>rfl) ?_ ?_
   . refine weak_by (fun _ _=>[(0,some 0),(1,some 1)]) ?_ ?_ rfl
     . repeat' (first|exact True.intro|exact VRen.map rfl|(refine⟨⟨_,rfl,?_⟩,?_⟩)|exact VRen.kf rfl|exact VRen.loc rfl)
     . repeat' (first|exact⟨rfl,rfl⟩|exact True.intro|(refine⟨⟨_,rfl,?_⟩,?_⟩)|exact VRen.kf rfl|(refine And.intro ?_ ?_))
   rintro m2 y ⟨hm2,hy,hN⟩;have hx3:=capR_bnd (i:=x.1) (j:=y.1) (by omega) (by omega);by_cases hyn:y.1<(F (gQ L x.1)).length
   . obtain⟨hpd,hlk⟩:=hfv _ (gQ_mem hyn);have h1:=hQ.one (gQ L x.1) (gQ (F (gQ L x.1)) y.1) hv hlk
     repeat' ((conv=>whnf);first|(refine Ix.mk (gQ L x.1) (by rfl) hv ?_)|(refine Br.dec ?_ ?_<;>intro _<;>try omega)|(refine Ix.nat (by omega) ?_))
     all_goals (conv=>whnf)
     refine loop_w mixed [1,2,8,9,11,14,42,43,44,51,52,53,64,65] [] [3,4,5,6,7,8,9,10,11,12,13,14,15,16,17,18,19,20,21,22,23,24,25,26,27,28,29] [2,1,0] (fun z:Nat×Nat=>[(15,.int .i64 z.2),(66,.int .i64 z.1)]) (fun z=>[(2,.cells [.int .i64 (gQ L x.1),.int .u32 (gQ (F (gQ L x.1)) y.1)]),(1,.map (.st KP) y.2),(0,ownB s)]) (fun m z=>m=(s.ar (gQ L x.1)).length-z.1/\z.1<=(s.ar (gQ L x.1)).length/\Q (gQ L x.1) (gQ (F (gQ L x.1)) y.1) z.2/\z.2<=capR x.1 y.1+1) (s.ar (gQ L x.1)).length (0,1) ⟨rfl,Nat.zero_le _,h1,by omega⟩ rfl (fun _=>rfl) ?_ ?_
     . refine weak_by (fun _ _=>[(0,some 0),(1,some 1),(2,some 2)]) ?_ ?_ rfl
       . repeat' (first|exact True.intro|exact VRen.map rfl|(refine⟨⟨_,rfl,?_⟩,?_⟩)|exact VRen.kf rfl|exact VRen.loc rfl)
       . repeat' (first|exact⟨rfl,rfl⟩|exact True.intro|(refine⟨⟨_,rfl,?_⟩,?_⟩)|exact VRen.kf rfl|(refine And.intro ?_ ?_))
     rintro m3 z ⟨hm3,hz,hq,hzb⟩;by_cases hzn:z.1<(s.ar (gQ L x.1)).length
     . obtain⟨a1,a2,a3⟩:=hs.arc _ hv _ (gA_mem hzn);have ha32:=a2.le;have hen2:=hs.en _ hv;have hwa:=wafter_ok s hs (gQ L x.1) (gQ (F (gQ L x.1)) y.1) (by omega) (gA (s.ar (gQ L x.1)) z.1) (by omega) a3;cases hlg:lg ((gA (s.ar (gQ L x.1)) z.1)).2 with
       | true =>
         repeat' ((conv=>whnf);first|(refine Br.mk (fun _=>?_) (fun e=>Bool.noConfusion (e.symm.trans hlg)))|(refine Br.dec ?_ ?_<;>intro _<;>try omega)|(refine Ar.i64 (by omega) (by omega) ?_)|(refine Ix.nat (by omega) ?_))
         all_goals (conv=>whnf)
         refine⟨_,(z.1+1,z.2),?_,⟨rfl,hzn,hq,hzb⟩,?_⟩
         . simp only;omega
         . refine weak_by (fun _ _=>[(0,some 0),(1,some 1),(2,some 2)]) ?_ ?_ rfl
           . repeat' (first|exact True.intro|exact VRen.map rfl|(refine⟨⟨_,rfl,?_⟩,?_⟩)|exact VRen.kf rfl|exact VRen.loc rfl)
           . repeat' (first|exact⟨rfl,rfl⟩|exact True.intro|(refine⟨⟨_,rfl,?_⟩,?_⟩)|exact VRen.kf rfl|(refine And.intro ?_ ?_))
       | false =>
         have hst:=fun r=>hQ.step (gQ L x.1) (gQ (F (gQ L x.1)) y.1) (gA (s.ar (gQ L x.1)) z.1) r hv hlk (gA_mem hzn) hlg;cases hb:(s.aft (gQ (F (gQ L x.1)) y.1) (gA (s.ar (gQ L x.1)) z.1)).2 with
         | true =>
           rw[hb] at hwa;simp only[hb,if_true] at hst
           repeat' ((conv=>whnf);first|(refine Br.mk (fun e=>Bool.noConfusion (e.symm.trans hlg)) (fun _=>?_))|(refine Br.tt ?_)|(refine Br.dec ?_ ?_<;>intro _<;>try omega)|(refine Ar.i64 (by omega) (by omega) ?_)|(refine Sv.mk _ rfl ?_)|(refine Ix.nat (by omega) ?_)|(refine hwa.go ?_)|(refine hN.mget hQ (p:=(((gA (s.ar (gQ L x.1)) z.1)).2,(s.aft (gQ (F (gQ L x.1)) y.1) (gA (s.ar (gQ L x.1)) z.1)).1)) a3 hlg (fun r hr hrb=>?_)))
           all_goals (conv=>whnf)
           have hmx:=mx_n z.2 (1+r) (1+(r:Int)) (by omega);refine⟨_,(z.1+1,max z.2 (1+r)),?_,⟨rfl,hzn,hQ.max _ _ _ _ hq (hst r hr),by simp only;omega⟩,?_⟩
           . simp only;omega
           . refine weak_by (fun _ _=>[(0,some 0),(1,some 1),(2,some 2)]) ?_ ?_ rfl
             . repeat' (first|exact VRen.int hmx|exact True.intro|exact VRen.map rfl|(refine⟨⟨_,rfl,?_⟩,?_⟩)|exact VRen.kf rfl|exact VRen.loc rfl)
             . repeat' (first|exact⟨rfl,rfl⟩|exact True.intro|(refine⟨⟨_,rfl,?_⟩,?_⟩)|exact VRen.kf rfl|(refine And.intro ?_ ?_))
         | false =>
           rw[hb] at hwa;simp only[hb,Bool.false_eq_true,if_false] at hst
           repeat' ((conv=>whnf);first|(refine Br.mk (fun e=>Bool.noConfusion (e.symm.trans hlg)) (fun _=>?_))|(refine Br.ff ?_)|(refine Br.dec ?_ ?_<;>intro _<;>try omega)|(refine Ar.i64 (by omega) (by omega) ?_)|(refine Sv.mk _ rfl ?_)|(refine Ix.nat (by omega) ?_)|(refine hwa.go ?_)|(refine hN.mget hQ (p:=(((gA (s.ar (gQ L x.1)) z.1)).2,(s.aft (gQ (F (gQ L x.1)) y.1) (gA (s.ar (gQ L x.1)) z.1)).1)) a3 hlg (fun r hr hrb=>?_)))
           all_goals (conv=>whnf)
           have hmx:=mx_n z.2 r (r:Int) rfl;refine⟨_,(z.1+1,max z.2 r),?_,⟨rfl,hzn,hQ.max _ _ _ _ hq (hst r hr),by simp only;omega⟩,?_⟩
           . simp only;omega
           . refine weak_by (fun _ _=>[(0,some 0),(1,some 1),(2,some 2)]) ?_ ?_ rfl
             . repeat' (first|exact VRen.int hmx|exact True.intro|exact VRen.map rfl|(refine⟨⟨_,rfl,?_⟩,?_⟩)|exact VRen.kf rfl|exact VRen.loc rfl)
             . repeat' (first|exact⟨rfl,rfl⟩|exact True.intro|(refine⟨⟨_,rfl,?_⟩,?_⟩)|exact VRen.kf rfl|(refine And.intro ?_ ?_))
     . repeat' ((conv=>whnf);first|(refine Br.dec ?_ ?_<;>intro _<;>try omega)|(refine Ar.i64 (by omega) (by omega) ?_))
       all_goals (conv=>whnf)
       refine⟨_,(y.1+1,mput y.2 (kyP ((gQ L x.1),gQ (F (gQ L x.1)) y.1)) (.int .i64 z.2)),?_,⟨rfl,hyn,?_⟩,?_⟩
       . simp only;omega
       . simp only;rw[capR_succ];exact hN.put (p:=((gQ L x.1),gQ (F (gQ L x.1)) y.1)) hq hzb
       . refine weak_by (fun _ _=>[(0,some 0),(1,some 1)]) ?_ ?_ rfl
         . repeat' (first|exact True.intro|exact VRen.map rfl|(refine⟨⟨_,rfl,?_⟩,?_⟩)|exact VRen.kf rfl|exact VRen.loc rfl)
         . repeat' (first|exact⟨rfl,rfl⟩|exact True.intro|(refine⟨⟨_,rfl,?_⟩,?_⟩)|exact VRen.kf rfl|(refine And.intro ?_ ?_))
   . repeat' ((conv=>whnf);first|(refine Br.dec ?_ ?_<;>intro _<;>try omega)|(refine Ar.i64 (by omega) (by omega) ?_))
     all_goals (conv=>whnf)
     refine⟨_,(x.1+1,y.2),?_,⟨rfl,hxn,hN.mono (by simp only;have:=capR_next (i:=x.1) (j:=y.1) (by omega);exact this)⟩,?_⟩
     . simp only;omega
     . refine weak_by (fun _ _=>[(0,some 0),(1,some 1)]) ?_ ?_ rfl
       . repeat' (first|exact True.intro|exact VRen.map rfl|(refine⟨⟨_,rfl,?_⟩,?_⟩)|exact VRen.kf rfl|exact VRen.loc rfl)
       . repeat' (first|exact⟨rfl,rfl⟩|exact True.intro|(refine⟨⟨_,rfl,?_⟩,?_⟩)|exact VRen.kf rfl|(refine And.intro ?_ ?_))
 . repeat' ((conv=>whnf);first|(refine Br.dec ?_ ?_<;>intro _<;>try omega)|(refine Bd.nat (by omega) ?_)|(refine Len.mk (by omega) ?_)|(refine MkS.vec ?_))
   all_goals (conv=>whnf)
   have hx':x.1=s.n:=by omega
   generalize x.1=xi at *;generalize x.2=es at *;refine loop_w mixed [1,9,20,104,105] [] [3,4,5,6,7,8,9,10,11,12,13,14,15,16,17,18,19,20,21,22,23,24,25,26,27,28,29] [2,1,0] (fun y:Nat×(Nat->Nat)=>[(106,.int .i64 y.1)]) (fun y=>[(2,.vec s.n 1 (vEt y.2)),(1,.map (.st KP) es),(0,ownB s)]) (fun m y=>m=s.n-y.1/\y.1<=s.n/\RdI s lg Q y.1 y.2) s.n (0,fun _=>0) ⟨rfl,Nat.zero_le _,RdI.start s lg Q⟩ rfl (fun _=>rfl) ?_ ?_
   . refine weak_by (fun _ _=>[(0,some 0),(1,some 1),(2,some 2)]) ?_ ?_ rfl
     . repeat' (first|exact True.intro|exact VRen.map rfl|(refine⟨⟨_,rfl,?_⟩,?_⟩)|exact VRen.kf rfl|exact VRen.vec rfl rfl rfl)
     . repeat' (first|exact⟨rfl,rfl⟩|exact vet_zero _ _ hj|exact True.intro|(refine⟨⟨_,rfl,?_⟩,?_⟩)|exact VRen.kf rfl|(refine⟨Nat.le_refl _,rfl,fun i j hi hj=>?_⟩)|(refine And.intro ?_ ?_))
   rintro m2 y ⟨hm2,hy,hJ⟩;by_cases hyn:y.1<s.n
   . cases hlg:lg y.1 with
     | true =>
       repeat' ((conv=>whnf);first|(refine Br.mk (fun _=>?_) (fun e=>Bool.noConfusion (e.symm.trans hlg)))|(refine Br.dec ?_ ?_<;>intro _<;>try omega)|(refine Ar.i64 (by omega) (by omega) ?_)|(refine Ix.nat (by omega) ?_))
       all_goals (conv=>whnf)
       refine⟨_,(y.1+1,y.2),?_,⟨rfl,hyn,hJ.skip hlg⟩,?_⟩
       . simp only;omega
       . refine weak_by (fun _ _=>[(0,some 0),(1,some 1),(2,some 2)]) ?_ ?_ rfl
         . repeat' (first|exact True.intro|exact VRen.map rfl|(refine⟨⟨_,rfl,?_⟩,?_⟩)|exact VRen.kf rfl|exact VRen.vec rfl rfl rfl)
         . repeat' (first|exact⟨rfl,rfl⟩|exact True.intro|(refine⟨⟨_,rfl,?_⟩,?_⟩)|exact VRen.kf rfl|(refine⟨Nat.le_refl _,rfl,fun i j hi hj=>?_⟩)|exact VLe.rfl|(refine And.intro ?_ ?_))
     | false =>
       repeat' ((conv=>whnf);first|(refine Br.mk (fun e=>Bool.noConfusion (e.symm.trans hlg)) (fun _=>?_))|(refine Br.dec ?_ ?_<;>intro _<;>try omega)|(refine Ar.i64 (by omega) (by omega) ?_)|(refine Ix.nat (by omega) ?_)|(refine Ltn.mk (by omega) ?_)|(refine hM.mget hQ (p:=(y.1,s.en y.1)) hyn hlg (fun r hr hrb=>?_)))
       all_goals (conv=>whnf)
       refine⟨_,(y.1+1,fun k=>if k=y.1 then r else y.2 k),?_,⟨rfl,hyn,hJ.put hlg hr⟩,?_⟩
       . simp only;omega
       . refine weak_by (fun _ _=>[(0,some 0),(1,some 1),(2,some 2)]) ?_ ?_ rfl
         . repeat' (first|exact True.intro|exact VRen.map rfl|(refine⟨⟨_,rfl,?_⟩,?_⟩)|exact VRen.kf rfl|exact VRen.vec rfl rfl rfl)
         . repeat' (first|exact⟨rfl,rfl⟩|exact vet_put _ _ y.1 _ _ (Nat.zero_add _) (fun z=>by simp only;split<;>rfl) _ _ hj|exact True.intro|(refine⟨⟨_,rfl,?_⟩,?_⟩)|exact VRen.kf rfl|(refine⟨Nat.le_refl _,rfl,fun i j hi hj=>?_⟩)|(refine And.intro ?_ ?_))
   . have hy':y.1=s.n:=by omega
     repeat' ((conv=>whnf);first|(refine Br.dec ?_ ?_<;>intro _<;>try omega)|(refine Len.mk (by omega) ?_))
     all_goals (conv=>whnf)
     exact⟨_,⟨y.2,fun k hk hl=>hJ.leg k hk hl,fun k hk hl=>hJ.out k hk (by omega) hl,rfl⟩,VLe.tup ⟨VLe.fz rfl (fun h=>h) (fun a b ha hb=>VLe.of_eq (by rw[shiftF_eq,Nat.zero_add];rfl)),VLe.rfl,True.intro⟩⟩
def sysP (p:Pr) (g:G) (kd:Int):Tsy:=⟨cntP p g,fun k=>enN p g (cfK p g k),arcK p g kd⟩
def sumF (f:Nat->Int):Nat->Int
 | 0=>0
 | n+1=>sumF f n+f n
theorem sumF_eq (f:Nat->Int):∀n,((List.range n).map f).sum=sumF f n
 | 0=>rfl
 | n+1=>by rw[List.range_succ,List.map_append,List.sum_append,sumF_eq f n];simp[sumF]
theorem sumF_ext {f h:Nat->Int}:∀{n:Nat},(∀i,i<n->f i=h i)->sumF f n=sumF h n
 | 0,_=>rfl
 | n+1,e=>by rw[sumF,sumF,sumF_ext (fun i hi=>e i (by omega)),e n (by omega)]
theorem sumF_zero:∀n,sumF (fun _=>0) n=0
 | 0=>rfl
 | n+1=>by rw[sumF,sumF_zero n];rfl
theorem sumF_bnd {f:Nat->Int} {B:Int}:∀{n:Nat},(∀i,i<n->-B<=f i/\f i<=B)->-((n:Int)*B)<=sumF f n/\sumF f n<=(n:Int)*B
 | 0,_=>by simp[sumF]
 | n+1,h=>by
   have h1:=sumF_bnd (n:=n) (fun i hi=>h i (by omega));have h2:=h n (by omega);have e:((n+1:Nat):Int)*B=(n:Int)*B+B:=by rw[Int.natCast_add,Int.add_mul];simp
   rw[sumF,e];omega
def gwX (p:Pr) (g:G) (c:Cf) (v x:Nat):Int:=(gI (moveL p g c v (ruleI p g c v).toNat) x-gI (gC c v) x)*(plP p g v x:Nat)
def gwS (p:Pr) (g:G) (c:Cf) (v:Nat):Nat->Int:=sumF (gwX p g c v)
def gwK (p:Pr) (g:G) (c:Cf) (v:Nat):Int:=if 0<=ruleI p g c v then gwS p g c v p.vars.length else 0
def toS (p:Pr) (g:G) (c:Cf) (k s b:Nat):Int:=(k:Int)+sumF (fun v=>if s.testBit v then gwK p g c v else 0) b
theorem pr_le1 {sz:Nat->Nat} (h:∀i,0<sz i) (a l l':Nat) (hl:l<=l'):Mx.pr sz a l<=Mx.pr sz a l':=by
 induction l' with
 | zero =>
   obtain rfl:l=0:=by omega
   exact Nat.le_refl _
 | succ l' ih =>
   by_cases e:l=l'+1
   . subst e;exact Nat.le_refl _
   . have:=ih (by omega);rw[Mx.pr_snoc];exact Nat.le_trans this (Nat.le_mul_of_pos_right _ (h _))
theorem pr_split {sz:Nat->Nat} (a l:Nat):∀m,Mx.pr sz a (l+m)=Mx.pr sz a l*Mx.pr sz (a+l) m
 | 0=>by simp[Mx.pr]
 | m+1=>by rw[<- Nat.add_assoc,Mx.pr_snoc,pr_split a l m,Mx.pr_snoc,Nat.mul_assoc,Nat.add_assoc]
theorem pl_step (p:Pr) (g:G) {i:Nat} (hi:i<nP p g):Mx.pr (szP p g) i (nP p g-i)=szP p g i*Mx.pr (szP p g) (i+1) (nP p g-(i+1)):=by
 have e:nP p g-i=(nP p g-(i+1))+1:=by omega
 rw[e,Mx.pr]
theorem pl_le (p:Pr) (g:G) {i:Nat} (hi:i<=nP p g):Mx.pr (szP p g) i (nP p g-i)<=cntP p g:=by
 have e:nP p g=i+(nP p g-i):=by omega
 rw[cntP]
 conv=>rhs;rw[e,pr_split]
 rw[Nat.zero_add];exact Nat.le_mul_of_pos_left _ (Mx.pr_pos (szP_pos p g) _ _)
theorem szpl_le (p:Pr) (g:G) {v x:Nat} (hv:v<g.ids.length) (hx:x<p.vars.length):szX p g v x*plP p g v x<=cntP p g:=by
 have h1:=ix_lt hv hx;have h2:=pl_step p g h1;rw[szP_ix p g hx] at h2;rw[plP,<- h2];exact pl_le p g (Nat.le_of_lt h1)
theorem gwX_bnd {p:Pr} (hp:PrOk p) {g:G} (hg:g.valid=true) {c:Cf} (hc:Conf p g c) {v x:Nat} (hv:v<g.ids.length) (hx:x<p.vars.length) (hr:0<=ruleI p g c v) (hn:cntP p g<=32768) :
 -32768<=gwX p g c v x/\gwX p g c v x<=32768:=by
 obtain⟨f1,f2,f3,f4,f5,f6,f7⟩:=val_facts hg;have hcl:=hc.len
 -- the step of this node alone
 have hs:Part (2 ^ v) (enN p g c):=fun i hi=>by
  have e:=pow_bit hi;rw[en_bit,Bool.and_eq_true,decide_eq_true_eq,decide_eq_true_eq,<- e];exact⟨hv,hr⟩
 have hd:=step_conf hp hg hc hs;have hrow:=stepC_row p g c (2 ^ v) (v:=v) (by omega);rw[Nat.testBit_two_pow_self,if_pos rfl] at hrow;have h1:=hc.val v (by omega) x hx;have h2:=hd.val v (by rw[stepC_len];omega) x hx;rw[hrow] at h2;have h3:=szpl_le p g hv hx;have h4:=szX_int hp g hg v hx;change loP p g v x<=_/\_<=hiP p g v x at h1 h2;rw[gwX];generalize gI (moveL p g c v (ruleI p g c v).toNat) x=a at *;generalize gI (gC c v) x=b at *;have h5:((szX p g v x*plP p g v x:Nat):Int)<=32768:=by omega
 rw[Int.natCast_mul] at h5;have hle:(0:Int)<=(plP p g v x:Nat):=Int.natCast_nonneg _;generalize ((plP p g v x:Nat):Int)=q at *;generalize ((szX p g v x:Nat):Int)=z at *;have a1:(a-b)*q<=z*q:=Int.mul_le_mul_of_nonneg_right (by omega) hle;have a2:(b-a)*q<=z*q:=Int.mul_le_mul_of_nonneg_right (by omega) hle;have a3:(b-a)*q=-((a-b)*q):=by rw[<- Int.neg_mul];congr 1;omega
 omega
theorem gwS_bnd {p:Pr} (hp:PrOk p) {g:G} (hg:g.valid=true) {c:Cf} (hc:Conf p g c) {v:Nat} (hv:v<g.ids.length) (hr:0<=ruleI p g c v) (hn:cntP p g<=32768) {x:Nat} (hx:x<=p.vars.length) :
 -32768000<=gwS p g c v x/\gwS p g c v x<=32768000:=by
 have h1:=sumF_bnd (n:=x) (f:=gwX p g c v) (B:=32768) (fun i hi=>gwX_bnd hp hg hc hv (by omega) hr hn);have h2:=hp.vlen;rw[gwS];omega
theorem gwK_bnd {p:Pr} (hp:PrOk p) {g:G} (hg:g.valid=true) {c:Cf} (hc:Conf p g c) {v:Nat} (hv:v<g.ids.length) (hn:cntP p g<=32768) :
 -32768000<=gwK p g c v/\gwK p g c v<=32768000:=by
 rw[gwK];split
 . rename_i h;exact gwS_bnd hp hg hc hv h hn (Nat.le_refl _)
 . omega
theorem toS_bnd {p:Pr} (hp:PrOk p) {g:G} (hg:g.valid=true) {c:Cf} (hc:Conf p g c) (hn:cntP p g<=32768) {k s b:Nat} (hk:k<32768) (hb:b<=g.ids.length) :
 -1000000000<=toS p g c k s b/\toS p g c k s b<=1000000000:=by
 obtain⟨f1,f2,f3,f4,f5,f6,f7⟩:=val_facts hg;have h1:=sumF_bnd (n:=b) (f:=fun v=>if s.testBit v then gwK p g c v else 0) (B:=32768000) (fun i hi=>by
  show _<=(if s.testBit i then gwK p g c i else 0)/\(if s.testBit i then gwK p g c i else 0)<=_;split
  . exact gwK_bnd hp hg hc (by omega) hn
  . omega)
 rw[toS];omega
theorem toS_end {p:Pr} (hp:PrOk p) {g:G} (hg:g.valid=true) {c:Cf} (hc:Conf p g c) {s:Nat} (hs:Part s (enN p g c)):toS p g c (rkC p g c) s g.ids.length=(rkC p g (stepC p g c s):Nat):=by
 have hcl:=hc.len;rw[rk_rows hc (step_conf hp hg hc hs),toS,sumF_eq];congr 1;refine sumF_ext fun v hv=>?_;rw[grX,sumF_eq,stepC_row p g c s (by omega)];cases e:s.testBit v with
 | false =>
   simp only[Bool.false_eq_true,if_false];symm;rw[<- sumF_zero p.vars.length];exact sumF_ext fun x _=>by rw[Int.sub_self,Int.zero_mul]
 | true =>
   have:=hs v e;rw[en_bit,Bool.and_eq_true,decide_eq_true_eq,decide_eq_true_eq] at this;simp only[if_true];rw[gwK,if_pos this.2,gwS];rfl
theorem toS_skip {p:Pr} {g:G} {c:Cf} {k s a b:Nat} (hab:a<=b) (h:∀i,a<=i->i<b->s.testBit i=false):toS p g c k s b=toS p g c k s a:=by
 induction b with
 | zero =>
   obtain rfl:a=0:=by omega
   rfl
 | succ b ih =>
   by_cases e:a=b+1
   . subst e;rfl
   . rw[<- ih (by omega) (fun i h1 h2=>h i h1 (by omega)),toS,toS,sumF,h b (by omega) (by omega)];simp
theorem toS_step {p:Pr} {g:G} {c:Cf} {k s b:Nat} (h:s.testBit b=true):toS p g c k s (b+1)=toS p g c k s b+gwK p g c b:=by
 rw[toS,toS,sumF,h];simp;omega
theorem sys_ok {p:Pr} (hp:PrOk p) {g:G} (hg:g.valid=true) {kd:Int} (hk:dk kd=true) (hn:cntP p g<=32768) (he:∀c,(chs g kd (enN p g c)).2=0) (ht:(sysP p g kd).tot (cntP p g)<=262144):(sysP p g kd).Ok:=by
 obtain⟨f1,f2,f3,f4,f5,f6,f7⟩:=val_facts hg;have hmem:∀c s,s∈(chs g kd (enN p g c)).1->s≠0/\Part s (enN p g c):=fun c s hs=>by
  have h32:=en_32 p hg c;have h1:=(chs_mem hk h32 (chs_lt h32 s hs) (he c)).1 hs;obtain⟨a,b,_⟩:=inner_iff.1 h1;exact⟨a,(part_iff (chs_lt h32 s hs)).1 b⟩
 refine⟨cntP_pos p g,hn,fun k _=>en_24 p hg _,fun k hk'=>?_,fun k hk'=>?_,fun k hk' a ha=>?_,ht⟩
 . have h1:=chs_some hg hk (en_32 p hg (cfK p g k)) (en_part p hg _) (he _);show enN p g (cfK p g k)≠0↔arcK p g kd k≠[];rw[<- h1,arcK];simp[List.length_pos_iff]
 . show(arcK p g kd k).Pairwise _;rw[arcK,List.pairwise_map];exact chs_sorted (en_32 p hg _)
 . have ha:a∈arcK p g kd k:=ha;rw[arcK] at ha;obtain⟨s,hs,rfl⟩:=List.mem_map.1 ha;obtain⟨h1,h2⟩:=hmem _ s hs;exact⟨h1,h2,rkC_lt hp hg (step_conf hp hg (cfK_conf hp hg k) h2)⟩
def advI (p:Pr) (g:G) (k j v x:Nat):Int:=loP p g v x+((if v*p.vars.length+x<j then dgP p g k v x else 0:Nat):Int)
def FullK (p:Pr) (g:G) (k i:Nat):Prop:=∀j,i<=j->j<nP p g->Mx.dg (szP p g) (nP p g) k j+1=szP p g j
theorem adv_start {p:Pr} {g:G} {k v x:Nat} (hv:v<g.ids.length) (hx:x<p.vars.length):advI p g k (nP p g) v x=gI (gC (cfK p g k) v) x:=by
 rw[advI,if_pos (ix_lt hv hx),cfK_get p g k hv hx]
theorem adv_next {p:Pr} {g:G} {k i v x:Nat} (hne:v*p.vars.length+x≠i):advI p g k i v x=advI p g k (i+1) v x:=by
 rw[advI,advI];by_cases h:v*p.vars.length+x<i
 . rw[if_pos h,if_pos (by omega)]
 . rw[if_neg h,if_neg (by omega)]
theorem adv_self {p:Pr} {g:G} {k v x:Nat}:advI p g k (v*p.vars.length+x) v x=loP p g v x:=by
 rw[advI,if_neg (by omega)];simp
theorem adv_val {p:Pr} {g:G} {k v x:Nat}:advI p g k (v*p.vars.length+x+1) v x=loP p g v x+dgP p g k v x:=by
 rw[advI,if_pos (by omega)]
theorem full_next {p:Pr} {g:G} {k v x:Nat} (hx:x<p.vars.length) (h:FullK p g k (v*p.vars.length+x+1)) (h1:dgP p g k v x+1=szX p g v x):FullK p g k (v*p.vars.length+x):=fun j hj hjn=>by
 by_cases e:j=v*p.vars.length+x
 . subst e;rw[szP_ix p g hx];exact h1
 . exact h j (by omega) hjn
theorem adv_inc {p:Pr} {g:G} {k v x:Nat} (hk:k<cntP p g) (hv:v<g.ids.length) (hx:x<p.vars.length) (h:FullK p g k (v*p.vars.length+x+1)) (h1:dgP p g k v x+1<szX p g v x) {v' x':Nat} (hv':v'<g.ids.length) (hx':x'<p.vars.length) :
 gI (gC (cfK p g (k+1)) v') x'=advI p g k (v*p.vars.length+x+1) v' x'+(if v'=v/\x'=x then 1 else 0):=by
 have hi:=ix_lt hv hx;have hi':=ix_lt hv' hx';have hd:=Mx.dg_next (szP_pos p g) hk hi (by rw[szP_ix p g hx];exact h1) (fun j hj hjn=>h j (by omega) hjn) hi';rw[cfK_get p g _ hv' hx',dgP,hd,Mx.nx,advI];by_cases e:v'=v/\x'=x
 . obtain⟨rfl,rfl⟩:=e;rw[if_neg (by omega),if_pos rfl,if_pos (by omega),if_pos ⟨rfl,rfl⟩,dgP];omega
 . have hne:v'*p.vars.length+x'≠v*p.vars.length+x:=fun q=>e (by
    have a1:=congrArg (· / p.vars.length) q;have a2:=congrArg (· % p.vars.length) q;simp only[ix_div hx,ix_div hx',ix_mod hx,ix_mod hx'] at a1 a2;exact⟨a1,a2⟩)
   rw[if_neg e];by_cases q:v'*p.vars.length+x'<v*p.vars.length+x
   . rw[if_pos q,if_pos (by omega),dgP];omega
   . rw[if_neg q,if_neg hne,if_neg (by omega)];omega
theorem dg_cnt (p:Pr) (g:G) {i:Nat} (hi:i<nP p g):Mx.dg (szP p g) (nP p g) (cntP p g) i=0:=by
 have e:nP p g=i+((nP p g-(i+1))+1):=by omega
 have h1:cntP p g=Mx.pr (szP p g) 0 i*szP p g i*Mx.pr (szP p g) (i+1) (nP p g-(i+1)):=by
  have h2:∀a l m,Mx.pr (szP p g) a (l+m)=Mx.pr (szP p g) a l*Mx.pr (szP p g) (a+l) m:=by
   intro a l m
   induction m with
   | zero=>simp[Mx.pr]
   | succ m ih=>rw[<- Nat.add_assoc,Mx.pr_snoc,ih,Mx.pr_snoc,Nat.mul_assoc,Nat.add_assoc]
  rw[cntP]
  conv=>lhs;rw[e,h2,Nat.zero_add,Mx.pr]
  rw[Nat.mul_assoc]
 rw[Mx.dg,h1,Nat.mul_div_cancel _ (Mx.pr_pos (szP_pos p g) _ _),Nat.mul_mod_left]
theorem adv_end {p:Pr} {g:G} {k:Nat} (hk:k<cntP p g) (h:FullK p g k 0) {v x:Nat} (hv:v<g.ids.length) (hx:x<p.vars.length):advI p g k 0 v x=gI (gC (cfK p g (k+1)) v) x:=by
 have h1:=Mx.dg_last (szP_pos p g) hk (fun j hj=>h j (Nat.zero_le _) hj);have h2:k+1=cntP p g:=h1;rw[cfK_get p g _ hv hx,advI,if_neg (by omega),dgP,h2,dg_cnt p g (ix_lt hv hx)]
theorem mcount_ok (p:Pr) (hp:PrOk p) (g:G) (hg:g.valid=true) (hn:cntP p g<=32768):Ret Tryz.prog 94 [tblV p g] (.tup [.int .i64 (cntP p g),.int .i64 0]):=by
 obtain⟨f1,f2,f3,f4,f5,f6,f7⟩:=val_facts hg;have hvl:=hp.vlen;refine ret_frz rfl ?_;refine fn_rule mixed Tryz.func94 rfl hc94 hr94 rfl ?_
 repeat' ((conv=>whnf);first|fail)
 all_goals (conv=>whnf)
 refine loop_r mixed [9,10] (fun v:Nat=>[(4,.int .i64 (Mx.pr (szP p g) 0 (v*p.vars.length))),(11,.int .i64 v)]) (fun m v=>m=g.ids.length-v/\v<=g.ids.length) g.ids.length 0 ⟨rfl,Nat.zero_le _⟩ ?_ ?_
 . refine weak_by (fun _ _=>[]) ?_ ?_ rfl
   . repeat' (first|exact VRen.int (by rw[Nat.zero_mul];rfl)|exact True.intro|(refine⟨⟨_,rfl,?_⟩,?_⟩)|exact VRen.kf rfl)
   . repeat' (first|exact True.intro)
 rintro m v ⟨hm,hv⟩;by_cases hvn:v<g.ids.length
 . repeat' ((conv=>whnf);first|(refine Br.dec ?_ ?_<;>intro _<;>try omega)|(refine Ix.nat (by omega) ?_))
   all_goals (conv=>whnf)
   refine loop_r mixed [9,10,11,15,16] (fun x:Nat=>[(4,.int .i64 (Mx.pr (szP p g) 0 (v*p.vars.length+x))),(17,.int .i64 x)]) (fun m x=>m=p.vars.length-x/\x<=p.vars.length) p.vars.length 0 ⟨rfl,Nat.zero_le _⟩ ?_ ?_
   . exact weak_b (fun _ _=>[])
   rintro m2 x ⟨hm2,hx⟩;by_cases hxn:x<p.vars.length
   . have hb:=bnd_in hg (hp.var x hxn) (v:=v) (by omega);have hsz:=szX_int hp g hg v hxn;have hix:=ix_lt hvn hxn;have hpr:Mx.pr (szP p g) 0 (v*p.vars.length+x+1)=Mx.pr (szP p g) 0 (v*p.vars.length+x)*szX p g v x:=by
      rw[Mx.pr_snoc,Nat.zero_add,szP_ix p g hxn]
     have hmul:(Mx.pr (szP p g) 0 (v*p.vars.length+x):Int)*((bnd g (gV p.vars x) v).2-(bnd g (gV p.vars x) v).1+1)=(Mx.pr (szP p g) 0 (v*p.vars.length+x+1):Nat):=by
      rw[hpr,Int.natCast_mul,hsz];rfl
     have hle:=pr_le1 (szP_pos p g) 0 (v*p.vars.length+x+1) (nP p g) hix;change _<=cntP p g at hle
     repeat' ((conv=>whnf);first|(refine Ar.i64 (by rw[hmul];omega) (by rw[hmul];omega) ?_;rw[hmul])|(refine Br.dec ?_ ?_<;>intro _<;>try omega)|(refine Ar.i64 (by omega) (by omega) ?_)|(refine Ix.nat (by omega) ?_)|(refine Ix.mk 0 rfl (by omega) ?_)|(refine Ix.mk 1 rfl (by omega) ?_))
     all_goals (conv=>whnf)
     refine⟨p.vars.length-(x+1),x+1,by omega,⟨rfl,by omega⟩,?_⟩;exact weak_b (fun _ _=>[])
   . have ex:x=p.vars.length:=by omega
     subst ex
     repeat' ((conv=>whnf);first|(refine Br.dec ?_ ?_<;>intro _<;>try omega)|(refine Ar.i64 (by omega) (by omega) ?_))
     all_goals (conv=>whnf)
     refine⟨g.ids.length-(v+1),v+1,by omega,⟨rfl,by omega⟩,?_⟩;refine weak_by (fun _ _=>[]) ?_ ?_ rfl
     . repeat' (first|exact VRen.int (by rw[Nat.add_mul,Nat.one_mul])|exact True.intro|(refine⟨⟨_,rfl,?_⟩,?_⟩)|exact VRen.kf rfl)
     . repeat' (first|exact True.intro)
 . have ev:v=g.ids.length:=by omega
   subst ev
   repeat' ((conv=>whnf);first|(refine Br.dec ?_ ?_<;>intro _<;>try omega))
   all_goals (conv=>whnf)
   exact VLe.rfl
theorem mCount_ok (p:Pr) (hp:PrOk p) (g:G) (hs:g.Small) (hg:g.valid=true) (hn:cntP p g<=32768):Ret Tryz.prog 52 [p.v,g.v] (.tup [.int .i64 (cntP p g),.int .i64 0]):=by
 have h1:=fits_ok p hp g hs hg;have h2:=table_ok p hp g hg;have h3:=mcount_ok p hp g hg hn;refine ret_frz rfl ?_;refine fn_rule mixed Tryz.func52 rfl hc52 hr52 rfl ?_
 repeat' ((conv=>whnf);first|(refine Br.ff ?_)|(refine h1.go ?_)|(refine h2.go ?_)|(refine h3.go ?_))
 all_goals (conv=>whnf)
 exact VLe.rfl
def lenM (p:Pr):Nat->Nat:=fun _=>p.vars.length
def rowI (f:Nat->Nat->Int):Nat->Nat->Nat->V:=fun v x _=>.int .i64 (f v x)
def famI (p:Pr) (g:G) (f:Nat->Nat->Int) (op:List (Nat×Nat)):Blk:=.fam g.ids.length 1 (lenM p) (rowI f) op
def rowJ (p:Pr) (g:G) (v x:Nat):Nat->Nat->V:=fun i _=>if i<x then .int .i64 (loP p g v i) else .int .i64 0
theorem rowJ_succ (p:Pr) (g:G) (v x x' i j:Nat) (hx:x'=x) (hj:j<1):VLe (fset (rowJ p g v x) x' 0 [.int .i64 (loP p g v x)] i j) (rowJ p g v (x+1) i j):=by
 obtain rfl:j=0:=by omega
 subst hx;apply VLe.of_eq;by_cases h:i=x'
 . subst h;simp[fset,rowJ]
 . have h1:(i<x'+1)=(i<x'):=by simp;omega
   simp[fset,rowJ,h,h1]
theorem setF_rowJ (p:Pr) (g:G) (v i j t:Nat) (hj:j<setN (lenT p.vars.length v) v p.vars.length i) (ht:t<1):VLe (setF (rowI (loP p g)) v (rowJ p g v p.vars.length) i j t) (rowI (loP p g) i j t):=by
 apply VLe.of_eq;simp only[setF];split
 . rename_i e;subst e;rw[setN,if_pos rfl] at hj;rw[rowJ,if_pos hj];rfl
 . rfl
def LowF (p:Pr) (g:G) (F:FuncId):Prop:=callable Tryz.prog F=true/\∀v x,v<g.ids.length->x<p.vars.length->Ret Tryz.prog F [.int .i64 v,.int .i64 x,.fe 1 1 (tab [[tblV p g]]) 0 0] (.int .i64 (loP p g v x))
set_option maxHeartbeats 8000000 in
theorem mbuild_ok (p:Pr) (hp:PrOk p) (g:G) (hg:g.valid=true) (F:FuncId) (hF:LowF p g F) :
 CallF Tryz.prog 96 [tblV p g,.fn (.func F) false [.loc 0 0]] [(0,.cells [tblV p g])] KS2.tail fun v own' _=>v=.vec 1 1 0 g.ids.length/\own'=[(1,famI p g (loP p g) []),(0,.cells [tblV p g])]:=by
 obtain⟨f1,f2,f3,f4,f5,f6,f7⟩:=val_facts hg;have hvl:=hp.vlen;refine call_post ?_;refine fn_rule mixed Tryz.func96 rfl hc96 hr96 rfl ?_
 repeat' ((conv=>whnf);first|(refine Bd.nat (by omega) ?_)|(refine Len.mk (by omega) ?_)|(refine MkS.vec ?_))
 all_goals (conv=>whnf)
 refine loop_u mixed [0,1,5,12] [2] [3,4,5,6,7,8,9,10,11,12,13,14,15,16,17,18,19,20,21,22,23,24,25,26,27,28,29] [2,1,0] (fun v:Nat=>[(13,.int .i64 v)])
  (fun own v=>(2,.vec (lenT p.vars.length v v) 1 (rowI (loP p g) v))::updO (updO own 1 (.fam g.ids.length 1 (lenT p.vars.length v) (rowI (loP p g)) [])) 1 (.fam g.ids.length 1 (lenT p.vars.length v) (rowI (loP p g)) (opn v g.ids.length 2))) (fun k v=>k=g.ids.length-v/\v<=g.ids.length) g.ids.length 0 ⟨rfl,Nat.zero_le _⟩ rfl (fun _=>rfl) ?_ ?_
 . have e:opn 0 g.ids.length 2=[(0,2)]:=if_pos (by omega);simp only[e];refine Weak.trans ?_ (weak_open (ks:=[2,3,4,5,6,7,8,9,10,11,12,13,14,15,16,17,18,19,20,21,22,23,24,25,26,27,28,29]) rfl rfl rfl (by omega) rfl) (ks_cons rfl);refine weak_by (fun _ _=>[(0,some 0),(1,some 1)]) ?_ ?_ rfl
   . repeat' (first|exact True.intro|(refine VRen.fn ?_)|(refine⟨⟨_,rfl,?_⟩,?_⟩)|exact VRen.kf rfl|exact VRen.loc rfl|exact VRen.vec rfl rfl rfl|(refine And.intro ?_ ?_))
   . repeat' (first|exact⟨rfl,rfl,rfl,fun i hi=>⟨rfl,if_neg (by omega)⟩⟩|exact True.intro|(refine⟨⟨_,rfl,?_⟩,?_⟩)|exact VRen.kf rfl|(refine And.intro ?_ ?_))
 rintro k v ⟨hk,hv⟩;by_cases hvn:v<g.ids.length
 . have e:opn v g.ids.length 2=[(v,2)]:=if_pos hvn;simp only[e]
   repeat' ((conv=>whnf);first|(refine Br.dec ?_ ?_<;>intro _<;>try omega)|(refine Ix.nat (by omega) ?_)|(refine Bd.nat (by omega) ?_)|(refine Len.mk (by omega) ?_)|(refine Ltn.mk (by omega) ?_)|(refine MkS.vec ?_)|(refine OpnSet.hd (by omega) ?_))
   all_goals (conv=>whnf)
   refine loop_u mixed [0,1,5,6,12,13,29] [] [4,5,6,7,8,9,10,11,12,13,14,15,16,17,18,19,20,21,22,23,24,25,26,27,28,29] [3,2,1,0] (fun x:Nat=>[(30,.int .i64 x)])
    (fun own x=>updO own 3 (.vec p.vars.length 1 (rowJ p g v x))) (fun k x=>k=p.vars.length-x/\x<=p.vars.length) p.vars.length 0 ⟨rfl,Nat.zero_le _⟩ rfl (fun _=>rfl) ?_ ?_
   . refine weak_by (fun _ _=>[(0,some 0),(1,some 1),(2,some 2),(3,some 3)]) ?_ ?_ rfl
     . repeat' (first|exact True.intro|(refine VRen.fn ?_)|(refine⟨⟨_,rfl,?_⟩,?_⟩)|exact VRen.kf rfl|exact VRen.loc rfl|exact VRen.vec rfl rfl rfl|(refine And.intro ?_ ?_))
     . repeat' (first|exact⟨rfl,rfl,⟨rfl,rfl,True.intro⟩,fun i hi=>rfl,fun i j t hi hn hj ht=>VLe.rfl⟩|(refine⟨Nat.le_refl _,rfl,fun i j hi hj=>VLe.of_eq ?_⟩;rw[rowJ,if_neg (by omega)];(obtain rfl:j=0:=(by omega));rfl)|exact True.intro|(refine⟨⟨_,rfl,?_⟩,?_⟩)|exact VRen.kf rfl|(refine⟨Nat.le_refl _,rfl,fun i j hi hj=>?_⟩)|exact VLe.rfl|(refine And.intro ?_ ?_))
   rintro k x ⟨hk2,hx⟩;by_cases hxn:x<p.vars.length
   . have hfx:=hF.2 v x hvn hxn
     repeat' ((conv=>whnf);first|(refine Br.dec ?_ ?_<;>intro _<;>try omega)|(refine Ar.i64 (by omega) (by omega) ?_)|(refine Ix.nat (by omega) ?_)|(refine Ltn.mk (by omega) ?_)|(refine Opn.hdl (by omega) (show setN _ _ _ _=p.vars.length from if_pos rfl) ?_)|(refine Chk.mk hF.1 ?_)|(refine call_lend hfx rfl ⟨VLe.rfl,VLe.rfl,VLe.rfl,True.intro⟩ ?_)|(refine And.intro (Ltn.mk (by omega) (Opn.hdl (by omega) (show setN _ _ _ _=p.vars.length from if_pos rfl) rfl)) ?_))
     all_goals (conv=>whnf)
     refine⟨p.vars.length-(x+1),x+1,by omega,⟨rfl,by omega⟩,?_⟩;refine weak_by (fun _ _=>[(0,some 0),(1,some 1),(2,some 2),(3,some 3)]) ?_ ?_ rfl
     . repeat' (first|exact True.intro|(refine VRen.fn ?_)|(refine⟨⟨_,rfl,?_⟩,?_⟩)|exact VRen.kf rfl|exact VRen.loc rfl|exact VRen.vec rfl rfl rfl|(refine And.intro ?_ ?_))
     . repeat' (first|exact⟨rfl,rfl,⟨rfl,rfl,True.intro⟩,fun i hi=>rfl,fun i j t hi hn hj ht=>VLe.rfl⟩|exact rowJ_succ _ _ _ _ _ _ _ (Nat.zero_add _) hj|exact True.intro|(refine⟨⟨_,rfl,?_⟩,?_⟩)|exact VRen.kf rfl|(refine⟨Nat.le_refl _,rfl,fun i j hi hj=>?_⟩)|exact VLe.rfl|(refine And.intro ?_ ?_))
   . have ex:x=p.vars.length:=by omega
     subst ex
     repeat' ((conv=>whnf);first|(refine Br.dec ?_ ?_<;>intro _<;>try omega)|(refine Ar.i64 (by omega) (by omega) ?_))
     all_goals (conv=>whnf)
     refine⟨g.ids.length-(v+1),v+1,by omega,⟨rfl,by omega⟩,?_⟩;refine Weak.trans (weak_step (own_close (q:=3) (k:=1) (i:=v) [] rfl rfl hvn (look_here rfl) (Nat.le_of_eq (if_pos rfl)) rfl (fun j hj=>(look_there (fun e=>hj e.symm)).symm))) ?_ (ks_sub rfl);by_cases h1:v+1<g.ids.length
     . have e1:opn (v+1) g.ids.length 2=[(v+1,2)]:=if_pos h1;simp only[e1];refine Weak.trans ?_ (weak_open (ks:=[2,3,4,5,6,7,8,9,10,11,12,13,14,15,16,17,18,19,20,21,22,23,24,25,26,27,28,29]) rfl rfl rfl h1 rfl) (ks_cons rfl);refine weak_by (fun _ _=>[(0,some 0),(1,some 1)]) ?_ ?_ rfl
       . repeat' (first|exact True.intro|(refine VRen.fn ?_)|(refine⟨⟨_,rfl,?_⟩,?_⟩)|exact VRen.kf rfl|exact VRen.loc rfl|exact VRen.vec rfl rfl rfl|(refine And.intro ?_ ?_))
       . repeat' (first|exact⟨rfl,rfl,True.intro,fun i hi=>(lenT_set _ _ _).symm,fun i j t hi hn hj ht=>setF_rowJ p g v i j t hj ht⟩|exact True.intro|(refine⟨⟨_,rfl,?_⟩,?_⟩)|exact VRen.kf rfl|(refine And.intro ?_ ?_))
     . have e1:opn (v+1) g.ids.length 2=[]:=if_neg h1;simp only[e1];refine weak_by (fun _ _=>[(0,some 0),(1,some 1),(2,none)]) ?_ ?_ rfl
       . repeat' (first|exact True.intro|(refine VRen.fn ?_)|(refine⟨⟨_,rfl,?_⟩,?_⟩)|exact VRen.kf rfl|exact VRen.loc rfl|exact VRen.vec rfl rfl rfl|(refine And.intro ?_ ?_))
       . repeat' (first|exact⟨rfl,rfl,True.intro,fun i hi=>(lenT_set _ _ _).symm,fun i j t hi hn hj ht=>setF_rowJ p g v i j t hj ht⟩|exact⟨1,rowI (loP p g) (v+1),by rw[lenT_self]⟩|exact True.intro|(refine⟨⟨_,rfl,?_⟩,?_⟩)|exact VRen.kf rfl|(refine And.intro ?_ ?_))
 . have e:opn v g.ids.length 2=[]:=if_neg hvn;have ev:v=g.ids.length:=by omega
   simp only[e]
   repeat' ((conv=>whnf);first|(refine Br.dec ?_ ?_<;>intro _<;>try omega))
   all_goals (conv=>whnf)
   exact postR_by (fun _=>[(0,some 0),(1,some 1)]) _ _ ⟨rfl,rfl⟩ (VRen.vec rfl rfl rfl) (by repeat' (first|(refine⟨rfl,rfl,True.intro,fun i hi=>(if_pos (by omega)).symm,fun i j t hi hn hj ht=>VLe.rfl⟩)|exact True.intro|(refine⟨⟨_,rfl,?_⟩,?_⟩)|exact VRen.kf rfl|(refine And.intro ?_ ?_))) rfl
theorem low1_ok (p:Pr) (hp:PrOk p) (g:G) (hg:g.valid=true):LowF p g 97:=by
 obtain⟨f1,f2,f3,f4,f5,f6,f7⟩:=val_facts hg;refine⟨by kernel_rfl,fun v x hv hx=>?_⟩;refine ret_frz rfl ?_;refine fn_rule mixed Tryz.func97 rfl hc97 hr97 rfl ?_
 repeat' ((conv=>whnf);first|(refine Ix.nat (by omega) ?_)|(refine Ix.mk 0 rfl (by omega) ?_))
 all_goals (conv=>whnf)
 exact VLe.rfl
theorem mleast_ok (p:Pr) (hp:PrOk p) (g:G) (hs:g.Small) (hg:g.valid=true):CallF Tryz.prog 55 [p.v,g.v] [] KS2 fun v own' _=>v=.tup [.vec 0 1 0 g.ids.length,.int .i64 0]/\own'=[(0,famI p g (loP p g) [])]:=by
 have h1:=fits_ok p hp g hs hg;have h2:=table_ok p hp g hg;have h3:=mbuild_ok p hp g hg _ (low1_ok p hp g hg);refine call_post ?_;refine fn_rule mixed Tryz.func55 rfl hc55 hr55 rfl ?_
 repeat' ((conv=>whnf);first|(refine Br.ff ?_)|(refine h1.go ?_)|(refine h2.go ?_)|(refine call_by [(0,some 2)] [1] (h3.mono ?_) ⟨VRen.kf rfl,VRen.fn ⟨VRen.loc rfl,True.intro⟩,True.intro⟩ (by repeat' (first|exact True.intro|(refine⟨⟨_,rfl,?_⟩,?_⟩)|exact VRen.kf rfl|(refine And.intro ?_ ?_))) rfl;rintro _ _ _ ⟨rfl,rfl⟩)|(refine Chk.mk rfl ?_))
 all_goals (conv=>whnf)
 exact postR_by (fun _=>[(0,some 3)]) _ _ ⟨rfl,rfl⟩ (VRen.tup ⟨VRen.vec rfl rfl rfl,VRen.kf rfl,True.intro⟩) (by repeat' (first|(refine⟨rfl,rfl,True.intro,fun i hi=>rfl,fun i j t hi hn hj ht=>VLe.rfl⟩)|exact True.intro|(refine⟨⟨_,rfl,?_⟩,?_⟩))) rfl
theorem adv_rowset (p:Pr) (g:G) (k v x x' i j:Nat) (hx:x'=x) (hj:j<1) (a:Int) (ha:a=loP p g v x):VLe (fset (rowI (advI p g k (v*p.vars.length+x+1)) v) x' 0 [.int .i64 a] i j) (rowI (advI p g k (v*p.vars.length+x)) v i j):=by
 obtain rfl:j=0:=by omega
 subst hx ha;apply VLe.of_eq;by_cases h:i=x'
 . subst h;have:=adv_self (p:=p) (g:=g) (k:=k) (v:=v) (x:=i);simp[fset,rowI,this]
 . have:=adv_next (p:=p) (g:=g) (k:=k) (i:=v*p.vars.length+x') (v:=v) (x:=i) (by omega);simp[fset,rowI,h,this]
theorem adv_rows (p:Pr) (g:G) (k v x i j t:Nat) (hx:x<p.vars.length) (hj:j<p.vars.length) (hi:i≠v):VLe (rowI (advI p g k (v*p.vars.length+x+1)) i j t) (rowI (advI p g k (v*p.vars.length+x)) i j t):=by
 apply VLe.of_eq;have hne:i*p.vars.length+j≠v*p.vars.length+x:=fun q=>hi (by
  have a1:=congrArg (· / p.vars.length) q;simpa only[ix_div hx,ix_div hj] using a1)
 simp only[rowI];rw[adv_next hne]
theorem adv_rowinc (p:Pr) (g:G) (k v x x' i j:Nat) (hk:k<cntP p g) (hv:v<g.ids.length) (hxm:x<p.vars.length) (h:FullK p g k (v*p.vars.length+x+1)) (h1:dgP p g k v x+1<szX p g v x) (hx:x'=x) (hi:i<p.vars.length) (hj:j<1) (a:Int) (ha:a=advI p g k (v*p.vars.length+x+1) v x+1) :
 VLe (fset (rowI (advI p g k (v*p.vars.length+x+1)) v) x' 0 [.int .i64 a] i j) (rowI (fun v x=>gI (gC (cfK p g (k+1)) v) x) v i j):=by
 obtain rfl:j=0:=by omega
 subst hx ha;apply VLe.of_eq;have:=adv_inc hk hv hxm h h1 hv hi;by_cases e:i=x'
 . subst e;rw[if_pos ⟨rfl,rfl⟩] at this;simp[fset,rowI,this]
 . rw[if_neg (fun q=>e q.2)] at this;simp[fset,rowI,e,this]
theorem adv_rowsinc (p:Pr) (g:G) (k v x i j t:Nat) (hk:k<cntP p g) (hv:v<g.ids.length) (hxm:x<p.vars.length) (h:FullK p g k (v*p.vars.length+x+1)) (h1:dgP p g k v x+1<szX p g v x) (hi:i<g.ids.length) (hj:j<p.vars.length) (hne:i≠v) :
 VLe (rowI (advI p g k (v*p.vars.length+x+1)) i j t) (rowI (fun v x=>gI (gC (cfK p g (k+1)) v) x) i j t):=by
 apply VLe.of_eq;have:=adv_inc hk hv hxm h h1 hi hj;rw[if_neg (fun q=>hne q.1)] at this;simp[rowI,this]
theorem setF_self (f:Nat->Nat->Nat->V) (v i j t:Nat):VLe (setF f v (f v) i j t) (f i j t):=by
 apply VLe.of_eq;simp only[setF];split
 . rename_i e;rw[e]
 . rfl
theorem adv_setinc (p:Pr) (g:G) (k v x i j t:Nat) (hk:k<cntP p g) (hv:v<g.ids.length) (hxm:x<p.vars.length) (h:FullK p g k (v*p.vars.length+x+1)) (h1:dgP p g k v x+1<szX p g v x) (hi:i<g.ids.length) (hj:j<p.vars.length) (ht:t<1) (a:Int) (ha:a=advI p g k (v*p.vars.length+x+1) v x+1) :
 VLe (setF (rowI (advI p g k (v*p.vars.length+x+1))) v (fset (rowI (advI p g k (v*p.vars.length+x+1)) v) (0+x) 0 [.int .i64 a]) i j t) (rowI (fun v x=>gI (gC (cfK p g (k+1)) v) x) i j t):=by
 simp only[setF];split
 . rename_i e;subst e;exact adv_rowinc p g k i x (0+x) j t hk hv hxm h h1 (Nat.zero_add _) hj ht a ha
 . rename_i e;exact adv_rowsinc p g k v x i j t hk hv hxm h h1 hi hj e
set_option maxHeartbeats 8000000 in
theorem madv_ok (p:Pr) (hp:PrOk p) (g:G) (hg:g.valid=true) (k:Nat) (hk:k<cntP p g) :
 CallF Tryz.prog 57 [tblV p g,.vec 0 1 0 g.ids.length] [(0,famI p g (fun v x=>gI (gC (cfK p g k) v) x) [])] KS.tail fun v own' _=>v=.tup []/\own'=[(0,famI p g (fun v x=>gI (gC (cfK p g (k+1)) v) x) [])]:=by
 obtain⟨f1,f2,f3,f4,f5,f6,f7⟩:=val_facts hg;have hvl:=hp.vlen;refine call_post (call_step ?_);refine fn_rule mixed Tryz.func57 rfl hc57 hr57 rfl ?_
 repeat' ((conv=>whnf);first|(refine Ar.i64 (by omega) (by omega) ?_)|(refine fn_rule mixed Tryz.func102 rfl hc102 hr102 rfl ?_)|(refine range_rule ?_)|(refine Chk.mk (by kernel_rfl) ?_)|(refine fn_rule mixed Tryz.func138 rfl hc138 hr138 rfl ?_))
 all_goals (conv=>whnf)
 refine loop_u mixed [0,1] [] [5,6,7,8,9,10,11,12,13,14,15,16,17,18,19,20,21,22,23,24,25,26,27,28,29] [3,2,1,0] (fun j:Nat=>[(3,.int .i64 ((j:Int)-1))]) (fun own j=>updO own 0 (famI p g (advI p g k (j*p.vars.length)) [])) (fun m j=>m=j/\j<=g.ids.length/\FullK p g k (j*p.vars.length)) g.ids.length g.ids.length ⟨rfl,Nat.le_refl _,fun j h1 h2=>(by rw[nP] at h2;omega)⟩ rfl (fun _=>rfl) ?_ ?_
 . refine weak_by (fun _ _=>[(0,some 0),(1,some 1),(2,some 2),(3,some 3)]) ?_ ?_ rfl
   . repeat' (first|exact VRen.yld rfl|exact True.intro|(refine⟨⟨_,rfl,?_⟩,?_⟩)|exact VRen.kf rfl|exact VRen.loc rfl)
   . repeat' (first|(refine VRen.fn ?_)|(refine⟨rfl,rfl,rfl,rfl,rfl,?_⟩)|exact⟨rfl,rfl,True.intro,fun i hi=>rfl,fun i j t hi hn hj ht=>VLe.of_eq (congrArg (V.int .i64) (adv_start hi hj).symm)⟩|exact True.intro|(refine⟨⟨_,rfl,?_⟩,?_⟩)|exact VRen.kf rfl|exact VRen.loc rfl|exact VRen.vec rfl rfl rfl|(refine And.intro ?_ ?_))
 rintro m j ⟨hm,hj,hfull⟩;rcases Nat.eq_zero_or_pos j with h0|h0
 . subst h0
   repeat' ((conv=>whnf);first|(refine Br.ff ?_))
   all_goals (conv=>whnf)
   have hend:=fun v x hv hx=>adv_end (v:=v) (x:=x) hk (by rw[Nat.zero_mul] at hfull;exact hfull) hv hx;exact⟨_,OwnStep.refl _,postR_by (fun _=>[(0,some 0)]) _ _ ⟨rfl,rfl⟩ (VRen.kf rfl) (by repeat' (first|(refine⟨rfl,rfl,True.intro,fun i hi=>rfl,fun i j t hi hn hj ht=>VLe.of_eq (congrArg (V.int .i64) (by rw[Nat.zero_mul];exact hend i j hi hj))⟩)|exact True.intro|(refine⟨⟨_,rfl,?_⟩,?_⟩))) rfl⟩
 . obtain⟨v,rfl⟩:∃v,j=v+1:=⟨j-1,by omega⟩
   repeat' ((conv=>whnf);first|(refine Ix.mk v (by omega) (by omega) ?_)|(refine Br.dec ?_ ?_<;>intro _<;>try omega)|(refine Ar.i64 (by omega) (by omega) ?_)|(refine fn_rule mixed Tryz.func103 rfl hc103 hr103 rfl ?_)|(refine range_rule ?_)|(refine Chk.mk (by kernel_rfl) ?_)|(refine fn_rule mixed Tryz.func139 rfl hc139 hr139 rfl ?_)|(refine yield_rule mixed rfl rfl ?_))
   all_goals (conv=>whnf)
   refine loop_u mixed [0,1] [8] [9,10,11,12,13,14,15,16,17,18,19,20,21,22,23,24,25,26,27,28,29] [8,7,6,5,3,2,1,0] (fun i:Nat=>[(3,.int .i64 ((i:Int)-1))]) (fun own i=>(8,.vec (lenM p v) 1 (rowI (advI p g k (v*p.vars.length+i)) v))::updO (updO (updO own 5 (.cells [.int .i64 v])) 0 (famI p g (advI p g k (v*p.vars.length+i)) [])) 0 (famI p g (advI p g k (v*p.vars.length+i)) [(v,8)])) (fun m i=>m=i/\i<=p.vars.length/\FullK p g k (v*p.vars.length+i)) p.vars.length p.vars.length ⟨rfl,Nat.le_refl _,by rw[Nat.add_mul,Nat.one_mul] at hfull;exact hfull⟩ rfl (fun _=>rfl) ?_ ?_
   . refine Weak.trans ?_ (weak_open (ks:=[8,9,10,11,12,13,14,15,16,17,18,19,20,21,22,23,24,25,26,27,28,29]) rfl rfl rfl (show v<g.ids.length by omega) rfl) (ks_cons rfl);have e:(v+1)*p.vars.length=v*p.vars.length+p.vars.length:=by rw[Nat.add_mul,Nat.one_mul]
     refine weak_by (fun _ _=>[(0,some 0),(1,some 1),(2,some 2),(3,some 3),(5,some 5),(6,some 6),(7,some 7)]) ?_ ?_ rfl
     . repeat' (first|exact VRen.yld rfl|exact True.intro|(refine⟨⟨_,rfl,?_⟩,?_⟩)|exact VRen.kf rfl|exact VRen.loc rfl)
     . repeat' (first|(refine VRen.fn ?_)|(refine⟨rfl,rfl,rfl,rfl,rfl,?_⟩)|exact⟨rfl,rfl,True.intro,fun i hi=>rfl,fun i j t hi hn hj ht=>by rw[e];exact VLe.rfl⟩|exact True.intro|(refine⟨⟨_,rfl,?_⟩,?_⟩)|exact VRen.kf rfl|exact VRen.int (by omega)|exact VRen.loc rfl|exact VRen.vec rfl rfl rfl|(refine And.intro ?_ ?_))
   rintro m i ⟨hm,hi,hfi⟩;rcases Nat.eq_zero_or_pos i with h1|h1
   . subst h1
     repeat' ((conv=>whnf);first|(refine Br.tt ?_)|(refine Br.ff ?_)|(refine Ar.i64 (by omega) (by omega) ?_))
     all_goals (conv=>whnf)
     refine⟨_,v,by omega,⟨rfl,by omega,by rw[Nat.add_zero] at hfi;exact hfi⟩,?_⟩;refine Weak.trans (weak_step (own_close (q:=8) (k:=0) (i:=v) [] rfl rfl (show v<g.ids.length by omega) (look_here rfl) (Nat.le_refl _) rfl (fun j hj=>(look_there (fun e=>hj e.symm)).symm))) ?_ (ks_sub rfl);have e:v*p.vars.length+0=v*p.vars.length:=Nat.add_zero _;refine weak_by (fun _ _=>[(0,some 0),(1,some 1),(2,some 2),(3,some 3)]) ?_ ?_ rfl
     . repeat' (first|exact VRen.yld rfl|exact True.intro|(refine⟨⟨_,rfl,?_⟩,?_⟩)|exact VRen.int (by omega)|exact VRen.loc rfl)
     . repeat' (first|(refine VRen.fn ?_)|(refine⟨rfl,rfl,rfl,rfl,rfl,?_⟩)|exact⟨rfl,rfl,True.intro,fun i hi=>rfl,fun i j t hi hn hj ht=>(by rw[e];exact setF_self _ _ _ _ _)⟩|exact True.intro|(refine⟨⟨_,rfl,?_⟩,?_⟩)|exact VRen.kf rfl|exact VRen.loc rfl|exact VRen.vec rfl rfl rfl|(refine And.intro ?_ ?_))
   . obtain⟨x,rfl⟩:∃x,i=x+1:=⟨i-1,by omega⟩;have hxm:x<p.vars.length:=by omega
     have hlm:lenM p v=p.vars.length:=rfl;have hvn:v<g.ids.length:=by omega
     have hval:advI p g k (v*p.vars.length+(x+1)) v (0+x)=loP p g v x+dgP p g k v x:=by rw[Nat.zero_add,<- Nat.add_assoc];exact adv_val
     have hval':advI p g k (v*p.vars.length+x+1) v x=loP p g v x+dgP p g k v x:=adv_val;have hsz:=szX_int hp g hg v hxm;have hdl:=dgP_lt p g k v hxm;have hbi:=bnd_in hg (hp.var x hxm) (v:=v) (by omega);have hhi:(bnd g (gV p.vars x) v).2=hiP p g v x:=rfl;have hlo:(bnd g (gV p.vars x) v).1=loP p g v x:=rfl;by_cases hd:dgP p g k v x+1<szX p g v x
     . repeat' ((conv=>whnf);first|(refine Ix.mk x (by omega) (by omega) ?_)|(refine Ix.mk v (by omega) (by omega) ?_)|(refine Br.ff ?_)|(refine Br.dec ?_ ?_<;>intro _<;>try omega)|(refine Ar.i64 (by omega) (by omega) ?_)|(refine Ix.mk 1 rfl (by omega) ?_)|(refine Ltn.mk (by omega) ?_)|(refine yield_rule mixed rfl rfl ?_)|(refine Opn.hd (by omega) ?_))
       all_goals (conv=>whnf)
       exact⟨_,own_close (q:=8) (k:=0) (i:=v) [] rfl rfl hvn (look_here rfl) (Nat.le_refl _) rfl (fun j hj=>(look_there (fun e=>hj e.symm)).symm),postR_by (fun _=>[(0,some 0)]) _ _ ⟨rfl,rfl⟩ (VRen.kf rfl) (by repeat' (first|(refine⟨rfl,rfl,True.intro,fun i hi=>rfl,fun i j t hi hn hj ht=>adv_setinc p g k v x i j t hk hvn hxm hfi hd hi hj ht _ (by omega)⟩)|exact True.intro|(refine⟨⟨_,rfl,?_⟩,?_⟩))) rfl⟩
     . repeat' ((conv=>whnf);first|(refine Ix.mk x (by omega) (by omega) ?_)|(refine Ix.mk v (by omega) (by omega) ?_)|(refine Br.tt ?_)|(refine Br.dec ?_ ?_<;>intro _<;>try omega)|(refine Ar.i64 (by omega) (by omega) ?_)|(refine Ix.mk 0 rfl (by omega) ?_)|(refine Ix.mk 1 rfl (by omega) ?_)|(refine Ltn.mk (by omega) ?_)|(refine yield_rule mixed rfl rfl ?_)|(refine Opn.hd (by omega) ?_))
       all_goals (conv=>whnf)
       have hf2:=full_next hxm hfi (by omega);refine⟨_,x,by omega,⟨rfl,by omega,hf2⟩,?_⟩;refine weak_by (fun _ _=>[(0,some 0),(1,some 1),(2,some 2),(3,some 3),(5,some 5),(6,some 6),(7,some 7),(8,some 8)]) ?_ ?_ rfl
       . repeat' (first|exact VRen.yld rfl|exact True.intro|(refine⟨⟨_,rfl,?_⟩,?_⟩)|exact VRen.int (by omega)|exact VRen.loc rfl)
       . repeat' (first|(refine VRen.fn ?_)|(refine⟨rfl,rfl,rfl,rfl,rfl,?_⟩)|exact⟨rfl,rfl,⟨rfl,rfl,True.intro⟩,fun i hi=>rfl,fun i j t hi hn hj ht=>adv_rows p g k v x i j t hxm hj (fun e=>by rw[e,look_here rfl] at hn;cases hn)⟩|exact adv_rowset p g k v x _ _ _ (Nat.zero_add _) hj _ hlo|exact True.intro|(refine⟨⟨_,rfl,?_⟩,?_⟩)|exact VRen.kf rfl|exact VRen.loc rfl|exact VRen.vec rfl rfl rfl|(refine⟨Nat.le_refl _,rfl,fun i j hi hj=>?_⟩)|(refine And.intro ?_ ?_))
def rowPl (p:Pr) (g:G):Nat->Nat->Nat->V:=fun v x _=>.int .i64 (plP p g v x:Nat)
def plV (p:Pr) (g:G):V:=.fz g.ids.length 1 false fun v _=>.fz p.vars.length 1 false (rowPl p g v)
def bP (p:Pr) (g:G) (kd:Int):V:=.fe 1 5 (tab [[mvP p g,.fz g.ports.length 1 false (vNet g),.int .i64 kd,tblV p g,plV p g]]) 0 0
def lenD (m j:Nat):Nat->Nat:=fun i=>if i<j then 0 else m
def opnD (j k:Nat):List (Nat×Nat):=if 0<j then[(j-1,k)] else[]
def rowK' (p:Pr) (g:G) (v i:Nat):Nat->Nat->V:=fun x _=>if x<i then .int .i64 0 else .int .i64 (plP p g v x:Nat)
theorem rowK_step (p:Pr) (g:G) (v x x' i j:Nat) (hx:x'=x) (hj:j<1) (a:Int) (ha:a=(plP p g v x:Nat)):VLe (fset (rowK' p g v (x+1)) x' 0 [.int .i64 a] i j) (rowK' p g v x i j):=by
 obtain rfl:j=0:=by omega
 subst hx ha;apply VLe.of_eq;by_cases h:i=x'
 . subst h;simp[fset,rowK']
 . have h1:(i<x'+1)=(i<x'):=by simp;omega
   simp[fset,rowK',h,h1]
theorem lenD_set (m v i:Nat):setN (lenD m (v+1)) v m i=lenD m v i:=by
 simp only[setN,lenD];by_cases h:i=v
 . rw[if_pos h,if_neg (by omega)]
 . rw[if_neg h];by_cases h2:i<v
   . rw[if_pos h2,if_pos (by omega)]
   . rw[if_neg h2,if_neg (by omega)]
theorem setF_rowK' (p:Pr) (g:G) (v i j t:Nat):VLe (setF (rowPl p g) v (rowK' p g v 0) i j t) (rowPl p g i j t):=by
 apply VLe.of_eq;simp only[setF];split
 . rename_i e;subst e;simp[rowK',rowPl]
 . rfl
set_option maxHeartbeats 8000000 in
theorem builder_ok (p:Pr) (hp:PrOk p) (g:G) (hs:g.Small) (hg:g.valid=true) (kd:Int) (hn:cntP p g<=32768) :
 Ret Tryz.prog 54 [p.v,g.v,.int .i64 kd] (bP p g kd):=by
 obtain⟨f1,f2,f3,f4,f5,f6,f7⟩:=val_facts hg;have hvl:=hp.vlen;have h1:=mover_ok p hp g hg;have h2:=newnet_ok g hs hg;have h3:=table_ok p hp g hg;refine ret_frz rfl ?_;refine fn_rule mixed Tryz.func54 rfl hc54 hr54 rfl ?_
 repeat' ((conv=>whnf);first|(refine Ar.i64 (by omega) (by omega) ?_)|(refine Bd.nat (by omega) ?_)|(refine Len.mk (by omega) ?_)|(refine MkS.vec ?_)|(refine h1.go ?_)|(refine h2.go ?_)|(refine h3.go ?_)|(refine And.intro rfl ?_))
 all_goals (conv=>whnf)
 refine loop_u mixed [7] [4] [5,6,7,8,9,10,11,12,13,14,15,16,17,18,19,20,21,22,23,24,25,26,27,28,29] [4,3,2,1,0] (fun j:Nat=>[(8,.int .i64 (Mx.pr (szP p g) (j*p.vars.length) (nP p g-j*p.vars.length):Nat)),(9,.int .i64 ((j:Int)-1))])
  (fun own j=>(4,.vec (if 0<j then lenD p.vars.length j (j-1) else 0) 1 (rowPl p g (j-1)))::updO (updO own 3 (.fam g.ids.length 1 (lenD p.vars.length j) (rowPl p g) [])) 3 (.fam g.ids.length 1 (lenD p.vars.length j) (rowPl p g) (opnD j 4))) (fun m j=>m=j/\j<=g.ids.length) g.ids.length g.ids.length ⟨rfl,Nat.le_refl _⟩ rfl (fun _=>rfl) ?_ ?_
 . have e:opnD g.ids.length 4=[(g.ids.length-1,4)]:=if_pos (by omega);simp only[e,if_pos (show 0<g.ids.length by omega)];refine Weak.trans ?_ (weak_open (ks:=[4,5,6,7,8,9,10,11,12,13,14,15,16,17,18,19,20,21,22,23,24,25,26,27,28,29]) rfl rfl rfl (by omega) rfl) (ks_cons rfl);have e1:nP p g-g.ids.length*p.vars.length=0:=Nat.sub_self _;refine weak_by (fun _ _=>[(0,some 0),(1,some 1),(2,some 2),(3,some 3)]) ?_ ?_ rfl
   . repeat' (first|exact VRen.int (by rw[e1];rfl)|exact True.intro|(refine⟨⟨_,rfl,?_⟩,?_⟩)|exact VRen.kf rfl|exact VRen.loc rfl)
   . repeat' (first|exact⟨rfl,rfl,rfl,fun i hi=>⟨rfl,if_pos hi⟩⟩|exact True.intro|(refine⟨⟨_,rfl,?_⟩,?_⟩)|exact VRen.kf rfl|exact VRen.vec rfl rfl rfl|(refine And.intro ?_ ?_))
 rintro m j ⟨hm,hj⟩;rcases Nat.eq_zero_or_pos j with h0|h0
 . subst h0
   repeat' ((conv=>whnf);first|(refine Br.ff ?_)|(refine Len.mk (by omega) ?_))
   all_goals (conv=>whnf)
   refine vle_fe (fun a b ha hb=>?_);obtain rfl:a=0:=by omega
   have hb:b<5:=hb;rcases b with _|_|_|_|_|b
   . exact VLe.rfl
   . exact VLe.rfl
   . exact VLe.rfl
   . exact VLe.rfl
   . refine VLe.fz rfl (fun h=>h) (fun i j hi hj=>?_);exact VLe.fz (if_neg (by omega)) (fun h=>h) (fun _ _ _ _=>VLe.rfl)
   . omega
 . obtain⟨v,rfl⟩:∃v,j=v+1:=⟨j-1,by omega⟩;have e:opnD (v+1) 4=[(v,4)]:=if_pos (by omega);have ev:v+1-1=v:=rfl;simp only[e,ev,if_pos (Nat.succ_pos v)]
   repeat' ((conv=>whnf);first|(refine Ix.mk v (by omega) (by omega) ?_)|(refine Br.dec ?_ ?_<;>intro _<;>try omega)|(refine Ar.i64 (by omega) (by omega) ?_)|(refine Bd.nat (by omega) ?_)|(refine Len.mk (by omega) ?_)|(refine Ltn.mk (by omega) ?_)|(refine MkS.vec ?_)|(refine OpnSet.hd (by omega) ?_))
   all_goals (conv=>whnf)
   have hvn:v<g.ids.length:=by omega
   refine loop_u mixed [7,9] [] [6,7,8,9,10,11,12,13,14,15,16,17,18,19,20,21,22,23,24,25,26,27,28,29] [5,4,3,2,1,0] (fun i:Nat=>[(8,.int .i64 (Mx.pr (szP p g) (v*p.vars.length+i) (nP p g-(v*p.vars.length+i)):Nat)),(10,.int .i64 ((i:Int)-1))])
    (fun own i=>updO own 5 (.vec p.vars.length 1 (rowK' p g v i))) (fun m i=>m=i/\i<=p.vars.length) p.vars.length p.vars.length ⟨rfl,Nat.le_refl _⟩ rfl (fun _=>rfl) ?_ ?_
   . have e2:(v+1)*p.vars.length=v*p.vars.length+p.vars.length:=by rw[Nat.add_mul,Nat.one_mul]
     refine weak_by (fun _ _=>[(0,some 0),(1,some 1),(2,some 2),(3,some 3),(4,some 4),(5,some 5)]) ?_ ?_ rfl
     . repeat' (first|exact VRen.int (by rw[e2])|exact True.intro|(refine⟨⟨_,rfl,?_⟩,?_⟩)|exact VRen.kf rfl|exact VRen.loc rfl)
     . repeat' (first|exact⟨rfl,rfl,⟨rfl,rfl,True.intro⟩,fun i hi=>rfl,fun i j t hi hn hj ht=>VLe.rfl⟩|(refine⟨Nat.le_refl _,rfl,fun i j hi hj=>VLe.of_eq ?_⟩;rw[rowK',if_pos hi];(obtain rfl:j=0:=(by omega));rfl)|exact True.intro|(refine⟨⟨_,rfl,?_⟩,?_⟩)|exact VRen.kf rfl|exact VRen.vec rfl rfl rfl|(refine⟨Nat.le_refl _,rfl,fun i j hi hj=>?_⟩)|exact VLe.rfl|(refine And.intro ?_ ?_))
   rintro m i ⟨hm,hi⟩;rcases Nat.eq_zero_or_pos i with h1|h1
   . subst h1
     repeat' ((conv=>whnf);first|(refine Br.ff ?_)|(refine Ar.i64 (by omega) (by omega) ?_))
     all_goals (conv=>whnf)
     refine⟨_,v,by omega,⟨rfl,by omega⟩,?_⟩;refine Weak.trans (weak_step (own_close (q:=5) (k:=3) (i:=v) [] rfl rfl hvn (look_here rfl) (Nat.le_of_eq (if_pos rfl)) rfl (fun j hj=>(look_there (fun e=>hj e.symm)).symm))) ?_ (ks_sub rfl);have e0:v*p.vars.length+0=v*p.vars.length:=Nat.add_zero _;rcases Nat.eq_zero_or_pos v with h2|h2
     . subst h2;have e1:opnD 0 4=[]:=if_neg (by omega);simp only[e1,if_neg (Nat.lt_irrefl 0)];refine weak_by (fun _ _=>[(0,some 0),(1,some 1),(2,some 2),(3,some 3),(4,none)]) ?_ ?_ rfl
       . repeat' (first|exact VRen.int (by rw[e0])|exact True.intro|(refine⟨⟨_,rfl,?_⟩,?_⟩)|exact VRen.kf rfl|exact VRen.loc rfl)
       . repeat' (first|exact⟨rfl,rfl,True.intro,fun i hi=>(lenD_set _ _ _).symm,fun i j t hi hn hj ht=>setF_rowK' p g 0 i j t⟩|exact True.intro|(refine⟨⟨_,rfl,?_⟩,?_⟩)|exact VRen.kf rfl|exact VRen.vec rfl rfl rfl|(refine⟨⟨_,_,rfl⟩,?_⟩)|(refine And.intro ?_ ?_))
     . have e1:opnD v 4=[(v-1,4)]:=if_pos h2;simp only[e1,if_pos h2];refine Weak.trans ?_ (weak_open (ks:=[4,5,6,7,8,9,10,11,12,13,14,15,16,17,18,19,20,21,22,23,24,25,26,27,28,29]) rfl rfl rfl (show v-1<g.ids.length by omega) rfl) (ks_cons rfl);refine weak_by (fun _ _=>[(0,some 0),(1,some 1),(2,some 2),(3,some 3)]) ?_ ?_ rfl
       . repeat' (first|exact VRen.int (by rw[e0])|exact True.intro|(refine⟨⟨_,rfl,?_⟩,?_⟩)|exact VRen.int (by omega)|exact VRen.loc rfl)
       . repeat' (first|exact⟨rfl,rfl,True.intro,fun i hi=>(lenD_set _ _ _).symm,fun i j t hi hn hj ht=>setF_rowK' p g v i j t⟩|exact True.intro|(refine⟨⟨_,rfl,?_⟩,?_⟩)|exact VRen.kf rfl|exact VRen.vec rfl rfl rfl|(refine And.intro ?_ ?_))
   . obtain⟨x,rfl⟩:∃x,i=x+1:=⟨i-1,by omega⟩;have hxm:x<p.vars.length:=by omega
     have hix:=ix_lt hvn hxm;have hb:=bnd_in hg (hp.var x hxm) (v:=v) (by omega);have hsz:=szX_int hp g hg v hxm;have hst:=pl_step p g hix;have hle:=pl_le p g (Nat.le_of_lt hix);have hle2:=pl_le p g (show v*p.vars.length+(x+1)<=nP p g from hix);rw[szP_ix p g hxm] at hst;have hmul:((Mx.pr (szP p g) (v*p.vars.length+(x+1)) (nP p g-(v*p.vars.length+(x+1))):Nat):Int)*((bnd g (gV p.vars x) v).2-(bnd g (gV p.vars x) v).1+1)=(Mx.pr (szP p g) (v*p.vars.length+x) (nP p g-(v*p.vars.length+x)):Nat):=by
      rw[hst,Int.natCast_mul,hsz,Int.mul_comm];rfl
     repeat' ((conv=>whnf);first|(refine Ix.mk x (by omega) (by omega) ?_)|(refine Ix.mk v (by omega) (by omega) ?_)|(refine Ar.i64 (by rw[hmul];omega) (by rw[hmul];omega) ?_;rw[hmul])|(refine Br.dec ?_ ?_<;>intro _<;>try omega)|(refine Ar.i64 (by omega) (by omega) ?_)|(refine Ix.mk 0 rfl (by omega) ?_)|(refine Ix.mk 1 rfl (by omega) ?_)|(refine Ltn.mk (by omega) ?_)|(refine Opn.hdl (by omega) (show setN _ _ _ _=p.vars.length from if_pos rfl) ?_))
     all_goals (conv=>whnf)
     refine⟨_,x,by omega,⟨rfl,by omega⟩,?_⟩;refine weak_by (fun _ _=>[(0,some 0),(1,some 1),(2,some 2),(3,some 3),(4,some 4),(5,some 5)]) ?_ ?_ rfl
     . repeat' (first|exact True.intro|(refine⟨⟨_,rfl,?_⟩,?_⟩)|exact VRen.kf rfl|exact VRen.int (by omega)|exact VRen.loc rfl)
     . repeat' (first|exact⟨rfl,rfl,⟨rfl,rfl,True.intro⟩,fun i hi=>rfl,fun i j t hi hn hj ht=>VLe.rfl⟩|exact rowK_step _ _ _ _ _ _ _ (Nat.zero_add _) hj _ rfl|exact True.intro|(refine⟨⟨_,rfl,?_⟩,?_⟩)|exact VRen.kf rfl|exact VRen.vec rfl rfl rfl|(refine⟨Nat.le_refl _,rfl,fun i j hi hj=>?_⟩)|exact VLe.rfl|(refine And.intro ?_ ?_))
abbrev cF (c:Cf):Nat->Nat->Int:=fun v x=>gI (gC c v) x
theorem famI_cV {p:Pr} {g:G} {c:Cf} (hc:Conf p g c) (F:Nat->Nat->Nat->V) (hF:∀i j,VLe (F i j 0) (rowI (cF c) i j 0)):VLe (.fz g.ids.length 1 false fun i _=>.fz (lenM p i) 1 false (F i)) (cV c):=by
 refine VLe.fz hc.len.symm (fun h=>h) (fun i j hi hj=>?_);refine VLe.fz ?_ (fun h=>h) (fun a b ha hb=>?_)
 . rw[hc.row i (by rw[hc.len];exact hi)];rfl
 . obtain rfl:b=0:=by omega
   exact hF i a
theorem setF_cF (c:Cf) (v i j:Nat):VLe (setF (rowI (cF c)) v (rowI (cF c) v) i j 0) (rowI (cF c) i j 0):=setF_self _ _ _ _ _
set_option maxHeartbeats 8000000 in
theorem move_own (p:Pr) (hp:PrOk p) (g:G) (hg:g.valid=true) (c:Cf) (hc:Conf p g c) (v:Nat) (hv:v<g.ids.length) (r:Nat) (hr:r<p.rules.length) :
 CallF Tryz.prog 99 [mvP p g,.vec 0 1 0 g.ids.length,.int .i64 v,.int .i64 r] [(0,famI p g (cF c) [])] KS.tail fun X own' _=>X=.vec 1 1 0 p.vars.length/\own'=[(1,.vec p.vars.length 1 (vI (moveL p g c v r))),(0,famI p g (cF c) [])]:=by
 obtain⟨f1,f2,f3,f4,f5,f6,f7⟩:=val_facts hg;have hcl:=hc.len;have hrow:=hc.row v (by omega);have hvl:=hp.vlen;have hsl:=hp.slen r hr;have hlm:lenM p v=p.vars.length:=rfl;refine call_post (call_step ?_);refine call_open 28 0 v rfl rfl hv rfl ?_;show CallF Tryz.prog _ _ [(28,.vec (lenM p v) 1 (rowI (cF c) v)),(0,famI p g (cF c) [(v,28)])] [1,2,3,4,5,6,7,8,9,10,11,12,13,14,15,16,17,18,19,20,21,22,23,24,25,26,27,29] _;refine fn_rule mixed Tryz.func99 rfl hc99 hr99 rfl ?_
 repeat' ((conv=>whnf);first|(refine Ix.nat (by omega) ?_)|(refine Len.mk (by omega) ?_)|(refine Ltn.mk (by omega) ?_)|(refine Opn.hd (by omega) ?_))
 all_goals (conv=>whnf)
 refine loop_u mixed [0,1,2,9,26,27] [] [2,3,4,5,6,7,8,9,10,11,12,13,14,15,16,17,18,19,20,21,22,23,24,25,26,27,29] [1,28,0] (fun j:Nat=>[(28,.int .i64 j)]) (fun own j=>updO own 1 (.vec (lenM p v) 1 (vI (putL p g c v ((gRl p.rules r).sets.take j))))) (fun m j=>m=(gRl p.rules r).sets.length-j/\j<=(gRl p.rules r).sets.length) (gRl p.rules r).sets.length 0 ⟨rfl,Nat.zero_le _⟩ rfl (fun _=>rfl) ?_ ?_
 . refine weak_by (fun _ _=>[(0,some 0),(1,some 1),(28,some 28)]) ?_ ?_ rfl
   . repeat' (first|exact True.intro|(refine⟨⟨_,rfl,?_⟩,?_⟩)|exact VRen.kf rfl|exact VRen.vec rfl rfl rfl)
   . repeat' (first|exact⟨rfl,rfl,⟨rfl,rfl,True.intro⟩,fun i hi=>rfl,fun i j t hi hn hj ht=>VLe.rfl⟩|exact VLe.of_eq (by rw[shiftF_eq,Nat.zero_add];rfl)|exact True.intro|(refine⟨⟨_,rfl,?_⟩,?_⟩)|(refine⟨Nat.le_refl _,rfl,fun i j hi hj=>?_⟩)|exact VLe.rfl)
 rintro m j ⟨hm,hj⟩;have hpl:=putL_len p g c v ((gRl p.rules r).sets.take j);by_cases hjl:j<(gRl p.rules r).sets.length
 . obtain⟨s1,s2,s3⟩:=hp.set r hr j hjl;simp only[Tm.okB,Bool.and_eq_true,decide_eq_true_eq] at s3;have hval:=Value_ok p.pg g hg (hc.fit hp hg) v (by omega) (gS (gRl p.rules r).sets j).2 s3.2 s3.1;have hbr:=bring_ok (gV p.vars (gS (gRl p.rules r).sets j).1.toNat).kind (bnd g (gV p.vars (gS (gRl p.rules r).sets j).1.toNat) v).1 (bnd g (gV p.vars (gS (gRl p.rules r).sets j).1.toNat) v).2 ((gS (gRl p.rules r).sets j).2.sem g c v (-1))
   repeat' ((conv=>whnf);first|(refine Br.dec ?_ ?_<;>intro _<;>try omega)|(refine Ar.i64 (by omega) (by omega) ?_)|(refine Ix.nat (by omega) ?_)|(refine Ix.int (by omega) (by omega) ?_)|(refine Ltn.mk (by omega) ?_)|(refine call_lend hval rfl ⟨Nat.le_refl _,Nat.le_refl _,VLe.rfl,famI_cV hc _ (fun i j=>setF_cF c v i j),VLe.rfl,VLe.rfl,True.intro⟩ ?_)|(refine hbr.go ?_)|(refine And.intro rfl ?_))
   all_goals (conv=>whnf)
   refine⟨(gRl p.rules r).sets.length-(j+1),j+1,by omega,⟨rfl,by omega⟩,?_⟩;simp only[gS_take _ j hjl,putL_snoc];refine weak_by (fun _ _=>[(0,some 0),(1,some 1),(28,some 28)]) ?_ ?_ rfl
   . repeat' (first|exact True.intro|(refine⟨⟨_,rfl,?_⟩,?_⟩)|exact VRen.kf rfl|exact VRen.vec rfl rfl rfl)
   . repeat' (first|exact⟨rfl,rfl,⟨rfl,rfl,True.intro⟩,fun i hi=>rfl,fun i j t hi hn hj ht=>VLe.rfl⟩|exact⟨Nat.le_refl _,rfl,fun i t hi ht=>by simp only[Nat.zero_add];exact vle_set6 _ _ _ _ _ (by rw[putL_len];omega) ht⟩|exact True.intro|(refine⟨⟨_,rfl,?_⟩,?_⟩)|(refine⟨Nat.le_refl _,rfl,fun i j hi hj=>?_⟩)|exact VLe.rfl)
 . repeat' ((conv=>whnf);first|(refine Br.dec ?_ ?_<;>intro _<;>try omega))
   all_goals (conv=>whnf)
   have et:(gRl p.rules r).sets.take j=(gRl p.rules r).sets:=List.take_of_length_le (by omega);exact⟨_,own_close (q:=28) (k:=0) (i:=v) [] rfl rfl hv (look_here rfl) (Nat.le_refl _) rfl (fun j hj=>(look_there (fun e=>hj e.symm)).symm),postR_by (fun _=>[(1,some 1),(0,some 0)]) _ _ ⟨rfl,rfl⟩ (VRen.vec rfl rfl rfl) (by repeat' (first|(refine⟨rfl,rfl,True.intro,fun i hi=>rfl,fun i j t hi hn hj ht=>setF_self _ _ _ _ _⟩)|(refine⟨Nat.le_refl _,rfl,fun i j hi hj=>(by rw[et];exact VLe.rfl)⟩)|exact True.intro|(refine⟨⟨_,rfl,?_⟩,?_⟩))) rfl⟩
theorem cnt_pos {s n:Nat} (h0:s≠0) (hs:s<2 ^ n):1<=cnt s n:=by
 apply Classical.byContradiction;intro hc;apply h0;have hz:cnt s n=0:=by omega
 have key:∀n,cnt s n=0->∀i,i<n->s.testBit i=false:=by
  intro n
  induction n with
  | zero=>intro _ i hi;omega
  | succ n ih =>
    intro h i hi;rw[cnt] at h;cases e:s.testBit n with
    | true=>rw[e] at h;simp at h
    | false =>
      rw[e] at h;by_cases q:i=n
      . subst q;exact e
      . exact ih (by simpa using h) i (by omega)
 refine Nat.eq_of_testBit_eq fun i=>?_;rw[Nat.zero_testBit];by_cases hi:i<n
 . exact key n hz i hi
 . exact Nat.testBit_lt_two_pow (Nat.lt_of_lt_of_le hs (Nat.pow_le_pow_right (by omega) (by omega)))
end Go.Proofs.YtobpogkghbakmaaGreatDoor
namespace Go.Proofs.YtobpogkghbakmaaGreatDoor
open Go.Eng Go.Plain
set_option maxRecDepth 100000
set_option linter.unusedVariables false
set_option linter.unusedSectionVars false
section
variable {p:Pr} (hp:PrOk p) {g:G} (hg:g.valid=true) {kd:Int} (hk:dk kd=true) {leg:Cf->Bool} {R M:Int} {Inv:Cf->Cnt->Prop} (hS:Srv p g kd leg R M Inv) (he:∀c,(chs g kd (enN p g c)).2=0)
include hp hg hk he
theorem stepK_of {k s:Nat} (hs:s∈(chs g kd (enN p g (cfK p g k))).1):StepK p g kd (cfK p g k) s:=by
 have h32:=en_32 p hg (cfK p g k);have h24:=en_24 p hg (cfK p g k);have h1:=(chs_mem hk h32 (chs_lt h32 s hs) (he _)).1 hs;obtain⟨a,b,c⟩:=inner_iff.1 h1;have hpt:=(part_iff (chs_lt h32 s hs)).1 b;exact⟨a,hpt,c,Nat.lt_of_le_of_lt hpt.le h24⟩
theorem arc_step {k:Nat} {a:Nat×Nat} (ha:a∈(sysP p g kd).ar k):StepK p g kd (cfK p g k) a.1/\a.2=rkC p g (stepC p g (cfK p g k) a.1)/\Conf p g (stepC p g (cfK p g k) a.1):=by
 have ha:a∈arcK p g kd k:=ha;rw[arcK] at ha;obtain⟨s,hs,rfl⟩:=List.mem_map.1 ha;have h:=stepK_of hp hg hk he hs;exact⟨h,rfl,step_conf hp hg (cfK_conf hp hg k) h.part⟩
theorem chs_ne {k:Nat} (h0:enN p g (cfK p g k)≠0):(chs g kd (enN p g (cfK p g k))).1≠[] :=
 List.length_pos_iff.1 ((chs_some hg hk (en_32 p hg _) (en_part p hg _) (he _)).2 h0)
include hS
theorem sys_all {L:List Nat} (hL:An.Ord (cntP p g) (sysP p g kd).to (legK p g leg) L):∀k,k<cntP p g->k∈L :=
 ord_all hp hg hS (fun k _ s hs=>stepK_of hp hg hk he hs) (fun k _ h0=>chs_ne hp hg hk he h0) hL (fun c s hc hs=>step_conf hp hg hc hs.part)
theorem sys_rq:RQ (sysP p g kd) (legK p g leg) (RdOk p g R Inv):=by
 refine⟨fun k pd hk' hl n hi hpd=>?_,fun k pd hk' hl=>rd_one hp hg hS hl,fun k pd a v hk' hl ha hl' hv=>?_,fun k pd a b h1 h2=>rd_max h1 h2⟩
 . have:=rd_one hp hg hS hl n hi hpd;omega
 . obtain⟨h1,h2,h3⟩:=arc_step hp hg hk he ha;obtain⟨s,t⟩:=a;simp only at h1 h2 h3 hl' hv;subst h2;exact rd_step hp hg hS hl h1 h3 hl' hv
theorem sys_mq:MQ (sysP p g kd) (legK p g leg) (MvOk p g M Inv):=by
 refine⟨fun k hk' hl hM n hi=>?_,fun k a v hk' hl ha h1 h2=>?_,fun k a b h1 h2=>mv_max h1 h2⟩
 . have hne:=chs_ne hp hg hk he (k:=k) (hS.en _ (cfK_conf hp hg k) hl);obtain⟨s,hs⟩:=List.exists_mem_of_ne_nil _ hne;have:=hS.moves hM _ n s (cfK_conf hp hg k) hi hl (stepK_of hp hg hk he hs);omega
 . obtain⟨s1,s2,s3⟩:=arc_step hp hg hk he ha;obtain⟨s,t⟩:=a;simp only at s1 s2 s3 h1 h2;subst s2;exact mv_step hp hg hS hl s1 s3 h1 h2
end
end Go.Proofs.YtobpogkghbakmaaGreatDoor
namespace Go.Proofs.YtobpogkghbakmaaGreatDoor
open Go.Eng Go.Plain
set_option maxRecDepth 100000
set_option linter.unusedVariables false
def gwF (p:Pr) (g:G) (c:Cf) (v x:Nat):Nat->Nat->V:=fun u _=>.int .i64 (if u<v then gwK p g c u else if u=v then gwS p g c v x else 0)
theorem gw_zero (p:Pr) (g:G) (c:Cf) (u j:Nat) (F:Nat->Nat->V) (hF:F u j=.int .i64 0):VLe (F u j) (gwF p g c 0 0 u j):=by
 apply VLe.of_eq;rw[hF,gwF];by_cases h:u=0
 . subst h;rfl
 . rw[if_neg (by omega),if_neg h]
theorem gw_skip (p:Pr) (g:G) (c:Cf) (v u j:Nat) (h:¬ 0<=ruleI p g c v):VLe (gwF p g c v 0 u j) (gwF p g c (v+1) 0 u j):=by
 apply VLe.of_eq;rw[gwF,gwF];congr 1;by_cases h1:u<v
 . rw[if_pos h1,if_pos (by omega)]
 . rw[if_neg h1];by_cases h2:u=v
   . subst h2;rw[if_pos rfl,if_pos (by omega),gwK,if_neg h];rfl
   . rw[if_neg h2,if_neg (by omega)];by_cases h3:u=v+1
     . rw[if_pos h3];rfl
     . rw[if_neg h3]
theorem gw_row (p:Pr) (g:G) (c:Cf) (v u j:Nat) (h:0<=ruleI p g c v):VLe (gwF p g c v p.vars.length u j) (gwF p g c (v+1) 0 u j):=by
 apply VLe.of_eq;rw[gwF,gwF];congr 1;by_cases h1:u<v
 . rw[if_pos h1,if_pos (by omega)]
 . rw[if_neg h1];by_cases h2:u=v
   . subst h2;rw[if_pos rfl,if_pos (by omega),gwK,if_pos h]
   . rw[if_neg h2,if_neg (by omega)];by_cases h3:u=v+1
     . rw[if_pos h3];rfl
     . rw[if_neg h3]
theorem gw_step (p:Pr) (g:G) (c:Cf) (v v' x u j:Nat) (hv:v'=v) (hj:j<1) (a:Int) (ha:a=gwS p g c v (x+1)):VLe (fset (gwF p g c v x) v' 0 [.int .i64 a] u j) (gwF p g c v (x+1) u j):=by
 obtain rfl:j=0:=by omega
 subst hv ha;apply VLe.of_eq;by_cases h:u=v'
 . subst h;simp[fset,gwF]
 . simp[fset,gwF,h]
def arX (cl:List Nat) (T:Nat->Nat) (i m:Nat) (t:Int):Nat->Nat->V:=fun q j=>match j with
 | 0=>.int .u32 (if q<m then gN cl q else 0:Nat)
 | _+1=>.int .i64 (if q<i then (T (gN cl q):Int) else if q=i then t else 0)
theorem arX_zero (cl:List Nat) (T:Nat->Nat) (q j:Nat) (hj:j<2):VLe ((fun(_ j:Nat)=>[V.int .u32 0,V.int .i64 0].getD j default) q j) (arX cl T 0 0 0 q j):=by
 apply VLe.of_eq;rcases j with _|_|j
 . rfl
 . show V.int .i64 0=V.int .i64 _;congr 1;rw[if_neg (by omega)];by_cases h:q=0
   . rw[if_pos h]
   . rw[if_neg h]
 . omega
theorem arX_new (cl:List Nat) (T:Nat->Nat) (i i' q j:Nat) (hi:i'=i) (hj:j<2) (s k:Int) (hs:s=(gN cl i:Nat)):VLe (fset (arX cl T i i 0) i' 0 [.int .u32 s,.int .i64 k] q j) (arX cl T i (i+1) k q j):=by
 subst hi hs;apply VLe.of_eq;by_cases h:q=i'
 . subst h;rcases j with _|_|j
   . simp[fset,arX]
   . simp[fset,arX]
   . omega
 . rcases j with _|_|j
   . have:(q<i'+1)=(q<i'):=by simp;omega
     simp[fset,arX,h,this]
   . simp[fset,arX,h]
   . omega
theorem arX_to (cl:List Nat) (T:Nat->Nat) (i i' q j j':Nat) (hi:i'=i) (hj':j'=1) (hj:j<2) (t t':Int):VLe (fset (arX cl T i (i+1) t) i' j' [.int .i64 t'] q j) (arX cl T i (i+1) t' q j):=by
 subst hi hj';apply VLe.of_eq;by_cases h:q=i'
 . subst h;rcases j with _|_|j
   . simp[fset,arX]
   . simp[fset,arX]
   . omega
 . rcases j with _|_|j
   . simp[fset,arX,h]
   . simp[fset,arX,h]
   . omega
theorem arX_next (cl:List Nat) (T:Nat->Nat) (i q j:Nat) (t:Int) (ht:t=(T (gN cl i):Nat)):VLe (arX cl T i (i+1) t q j) (arX cl T (i+1) (i+1) 0 q j):=by
 subst ht;apply VLe.of_eq;rcases j with _|j
 . rfl
 . show V.int .i64 _=V.int .i64 _;congr 1;by_cases h:q<i
   . rw[if_pos h,if_pos (by omega)]
   . rw[if_neg h];by_cases h2:q=i
     . rw[if_pos h2,if_pos (by omega),h2]
     . rw[if_neg h2,if_neg (by omega)];by_cases h3:q=i+1
       . rw[if_pos h3]
       . rw[if_neg h3]
theorem arX_end (cl:List Nat) (T:Nat->Nat) (q j:Nat) (hq:q<cl.length):VLe (arX cl T cl.length cl.length 0 q j) (vAr (cl.map fun s=>(s,T s)) q j):=by
 apply VLe.of_eq;have hg:gA (cl.map fun s=>(s,T s)) q=(gN cl q,T (gN cl q)):=by
  simp[gA,gN,List.getD_eq_getElem?_getD,List.getElem?_eq_getElem hq]
 rcases j with _|j
 . show V.int .u32 _=V.int .u32 _;rw[hg,if_pos hq]
 . show V.int .i64 _=V.int .i64 _;rw[hg,if_pos hq]
theorem moveL_in {p:Pr} (hp:PrOk p) {g:G} (hg:g.valid=true) {c:Cf} (hc:Conf p g c) {v x:Nat} (hv:v<g.ids.length) (hx:x<p.vars.length) (hr:0<=ruleI p g c v) :
 (bnd g (gV p.vars x) v).1<=gI (moveL p g c v (ruleI p g c v).toNat) x/\gI (moveL p g c v (ruleI p g c v).toNat) x<=(bnd g (gV p.vars x) v).2:=by
 have hcl:=hc.len;have hs:Part (2 ^ v) (enN p g c):=fun i hi=>by
  have e:=pow_bit hi;rw[en_bit,Bool.and_eq_true,decide_eq_true_eq,decide_eq_true_eq,<- e];exact⟨hv,hr⟩
 have hd:=step_conf hp hg hc hs;have hrow:=stepC_row p g c (2 ^ v) (v:=v) (by omega);rw[Nat.testBit_two_pow_self,if_pos rfl] at hrow;have h2:=hd.val v (by rw[stepC_len];omega) x hx;rw[hrow] at h2;exact h2
set_option maxHeartbeats 16000000 in
theorem state_own (p:Pr) (hp:PrOk p) (g:G) (hg:g.valid=true) (kd:Int) (hk:dk kd=true) (hn:cntP p g<=32768) (c:Cf) (hc:Conf p g c) (he:(chs g kd (enN p g c)).2=0) :
 CallF Tryz.prog 56 [bP p g kd,.vec 0 1 0 g.ids.length,.int .i64 (rkC p g c)] [(999,GB),(0,famI p g (cF c) [])] KS.tail fun X own' _=>X=.tup [.int .u32 (enN p g c),.vec 1 2 0 (chs g kd (enN p g c)).1.length,.int .i64 0] /\
  own'=[(1,.vec (chs g kd (enN p g c)).1.length 2 (vAr ((chs g kd (enN p g c)).1.map fun s=>(s,rkC p g (stepC p g c s))))),(999,GB),(0,famI p g (cF c) [])]:=by
 obtain⟨f1,f2,f3,f4,f5,f6,f7⟩:=val_facts hg;have hcl:=hc.len;have hvl:=hp.vlen;refine call_post ?_;refine fn_rule mixed Tryz.func56 rfl hc56 hr56 rfl ?_
 repeat' ((conv=>whnf);first|fail)
 all_goals (conv=>whnf)
 refine loop_u mixed [0,1,2,10,21,22] [] [2,3,4,5,6,7,8,9,10,11,12,13,14,15,16,17,18,19,20,21,22,23,24,25,26,27,28,29] [1,999,0] (fun v:Nat=>[(9,.int .u32 (nb (fun u=>decide (0<=ruleI p g c u)) v)),(23,.int .i64 v)]) (fun own v=>updO own 1 (.vec 24 1 (gwF p g c v 0))) (fun m v=>m=g.ids.length-v/\v<=g.ids.length) g.ids.length 0 ⟨rfl,Nat.zero_le _⟩ rfl (fun _=>rfl) ?_ ?_
 . refine weak_by (fun _ _=>[(0,some 0),(1,some 1),(999,some 999)]) ?_ ?_ rfl
   . repeat' (first|exact True.intro|exact VRen.oel rfl rfl|(refine⟨⟨_,rfl,?_⟩,?_⟩)|exact VRen.kf rfl|exact VRen.vec rfl rfl rfl)
   . repeat' (first|exact⟨rfl,rfl,True.intro,fun i hi=>rfl,fun i j t hi hn hj ht=>VLe.rfl⟩|exact gw_zero p g c i j (fun _ _=>.int .i64 0) rfl|exact True.intro|exact⟨rfl,rfl,rfl⟩|(refine⟨⟨_,rfl,?_⟩,?_⟩)|(refine⟨Nat.le_refl _,rfl,fun i j hi hj=>?_⟩))
 rintro m v ⟨hm,hv⟩;by_cases hvn:v<g.ids.length
 . have hru:=rule_ok p hp g hg c hc v (by omega);by_cases hr0:0<=ruleI p g c v
   . have hrl:=ruleI_lt p g c v;have hmo:=move_own p hp g hg c hc v hvn (ruleI p g c v).toNat (by omega);rw[show(((ruleI p g c v).toNat:Nat):Int)=ruleI p g c v by omega] at hmo
     repeat' ((conv=>whnf);first|(refine Br.dec ?_ ?_<;>intro _<;>try omega)|(refine Ar.sh1 (by omega) ?_)|(refine Sv.mk _ rfl ?_)|(refine Nn.mk (by omega) ?_)|(refine call_lend hru rfl ⟨Nat.le_refl _,VLe.rfl,famI_cV hc _ (fun i j=>VLe.rfl),VLe.rfl,True.intro⟩ ?_)|(refine call_by [(0,some 0)] [1] (hmo.mono ?_) ⟨VRen.kf rfl,VRen.vec rfl rfl rfl,VRen.kf rfl,VRen.kf rfl,True.intro⟩ (by repeat' (first|(refine⟨rfl,rfl,True.intro,fun i hi=>rfl,fun i j t hi hn hj ht=>VLe.rfl⟩)|exact True.intro|(refine⟨⟨_,rfl,?_⟩,?_⟩))) rfl;rintro _ _ _ ⟨rfl,rfl⟩)|(refine Chk.mk rfl ?_))
     all_goals (conv=>whnf)
     refine loop_w mixed [0,1,2,9,10,11,21,22,23,46,47] [3] [4,5,6,7,8,9,10,11,12,13,14,15,16,17,18,19,20,21,22,23,24,25,26,27,28,29] [3,2,1,999,0] (fun x:Nat=>[(48,.int .i64 x)]) (fun x=>(3,.vec (lenM p v) 1 (rowI (cF c) v))::updO [(2,.vec p.vars.length 1 (vI (moveL p g c v (ruleI p g c v).toNat))),(1,.vec 24 1 (gwF p g c v x)),(999,GB),(0,famI p g (cF c) [])] 0 (famI p g (cF c) [(v,3)])) (fun m x=>m=p.vars.length-x/\x<=p.vars.length) p.vars.length 0 ⟨rfl,Nat.zero_le _⟩ rfl (fun _=>rfl) ?_ ?_
     . refine Weak.trans ?_ (weak_open (own:=[(2,.vec p.vars.length 1 (vI (moveL p g c v (ruleI p g c v).toNat))),(1,.vec 24 1 (gwF p g c v 0)),(999,GB),(0,famI p g (cF c) [])]) (ks:=[3,4,5,6,7,8,9,10,11,12,13,14,15,16,17,18,19,20,21,22,23,24,25,26,27,28,29]) rfl rfl rfl hvn rfl) (ks_cons rfl);refine weak_by (fun _ _=>[(0,some 0),(1,some 1),(2,some 2),(999,some 999)]) ?_ ?_ rfl
       . repeat' (first|exact True.intro|exact VRen.oel rfl rfl|(refine⟨⟨_,rfl,?_⟩,?_⟩)|exact VRen.kf rfl|exact VRen.vec rfl rfl rfl)
       . repeat' (first|exact⟨rfl,rfl,True.intro,fun i hi=>rfl,fun i j t hi hn hj ht=>VLe.rfl⟩|exact True.intro|exact⟨rfl,rfl,rfl⟩|(refine⟨⟨_,rfl,?_⟩,?_⟩)|(refine⟨Nat.le_refl _,rfl,fun i j hi hj=>?_⟩)|exact VLe.rfl)
     rintro m2 x ⟨hm2,hx⟩;have hlm:lenM p v=p.vars.length:=rfl;by_cases hxn:x<p.vars.length
     . have hgx:=gwX_bnd hp hg hc hvn hxn hr0 hn;have hgs:=gwS_bnd hp hg hc hvn hr0 hn (x:=x) (by omega);have hgs2:=gwS_bnd hp hg hc hvn hr0 hn (x:=x+1) (by omega);have hb1:=hc.val v (by omega) x hxn;have hmi:=moveL_in hp hg hc hvn hxn hr0;have hbi:=bnd_in hg (hp.var x hxn) (v:=v) (by omega);have hmz:gI (moveL p g c v (ruleI p g c v).toNat) (0+x)=gI (moveL p g c v (ruleI p g c v).toNat) x:=by rw[Nat.zero_add]
       have hcv:cF c v (0+x)=gI (gC c v) x:=by rw[Nat.zero_add]
       have hmulx:(gI (moveL p g c v (ruleI p g c v).toNat) (0+x)-cF c v (0+x))*(plP p g v x:Nat)=gwX p g c v x:=by rw[Nat.zero_add];rfl
       have hsum:(if v<v then gwK p g c v else if v=v then gwS p g c v x else 0)+gwX p g c v x=gwS p g c v (x+1):=by
        rw[if_neg (Nat.lt_irrefl _),if_pos rfl];rfl
       repeat' ((conv=>whnf);first|(refine Ar.i64 (by rw[hmulx];omega) (by rw[hmulx];omega) ?_;rw[hmulx])|(refine Ar.i64 (by rw[hsum];omega) (by rw[hsum];omega) ?_;rw[hsum])|(refine Br.dec ?_ ?_<;>intro _<;>try omega)|(refine Ar.i64 (by omega) (by omega) ?_)|(refine Ix.nat (by omega) ?_)|(refine Ltn.mk (by omega) ?_)|(refine Opn.hd (by omega) ?_))
       all_goals (conv=>whnf)
       refine⟨_,x+1,by omega,⟨rfl,by omega⟩,?_⟩;refine weak_by (fun _ _=>[(0,some 0),(1,some 1),(2,some 2),(3,some 3),(999,some 999)]) ?_ ?_ rfl
       . repeat' (first|exact True.intro|exact VRen.oel rfl rfl|(refine⟨⟨_,rfl,?_⟩,?_⟩)|exact VRen.kf rfl|exact VRen.vec rfl rfl rfl)
       . repeat' (first|exact⟨rfl,rfl,⟨rfl,rfl,True.intro⟩,fun i hi=>rfl,fun i j t hi hn hj ht=>VLe.rfl⟩|exact gw_step _ _ _ _ _ _ _ _ rfl hj _ rfl|exact True.intro|exact⟨rfl,rfl,rfl⟩|(refine⟨⟨_,rfl,?_⟩,?_⟩)|(refine⟨Nat.le_refl _,rfl,fun i j hi hj=>?_⟩)|exact VLe.rfl)
     . repeat' ((conv=>whnf);first|(refine Br.dec ?_ ?_<;>intro _<;>try omega)|(refine Ar.i64 (by omega) (by omega) ?_))
       all_goals (conv=>whnf)
       have ex:x=p.vars.length:=by omega
       have hx:=nb_or (p:=fun u=>decide (0<=ruleI p g c u)) (k:=v) (by omega) (decide_eq_true hr0);refine⟨_,v+1,by omega,⟨rfl,by omega⟩,?_⟩;refine Weak.trans (weak_step (own_close (q:=3) (k:=0) (i:=v) [] rfl rfl hvn (look_here rfl) (Nat.le_refl _) rfl (fun j hj=>(look_there (fun e=>hj e.symm)).symm))) ?_ (ks_sub rfl);refine weak_by (fun _ _=>[(0,some 0),(1,some 1),(999,some 999)]) ?_ ?_ rfl
       . repeat' (first|exact VRen.int hx|exact True.intro|exact VRen.oel rfl rfl|(refine⟨⟨_,rfl,?_⟩,?_⟩)|exact VRen.kf rfl|exact VRen.vec rfl rfl rfl)
       . repeat' (first|exact⟨rfl,rfl,True.intro,fun i hi=>rfl,fun i j t hi hn hj ht=>setF_self _ _ _ _ _⟩|(rw[ex];exact gw_row _ _ _ _ _ _ hr0)|exact True.intro|exact⟨rfl,rfl,rfl⟩|(refine⟨⟨_,rfl,?_⟩,?_⟩)|(refine⟨Nat.le_refl _,rfl,fun i j hi hj=>?_⟩))
   . repeat' ((conv=>whnf);first|(refine Br.dec ?_ ?_<;>intro _<;>try omega)|(refine Ar.i64 (by omega) (by omega) ?_)|(refine call_lend hru rfl ⟨Nat.le_refl _,VLe.rfl,famI_cV hc _ (fun i j=>VLe.rfl),VLe.rfl,True.intro⟩ ?_))
     all_goals (conv=>whnf)
     have hx:=nb_no (p:=fun u=>decide (0<=ruleI p g c u)) (k:=v) (decide_eq_false hr0);refine⟨_,v+1,by omega,⟨rfl,by omega⟩,?_⟩;refine weak_by (fun _ _=>[(0,some 0),(1,some 1),(999,some 999)]) ?_ ?_ rfl
     . repeat' (first|exact VRen.int (by rw[hx])|exact True.intro|exact VRen.oel rfl rfl|(refine⟨⟨_,rfl,?_⟩,?_⟩)|exact VRen.kf rfl|exact VRen.vec rfl rfl rfl)
     . repeat' (first|exact⟨rfl,rfl,True.intro,fun i hi=>rfl,fun i j t hi hn hj ht=>VLe.rfl⟩|exact gw_skip _ _ _ _ _ _ hr0|exact True.intro|exact⟨rfl,rfl,rfl⟩|(refine⟨⟨_,rfl,?_⟩,?_⟩)|(refine⟨Nat.le_refl _,rfl,fun i j hi hj=>?_⟩))
 . have ev:v=g.ids.length:=by omega
   subst ev;have h32:=en_32 p hg c;have hch:=nchoices_ok g hg kd (enN p g c) h32 (en_part p hg c);rw[he] at hch;have hcl2:=chs_len (g:=g) (k:=kd) h32;have hcm:∀s,s∈(chs g kd (enN p g c)).1->s<4294967296/\Part s (enN p g c):=fun s hs=>⟨chs_lt h32 s hs,(part_iff (chs_lt h32 s hs)).1 (inner_iff.1 ((chs_mem hk h32 (chs_lt h32 s hs) he).1 hs)).2.1⟩;change RG _ [_,_,.int .u32 (nb (fun u=>decide (0<=ruleI p g c u)) g.ids.length:Nat)] _ at hch;generalize (chs g kd (enN p g c)).1=cl at *
   repeat' ((conv=>whnf);first|(refine Br.ff ?_)|(refine Br.dec ?_ ?_<;>intro _<;>try omega)|(refine Bd.nat (by omega) ?_)|(refine Len.mk (by omega) ?_)|(refine hch.gog ?_))
   all_goals (conv=>whnf)
   refine loop_w mixed [2,9,10,17,99,100] [] [4,5,6,7,8,9,10,11,12,13,14,15,16,17,18,19,20,21,22,23,24,25,26,27,28,29] [3,2,1,999,0] (fun i:Nat=>[(101,.int .i64 i)]) (fun i=>[(3,.cells [.vec 2 2 0 cl.length]),(2,.vec cl.length 2 (arX cl (fun s=>rkC p g (stepC p g c s)) i i 0)),(1,.vec 24 1 (gwF p g c g.ids.length 0)),(999,GB),(0,famI p g (cF c) [])]) (fun m i=>m=cl.length-i/\i<=cl.length) cl.length 0 ⟨rfl,Nat.zero_le _⟩ rfl (fun _=>rfl) ?_ ?_
   . refine weak_by (fun _ _=>[(0,some 0),(1,some 1),(2,some 2),(3,some 3),(999,some 999)]) ?_ ?_ rfl
     . repeat' (first|exact True.intro|exact VRen.oel rfl rfl|(refine⟨⟨_,rfl,?_⟩,?_⟩)|exact VRen.kf rfl|exact VRen.loc rfl)
     . repeat' (first|exact⟨rfl,rfl,True.intro,fun i hi=>rfl,fun i j t hi hn hj ht=>VLe.rfl⟩|exact arX_zero _ _ _ _ hj|exact True.intro|exact⟨rfl,rfl,rfl⟩|(refine⟨⟨_,rfl,?_⟩,?_⟩)|exact VRen.vec rfl rfl rfl|(refine⟨Nat.le_refl _,rfl,fun i j hi hj=>?_⟩)|exact VLe.rfl|(refine And.intro ?_ ?_))
   rintro m i ⟨hm2,hi⟩;by_cases hil:i<cl.length
   . obtain⟨s32,spt⟩:=hcm (gN cl i) (gQ_mem hil);generalize hs:gN cl i=s at *
     repeat' ((conv=>whnf);first|(refine Br.dec ?_ ?_<;>intro _<;>try omega)|(refine Ix.nat (by omega) ?_)|(refine Ltn.mk (by omega) ?_)|(refine fn_rule mixed Tryz.func101 rfl hc101 hr101 rfl ?_)|(refine range_rule ?_)|(refine Chk.mk (by kernel_rfl) ?_)|(refine fn_rule mixed Tryz.func136 rfl hc136 hr136 rfl ?_))
     all_goals (conv=>whnf)
     have hkc:=rkC_lt hp hg hc;have hsn:∀u,s.testBit u=true->u<g.ids.length:=fun u hu=>by
      have:=spt u hu;rw[en_bit,Bool.and_eq_true,decide_eq_true_eq] at this;exact this.1
     refine loop_u mixed [0,1] [] [7,8,9,10,11,12,13,14,15,16,17,18,19,20,21,22,23,24,25,26,27,28,29] [6,5,4,3,2,1,999,0] (fun b:Nat=>[]) (fun own b=>updO (updO own 5 (.cells [.int .u32 (upS s b)])) 2 (.vec cl.length 2 (arX cl (fun s=>rkC p g (stepC p g c s)) i (i+1) (toS p g c (rkC p g c) s b)))) (fun m b=>m=g.ids.length-b/\b<=g.ids.length) g.ids.length 0 ⟨rfl,Nat.zero_le _⟩ rfl (fun _=>rfl) ?_ ?_
     . have hx:=upS_zero s32;have ht0:toS p g c (rkC p g c) s 0=(rkC p g c:Nat):=by rw[toS,sumF];exact Int.add_zero _
       refine weak_by (fun _ _=>[(0,some 0),(1,some 1),(2,some 2),(3,some 3),(4,some 4),(5,some 5),(6,some 6),(999,some 999)]) ?_ ?_ rfl
       . repeat' (first|exact VRen.yld rfl|exact True.intro|(refine⟨⟨_,rfl,?_⟩,?_⟩)|exact VRen.loc rfl)
       . repeat' (first|exact⟨rfl,rfl,True.intro,fun i hi=>rfl,fun i j t hi hn hj ht=>VLe.rfl⟩|exact VRen.int (by rw[hx,<- hs])|(refine VRen.fn ?_)|(refine⟨rfl,rfl,rfl,rfl,rfl,?_⟩)|(rw[ht0];exact arX_new _ _ _ _ _ _ (Nat.zero_add _) hj _ _ rfl)|exact True.intro|exact VRen.oel rfl rfl|exact⟨rfl,rfl,rfl⟩|(refine⟨⟨_,rfl,?_⟩,?_⟩)|exact VRen.kf rfl|exact VRen.loc rfl|exact VRen.vec rfl rfl rfl|(refine⟨Nat.le_refl _,rfl,fun i j hi hj=>?_⟩)|exact VLe.rfl|(refine And.intro ?_ ?_))
     rintro m3 b ⟨hm3,hb⟩;have hul:=upS_lt s b;have hbn:=toS_bnd hp hg hc hn (k:=rkC p g c) (s:=s) (b:=b) (by omega) hb;by_cases hu:upS s b=0
     . have hte:=toS_end hp hg hc spt;rw[toS_skip hb (fun u h1 h2=>upS_end s32 hu u h1)] at hte
       repeat' ((conv=>whnf);first|(refine Br.bne ?_ ?_<;>intro _<;>try omega)|(refine Ar.i64 (by omega) (by omega) ?_))
       all_goals (conv=>whnf)
       refine⟨_,i+1,by omega,⟨rfl,by omega⟩,?_⟩;refine weak_by (fun _ _=>[(0,some 0),(1,some 1),(2,some 2),(3,some 3),(999,some 999)]) ?_ ?_ rfl
       . repeat' (first|exact True.intro|exact VRen.oel rfl rfl|(refine⟨⟨_,rfl,?_⟩,?_⟩)|exact VRen.kf rfl|exact VRen.loc rfl)
       . repeat' (first|exact⟨rfl,rfl,True.intro,fun i hi=>rfl,fun i j t hi hn hj ht=>VLe.rfl⟩|exact arX_next _ _ _ _ _ _ (by rw[hs];exact hte)|exact True.intro|exact⟨rfl,rfl,rfl⟩|(refine⟨⟨_,rfl,?_⟩,?_⟩)|exact VRen.vec rfl rfl rfl|(refine⟨Nat.le_refl _,rfl,fun i j hi hj=>?_⟩)|exact VLe.rfl|(refine And.intro ?_ ?_))
     . obtain⟨v1,v2,v3,v4,v5⟩:=upS_next s32 hu;have htz:=tz_ok _ hu hul;have hr:bitI .and .u32 ((upS s b:Nat):Int) ((upS s b:Nat)-1:Int)=((upS s (ctz (upS s b)+1):Nat):Int):=by
        rw[<- v5,show((upS s b:Nat):Int)-1=((upS s b-1:Nat):Int) by omega,bit_and hul (by omega)]
       generalize ctz (upS s b)=v at *;have hvn:=hsn v v3;have hts:=toS_step (p:=p) (g:=g) (c:=c) (k:=rkC p g c) v3;rw[toS_skip v2 v4] at hts;have hbn2:=toS_bnd hp hg hc hn (k:=rkC p g c) (s:=s) (b:=v+1) (by omega) hvn;have hsum:(if 0+i<i then ((rkC p g (stepC p g c (gN cl (0+i))):Nat):Int) else if 0+i=i then toS p g c (rkC p g c) s b else 0)+(if v<g.ids.length then gwK p g c v else if v=g.ids.length then gwS p g c g.ids.length 0 else 0)=toS p g c (rkC p g c) s (v+1):=by
        rw[Nat.zero_add,if_neg (Nat.lt_irrefl _),if_pos rfl,if_pos hvn,hts]
       repeat' ((conv=>whnf);first|(refine Ar.i64 (by rw[hsum];omega) (by rw[hsum];omega) ?_;rw[hsum])|(refine Br.tt ?_)|(refine Br.bne ?_ ?_<;>intro _<;>try omega)|(refine Ar.u32 (by omega) (by omega) ?_)|(refine Sv.mk _ rfl ?_)|(refine Ix.nat (by omega) ?_)|(refine Ltn.mk (by omega) ?_)|(refine htz.gog ?_)|(refine yield_rule mixed rfl rfl ?_))
       all_goals (conv=>whnf)
       refine⟨_,v+1,by omega,⟨rfl,hvn⟩,?_⟩;refine weak_by (fun _ _=>[(0,some 0),(1,some 1),(2,some 2),(3,some 3),(4,some 4),(5,some 5),(6,some 6),(999,some 999)]) ?_ ?_ rfl
       . repeat' (first|exact VRen.yld rfl|exact True.intro|(refine⟨⟨_,rfl,?_⟩,?_⟩)|exact VRen.loc rfl)
       . repeat' (first|exact⟨rfl,rfl,True.intro,fun i hi=>rfl,fun i j t hi hn hj ht=>VLe.rfl⟩|exact VRen.int hr|(refine VRen.fn ?_)|(refine⟨rfl,rfl,rfl,rfl,rfl,?_⟩)|exact arX_to _ _ _ _ _ _ _ (Nat.zero_add _) rfl hj _ _|exact True.intro|exact VRen.oel rfl rfl|exact⟨rfl,rfl,rfl⟩|(refine⟨⟨_,rfl,?_⟩,?_⟩)|exact VRen.kf rfl|exact VRen.loc rfl|exact VRen.vec rfl rfl rfl|(refine⟨Nat.le_refl _,rfl,fun i j hi hj=>?_⟩)|exact VLe.rfl|(refine And.intro ?_ ?_))
   . have ei:i=cl.length:=by omega
     subst ei
     repeat' ((conv=>whnf);first|(refine Br.dec ?_ ?_<;>intro _<;>try omega)|(refine And.intro rfl ?_))
     all_goals (conv=>whnf)
     exact postR_by (fun _=>[(0,some 0),(1,some 2),(999,some 999)]) _ _ ⟨rfl,rfl⟩ (VRen.tup ⟨VRen.kf rfl,VRen.vec rfl rfl rfl,VRen.kf rfl,True.intro⟩) (by repeat' (first|(refine⟨rfl,rfl,True.intro,fun i hi=>rfl,fun i j t hi hn hj ht=>VLe.rfl⟩)|(refine⟨Nat.le_refl _,rfl,fun i j hi hj=>arX_end _ _ _ _ hi⟩)|exact True.intro|exact⟨rfl,rfl,rfl⟩|(refine⟨⟨_,rfl,?_⟩,?_⟩))) rfl
end Go.Proofs.YtobpogkghbakmaaGreatDoor
namespace Go.Proofs.YtobpogkghbakmaaGreatDoor
open Go.Eng Go.Plain
set_option maxRecDepth 100000
set_option linter.unusedVariables false
def arsF (p:Pr) (g:G) (kd:Int) (k:Nat):Nat->Nat->V:=fun i _=>if i<k then arV (arcK p g kd i) else .nilslice
def ensF (p:Pr) (g:G) (k:Nat):Nat->Nat->V:=fun i _=>.int .u32 (if i<k then enN p g (cfK p g i) else 0:Nat)
theorem arsF_zero (p:Pr) (g:G) (kd:Int) (i j:Nat) (hj:j<1):VLe ((fun(_ j:Nat)=>[V.nilslice].getD j default) i j) (arsF p g kd 0 i j):=by
 obtain rfl:j=0:=by omega
 exact VLe.rfl
theorem ensF_zero (p:Pr) (g:G) (i j:Nat) (hj:j<1):VLe ((fun(_ j:Nat)=>[V.int .u32 0].getD j default) i j) (ensF p g 0 i j):=by
 obtain rfl:j=0:=by omega
 exact VLe.rfl
theorem ensF_set (p:Pr) (g:G) (k k' i j:Nat) (hk:k'=k) (hj:j<1):VLe (fset (ensF p g k) k' 0 [.int .u32 (enN p g (cfK p g k))] i j) (ensF p g (k+1) i j):=by
 obtain rfl:j=0:=by omega
 subst hk;apply VLe.of_eq;by_cases h:i=k'
 . subst h;simp[fset,ensF]
 . have h1:(i<k'+1)=(i<k'):=by simp;omega
   simp[fset,ensF,h,h1]
theorem arsF_set (p:Pr) (g:G) (kd:Int) (k k' i j:Nat) (X:V) (hX:VLe X (arV (arcK p g kd k))) (hk:k'=k) (hj:j<1):VLe (fset (arsF p g kd k) k' 0 [X] i j) (arsF p g kd (k+1) i j):=by
 obtain rfl:j=0:=by omega
 subst hk;by_cases h:i=k'
 . subst h;have e1:fset (arsF p g kd i) i 0 [X] i 0=X:=by simp[fset]
   have e2:arsF p g kd (i+1) i 0=arV (arcK p g kd i):=by simp[arsF]
   rw[e1,e2];exact hX
 . apply VLe.of_eq;have h1:(i<k'+1)=(i<k'):=by simp;omega
   simp[fset,arsF,h,h1]
theorem cfK_lo (p:Pr) (g:G) {v x:Nat} (hv:v<g.ids.length) (hx:x<p.vars.length):loP p g v x=cF (cfK p g 0) v x:=by
 show _=gI (gC (cfK p g 0) v) x;rw[cfK_get p g 0 hv hx,dgP,Mx.dg_zero];simp
theorem arcV_le (p:Pr) (g:G) (kd:Int) (k n:Nat) (hn:n=(chs g kd (enN p g (cfK p g k))).1.length):VLe (.fz n 2 false (shiftF 0 (vAr ((chs g kd (enN p g (cfK p g k))).1.map fun s=>(s,rkC p g (stepC p g (cfK p g k) s)))))) (arV (arcK p g kd k)):=by
 refine VLe.fz ?_ (fun h=>h) (fun i j hi hj=>VLe.of_eq (by rw[shiftF_eq,Nat.zero_add];rfl));rw[hn,arcK,List.length_map]
set_option maxHeartbeats 16000000 in
theorem sbuild_ok (p:Pr) (hp:PrOk p) (g:G) (hs:g.Small) (hg:g.valid=true) (kd:Int) (hk:dk kd=true) (hn:cntP p g<=32768) (he:∀c,(chs g kd (enN p g c)).2=0) (ht:(sysP p g kd).tot (cntP p g)<=262144) :
 RG 23 [p.v,g.v,.int .i64 kd] (.tup [(sysP p g kd).v,.int .i64 0]):=by
 obtain⟨f1,f2,f3,f4,f5,f6,f7⟩:=val_facts hg;have hvl:=hp.vlen;have h1:=mCount_ok p hp g hs hg hn;have h2:=dvalid_ok kd;rw[hk] at h2;have h3:=builder_ok p hp g hs hg kd hn;have h4:=mleast_ok p hp g hs hg;refine ret_frzG rfl ?_;refine fn_rule mixed Tryz.func23 rfl hc23 hr23 rfl ?_
 repeat' ((conv=>whnf);first|(refine Br.tt ?_)|(refine Br.ff ?_)|(refine Bd.nat (by omega) ?_)|(refine Len.mk (by omega) ?_)|(refine MkS.vec ?_)|(refine h1.go ?_)|(refine h2.go ?_)|(refine h3.go ?_)|(refine call_by [] [0] (h4.mono ?_) ⟨VRen.kf rfl,VRen.kf rfl,True.intro⟩ True.intro rfl;rintro _ _ _ ⟨rfl,rfl⟩)|(refine Chk.mk rfl ?_))
 all_goals (conv=>whnf)
 refine loop_w mixed [6,10,11,12,56] [] [7,8,9,10,11,12,13,14,15,16,17,18,19,20,21,22,23,24,25,26,27,28,29] [6,5,4,3,2,1,0,999] (fun k:Nat=>[(14,.int .i64 ((sysP p g kd).tot k)),(57,.int .i64 k)]) (fun k=>[(6,famI p g (cF (cfK p g k)) []),(5,.cells [.vec 3 1 0 (cntP p g),.vec 4 1 0 (cntP p g)]),(4,.vec (cntP p g) 1 (arsF p g kd k)),(3,.vec (cntP p g) 1 (ensF p g k)),(2,.cells [.nilslice,.nilslice]),(1,.cells [.fz g.ids.length 1 false (vI g.ids),.fz g.ports.length 1 false (vP g.ports)]),(0,.cells [.str p.nm,p.pg.vs,p.pg.rs]),(999,GB)]) (fun m k=>m=cntP p g-k/\k<=cntP p g) (cntP p g) 0 ⟨rfl,Nat.zero_le _⟩ rfl (fun _=>rfl) ?_ ?_
 . refine weak_by (fun _ _=>[(0,some 0),(1,some 1),(2,some 2),(3,some 3),(4,some 4),(5,some 5),(6,some 6),(999,some 999)]) ?_ ?_ rfl
   . repeat' (first|exact True.intro|(refine⟨⟨_,rfl,?_⟩,?_⟩)|exact VRen.kf rfl|exact VRen.loc rfl|exact VRen.vec rfl rfl rfl)
   . repeat' (first|exact⟨rfl,rfl,True.intro,fun i hi=>rfl,fun i j t hi hn hj ht=>VLe.of_eq (congrArg (V.int .i64) (cfK_lo p g hi hj))⟩|exact arsF_zero _ _ _ _ _ hj|exact ensF_zero _ _ _ _ hj|exact True.intro|exact⟨rfl,rfl,rfl⟩|(refine⟨⟨_,rfl,?_⟩,?_⟩)|exact VRen.kf rfl|exact VRen.vec rfl rfl rfl|(refine⟨Nat.le_refl _,rfl,fun i j hi hj=>?_⟩)|(refine And.intro ?_ ?_))
 rintro m k ⟨hm,hkc⟩;by_cases hkn:k<cntP p g
 . have hst:=state_own p hp g hg kd hk hn (cfK p g k) (cfK_conf hp hg k) (he _);rw[rk_cfK hkn] at hst;have had:=madv_ok p hp g hg k hkn;have htk:=sumA_mono (fun k=>((sysP p g kd).ar k).length) (show k+1<=cntP p g by omega);change (sysP p g kd).tot (k+1)<=(sysP p g kd).tot (cntP p g) at htk;have htn:(sysP p g kd).tot (k+1)=(sysP p g kd).tot k+(chs g kd (enN p g (cfK p g k))).1.length:=by
    show(sysP p g kd).tot k+(arcK p g kd k).length=_;rw[arcK,List.length_map]
   repeat' ((conv=>whnf);first|(refine Br.ff ?_)|(refine Br.dec ?_ ?_<;>intro _<;>try omega)|(refine Ar.i64 (by omega) (by omega) ?_)|(refine Ix.nat (by omega) ?_)|(refine Len.mk (by omega) ?_)|(refine Ltn.mk (by omega) ?_)|(refine call_by [(999,some 999),(0,some 6)] [1] (hst.mono ?_) ⟨VRen.kf rfl,VRen.vec rfl rfl rfl,VRen.kf rfl,True.intro⟩ (by repeat' (first|(refine⟨rfl,rfl,True.intro,fun i hi=>rfl,fun i j t hi hn hj ht=>VLe.rfl⟩)|exact True.intro|exact⟨rfl,rfl,rfl⟩|(refine⟨⟨_,rfl,?_⟩,?_⟩))) rfl;rintro _ _ _ ⟨rfl,rfl⟩)|(refine call_by [(0,some 6)] [] (had.mono ?_) ⟨VRen.kf rfl,VRen.vec rfl rfl rfl,True.intro⟩ (by repeat' (first|(refine⟨rfl,rfl,True.intro,fun i hi=>rfl,fun i j t hi hn hj ht=>VLe.rfl⟩)|exact True.intro|(refine⟨⟨_,rfl,?_⟩,?_⟩))) rfl;rintro _ _ _ ⟨rfl,rfl⟩)|(refine Chk.mk rfl ?_)|(refine And.intro rfl ?_))
   all_goals (conv=>whnf)
   refine⟨_,k+1,by omega,⟨rfl,by omega⟩,?_⟩;refine weak_by (fun _ _=>[(0,some 0),(1,some 1),(2,some 2),(3,some 3),(4,some 4),(5,some 5),(6,some 6),(999,some 999)]) ?_ ?_ rfl
   . repeat' (first|exact True.intro|(refine⟨⟨_,rfl,?_⟩,?_⟩)|exact VRen.kf rfl|exact VRen.int (by omega)|exact VRen.loc rfl|exact VRen.vec rfl rfl rfl)
   . repeat' (first|exact⟨rfl,rfl,True.intro,fun i hi=>rfl,fun i j t hi hn hj ht=>VLe.rfl⟩|exact ensF_set _ _ _ _ _ _ (Nat.zero_add _) hj|exact arsF_set p g kd _ _ _ _ _ (arcV_le p g kd k _ rfl) (Nat.zero_add _) hj|exact True.intro|exact⟨rfl,rfl,rfl⟩|(refine⟨⟨_,rfl,?_⟩,?_⟩)|exact VRen.kf rfl|exact VRen.vec rfl rfl rfl|(refine⟨Nat.le_refl _,rfl,fun i j hi hj=>?_⟩)|(refine And.intro ?_ ?_))
 . have ek:k=cntP p g:=by omega
   subst ek
   repeat' ((conv=>whnf);first|(refine Br.dec ?_ ?_<;>intro _<;>try omega)|(refine Len.mk (by omega) ?_))
   all_goals (conv=>whnf)
   refine VLe.tup ⟨VLe.agg ⟨VLe.fz rfl (fun h=>h) (fun i j hi hj=>VLe.of_eq ?_),VLe.fz rfl (fun h=>h) (fun i j hi hj=>VLe.of_eq ?_),True.intro⟩,VLe.rfl,True.intro⟩
   . rw[shiftF_eq,Nat.zero_add,ensF,if_pos hi];rfl
   . rw[shiftF_eq,Nat.zero_add,arsF,if_pos hi];rfl
end Go.Proofs.YtobpogkghbakmaaGreatDoor
namespace Go.Proofs.YtobpogkghbakmaaGreatDoor
open Go.Eng Go.Plain
set_option maxRecDepth 100000
set_option linter.unusedVariables false
theorem row_pow {sz:Nat->Nat} {m B:Nat}:∀{n:Nat},(∀v,v<n->Mx.pr sz (v*m) m<=B)->Mx.pr sz 0 (n*m)<=B ^ n
 | 0,_=>by simp[Mx.pr]
 | n+1,h=>by
   rw[Nat.add_mul,Nat.one_mul,pr_split,Nat.zero_add,Nat.pow_succ];exact Nat.mul_le_mul (row_pow fun v hv=>h v (by omega)) (h n (by omega))
theorem nodup_len {l:List Nat} {m:Nat} (hn:l.Pairwise (·<·)) (h:∀a∈l,a<m):l.length<=m:=by
 have h1:l.Nodup:=by
  rw[List.nodup_iff_pairwise_ne];exact hn.imp fun {a b} h=>Nat.ne_of_lt h
 have:=List.Nodup.length_le_of_subset h1 (fun a ha=>List.mem_range.2 (h a ha));simpa using this
theorem chs_pow {p:Pr} {g:G} (hg:g.valid=true) {kd:Int} (hk:dk kd=true) (c:Cf):(chs g kd (enN p g c)).1.length<=2 ^ g.ids.length:=by
 have h32:=en_32 p hg c;have hpw:=en_pow p g c;refine nodup_len (chs_sorted h32) fun a ha=>?_;by_cases he:(chs g kd (enN p g c)).2=0
 . have h1:=(chs_mem hk h32 (chs_lt h32 a ha) he).1 ha;obtain⟨_,b,_⟩:=inner_iff.1 h1;exact Nat.lt_of_le_of_lt ((part_iff (chs_lt h32 a ha)).1 b).le hpw
 . rw[(chs_err hk he).2.1] at ha;cases ha
theorem tot_pow {p:Pr} {g:G} (hg:g.valid=true) {kd:Int} (hk:dk kd=true):(sysP p g kd).tot (cntP p g)<=cntP p g*2 ^ g.ids.length:=by
 rw[Tsy.tot];refine sumA_le _ _ (fun k=>?_) _;show(arcK p g kd k).length<=_;rw[arcK,List.length_map];exact chs_pow hg hk _
theorem cnt_pow:∀{n e:Nat},e<2 ^ n->n<=32->cnt e 32<=n:=by
 intro n e h hn;have e1:(32:Nat)=n+(32-n):=by omega
 rw[e1,cnt_add,Nat.shiftRight_eq_div_pow,Nat.div_eq_of_lt h,cnt_zero (fun i _=>Nat.zero_testBit i)];have:=cnt_le e n;omega
theorem chs_fine {p:Pr} {g:G} (hg:g.valid=true) {kd:Int} (hk:dk kd=true) (hn:g.ids.length<=10) (c:Cf):(chs g kd (enN p g c)).2=0:=by
 apply Classical.byContradiction;intro h;have h1:=(chs_err hk h).2.2.1;have h2:=cnt_pow (en_pow p g c) (by omega);omega
end Go.Proofs.YtobpogkghbakmaaGreatDoor
namespace Go.Proofs.YtobpogkghbakmaaGreatDoor
open Go.Eng Go.Plain
set_option maxRecDepth 100000
set_option linter.unusedVariables false
set_option linter.unusedSectionVars false
theorem retp_args {P:Program} {f:FuncId} {args args':List V} {Φ:V->Prop} (hk:allB V.kf args'=true) (hl:LLe args' args) (h:RetP P f args Φ):RetP P f args' Φ:=fun own ks=>by
 constructor;intro M w σ us hlen hd hh;obtain⟨d1,d2⟩:=hl.dens (M:=M) (w:=w) (us:=us) hlen (fun i v u hv hu=>(hd i v u hv hu).kf (allB_mem hk v (List.mem_of_getElem? hv)) Sg.none);exact(h own ks).out M w σ us d1 (fun i v u hv hu=>(d2 i v u hv hu).mono (Ext.mk (fun _ _ h=>⟨h,rfl⟩) (Nat.le_refl _)) (Sg.none_le σ)) hh
def blW (n:Nat) (lg:Nat->Bool):V:=.fz n 1 false (shiftF 0 (vBl lg))
theorem bl_le (n:Nat) (lg:Nat->Bool):VLe (blW n lg) (blV n lg):=VLe.fz rfl (fun h=>h) fun i j hi hj=>VLe.of_eq (by rw[shiftF_eq,Nat.zero_add];rfl)
theorem vle_appL (lg:Nat->Bool) (n m i j:Nat) (hm:m=n) (hi:i<n+1) (hj:j<1) (b:Bool) (F:Nat->Nat->V) (hF:F 0 0=.bool b) (hb:b=lg n):VLe (fapp (shiftF 0 (vBl lg)) m (shiftF 0 F) i j) (vBl lg i j):=by
 obtain rfl:j=0:=by omega
 subst hm;apply VLe.of_eq;by_cases h:i<m
 . rw[fapp_lt h,shiftF_eq,Nat.zero_add]
 . rw[fapp_ge h];have:i=m:=by omega
   subst this;simp[shiftF,hF,vBl,hb]
theorem deg_le {g:G} (hg:g.valid=true) {v:Nat} (hv:v<g.ports.length):(gR g.ports v).length<=g.ports.length:=by
 obtain⟨f1,f2,f3,f4,f5,f6,f7⟩:=val_facts hg;have h:=f6 v hv;rw[okR,Bool.and_eq_true,decide_eq_true_eq] at h;have h1:=List.Nodup.length_le_of_subset (l₂:=(List.range g.ports.length).map Int.ofNat) h.2 (fun a ha=>by
  obtain⟨l,hl,rfl⟩:=List.mem_map.1 ha;have h2:=List.all_eq_true.1 h.1 l hl;simp only[okL,Bool.and_eq_true,decide_eq_true_eq] at h2;exact List.mem_map.2 ⟨l.1.toNat,List.mem_range.2 (by omega),by simp;omega⟩)
 simpa using h1
theorem cnt_rows {p:Pr} {g:G} {B:Nat} (h:∀v,v<g.ids.length->Mx.pr (szP p g) (v*p.vars.length) p.vars.length<=B):cntP p g<=B ^ g.ids.length:=row_pow h
section
variable {p:Pr} (hp:PrOk p) {g:G} (hs:g.Small) (hg:g.valid=true) {kd:Int} (hk:dk kd=true) {leg:Cf->Bool} {R M:Int} {Inv:Cf->Cnt->Prop} (hS:Srv p g kd leg R M Inv)
 (h10:g.ids.length<=10) (hN:cntP p g<=32768) (hNm:cntP p g*2 ^ g.ids.length<=262144)
include hp hs hg hk h10 hN hNm
theorem whole_build:RG 23 [p.v,g.v,.int .i64 kd] (.tup [(sysP p g kd).v,.int .i64 0]) :=
 sbuild_ok p hp g hs hg kd hk hN (chs_fine hg hk h10) (Nat.le_trans (tot_pow hg hk) hNm)
theorem whole_ok:(sysP p g kd).Ok:=sys_ok hp hg hk hN (chs_fine hg hk h10) (Nat.le_trans (tot_pow hg hk) hNm)
include hS
theorem whole_rounds (hR:0<=R):RetP Tryz.prog 26 [(sysP p g kd).v,blW (cntP p g) (legK p g leg)] fun v=>∃r:Nat->Nat,(∀k,k<cntP p g->(r k:Int)<=R)/\v=.tup [inV (cntP p g) r,.int .i64 0]:=by
 have h:=rounds_ok (sysP p g kd) (whole_ok hp hs hg hk h10 hN hNm) (legK p g leg) (fun L hL=>sys_all hp hg hk hS (chs_fine hg hk h10) hL) (2 ^ g.ids.length) (fun k _=>en_pow p g _) hNm (RdOk p g R Inv) (sys_rq hp hg hk hS (chs_fine hg hk h10));refine retp_args (args:=[(sysP p g kd).v,blV (cntP p g) (legK p g leg)]) rfl ⟨VLe.rfl,bl_le _ _,True.intro⟩ (fun own ks=>(h own ks).mono ?_);rintro _ _ _ ⟨⟨r,h1,h2,rfl⟩,rfl,rfl⟩;refine⟨⟨r,fun k hk'=>?_,rfl⟩,rfl,rfl⟩;cases e:legK p g leg k with
 | true=>have:=h1 k hk' e;omega
 | false=>exact rd_end hp hg hS e (h2 k hk' e)
theorem whole_moves:RetP Tryz.prog 25 [(sysP p g kd).v,blW (cntP p g) (legK p g leg)] fun v=>∃r:Nat->Nat,(0<=M->∀k,k<cntP p g->(r k:Int)<=M)/\v=.tup [inV (cntP p g) r,.int .i64 0]:=by
 have h:=moves_ok (sysP p g kd) (whole_ok hp hs hg hk h10 hN hNm) (legK p g leg) (fun L hL=>sys_all hp hg hk hS (chs_fine hg hk h10) hL) (MvOk p g M Inv) (sys_mq hp hg hk hS (chs_fine hg hk h10));refine retp_args (args:=[(sysP p g kd).v,blV (cntP p g) (legK p g leg)]) rfl ⟨VLe.rfl,bl_le _ _,True.intro⟩ (fun own ks=>(h own ks).mono ?_);rintro _ _ _ ⟨⟨r,h1,h2,rfl⟩,rfl,rfl⟩;refine⟨⟨r,fun hM k hk'=>?_,rfl⟩,rfl,rfl⟩;cases e:legK p g leg k with
 | true=>have:=h1 k hk' e;omega
 | false=>exact mv_end hp hg hS e (h2 k hk' e) hM
end
end Go.Proofs.YtobpogkghbakmaaGreatDoor
