import Derived.Test.YtobpogkghbakmaaGreatDoorEvB
import Derived.Test.YtobpogkghbakmaaGreatDoorBMK
import Derived.Test.YtobpogkghbakmaaGreatDoorAW3
import Derived.Test.YtobpogkghbakmaaGreatDoorWH0
namespace Go.Proofs.YtobpogkghbakmaaGreatDoor
open Go.Eng Go.Plain
set_option maxRecDepth 100000
set_option linter.unusedVariables false
theorem bfs_cnt {g:G} (hg:g.valid=true) (h:g.ids.length<=3):cntP pBfs g<=4096:=by
 obtain⟨f1,f2,f3,f4,f5,f6,f7⟩:=val_facts hg;refine Nat.le_trans (cnt_rows (B:=16) fun v hv=>?_) (Nat.pow_le_pow_right (n:=16) (by omega) h);show szP pBfs g (v*2)*(szP pBfs g (v*2+1)*1)<=16;have e:=szP_ix pBfs g (v:=v) (x:=0) (show 0<2 by omega);have e1:=szP_ix pBfs g (v:=v) (x:=1) (show 1<2 by omega);change szP pBfs g (v*2+0)=_ at e;change szP pBfs g (v*2+1)=_ at e1;rw[Nat.add_zero] at e;have hd:=deg_le hg (v:=v) (by omega);rw[Nat.mul_one,e,e1];have a:szX pBfs g v 0=((0+1*(g.ids.length:Int)+0*topI g)-0).toNat+1:=rfl;have b:szX pBfs g v 1=(((gR g.ports v).length:Int)-1 - -1).toNat+1:=rfl;rw[a,b];exact Nat.le_trans (Nat.mul_le_mul (show _<=4 by omega) (show _<=4 by omega)) (by decide)
set_option maxHeartbeats 16000000 in
theorem tknown_ok {g:G} (hs:g.Small) (hgc:g.conn=true) (hlen:g.ids.length<=3) (kd:Int) (hk:dk kd=true) :
 RG 9 [pBfs.v,g.v,.int .i64 kd,.int .i64 (-1),.int .i64 (g.ecc+1)] (.bool true):=by
 have hg:=(conn_facts hgc).1;obtain⟨f1,f2,f3,f4,f5,f6,f7⟩:=val_facts hg;obtain⟨hec1,hec2⟩:=ecc_range g hgc;have h10:g.ids.length<=10:=by omega
 have hcn:=bfs_cnt hg hlen;have hpw:2 ^ g.ids.length<=8:=Nat.pow_le_pow_right (n:=2) (by omega) hlen;have hN:cntP pBfs g<=32768:=by omega
 have hNm:cntP pBfs g*2 ^ g.ids.length<=262144:=Nat.le_trans (Nat.mul_le_mul hcn hpw) (by decide);have hprk:=bfs_prOk;have hS:=bfs_srv hprk hgc hlen kd;have hb:=whole_build hprk hs hg (kd:=kd) hk h10 hN hNm;have hv:=valid18_ok (sysP pBfs g kd) (whole_ok hprk hs hg hk h10 hN hNm);have hro:=whole_rounds hprk hs hg (kd:=kd) hk hS h10 hN hNm (by omega);have hmo:=whole_moves hprk hs hg (kd:=kd) hk hS h10 hN hNm;have hpos:=cntP_pos pBfs g;have hsn:(sysP pBfs g kd).n=cntP pBfs g:=rfl;have hen:∀i,(sysP pBfs g kd).en i=enN pBfs g (cfK pBfs g i):=fun i=>rfl;generalize g.ecc+1=R at *;refine ret_frzG rfl ?_;refine call_sem Tryz.func9 rfl hc9 hr9 rfl ?_;refine sem_seq (sem_vc mixed ?_)
 repeat' ((conv=>whnf);first|fail)
 all_goals (conv=>whnf)
 refine sem_seq (sem_vc mixed ?_)
 repeat' ((conv=>whnf);first|(refine hb.gog ?_))
 all_goals (conv=>whnf)
 refine sem_seq (sem_vc mixed ?_)
 repeat' ((conv=>whnf);first|(refine Br.tt ?_)|(refine Br.ff ?_)|(refine hv.go ?_))
 all_goals (conv=>whnf)
 refine sem_seq (sem_vc mixed ?_)
 repeat' ((conv=>whnf);first|fail)
 all_goals (conv=>whnf)
 refine sem_seq (sem_vc mixed ?_)
 repeat' ((conv=>whnf);first|fail)
 all_goals (conv=>whnf)
 refine loop_u mixed [3,4,11] [3] [4,5,6,7,8,9,10,11,12,13,14,15,16,17,18,19,20,21,22,23,24,25,26,27,28,29] [3,2,1,0,999] (fun i:Nat=>[(13,.vec 3 1 0 i),(14,.int .i64 i)]) (fun own i=>(3,.vec i 1 (vBl (legK pBfs g (bleg g))))::own) (fun m i=>m=cntP pBfs g-i/\i<=cntP pBfs g) (cntP pBfs g) 0 ⟨rfl,Nat.zero_le _⟩ rfl (fun _=>rfl) ?_ ?_
 . exact weak_b (fun _ _=>[(0,some 0),(1,some 1),(2,some 2),(3,none),(999,some 999)])
 rintro m q ⟨hm,hi⟩;by_cases hil:q<cntP pBfs g
 . have hq:=hen q;have hlt:enN pBfs g (cfK pBfs g q)=0->true=legK pBfs g (bleg g) q:=fun h=>(decide_eq_true h).symm;have hlf:enN pBfs g (cfK pBfs g q)≠0->false=legK pBfs g (bleg g) q:=fun h=>(decide_eq_false h).symm
   repeat' ((conv=>whnf);first|(refine Br.dec ?_ ?_<;>intro _<;>try omega)|(refine Br.nbeq ?_ ?_<;>intro _<;>try omega)|(refine Ar.i64 (by omega) (by omega) ?_)|(refine Ix.nat (by omega) ?_)|(refine Len.mk (by omega) ?_))
   all_goals (conv=>whnf)
   all_goals
    refine⟨cntP pBfs g-(q+1),q+1,by omega,⟨rfl,by omega⟩,?_⟩;refine weak_by (fun env own=>[(0,some 0),(1,some 1),(2,some 2),(3,ekey env 13),(999,some 999)]) ?_ ?_ rfl
    . repeat' (first|exact True.intro|(refine⟨⟨_,rfl,?_⟩,?_⟩)|exact VRen.kf rfl|exact VRen.loc rfl|exact VRen.vec rfl rfl rfl)
    . repeat' (first|exact vle_appL _ _ _ _ _ rfl hi hj _ _ (by rfl) (by first|exact hlt (by omega)|exact hlf (by omega))|exact True.intro|exact⟨rfl,rfl,rfl⟩|(refine⟨⟨_,rfl,?_⟩,?_⟩)|exact VRen.kf rfl|(refine⟨Nat.le_refl _,rfl,fun i j hi hj=>?_⟩)|(refine And.intro ?_ ?_))
 have ei:q=cntP pBfs g:=by omega
 subst ei
 repeat' ((conv=>whnf);first|(refine Br.dec ?_ ?_<;>intro _<;>try omega))
 all_goals (conv=>whnf)
 refine sem_frz 13 (v':=blW (cntP pBfs g) (legK pBfs g (bleg g))) rfl (by(conv=>whnf);exact⟨by omega,rfl,rfl⟩) (sem_vc mixed ?_)
 repeat' ((conv=>whnf);first|(refine Br.ff ?_)|(refine Br.bne ?_ ?_<;>intro _<;>try omega)|(refine hro.go ?_;rintro _ ⟨r,hr,rfl⟩)|(refine hmo.go ?_;rintro _ ⟨t,ht,rfl⟩))
 all_goals (conv=>whnf)
 refine loop_r mixed [3,4,13,15,17] (fun i:Nat=>[(19,.int .i64 i)]) (fun m i=>m=cntP pBfs g-i/\i<=cntP pBfs g) (cntP pBfs g) 0 ⟨rfl,Nat.zero_le _⟩ ?_ ?_
 . exact weak_b (fun _ _=>[(0,some 0),(1,some 1),(2,some 2),(999,some 999)])
 rintro m i ⟨hm,hi⟩;by_cases hil:i<cntP pBfs g
 . have hri:=hr i hil
   repeat' ((conv=>whnf);first|(refine Br.ff ?_)|(refine Br.dec ?_ ?_<;>intro _<;>try omega)|(refine Ar.i64 (by omega) (by omega) ?_)|(refine Ix.nat (by omega) ?_))
   all_goals (conv=>whnf)
   all_goals
    refine⟨cntP pBfs g-(i+1),i+1,by omega,⟨rfl,by omega⟩,?_⟩;exact weak_b (fun _ _=>[(0,some 0),(1,some 1),(2,some 2),(999,some 999)])
 repeat' ((conv=>whnf);first|(refine Br.dec ?_ ?_<;>intro _<;>try omega))
 all_goals (conv=>whnf)
 all_goals exact VLe.rfl
theorem txtT_eq:txtT=ByteArray.mk (Array.mk [112,114,111,103,114,97,109,32,98,102,115,59,32,118,97,114,32,100,32,58,32,48,32,46,46,32,110,59,32,118,97,114,32,112,32,58,32,112,111,114,116,59,32,114,117,108,101,32,116,111,112,58,32,114,111,111,116,32,38,38,32,40,100,32,33,61,32,48,32,124,124,32,112,32,33,61,32,110,111,110,101,41,32,45,62,32,100,32,58,61,32,48,44,32,112,32,58,61,32,110,111,110,101,59,32,114,117,108,101,32,108,111,119,58,32,33,114,111,111,116,32,38,38,32,40,100,32,33,61,32,40,109,105,110,40,113,46,100,41,32,60,32,110,32,63,32,109,105,110,40,113,46,100,41,32,43,32,49,32,58,32,110,41,32,124,124,32,112,32,33,61,32,102,105,114,115,116,40,113,46,100,32,61,61,32,109,105,110,40,113,46,100,41,41,41,32,45,62,32,100,32,58,61,32,109,105,110,40,113,46,100,41,32,60,32,110,32,63,32,109,105,110,40,113,46,100,41,32,43,32,49,32,58,32,110,44,32,112,32,58,61,32,102,105,114,115,116,40,113,46,100,32,61,61,32,109,105,110,40,113,46,100,41,41,59]):=by kernel_rfl
set_option maxHeartbeats 16000000 in
theorem lawTTrees (g:G) (hs:g.Small) (k:Int) (hk:-9223372036854775808<=k/\k<=9223372036854775807):RG 3 [g.v,.int .i64 k] (.bool true):=by
 have hl:=light_ok g hs;have hv:=rvalid_ok g hs;have hc:=rconn_ok g hs;have ha:=awake_ok;have hp:=parseT_ok2;rw[txtT_eq] at hp;have hm:=mod4_ok k hk;have he:=ecc_ok g hs;obtain⟨r1,r2⟩:=md4_range k;refine ret_frzG rfl ?_;refine fn_rule mixed Tryz.func3 rfl hc3 hr3 rfl ?_;cases el:lightG g with
 | false =>
   rw[el] at hl
   repeat' ((conv=>whnf);first|(refine Br.tt ?_)|(refine Br.ff ?_)|(refine hl.go ?_)|(refine ha.gog ?_))
   all_goals (conv=>whnf)
   all_goals exact VLe.rfl
 | true =>
   rw[el] at hl;cases ev:g.valid with
   | false =>
     rw[ev] at hv
     repeat' ((conv=>whnf);first|(refine Br.tt ?_)|(refine Br.ff ?_)|(refine hl.go ?_)|(refine hv.go ?_)|(refine ha.gog ?_))
     all_goals (conv=>whnf)
     all_goals exact VLe.rfl
   | true =>
     rw[ev] at hv;obtain⟨f1,f2,f3,f4,f5,f6,f7⟩:=val_facts ev;by_cases e3:g.ports.length<=3
     . cases ec:g.conn with
       | false =>
         rw[ec] at hc
         repeat' ((conv=>whnf);first|(refine Br.tt ?_)|(refine Br.ff ?_)|(refine Br.dec ?_ ?_<;>intro _<;>try omega)|(refine hl.go ?_)|(refine hv.go ?_)|(refine hc.go ?_)|(refine ha.gog ?_))
         all_goals (conv=>whnf)
         all_goals exact VLe.rfl
       | true =>
         rw[ec] at hc;have hkn:=tknown_ok hs ec (by omega) (1+md4 k) (by
          rcases (show md4 k=0\/md4 k=1\/md4 k=2\/md4 k=3 by omega) with e|e|e|e<;>rw[e]<;>decide)
         obtain⟨e1,e2⟩:=ecc_range g ec;generalize md4 k=q at *
         repeat' ((conv=>whnf);first|(refine Br.tt ?_)|(refine Br.dec ?_ ?_<;>intro _<;>try omega)|(refine Ar.i64 (by omega) (by omega) ?_)|(refine hl.go ?_)|(refine hv.go ?_)|(refine hc.go ?_)|(refine ha.gog ?_)|(refine hp.go ?_)|(refine hm.go ?_)|(refine he.go ?_)|(refine hkn.gog ?_)|(refine And.intro rfl ?_))
         all_goals (conv=>whnf)
         all_goals exact VLe.rfl
     . repeat' ((conv=>whnf);first|(refine Br.tt ?_)|(refine Br.dec ?_ ?_<;>intro _<;>try omega)|(refine hl.go ?_)|(refine hv.go ?_)|(refine ha.gog ?_))
       all_goals (conv=>whnf)
       all_goals exact VLe.rfl
end Go.Proofs.YtobpogkghbakmaaGreatDoor
