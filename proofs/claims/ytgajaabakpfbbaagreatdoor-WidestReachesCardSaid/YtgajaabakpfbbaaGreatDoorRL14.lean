import Derived.Test.YtgajaabakpfbbaaGreatDoorTabB
import Derived.KernelRfl
import Derived.Test.YtgajaabakpfbbaaGreatDoorGC1
import Derived.Test.YtgajaabakpfbbaaGreatDoorDN11
import Derived.Test.YtgajaabakpfbbaaGreatDoorEvG
import Derived.Test.YtgajaabakpfbbaaGreatDoorEvC
import Derived.Test.YtgajaabakpfbbaaGreatDoorRB1
namespace Go.Proofs.YtgajaabakpfbbaaGreatDoor
open Go.Eng
set_option maxRecDepth 100000
theorem ev_parse:evX tp 10000 100 58 [textC] = some progC:=by kernel_rfl
end Go.Proofs.YtgajaabakpfbbaaGreatDoor
namespace Go.Proofs.YtgajaabakpfbbaaGreatDoor
open Go.Eng
set_option maxRecDepth 100000
set_option linter.unusedVariables false
def cfgE (g:G) (vs:List Vr) (raw:List Int) (v i:Nat):Int:=(bV g vs v i).1 + J0A (gI raw (v * vs.length + i)) ((bV g vs v i).2 - (bV g vs v i).1 + 1)
def cfgR (g:G) (vs:List Vr) (raw:List Int) (v k:Nat):List Int:=(List.range k).map (cfgE g vs raw v)
def cfgC (g:G) (vs:List Vr) (raw:List Int) (k:Nat):Cf:=(List.range k).map fun v=>cfgR g vs raw v vs.length
def cfg (g:G) (vs:List Vr) (raw:List Int):Cf:=cfgC g vs raw g.ports.length
theorem cfgR_len (g:G) (vs:List Vr) (raw:List Int) (v k:Nat):(cfgR g vs raw v k).length = k:=by simp [cfgR]
theorem cfgC_len (g:G) (vs:List Vr) (raw:List Int) (k:Nat):(cfgC g vs raw k).length = k:=by simp [cfgC]
theorem cfgR_succ (g:G) (vs:List Vr) (raw:List Int) (v k:Nat):cfgR g vs raw v (k + 1) = cfgR g vs raw v k ++ [cfgE g vs raw v k]:=by simp [cfgR,List.range_succ]
theorem cfgC_succ (g:G) (vs:List Vr) (raw:List Int) (k:Nat):cfgC g vs raw (k + 1) = cfgC g vs raw k ++ [cfgR g vs raw k vs.length]:=by simp [cfgC,List.range_succ]
theorem gC_snoc (c:Cf) (r:List Int) (i:Nat):gC (c ++ [r]) i = if i < c.length then gC c i else if i = c.length then r else []:=by
 by_cases h:i < c.length
 . simp only [gC,List.getD,List.getElem?_append_left h,if_pos h]
 . rw [if_neg h];by_cases h2:i = c.length
   . subst h2;simp [gC]
   . simp [gC,h2,List.getElem?_eq_none (by simp;omega:(c ++ [r]).length≤i)]
theorem vle_appC (c:Cf) (r:List Int) (n m:Nat) (hn:c.length = n) (hr:r.length = m) (F:Nat→Nat→V) (hF:F 0 0 = .fz m 1 false (J0k 0 (vI r))) (i j:Nat) (hi:i < n + 1) (hj:j < 1) :
 VLe (J3Y (J0k 0 (vC c)) n F i j) (vC (c ++ [r]) i j):=by
 subst hn hr;obtain rfl:j = 0:=by omega
 by_cases h:i < c.length
 . rw [J1h h];apply VLe.of_eq;simp only [J0k,vC,gC_snoc,if_pos h]
 . rw [J1i h];have:i = c.length:=by omega
   subst this;rw [Nat.sub_self,hF];simp only [vC,gC_snoc,Nat.lt_irrefl,if_false,if_true];exact VLe.fz rfl (fun h=>h) (fun i j hi hj=>VLe.of_eq (by simp [J0k]))
theorem J6x {a b A B:Int} (h0:0≤a) (h1:a≤A) (h2:0≤b) (h3:b≤B):0≤a * b∧a * b≤A * B :=
 ⟨Int.mul_nonneg h0 h2,Int.mul_le_mul h1 h3 h2 (by omega)⟩
set_option maxHeartbeats 16000000 in
theorem config_ok (g:G) (hg:g.valid = true) (vs:List Vr) (hv:VOk vs) (hlo:∀ x,0≤(gV vs x).lo∧(gV vs x).lo≤1000) (raw:List Int) (hraw:raw.length≤9223372036854775807) :
 Ret Tryz.prog 17 [g.v,.fz vs.length 6 false (vV vs),.fz raw.length 1 false (vI raw)] (cV (cfg g vs raw)):=by
 obtain ⟨f1,f2,f3,f4,f5,f6,f7⟩:=J0e hg;have htop0:=J3p g.ids 0;have htop1:=maxL_le g.ids 0 255 (by omega) (fun a ha=>(f4 a ha).2);have hvl:=hv.len;refine J0f rfl ?_;refine J0b J0a Tryz.func17 rfl hc17 hr17 rfl ?_
 repeat' ((conv=>whnf);first | fail)
 all_goals (conv=>whnf)
 refine J0M J0a [1,2,3,7] (fun i:Nat=>[(8,.int .i64 (J1V (g.ids.take i) 0)),(9,.int .i64 i)]) (fun m i=>m = g.ports.length - i∧i≤g.ports.length) g.ports.length 0 ⟨rfl,Nat.zero_le _⟩ ?_ ?_
 . exact J0j (fun _ _=>[(0,some 0)])
 rintro m i ⟨hm,hi⟩
 repeat' ((conv=>whnf);first | (refine Br.dec ?_ ?_ <;> intro _ <;> try omega) | (refine Ar.i64 (by omega) (by omega) ?_) | (refine Sv.mk _ rfl ?_) | (refine Ix.nat (by omega) ?_))
 all_goals (conv=>whnf)
 all_goals try
  (refine ⟨g.ports.length - (i + 1),i + 1,by omega,⟨rfl,by omega⟩,?_⟩
   simp only [J0V g.ids i (by omega),J3o];refine J0g (fun _ _=>[(0,some 0)]) ?_ ?_ rfl
   . repeat' (first | exact J0d.int (by split <;> omega) | exact True.intro | (refine ⟨⟨_,rfl,?_⟩,?_⟩) | exact J0d.kf rfl | exact J0d.loc rfl)
   . repeat' (first | exact True.intro | (refine ⟨⟨_,rfl,?_⟩,?_⟩) | exact J0d.kf rfl | (refine And.intro ?_ ?_)))
 have hti:g.ids.take i = g.ids:=List.take_of_length_le (by omega);simp only [hti];clear hti hm hi;generalize htop:J1V g.ids 0 = top at *;refine J0Q J0a [1,2,3,7,8] [1] [2,3,4,5,6,7,8,9,10,11,12,13,14,15,16,17,18,19,20,21,22,23,24,25,26,27,28,29] [1,0] (fun v:Nat=>[(10,.vec 1 1 0 v),(11,.int .i64 v)]) (fun own v=>(1,.vec v 1 (vC (cfgC g vs raw v))) :: own) (fun m v=>m = g.ports.length - v∧v≤g.ports.length) g.ports.length 0 ⟨rfl,Nat.zero_le _⟩ rfl (fun _=>rfl) ?_ ?_
 . exact J0j (fun _ _=>[(0,some 0),(1,none)])
 rintro m v ⟨hm,hvn⟩;have hcl:=cfgC_len g vs raw v
 repeat' ((conv=>whnf);first | (refine Br.dec ?_ ?_ <;> intro _ <;> try omega) | (refine Len.mk (by omega) ?_))
 all_goals (conv=>whnf)
 . refine J0Q J0a [1,2,3,7,8,10,11] [2] [3,4,5,6,7,8,9,10,11,12,13,14,15,16,17,18,19,20,21,22,23,24,25,26,27,28,29] [2,1,0] (fun i:Nat=>[(12,.vec 2 1 0 i),(13,.int .i64 i)]) (fun own i=>(2,.vec i 1 (vI (cfgR g vs raw v i))) :: own) (fun m i=>m = vs.length - i∧i≤vs.length) vs.length 0 ⟨rfl,Nat.zero_le _⟩ rfl (fun _=>rfl) ?_ ?_
   . exact J0j (fun _ _=>[(0,some 0),(1,some 1),(2,none)])
   rintro m i ⟨hm2,hi⟩;have hrl:=cfgR_len g vs raw v i;by_cases hil:i < vs.length
   . obtain ⟨b1,b2,b3,b4,b5,b6⟩:=hv.b i;obtain ⟨l1,l2⟩:=hlo i;have m1:=J6x b3 b4 (show (0:Int)≤g.ports.length by omega) (show (g.ports.length:Int)≤24 by omega);have m2:=J6x b5 b6 (show (0:Int)≤top by omega) (show top≤255 by omega);have m3:=J6x (show (0:Int)≤v by omega) (show (v:Int)≤24 by omega) (show (0:Int)≤vs.length by omega) (show (vs.length:Int)≤1000 by omega);have hrow:=J6t (show v < g.ports.length by omega) (f6 v (by omega));have hat:=at_ok raw hraw (v * vs.length + i);have e1:((v * vs.length + i:Nat):Int) = (v:Int) * vs.length + i:=by rw [Int.natCast_add,Int.natCast_mul]
     rw [e1] at hat;have hE:cfgE g vs raw v i = (bV g vs v i).1 + J0A (gI raw (v * vs.length + i)) ((bV g vs v i).2 - (bV g vs v i).1 + 1):=rfl;generalize gI raw (v * vs.length + i) = q at *;have hsn:=cfgR_succ g vs raw v i;generalize cfgE g vs raw v i = E at *;generalize hp1:(gV vs i).pn * (g.ports.length:Int) = P1 at *;generalize hp2:(gV vs i).pid * top = P2 at *;generalize hp3:(v:Int) * (vs.length:Int) = P3 at *;by_cases k2:(gV vs i).kind = 2
     . have hb:bV g vs v i = (0,1):=by rw [bV,if_pos k2]
       rw [hb] at hE;have hw:=J1v q (1 - 0 + 1) (by omega);have hwr:=J0p q (b:=1 - 0 + 1) (by omega);simp only at hE;generalize J0A q (1 - 0 + 1) = W at *
       repeat' ((conv=>whnf);first | (refine Ar.mk P1 (by rw [hp1];exact (J03 (by omega) (by omega)).symm) ?_) | (refine Ar.mk P2 (by rw [hp2];exact (J03 (by omega) (by omega)).symm) ?_) | (refine Ar.mk P3 (by rw [hp3];exact (J03 (by omega) (by omega)).symm) ?_) | (refine Br.dec ?_ ?_ <;> intro _ <;> try omega) | (refine Br.nbeq ?_ ?_ <;> intro _ <;> try omega) | (refine Ar.i64 (by omega) (by omega) ?_) | (refine Ix.nat (by omega) ?_) | (refine Len.mk (by omega) ?_) | (refine hat.go ?_) | (refine hw.go ?_) | (refine And.intro rfl ?_))
       all_goals (conv=>whnf)
       all_goals
        refine ⟨vs.length - (i + 1),i + 1,by omega,⟨rfl,by omega⟩,?_⟩;simp only [hsn];refine J0g (fun env own=>[(0,some 0),(1,some 1),(2,ekey env 12)]) ?_ ?_ rfl
        . repeat' (first | exact True.intro | (refine ⟨⟨_,rfl,?_⟩,?_⟩) | exact J0d.kf rfl | exact J0d.loc rfl | exact J0d.vec rfl rfl rfl)
        . repeat' (first | (refine ⟨Nat.le_refl _,rfl,fun i j hi hj=>?_⟩) | (rw [hE];exact J5G _ _ _ hrl _ _ hi hj) | exact True.intro | (refine ⟨⟨_,rfl,?_⟩,?_⟩) | exact J0d.kf rfl | exact VLe.rfl | (refine And.intro ?_ ?_))
     . by_cases k3:(gV vs i).kind = 3
       . have hb:bV g vs v i = (-1,((gR g.ports v).length:Int) - 1):=by rw [bV,if_neg k2,if_pos k3]
         rw [hb] at hE;have hw:=J1v q (((gR g.ports v).length:Int) - 1 - (-1) + 1) (by omega);have hwr:=J0p q (b:=((gR g.ports v).length:Int) - 1 - (-1) + 1) (by omega);simp only at hE;generalize J0A q (((gR g.ports v).length:Int) - 1 - (-1) + 1) = W at *
         repeat' ((conv=>whnf);first | (refine Ar.mk P1 (by rw [hp1];exact (J03 (by omega) (by omega)).symm) ?_) | (refine Ar.mk P2 (by rw [hp2];exact (J03 (by omega) (by omega)).symm) ?_) | (refine Ar.mk P3 (by rw [hp3];exact (J03 (by omega) (by omega)).symm) ?_) | (refine Br.dec ?_ ?_ <;> intro _ <;> try omega) | (refine Br.nbeq ?_ ?_ <;> intro _ <;> try omega) | (refine Ar.i64 (by omega) (by omega) ?_) | (refine Ix.nat (by omega) ?_) | (refine Len.mk (by omega) ?_) | (refine hat.go ?_) | (refine hw.go ?_) | (refine And.intro rfl ?_))
         all_goals (conv=>whnf)
         all_goals
          refine ⟨vs.length - (i + 1),i + 1,by omega,⟨rfl,by omega⟩,?_⟩;simp only [hsn];refine J0g (fun env own=>[(0,some 0),(1,some 1),(2,ekey env 12)]) ?_ ?_ rfl
          . repeat' (first | exact True.intro | (refine ⟨⟨_,rfl,?_⟩,?_⟩) | exact J0d.kf rfl | exact J0d.loc rfl | exact J0d.vec rfl rfl rfl)
          . repeat' (first | (refine ⟨Nat.le_refl _,rfl,fun i j hi hj=>?_⟩) | (rw [hE];exact J5G _ _ _ hrl _ _ hi hj) | exact True.intro | (refine ⟨⟨_,rfl,?_⟩,?_⟩) | exact J0d.kf rfl | exact VLe.rfl | (refine And.intro ?_ ?_))
       . have hb:bV g vs v i = ((gV vs i).lo,(gV vs i).hi + P1 + P2):=by rw [bV,if_neg k2,if_neg k3,hp1,htop,hp2]
         rw [hb] at hE;have hw:=J1v q ((gV vs i).hi + P1 + P2 - (gV vs i).lo + 1) (by omega);have hwr:-1≤J0A q ((gV vs i).hi + P1 + P2 - (gV vs i).lo + 1)∧J0A q ((gV vs i).hi + P1 + P2 - (gV vs i).lo + 1)≤1000000:=by
          by_cases h:1≤(gV vs i).hi + P1 + P2 - (gV vs i).lo + 1
          . have:=J0p q h;omega
          . rw [J0A,if_pos (by omega)];omega
         simp only at hE;generalize J0A q ((gV vs i).hi + P1 + P2 - (gV vs i).lo + 1) = W at *
         repeat' ((conv=>whnf);first | (refine Ar.mk P1 (by rw [hp1];exact (J03 (by omega) (by omega)).symm) ?_) | (refine Ar.mk P2 (by rw [hp2];exact (J03 (by omega) (by omega)).symm) ?_) | (refine Ar.mk P3 (by rw [hp3];exact (J03 (by omega) (by omega)).symm) ?_) | (refine Br.dec ?_ ?_ <;> intro _ <;> try omega) | (refine Br.nbeq ?_ ?_ <;> intro _ <;> try omega) | (refine Ar.i64 (by omega) (by omega) ?_) | (refine Ix.nat (by omega) ?_) | (refine Len.mk (by omega) ?_) | (refine hat.go ?_) | (refine hw.go ?_) | (refine And.intro rfl ?_))
         all_goals (conv=>whnf)
         all_goals
          refine ⟨vs.length - (i + 1),i + 1,by omega,⟨rfl,by omega⟩,?_⟩;simp only [hsn];refine J0g (fun env own=>[(0,some 0),(1,some 1),(2,ekey env 12)]) ?_ ?_ rfl
          . repeat' (first | exact True.intro | (refine ⟨⟨_,rfl,?_⟩,?_⟩) | exact J0d.kf rfl | exact J0d.loc rfl | exact J0d.vec rfl rfl rfl)
          . repeat' (first | (refine ⟨Nat.le_refl _,rfl,fun i j hi hj=>?_⟩) | (rw [hE];exact J5G _ _ _ hrl _ _ hi hj) | exact True.intro | (refine ⟨⟨_,rfl,?_⟩,?_⟩) | exact J0d.kf rfl | exact VLe.rfl | (refine And.intro ?_ ?_))
   . have ei:i = vs.length:=by omega
     subst ei;have hsc:=cfgC_succ g vs raw v
     repeat' ((conv=>whnf);first | (refine Br.dec ?_ ?_ <;> intro _ <;> try omega) | (refine Br.nbeq ?_ ?_ <;> intro _ <;> try omega) | (refine Ar.i64 (by omega) (by omega) ?_) | (refine Len.mk (by omega) ?_))
     all_goals (conv=>whnf)
     all_goals
      refine ⟨g.ports.length - (v + 1),v + 1,by omega,⟨rfl,by omega⟩,?_⟩;simp only [hsc];refine J0g (fun env own=>[(0,some 0),(1,ekey env 10)]) ?_ ?_ rfl
      . repeat' (first | exact True.intro | (refine ⟨⟨_,rfl,?_⟩,?_⟩) | exact J0d.kf rfl | exact J0d.loc rfl | exact J0d.vec rfl rfl rfl)
      . repeat' (first | (refine ⟨Nat.le_refl _,rfl,fun i j hi hj=>?_⟩) | exact vle_appC _ _ _ _ hcl hrl _ rfl _ _ hi hj | exact True.intro | (refine ⟨⟨_,rfl,?_⟩,?_⟩) | exact J0d.kf rfl | (refine And.intro ?_ ?_))
 . have e:v = g.ports.length:=by omega
   subst e;refine VLe.fz hcl.symm (fun h=>h) (fun i j hi hj=>VLe.of_eq ?_);simp [J0k,cfg]
theorem ret_args {P:Program} {f:FuncId} {args args':List V} {X:V} (hk:J2u V.kf args' = true) (hl:LLe args' args) (h:Ret P f args X):Ret P f args' X:=fun own ks=>by
 constructor;intro M w σ us hlen hd hh;obtain ⟨d1,d2⟩:=hl.dens (M:=M) (w:=w) (us:=us) hlen (fun i v u hv hu=>(hd i v u hv hu).kf (J0r hk v (List.mem_of_getElem? hv)) Sg.none);exact (h own ks).out M w σ us d1 (fun i v u hv hu=>(d2 i v u hv hu).mono (Ext.mk (fun _ _ h=>⟨h,rfl⟩) (Nat.le_refl _)) (Sg.none_le σ)) hh
theorem ret_res {P:Program} {f:FuncId} {args:List V} {X X':V} (hk:X.kf = true) (hl:VLe X X') (h:Ret P f args X):Ret P f args X':=fun own ks=>by
 constructor;intro M w σ us hlen hd hh;refine ((h own ks).out M w σ us hlen hd hh).mono ?_;rintro e w' ⟨M',σ',v,own',ks',u,rfl,hv,hh',tr,kd,rfl,rfl,rfl⟩;exact ⟨M',σ',X',_,_,u,rfl,(hl.out _ _ _ (hv.kf hk Sg.none)).mono (Ext.mk (fun _ _ h=>⟨h,rfl⟩) (Nat.le_refl _)) (Sg.none_le σ'),hh',tr,kd,rfl,rfl,rfl⟩
def AllLt:Nat→(Nat→Prop)→Prop
 | 0,_=>True
 | n + 1,P=>P 0∧AllLt n fun i=>P (i + 1)
theorem AllLt.out:∀ {n:Nat} {P:Nat→Prop},AllLt n P→∀ i,i < n→P i
 | n + 1,P,h,0,_=>h.1
 | n + 1,P,h,i + 1,hi=>AllLt.out h.2 i (by omega)
theorem vle_fzA {n s:Nat} {f g:Nat→Nat→V} (h:AllLt n fun i=>AllLt s fun j=>VLe (f i j) (g i j)):VLe (.fz n s false f) (.fz n s false g) :=
 VLe.fz rfl (fun h=>h) fun i j hi hj=>(h.out i hi).out j hj
theorem vle_str {a b:ByteArray} (h:a = b):VLe (.str a) (.str b):=by subst h;exact .rfl
theorem cfg_len (g:G) (vs:List Vr) (raw:List Int):(cfg g vs raw).length = g.ports.length:=cfgC_len _ _ _ _
theorem cfg_row (g:G) (vs:List Vr) (raw:List Int) {v:Nat} (hv:v < g.ports.length):gC (cfg g vs raw) v = cfgR g vs raw v vs.length:=by
 simp [gC,cfg,cfgC,List.getD,hv]
theorem cfgR_get (g:G) (vs:List Vr) (raw:List Int) (v k:Nat) {i:Nat} (hi:i < k):gI (cfgR g vs raw v k) i = cfgE g vs raw v i:=by
 simp [gI,cfgR,List.getD,hi]
theorem bV_bnd (p:Pr) (hp:J5a p) (g:G) (hg:g.valid = true) (v x:Nat) (hx:x < p.vars.length):bV g p.vars v x = bnd g (gV p.vars x) v:=by
 obtain ⟨f1,f2,f3,f4,f5,f6,f7⟩:=J0e hg;rw [bV,bnd,f3];rcases (hp.var x hx).kind with h | h | h
 . rw [if_neg (by omega),if_neg (by omega),if_pos h];rfl
 . rw [if_pos h,if_neg (by omega),if_pos h]
 . rw [if_neg (by omega),if_pos h,if_neg (by omega),if_neg (by omega)]
theorem cfg_conf (p:Pr) (hp:J5a p) (g:G) (hg:g.valid = true) (raw:List Int):J1O p g (cfg g p.vars raw):=by
 obtain ⟨f1,f2,f3,f4,f5,f6,f7⟩:=J0e hg;refine ⟨by rw [cfg_len];exact f3,fun v hv=>?_,fun v hv x hx=>?_⟩
 . rw [cfg_len] at hv;rw [cfg_row g _ raw hv,cfgR_len]
 . rw [cfg_len] at hv;rw [cfg_row g _ raw hv,cfgR_get _ _ _ _ _ hx,cfgE,bV_bnd p hp g hg v x hx];have hb:(bnd g (gV p.vars x) v).1≤(bnd g (gV p.vars x) v).2:=by
    have hx:=hp.var x hx;have h1:=bnd_in hg hx hv;rcases hx.kind with h | h | h
    . have:=h1.2.2.2.2 h;omega
    . rw [bnd,if_neg (by omega),if_pos h];decide
    . rw [bnd,if_neg (by omega),if_neg (by omega)];simp only;omega
   have hw:=J0p (gI raw (v * p.vars.length + x)) (b:=(bnd g (gV p.vars x) v).2 - (bnd g (gV p.vars x) v).1 + 1) (by omega);omega
theorem wdpr_agg:VLe J0U.v aggC.v:=by
 repeat' (first | exact True.intro | exact VLe.rfl | exact vle_str (by kernel_rfl) | (refine VLe.agg ?_) | (refine vle_fzA ?_) | (refine And.intro ?_ ?_))
theorem agg_wdpr:VLe aggC.v J0U.v:=by
 repeat' (first | exact True.intro | exact VLe.rfl | exact vle_str (by kernel_rfl) | (refine VLe.agg ?_) | (refine vle_fzA ?_) | (refine And.intro ?_ ?_))
theorem wdcheck_ok:Ret Tryz.prog 90 [J0U.v] (.int .i64 0):=by
 have h:=J6X J0a tc_ok ev_check;exact ret_args (args:=[aggC.v]) rfl ⟨wdpr_agg,True.intro⟩ (by simpa only [C.vs,C.v] using h)
theorem wid_types:Ret Tryz.prog 143 [J0U.v] (.bool true):=by
 refine J0f rfl ?_;refine J0b J0a Tryz.func143 rfl hc143 hr143 rfl ?_
 repeat' ((conv=>whnf);first | (refine Br.tt ?_) | (refine wdcheck_ok.go ?_))
 all_goals (conv=>whnf)
 exact VLe.rfl
def txtB:ByteArray:=match textC with | .str l c=>J0q l c | _=>default
theorem text_ok:Ret Tryz.prog 20 [] (.str txtB):=by
 have:=J6X J0a ta_ok ev_text;simpa only [C.vs,C.v,textC,txtB] using this
theorem parse_ok:Ret Tryz.prog 58 [.str txtB] (.tup [aggC.v,.int .i64 0,.int .i64 0]):=by
 have:=J6X J0a tp_ok ev_parse;simpa only [C.vs,C.v,textC,txtB,progC] using this
theorem parse_ok2:Ret Tryz.prog 58 [.str txtB] (.tup [J0U.v,.int .i64 0,.int .i64 0]) :=
 ret_res (X:=.tup [aggC.v,.int .i64 0,.int .i64 0]) rfl (VLe.tup ⟨agg_wdpr,VLe.rfl,VLe.rfl,True.intro⟩) parse_ok
theorem program_ok:Ret Tryz.prog 26 [.str txtB] J0U.v:=by
 refine J0f rfl ?_;refine J0b J0a Tryz.func26 rfl hc26 hr26 rfl ?_
 repeat' ((conv=>whnf);first | (refine parse_ok2.go ?_))
 all_goals (conv=>whnf)
 exact VLe.rfl
theorem J16:J5a J0U where
 vlen:=by decide
 var:=fun i hi=>by
  rcases (show i = 0∨i = 1 by have:i < 2:=hi;omega) with rfl | rfl
  . exact ⟨.inl rfl,by decide,by decide,by decide,by decide,by decide⟩
  . exact ⟨.inr (.inr rfl),by decide,by decide,by decide,by decide,by decide⟩
 rlen:=by decide
 gd:=fun i hi=>by
  rcases (show i = 0∨i = 1 by have:i < 2:=hi;omega) with rfl | rfl
  all_goals decide +kernel
 slen:=fun i hi=>by
  rcases (show i = 0∨i = 1 by have:i < 2:=hi;omega) with rfl | rfl
  all_goals decide
 set:=fun i hi j hj=>by
  rcases (show i = 0∨i = 1 by have:i < 2:=hi;omega) with rfl | rfl
  . rcases (show j = 0∨j = 1 by have:j < 2:=hj;omega) with rfl | rfl <;> decide +kernel
  . rcases (show j = 0∨j = 1 by have:j < 2:=hj;omega) with rfl | rfl <;> decide +kernel
 types:=wid_types
theorem copyR_ok (c:Cf) (hc:c.length≤1000) (hr:∀ v,v < c.length→(gC c v).length≤1000):Ret Tryz.prog 78 [cV c] (cV c):=by
 refine J0f rfl ?_;refine (copy_ok c hc hr).mono ?_;rintro v own' _ ⟨rfl,rfl⟩
 conv=>whnf
 refine Len.mk (by omega) ?_;exact VLe.fz rfl (fun h=>h) (fun i j hi hj=>VLe.of_eq (by rw [J0x,Nat.zero_add]))
theorem rcheck_ok (p:Pr) (hp:J5a p) (g:G) (hs:g.Small) (hg:g.valid = true) (c:Cf) (hc:J1O p g c) (k:Int) (hk:dk k = true) (n:Nat) (hn:n≤4096):Ret Tryz.prog 75 [p.v,g.v,.int .i64 k,cV c,.int .i64 n] (.int .i64 0):=by
 have h1:=check_ok p hp g hs hg c hc;have h2:=dvalid_ok k;rw [hk] at h2;refine J0f rfl ?_;refine J0b J0a Tryz.func75 rfl hc75 hr75 rfl ?_
 repeat' ((conv=>whnf);first | (refine Br.tt ?_) | (refine Br.ff ?_) | (refine Br.dec ?_ ?_ <;> intro _ <;> try omega) | (refine h1.go ?_) | (refine h2.go ?_))
 all_goals (conv=>whnf)
 all_goals exact VLe.rfl
def gT (l:List (Cf × Cnt)) (i:Nat):Cf × Cnt:=l.getD i default
def vCfs (l:List (Cf × Cnt)):Nat→Nat→V:=fun i _=>cV (gT l i).1
def vKs (l:List (Cf × Cnt)):Nat→Nat→V:=fun i j=>cntF (gT l i).2 j
def runV (L:List (Cf × Cnt)):V:=.tup [.fz L.length 1 false (vCfs L),.fz L.length 5 false (vKs L),.int .i64 0]
theorem en_and (p:Pr) {g:G} (hg:g.valid = true) (c:Cf):J20 .and .u32 (enN p g c:Int) (J1S g.ids.length:Nat) = (enN p g c:Nat):=by
 obtain ⟨f1,f2,f3,f4,f5,f6,f7⟩:=J0e hg;rw [J1k (en_32 p hg c) (by rw [J1S];exact nb_lt _ (by omega))];congr 1;apply Nat.eq_of_testBit_eq;intro i;rw [Nat.testBit_and];cases e:(enN p g c).testBit i with
 | false=>rfl
 | true =>
   have:=J60 p hg c i e;rw [f3] at this;rw [this];rfl
structure RunS where
 c:Cf
 n:Cnt
 pre:List (Cf × Cnt)
 ch:List Nat
 en:List Nat
structure RunI (p:Pr) (g:G) (k:Int) (c0:Cf) (n0:Cnt) (ws:List Nat) (x:RunS):Prop where
 le:x.ch.length≤ws.length
 conf:J1O p g x.c
 ok:x.n.Ok
 steps:x.n.steps = x.ch.length
 pl:x.pre.length = x.ch.length
 el:x.en.length = x.ch.length + 1
 tot:trc p g k c0 n0 ws = x.pre ++ trc p g k x.c x.n (ws.drop x.ch.length)
 cho:chsL p g k c0 ws = x.ch ++ chsL p g k x.c (ws.drop x.ch.length)
def cntC (k:Cnt):List V:=[.int .i64 k.steps,.int .i64 k.moves,.int .i64 k.rounds,.int .i64 k.begun,.int .u32 k.pend]
theorem ws_drop {ws:List Nat} {i:Nat} (h:i < ws.length):ws.drop i = ws.getD i 0 :: ws.drop (i + 1):=by
 rw [List.drop_eq_getElem_cons h];simp [List.getD,h]
theorem run_start {p:Pr} {g:G} (hg:g.valid = true) {k:Int} {c:Cf} (hc:J1O p g c) (ws:List Nat):RunI p g k c (J4f (enN p g c)) ws ⟨c,J4f (enN p g c),[],[],[enN p g c]⟩ :=
 ⟨Nat.zero_le _,hc,cnt0_ok (en_24 p hg c),rfl,rfl,rfl,rfl,rfl⟩
theorem run_next {p:Pr} (hp:J5a p) {g:G} (hg:g.valid = true) {k:Int} (hk:dk k = true) {c0:Cf} {n0:Cnt} {ws:List Nat} (hl:ws.length≤4000) {x:RunS} (hx:RunI p g k c0 n0 ws x) (hi:x.ch.length < ws.length) (h0:enN p g x.c≠0) :
 RunI p g k c0 n0 ws ⟨nxC p g k x.c (ws.getD x.ch.length 0),nxK p g k x.c x.n (ws.getD x.ch.length 0),x.pre ++ [(x.c,x.n)],x.ch ++ [chC p g k x.c (ws.getD x.ch.length 0)],x.en ++ [enN p g (nxC p g k x.c (ws.getD x.ch.length 0))]⟩:=by
 obtain ⟨k1,k2⟩:=nx_ok hg hk hx.ok (by have:=hx.steps;omega) (ws.getD x.ch.length 0) h0 (k:=k);have ht:=hx.tot;have hc:=hx.cho;rw [ws_drop hi,trc,if_neg h0] at ht;rw [ws_drop hi,chsL,if_neg h0] at hc;refine ⟨by simp only [List.length_append,List.length_singleton];omega,nx_conf hp hg hk hx.conf _ h0,k1,?_,?_,?_,?_,?_⟩
 . simp only [List.length_append,List.length_singleton];rw [k2,hx.steps]
 . simp only [List.length_append,List.length_singleton];rw [hx.pl]
 . simp only [List.length_append,List.length_singleton];rw [hx.el]
 . simp only [List.length_append,List.length_singleton];rw [ht];simp
 . simp only [List.length_append,List.length_singleton];rw [hc];simp
theorem run_end {p:Pr} {g:G} {k:Int} {c0:Cf} {n0:Cnt} {ws:List Nat} {x:RunS} (hx:RunI p g k c0 n0 ws x) (h:x.ch.length = ws.length∨enN p g x.c = 0):trc p g k c0 n0 ws = x.pre ++ [(x.c,x.n)]∧chsL p g k c0 ws = x.ch:=by
 have ht:=hx.tot;have hc:=hx.cho;by_cases e:x.ch.length < ws.length
 . have h0:enN p g x.c = 0:=by rcases h with h | h;omega;exact h
   rw [ws_drop e,trc,if_pos h0] at ht;rw [ws_drop e,chsL,if_pos h0] at hc;exact ⟨ht,by simpa using hc⟩
 . rw [List.drop_of_length_le (by omega)] at ht hc;exact ⟨ht,by simpa [chsL] using hc⟩
theorem vle_appU7 (l:List Nat) (a:Nat) (F:Nat→Nat→V) (x:Int) (hF:F 0 0 = .int .u32 x) (hx:x = a) (i j:Nat) (hi:i < (l ++ [a]).length) (hj:j < 1):VLe (J3Y (J0k 0 (vU7 l)) l.length (J0k 0 F) i j) (vU7 (l ++ [a]) i j):=by
 obtain rfl:j = 0:=by omega
 apply VLe.of_eq;simp only [List.length_append,List.length_singleton] at hi;by_cases h:i < l.length
 . rw [J1h h,J0x,Nat.zero_add];simp [vU7,List.getD,List.getElem?_append_left h]
 . rw [J1i h];have:i = l.length:=by omega
   subst this;simp [J0k,hF,vU7,hx]
theorem gT_snoc (l:List (Cf × Cnt)) (a:Cf × Cnt) (i:Nat) (h:i < l.length + 1):gT (l ++ [a]) i = if i < l.length then gT l i else a:=by
 by_cases e:i < l.length
 . simp [gT,List.getD,e,List.getElem?_append_left e]
 . have:i = l.length:=by omega
   subst this;simp [gT,List.getD]
theorem vle_appCf (l:List (Cf × Cnt)) (a:Cf × Cnt) (F:Nat→Nat→V) (hF:F 0 0 = cV a.1) (n i j:Nat) (hn:n = l.length) (hi:i < l.length + 1) (hj:j < 1):VLe (J3Y (J0k 0 (vCfs l)) n (J0k 0 F) i j) (vCfs (l ++ [a]) i j):=by
 obtain rfl:j = 0:=by omega
 subst hn;apply VLe.of_eq;rw [vCfs,gT_snoc l a i hi];by_cases h:i < l.length
 . rw [J1h h,J0x,Nat.zero_add,if_pos h];rfl
 . rw [J1i h,if_neg h];have:i = l.length:=by omega
   subst this;simp [J0k,hF]
theorem vle_appCnt (l:List (Cf × Cnt)) (a:Cf × Cnt) (F:Nat→Nat→V) (hF:∀ j,j < 5→F 0 j = cntF a.2 j) (n i j:Nat) (hn:n = l.length) (hi:i < l.length + 1) (hj:j < 5):VLe (J3Y (J0k 0 (vKs l)) n (J0k 0 F) i j) (vKs (l ++ [a]) i j):=by
 subst hn;apply VLe.of_eq;rw [vKs,gT_snoc l a i hi];by_cases h:i < l.length
 . rw [J1h h,J0x,Nat.zero_add,if_pos h];rfl
 . rw [J1i h,if_neg h];have:i = l.length:=by omega
   subst this;simp only [J0x,Nat.zero_add,Nat.sub_self];exact hF j hj
theorem five_cnt (k:Cnt) (F:Nat→Nat→V) (h0:F 0 0 = .int .i64 k.steps) (h1:F 0 1 = .int .i64 k.moves) (h2:F 0 2 = .int .i64 k.rounds) (h3:F 0 3 = .int .i64 k.begun) (h4:F 0 4 = .int .u32 k.pend):∀ j,j < 5→F 0 j = cntF k j:=fun j hj=>by
 rcases (show j = 0∨j = 1∨j = 2∨j = 3∨j = 4 by omega) with rfl | rfl | rfl | rfl | rfl
 . exact h0
 . exact h1
 . exact h2
 . exact h3
 . exact h4
theorem vle_e0 {X:V} {F:Nat→Nat→V} (h:F 0 0 = X) (i j:Nat) (hi:i < 1) (hj:j < 1):VLe (J0k 0 (tab [[X]]) i j) (F i j):=by
 obtain rfl:i = 0:=by omega
 obtain rfl:j = 0:=by omega
 rw [h];exact VLe.rfl
theorem vle_k0 {k:Cnt} {F:Nat→Nat→V} (h:∀ j,F 0 j = cntF k j) (i j:Nat) (hi:i < 1) (hj:j < 5):VLe (J0k 0 (tab [[.int .i64 k.steps,.int .i64 k.moves,.int .i64 k.rounds,.int .i64 k.begun,.int .u32 k.pend]]) i j) (F i j):=by
 obtain rfl:i = 0:=by omega
 rw [h];rcases (show j = 0∨j = 1∨j = 2∨j = 3∨j = 4 by omega) with rfl | rfl | rfl | rfl | rfl <;> exact VLe.rfl
theorem runV_end (L:List (Cf × Cnt)) (n:Nat) (hn:n = L.length):VLe (V.tup [.fz n 1 false (J0k 0 (vCfs L)),.fz n 5 false (J0k 0 (vKs L)),.int .i64 0]) (runV L):=by
 subst hn;refine VLe.tup ⟨VLe.fz rfl (fun h=>h) (fun i j _ _=>VLe.of_eq (by rw [J0x,Nat.zero_add])),VLe.fz rfl (fun h=>h) (fun i j _ _=>VLe.of_eq (by rw [J0x,Nat.zero_add])),VLe.rfl,True.intro⟩
set_option maxHeartbeats 16000000 in
theorem watch_ok (p:Pr) (hp:J5a p) (g:G) (hs:g.Small) (hg:g.valid = true) (k:Int) (hk:dk k = true) (c:Cf) (hc:J1O p g c) (ws:List Nat) (hwl:ws.length≤1000) (hw:∀ w∈ws,w < 4294967296) :
 RG 46 [p.v,g.v,.int .i64 k,cV c,.fz ws.length 1 false (vU7 ws)] (runV (trc p g k c (J4f (enN p g c)) ws)):=by
 obtain ⟨f1,f2,f3,f4,f5,f6,f7⟩:=J0e hg;have hcl:=hc.len;have hvl:=hp.vlen;have h1:=rcheck_ok p hp g hs hg c hc k hk ws.length (by omega);have h2:=mover_ok p hp g hg;have h3:=newnet_ok g hs hg;have h4:=all_ok g hg;have h5:=copyR_ok c (by omega) (fun v hv=>by have:=hc.row v hv;omega);have h6:=men_ok p hp g hg c hc;have h7:=begin_ok (enN p g c) (en_24 p hg c);have ha:=en_and p hg c;refine ret_frzG2 rfl ?_;refine J0b J0a Tryz.func46 rfl hc46 hr46 rfl ?_
 repeat' ((conv=>whnf);first | (refine Sv.mk _ ha.symm ?_) | (refine Br.ff ?_) | (refine Len.mk (by omega) ?_) | (refine h1.go ?_) | (refine h2.go ?_) | (refine h3.go ?_) | (refine h4.go ?_) | (refine h5.go ?_) | (refine h6.go ?_) | (refine h7.go ?_) | (refine J0b J0a Tryz.func76 rfl hc76 hr76 rfl ?_) | (refine J0b J0a Tryz.func79 rfl hc79 hr79 rfl ?_) | (refine J0b J0a Tryz.func104 rfl hc104 hr104 rfl ?_) | (refine J0b J0a Tryz.func77 rfl hc77 hr77 rfl ?_) | (refine Chk.mk (by kernel_rfl) ?_) | (refine And.intro rfl ?_))
 all_goals (conv=>whnf)
 refine J1x J0a [3,4,8,10,12,39] [17,19,21,22] [23,24,25,26,27,28,29,30,31,32,33,34,35,36,37,38,39,40,41,42,43,44,45,46,47,48,49,50,51,52,53,54,55,56,57,58,59] [22,21,19,17,14,13,12,11,10,9,8,3,2,999] (fun x:RunS=>[(1,cV x.c),(11,.int .u32 (enN p g x.c:Nat)),(40,.int .i64 x.ch.length)]) (fun x=>[(22,.vec x.ch.length 1 (vU7 x.ch)),(21,.vec x.en.length 1 (vU7 x.en)),(19,.vec (x.pre.length + 1) 5 (vKs (x.pre ++ [(x.c,x.n)]))),(17,.vec (x.pre.length + 1) 1 (vCfs (x.pre ++ [(x.c,x.n)]))),(14,.cells (cntC x.n)),(13,.cells [.vec 22 1 0 x.ch.length,.vec 21 1 0 x.en.length,.nilslice,.int .i64 0,.int .i64 0,.int .i64 0,.int .i64 0,.int .u32 0]),(12,.cells [.nilslice,.nilslice,.nilslice,.int .i64 0,.int .i64 0,.int .i64 0,.int .i64 0,.int .u32 0]),(11,.cells [mvP p g,.fz g.ports.length 1 false (vNet g),.int .i64 k,.int .u32 (J1S g.ids.length:Nat),.fn (.func 77) false [.loc 2 0,.loc 3 0]]),(10,.cells [.nilslice,.nilslice,.nilslice,.int .i64 0,.int .i64 0,.int .i64 0,.int .i64 0,.int .u32 0]),(9,.cells [.fz ws.length 1 false (vU7 ws)]),(8,.cells [mvP p g,.fz g.ports.length 1 false (vNet g),.int .i64 k,.int .u32 (J1S g.ids.length:Nat),.fn (.func 77) false [.loc 2 0,.loc 3 0]]),(3,.cells [.vec 19 5 0 (x.pre.length + 1)]),(2,.cells [.vec 17 1 0 (x.pre.length + 1)]),(999,GB)]) (fun m x=>m = ws.length - x.ch.length∧RunI p g k c (J4f (enN p g c)) ws x) ws.length ⟨c,J4f (enN p g c),[],[],[enN p g c]⟩ ⟨rfl,run_start hg hc ws⟩ rfl (fun _=>rfl) ?_ ?_
 . refine J0g (fun _ _=>[(14,some 14),(13,some 13),(12,some 12),(11,some 11),(10,some 10),(9,some 9),(8,some 8),(3,some 3),(2,some 2),(999,some 999),(17,some 17),(19,some 19),(21,some 21),(22,none)]) ?_ ?_ rfl
   . repeat' (first | exact True.intro | (refine J0d.fn ?_) | (refine ⟨⟨_,rfl,?_⟩,?_⟩) | exact J0d.kf rfl | exact J0d.loc rfl | (refine And.intro ?_ ?_))
   . repeat' (first | exact vle_e0 (by rfl) _ _ hi hj | exact vle_k0 (k:=J4f (enN p g c)) (fun _=>by rfl) _ _ hi hj | exact True.intro | (refine J0d.fn ?_) | exact ⟨rfl,rfl,rfl⟩ | (refine ⟨⟨_,rfl,?_⟩,?_⟩) | exact J0d.kf rfl | exact J0d.loc rfl | exact J0d.vec rfl rfl rfl | exact J0d.nil rfl rfl | (refine ⟨Nat.le_refl _,rfl,fun i j hi hj=>?_⟩) | (refine ⟨⟨_,_,rfl⟩,?_⟩) | (refine And.intro ?_ ?_))
 rintro m x ⟨hm,hx⟩;clear h5 h6 h7 ha;have hcx:=hx.conf;have hlx:=hcx.len;have hpl:=hx.pl;have hel:=hx.el;have hle:=hx.le;by_cases hi:x.ch.length < ws.length
 . have hwb:ws.getD x.ch.length 0 < 4294967296:=hw _ (by rw [List.getD_eq_getElem?_getD,List.getElem?_eq_getElem hi];exact List.getElem_mem hi);have hrs:=nresolve_ok g hg k (enN p g x.c) (ws.getD x.ch.length 0) (en_32 p hg x.c) hwb (J60 p hg x.c);change RG _ _ (.int .u32 (chC p g k x.c (ws.getD x.ch.length 0):Nat)) at hrs;by_cases h0:enN p g x.c = 0
   . obtain ⟨e1,e2⟩:=run_end hx (.inr h0);rw [e1]
     repeat' ((conv=>whnf);first | (refine Br.ff ?_) | (refine Br.dec ?_ ?_ <;> intro _ <;> try omega) | (refine Br.bne ?_ ?_ <;> intro _ <;> try omega) | (refine Ix.nat (by omega) ?_) | (refine Len.mk (by omega) ?_) | (refine hrs.gog ?_) | (refine J0b J0a Tryz.func105 rfl hc105 hr105 rfl ?_) | (refine Chk.mk (by kernel_rfl) ?_) | (refine And.intro rfl ?_))
     all_goals (conv=>whnf)
     all_goals exact runV_end _ _ (by simp)
   . have hnx:=run_next hp hg hk (by omega) hx hi h0;obtain ⟨c1,c2,c3,c4,c5,c6⟩:=J5X p hg hk x.c (ws.getD x.ch.length 0) h0;have hcn:=nx_conf hp hg hk hcx (ws.getD x.ch.length 0) h0;have hpm:=npermits_ok g hg k (enN p g x.c) (chC p g k x.c (ws.getD x.ch.length 0)) (en_32 p hg x.c) (by omega) (J60 p hg x.c);have hin:inner g k (enN p g x.c) (chC p g k x.c (ws.getD x.ch.length 0)) = true:=rs_inner hg hk (en_32 p hg x.c) (J60 p hg x.c) h0;rw [hin] at hpm;have hst:=mstep_ok p hp g hg x.c hcx (chC p g k x.c (ws.getD x.ch.length 0)) (by omega) (fun v hv hb=>by have:=c2 v hb;rw [en_bit,Bool.and_eq_true,decide_eq_true_eq,decide_eq_true_eq] at this;exact this.2);change Ret _ _ _ (cV (nxC p g k x.c (ws.getD x.ch.length 0))) at hst;have hen:=men_ok p hp g hg _ hcn;have ha:=en_and p hg (nxC p g k x.c (ws.getD x.ch.length 0));have hcp:=copyR_ok (nxC p g k x.c (ws.getD x.ch.length 0)) (by rw [hcn.len];omega) (fun v hv=>by have:=hcn.row v hv;omega);have had:=add_ok x.n hx.ok (by have:=hx.steps;omega) (chC p g k x.c (ws.getD x.ch.length 0)) (enN p g (nxC p g k x.c (ws.getD x.ch.length 0))) c1 c4 (en_24 p hg _);change Ret _ _ _ (.tup [(nxK p g k x.c x.n (ws.getD x.ch.length 0)).v,.int .i64 0]) at had;generalize nxK p g k x.c x.n (ws.getD x.ch.length 0) = n' at *;generalize nxC p g k x.c (ws.getD x.ch.length 0) = c' at *;generalize chC p g k x.c (ws.getD x.ch.length 0) = s at *;have e1:=en_32 p hg x.c
     repeat' ((conv=>whnf);first | (refine Sv.mk _ ha.symm ?_) | (refine Br.tt ?_) | (refine Br.dec ?_ ?_ <;> intro _ <;> try omega) | (refine Br.bne ?_ ?_ <;> intro _ <;> try omega) | (refine Br.nbeq ?_ ?_ <;> intro _ <;> try omega) | (refine Ar.i64 (by omega) (by omega) ?_) | (refine Ix.nat (by omega) ?_) | (refine Len.mk (by omega) ?_) | (refine hrs.gog ?_) | (refine hpm.gog ?_) | (refine hst.go ?_) | (refine hen.go ?_) | (refine hcp.go ?_) | (refine had.go ?_) | (refine J0b J0a Tryz.func77 rfl hc77 hr77 rfl ?_) | (refine J0b J0a Tryz.func105 rfl hc105 hr105 rfl ?_) | (refine Chk.mk (by kernel_rfl) ?_) | (refine And.intro rfl ?_))
     all_goals (conv=>whnf)
     refine ⟨_,_,?_,⟨rfl,hnx⟩,?_⟩
     . simp only [List.length_append,List.length_singleton];omega
     . refine J0g (fun env own=>[(14,some 14),(13,some 13),(12,some 12),(11,some 11),(10,some 10),(9,some 9),(8,some 8),(3,some 3),(2,some 2),(999,some 999),(17,ckeyo own 2 0),(19,ckeyo own 3 0),(21,ckeyo own 13 1),(22,ckeyo own 13 0)]) ?_ ?_ rfl
       . repeat' (first | exact J0d.int (by simp only [List.length_append,List.length_singleton] <;> omega) | exact True.intro | (refine J0d.fn ?_) | (refine ⟨⟨_,rfl,?_⟩,?_⟩) | exact J0d.kf rfl | exact J0d.loc rfl | (refine And.intro ?_ ?_))
       . repeat' (first | exact J0d.vec rfl rfl (by simp only [List.length_append,List.length_singleton] <;> omega) | (refine ⟨by simp only [List.length_append,List.length_singleton] <;> omega,rfl,fun i j hi hj=>?_⟩) | exact J0d.int (by simp only [List.length_append,List.length_singleton] <;> omega) | exact vle_appU7 _ _ _ _ (by rfl) (by rfl) _ _ hi hj | exact vle_appCf _ _ _ (by rfl) _ _ _ (by simp) hi hj | exact vle_appCnt _ _ _ (five_cnt _ _ (by rfl) (by rfl) (by rfl) (by rfl) (by rfl)) _ _ _ (by simp) hi hj | exact True.intro | (refine J0d.fn ?_) | exact ⟨rfl,rfl,rfl⟩ | (refine ⟨⟨_,rfl,?_⟩,?_⟩) | exact J0d.kf rfl | exact J0d.loc rfl | (refine And.intro ?_ ?_))
 . obtain ⟨e1,e2⟩:=run_end hx (.inl (by omega));rw [e1]
   repeat' ((conv=>whnf);first | (refine Br.ff ?_) | (refine Br.dec ?_ ?_ <;> intro _ <;> try omega) | (refine Len.mk (by omega) ?_) | (refine And.intro rfl ?_))
   all_goals (conv=>whnf)
   all_goals exact runV_end _ _ (by simp)
theorem wrun_ok (t:ByteArray) (p:Pr) (hp:J5a p) (hpr:Ret Tryz.prog 26 [.str t] p.v) (g:G) (hs:g.Small) (hg:g.valid = true) (k:Int) (hk:dk k = true) (c:Cf) (hc:J1O p g c) (ws:List Nat) (hwl:ws.length≤1000) (hw:∀ w∈ws,w < 4294967296) :
 RG 19 [.str t,g.v,.int .i64 k,cV c,.fz ws.length 1 false (vU7 ws)] (.tup [.fz (trc p g k c (J4f (enN p g c)) ws).length 1 false (vCfs (trc p g k c (J4f (enN p g c)) ws)),.fz (trc p g k c (J4f (enN p g c)) ws).length 5 false (vKs (trc p g k c (J4f (enN p g c)) ws)),.bool true]):=by
 have h1:=watch_ok p hp g hs hg k hk c hc ws hwl hw;have h2:=trc_ne p g k c (J4f (enN p g c)) ws;have h3:=trc_len p g k ws c (J4f (enN p g c));rw [runV] at h1;generalize trc p g k c (J4f (enN p g c)) ws = L at *;refine J3A rfl ?_;refine J0b J0a Tryz.func19 rfl hc19 hr19 rfl ?_
 repeat' ((conv=>whnf);first | (refine Br.tt ?_) | (refine Br.dec ?_ ?_ <;> intro _ <;> try omega) | (refine h1.gog ?_) | (refine hpr.go ?_) | (refine And.intro rfl ?_))
 all_goals (conv=>whnf)
 all_goals exact VLe.rfl
def legs (leg:Cf→Bool) (T:List (Cf × Cnt)):List (Bool × Cnt):=T.map fun x=>(leg x.1,x.2)
theorem J5N (leg:Cf→Bool) (T:List (Cf × Cnt)):(legs leg T).length = T.length:=by simp [legs]
theorem legs_get (leg:Cf→Bool) (T:List (Cf × Cnt)) (i:Nat) (h:i < T.length):gH (legs leg T) i = (leg (gT T i).1,(gT T i).2):=by
 simp [gH,gT,legs,List.getD,h]
theorem gT_mem {T:List (Cf × Cnt)} {i:Nat} (h:i < T.length):gT T i∈T:=by
 simp [gT,List.getD,h]
theorem gT_last {T:List (Cf × Cnt)} (h:0 < T.length):(gT T (T.length - 1)).1 = J2T T:=by
 have:T.getLast? = T[T.length - 1]?:=List.getLast?_eq_getElem?;simp only [gT,J2T,this,List.getD]
def vLg (leg:Cf→Bool) (T:List (Cf × Cnt)):Nat→Nat→V:=fun i _=>.bool (leg (gT T i).1)
theorem vle_appB (leg:Cf→Bool) (T:List (Cf × Cnt)) (n i j:Nat) (hi:i < n + 1) (hj:j < 1) (b:Bool) (F:Nat→Nat→V) (hF:F 0 0 = .bool b) (hb:b = leg (gT T n).1):VLe (J3Y (J0k 0 (vLg leg T)) n (J0k 0 F) i j) (vLg leg T i j):=by
 obtain rfl:j = 0:=by omega
 apply VLe.of_eq;by_cases h:i < n
 . rw [J1h h,J0x,Nat.zero_add]
 . rw [J1i h];have:i = n:=by omega
   subst this;simp [J0k,hF,vLg,hb]
theorem vle_legs (leg:Cf→Bool) (T:List (Cf × Cnt)):VLe (.fz T.length 1 false (J0k 0 (vLg leg T))) (.fz (legs leg T).length 1 false (vHb (legs leg T))) :=
 VLe.fz (J5N leg T).symm (fun h=>h) fun i j hi hj=>VLe.of_eq (by
  rw [J0x,Nat.zero_add,vLg,vHb,legs_get leg T i hi])
theorem vle_cnts (leg:Cf→Bool) (T:List (Cf × Cnt)):VLe (.fz T.length 5 false (vKs T)) (.fz (legs leg T).length 5 false (vHk (legs leg T))) :=
 VLe.fz (J5N leg T).symm (fun h=>h) fun i j hi hj=>VLe.of_eq (by
  rw [vKs,vHk,legs_get leg T i hi])
theorem csmall_of {p:Pr} (hp:J5a p) {g:G} (hg:g.valid = true) {c:Cf} (h:J1O p g c):J7i c:=by
 obtain ⟨f1,f2,f3,f4,f5,f6,f7⟩:=J0e hg;have hl:=h.len;have hv:=hp.vlen;refine ⟨by omega,fun r hr=>?_⟩;obtain ⟨i,hi,e⟩:=List.mem_iff_getElem.1 hr;have h2:gC c i = r:=by simp [gC,List.getD,hi,e]
 have:=h.row i hi;rw [← h2];omega
set_option maxHeartbeats 16000000 in
theorem lawXReaches (x:Net) (hx:x.Small) (raw:List Int) (hraw:raw.length≤9223372036854775807) (wi:List Int) (hwi:wi.length≤9223372036854775807) :
 RG 5 [x.v,.fz raw.length 1 false (vI raw),.fz wi.length 1 false (vUI wi)] (.bool true):=by
 have h0:=J5w x hx 7 (by omega) (by omega);have hgc:=con_conn x (most:=7) (by omega) (by omega);generalize x.con 7 = g at *;obtain ⟨hg,_⟩:=J0o hgc;obtain ⟨f1,f2,f3,f4,f5,f6,f7⟩:=J0e hg;have hs:=valid_small hg;have hcf:=config_ok g hg vW2 vW_ok vW_lo raw hraw;have hc:=cfg_conf J0U J16 g hg raw;change J1O J0U g (cfg g vW2 raw) at hc;generalize cfg g vW2 raw = c at *;have hv:=wvars25_ok;have hk:=known25_ok;have htx:=text_ok;have hpr:=program_ok;have hcl:=wdclaim_ok g hs hgc;rw [clmX] at hcl;have hwi:=wishes_ok wi hwi 120 (by omega);have hwl:=wsL_len wi 120;have hwlt:=wsL_lt wi 120;generalize wsL wi 120 = ws at *;have hrun:=wrun_ok txtB J0U J16 program_ok g hs hg 3 (by decide) c hc ws (by omega) hwlt;have hall:=trc_all J16 hg (k:=3) (by decide) ws c (J4f (enN J0U g c)) hc (cnt0_ok (en_24 _ hg c)) (by simp only [J4f];omega);have hne:=trc_ne J0U g 3 c (J4f (enN J0U g c)) ws;have hlen:=trc_len J0U g 3 ws c (J4f (enN J0U g c));have hrcl:=rwdclaim_ok g hs hgc;rw [clmX] at hrcl;have hheld:J3g (mxV g + 1) (-1) (decide (enN J0U g (J2T (trc J0U g 3 c (J4f (enN J0U g c)) ws)) = 0)) false (legs g.xleg (trc J0U g 3 c (J4f (enN J0U g c)) ws)) = true:=by
  refine held_trc J16 hg (k:=3) (by decide) _ _ g.xleg (fun c k=>XIn g c k) ?_ ?_ ?_ ?_ ws c (J4f (enN J0U g c)) false hc (cnt0_ok (en_24 _ hg c)) (by simp only [J4f];omega) (fun h=>by cases h) (fun _=>xin_start hgc hc)
  . intro c s h1 h2 h3 h4 h5;exact xleg_step hgc h1 h2 h3 (J4n J16 hg h1 h3)
  . intro c n h1 h2 h3 h4;exact ⟨xin_bound h2 h3,fun h=>by omega⟩
  . intro c h1 h2;exact xleg_en hgc h1 h2
  . intro c n s h1 h2 h3 h4 h5 h6 h7 h8 h9;exact xin_step hgc h1 h3 h5 (J4n J16 hg h1 h5) (xleg_no hgc (J4n J16 hg h1 h5) h9)
 have hmx:=mx_top hgc;generalize mxV g + 1 = R at *;generalize trc J0U g 3 c (J4f (enN J0U g c)) ws = T at *;have hlast:=gT_last hne;have hlc:J1O J0U g (gT T (T.length - 1)).1:=(hall _ (gT_mem (by omega))).1;have hen:=senabled_ok J0U J16 g hs hg _ hlc;have hhl:=held_ok (legs g.xleg T) (by rw [J5N];exact hne) (by rw [J5N];omega) 3 R (-1) false true (decide (enN J0U g (J2T T) = 0));rw [hheld,← hlast] at hhl;refine J3A rfl ?_;refine J0b J0a Tryz.func5 rfl hc5 hr5 rfl ?_
 repeat' ((conv=>whnf);first | (refine Br.tt ?_) | (refine h0.go ?_) | (refine hcf.go ?_) | (refine hv.go ?_) | (refine htx.go ?_) | (refine hcl.go ?_) | (refine hrcl.go ?_) | (refine hwi.go ?_) | (refine hrun.gog ?_) | (refine And.intro rfl ?_) | (refine Br.any (fun _=>?_) (fun _=>?_)))
 all_goals (conv=>whnf)
 . exfalso;rename_i h;simp at h
 refine J0Q J0a [7,9,10] [2] [3,4,5,6,7,8,9,10,11,12,13,14,15,16,17,18,19,20,21,22,23,24,25,26,27,28,29] [2,1,0,999] (fun i:Nat=>[(12,.vec 2 1 0 i),(13,.int .i64 i)]) (fun own i=>(2,.vec i 1 (vLg g.xleg T)) :: own) (fun m i=>m = T.length - i∧i≤T.length) T.length 0 ⟨rfl,Nat.zero_le _⟩ rfl (fun _=>rfl) ?_ ?_
 . exact J0j (fun _ _=>[(0,some 0),(1,some 1),(2,none),(999,some 999)])
 rintro m i ⟨hm,hi⟩;by_cases hil:i < T.length
 . have hlg:Ret Tryz.prog 24 [g.v,cV (gT T i).1] (.bool (g.xleg (gT T i).1)):=J7v g hs _ (csmall_of J16 hg (hall _ (gT_mem hil)).1)
   repeat' ((conv=>whnf);first | (refine Br.dec ?_ ?_ <;> intro _ <;> try omega) | (refine Br.nbeq ?_ ?_ <;> intro _ <;> try omega) | (refine Ar.i64 (by omega) (by omega) ?_) | (refine Ix.nat (by omega) ?_) | (refine Len.mk (by omega) ?_) | (refine hlg.go ?_) | (refine Br.any (fun _=>?_) (fun _=>?_)))
   all_goals (conv=>whnf)
   all_goals
    refine ⟨T.length - (i + 1),i + 1,by omega,⟨rfl,by omega⟩,?_⟩;refine J0g (fun env own=>[(0,some 0),(1,some 1),(2,ekey env 12),(999,some 999)]) ?_ ?_ rfl
    . repeat' (first | exact True.intro | (refine ⟨⟨_,rfl,?_⟩,?_⟩) | exact J0d.kf rfl | exact J0d.loc rfl | exact J0d.vec rfl rfl rfl)
    . repeat' (first | exact vle_appB g.xleg T _ _ _ hi hj _ _ (by rfl) (by first | rfl | (symm;assumption)) | exact True.intro | exact ⟨rfl,rfl,rfl⟩ | (refine ⟨⟨_,rfl,?_⟩,?_⟩) | exact J0d.kf rfl | (refine ⟨Nat.le_refl _,rfl,fun i j hi hj=>?_⟩) | (refine And.intro ?_ ?_))
 . have ei:i = T.length:=by omega
   subst ei;by_cases hz:enN J0U g (gT T (T.length - 1)).1 = 0
   . rw [decide_eq_true hz] at hhl;rw [hz] at hen
     repeat' ((conv=>whnf);first | (refine Ix.mk (T.length - 1) (by omega) (by omega) ?_) | (refine Br.tt ?_) | (refine Br.dec ?_ ?_ <;> intro _ <;> try omega) | (refine Ar.i64 (by omega) (by omega) ?_) | (refine hk.go ?_) | (refine htx.go ?_) | (refine hpr.go ?_) | (refine hcl.go ?_) | (refine hen.go ?_) | (refine J08 hhl rfl ⟨by omega,vle_legs _ _,vle_cnts _ _,VLe.rfl,VLe.rfl,True.intro⟩ ?_) | (refine And.intro rfl ?_))
     all_goals (conv=>whnf)
     all_goals exact VLe.rfl
   . rw [decide_eq_false hz] at hhl
     repeat' ((conv=>whnf);first | (refine Ix.mk (T.length - 1) (by omega) (by omega) ?_) | (refine Br.tt ?_) | (refine Br.dec ?_ ?_ <;> intro _ <;> try omega) | (refine Ar.i64 (by omega) (by omega) ?_) | (refine hk.go ?_) | (refine htx.go ?_) | (refine hpr.go ?_) | (refine hcl.go ?_) | (refine hen.go ?_) | (refine J08 hhl rfl ⟨by omega,vle_legs _ _,vle_cnts _ _,VLe.rfl,VLe.rfl,True.intro⟩ ?_) | (refine And.intro rfl ?_))
     all_goals (conv=>whnf)
     all_goals exact VLe.rfl
end Go.Proofs.YtgajaabakpfbbaaGreatDoor
