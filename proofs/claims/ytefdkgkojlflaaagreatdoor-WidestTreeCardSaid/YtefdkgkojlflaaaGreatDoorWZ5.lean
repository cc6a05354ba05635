import Derived.Test.YtefdkgkojlflaaaGreatDoorTabB
import Derived.KernelRfl
import Derived.Test.YtefdkgkojlflaaaGreatDoorWXU
import Derived.Test.YtefdkgkojlflaaaGreatDoorRN1
import Derived.Test.YtefdkgkojlflaaaGreatDoorEvG
import Derived.Test.YtefdkgkojlflaaaGreatDoorEvC
import Derived.Test.YtefdkgkojlflaaaGreatDoorWX5
import Derived.Test.YtefdkgkojlflaaaGreatDoorWXM
namespace Go.Proofs.YtefdkgkojlflaaaGreatDoor
open Go.Eng
set_option maxRecDepth 100000
theorem ev_parse:evX tp 10000 100 75 [textC]=some progC:=by kernel_rfl
end Go.Proofs.YtefdkgkojlflaaaGreatDoor
namespace Go.Proofs.YtefdkgkojlflaaaGreatDoor
open Go.Eng
set_option maxRecDepth 100000
set_option linter.unusedVariables false
def cfgE (g:G) (vs:List Vr) (raw:List Int) (v i:Nat):Int:=(bV g vs v i).1+within (gI raw (v*vs.length+i)) ((bV g vs v i).2-(bV g vs v i).1+1)
def cfgR (g:G) (vs:List Vr) (raw:List Int) (v k:Nat):List Int:=(List.range k).map (cfgE g vs raw v)
def cfgC (g:G) (vs:List Vr) (raw:List Int) (k:Nat):Cf:=(List.range k).map fun v=>cfgR g vs raw v vs.length
def cfg (g:G) (vs:List Vr) (raw:List Int):Cf:=cfgC g vs raw g.ports.length
theorem cfgR_len (g:G) (vs:List Vr) (raw:List Int) (v k:Nat):(cfgR g vs raw v k).length=k:=by simp[cfgR]
theorem cfgC_len (g:G) (vs:List Vr) (raw:List Int) (k:Nat):(cfgC g vs raw k).length=k:=by simp[cfgC]
theorem cfgR_succ (g:G) (vs:List Vr) (raw:List Int) (v k:Nat):cfgR g vs raw v (k+1)=cfgR g vs raw v k++[cfgE g vs raw v k]:=by simp[cfgR,List.range_succ]
theorem cfgC_succ (g:G) (vs:List Vr) (raw:List Int) (k:Nat):cfgC g vs raw (k+1)=cfgC g vs raw k++[cfgR g vs raw k vs.length]:=by simp[cfgC,List.range_succ]
theorem gC_snoc (c:Cf) (r:List Int) (i:Nat):gC (c++[r]) i=if i<c.length then gC c i else if i=c.length then r else[]:=by
 by_cases h:i<c.length
 . simp only[gC,List.getD,List.getElem?_append_left h,if_pos h]
 . rw[if_neg h];by_cases h2:i=c.length
   . subst h2;simp[gC]
   . simp[gC,h2,List.getElem?_eq_none (by simp;omega:(c++[r]).length<=i)]
theorem vle_appC (c:Cf) (r:List Int) (n m:Nat) (hn:c.length=n) (hr:r.length=m) (F:Nat->Nat->V) (hF:F 0 0=.fz m 1 false (shiftF 0 (vI r))) (i j:Nat) (hi:i<n+1) (hj:j<1) :
 VLe (fapp (shiftF 0 (vC c)) n F i j) (vC (c++[r]) i j):=by
 subst hn hr;obtain rfl:j=0:=by omega
 by_cases h:i<c.length
 . rw[fapp_lt h];apply VLe.of_eq;simp only[shiftF,vC,gC_snoc,if_pos h]
 . rw[fapp_ge h];have:i=c.length:=by omega
   subst this;rw[Nat.sub_self,hF];simp only[vC,gC_snoc,Nat.lt_irrefl,if_false,if_true];exact VLe.fz rfl (fun h=>h) (fun i j hi hj=>VLe.of_eq (by simp[shiftF]))
theorem mul_bound {a b A B:Int} (h0:0<=a) (h1:a<=A) (h2:0<=b) (h3:b<=B):0<=a*b/\a*b<=A*B :=
 ⟨Int.mul_nonneg h0 h2,Int.mul_le_mul h1 h3 h2 (by omega)⟩
set_option maxHeartbeats 16000000 in
theorem config_ok (g:G) (hg:g.valid=true) (vs:List Vr) (hv:VOk vs) (hlo:∀x,0<=(gV vs x).lo/\(gV vs x).lo<=1000) (raw:List Int) (hraw:raw.length<=9223372036854775807) :
 Ret Tryz.prog 29 [g.v,.fz vs.length 6 false (vV vs),.fz raw.length 1 false (vI raw)] (cV (cfg g vs raw)):=by
 obtain⟨f1,f2,f3,f4,f5,f6,f7⟩:=val_facts hg;have htop0:=maxL_ge g.ids 0;have htop1:=maxL_le g.ids 0 255 (by omega) (fun a ha=>(f4 a ha).2);have hvl:=hv.len;refine ret_frz rfl ?_;refine fn_rule mixed Tryz.func29 rfl hc29 hr29 rfl ?_
 repeat' ((conv=>whnf);first|fail)
 all_goals (conv=>whnf)
 refine loop_r mixed [1,2,3,7] (fun i:Nat=>[(8,.int .i64 (maxL (g.ids.take i) 0)),(9,.int .i64 i)]) (fun m i=>m=g.ports.length-i/\i<=g.ports.length) g.ports.length 0 ⟨rfl,Nat.zero_le _⟩ ?_ ?_
 . exact weak_b (fun _ _=>[(0,some 0)])
 rintro m i ⟨hm,hi⟩
 repeat' ((conv=>whnf);first|(refine Br.dec ?_ ?_<;>intro _<;>try omega)|(refine Ar.i64 (by omega) (by omega) ?_)|(refine Sv.mk _ rfl ?_)|(refine Ix.nat (by omega) ?_))
 all_goals (conv=>whnf)
 all_goals try
  (refine⟨g.ports.length-(i+1),i+1,by omega,⟨rfl,by omega⟩,?_⟩
   simp only[gI_take g.ids i (by omega),maxL_snoc];refine weak_by (fun _ _=>[(0,some 0)]) ?_ ?_ rfl
   . repeat' (first|exact VRen.int (by split<;>omega)|exact True.intro|(refine⟨⟨_,rfl,?_⟩,?_⟩)|exact VRen.kf rfl|exact VRen.loc rfl)
   . repeat' (first|exact True.intro|(refine⟨⟨_,rfl,?_⟩,?_⟩)|exact VRen.kf rfl|(refine And.intro ?_ ?_)))
 have hti:g.ids.take i=g.ids:=List.take_of_length_le (by omega);simp only[hti];clear hti hm hi;generalize htop:maxL g.ids 0=top at *;refine loop_u mixed [1,2,3,7,8] [1] [2,3,4,5,6,7,8,9,10,11,12,13,14,15,16,17,18,19,20,21,22,23,24,25,26,27,28,29] [1,0] (fun v:Nat=>[(10,.vec 1 1 0 v),(11,.int .i64 v)]) (fun own v=>(1,.vec v 1 (vC (cfgC g vs raw v)))::own) (fun m v=>m=g.ports.length-v/\v<=g.ports.length) g.ports.length 0 ⟨rfl,Nat.zero_le _⟩ rfl (fun _=>rfl) ?_ ?_
 . exact weak_b (fun _ _=>[(0,some 0),(1,none)])
 rintro m v ⟨hm,hvn⟩;have hcl:=cfgC_len g vs raw v
 repeat' ((conv=>whnf);first|(refine Br.dec ?_ ?_<;>intro _<;>try omega)|(refine Len.mk (by omega) ?_))
 all_goals (conv=>whnf)
 . refine loop_u mixed [1,2,3,7,8,10,11] [2] [3,4,5,6,7,8,9,10,11,12,13,14,15,16,17,18,19,20,21,22,23,24,25,26,27,28,29] [2,1,0] (fun i:Nat=>[(12,.vec 2 1 0 i),(13,.int .i64 i)]) (fun own i=>(2,.vec i 1 (vI (cfgR g vs raw v i)))::own) (fun m i=>m=vs.length-i/\i<=vs.length) vs.length 0 ⟨rfl,Nat.zero_le _⟩ rfl (fun _=>rfl) ?_ ?_
   . exact weak_b (fun _ _=>[(0,some 0),(1,some 1),(2,none)])
   rintro m i ⟨hm2,hi⟩;have hrl:=cfgR_len g vs raw v i;by_cases hil:i<vs.length
   . obtain⟨b1,b2,b3,b4,b5,b6⟩:=hv.b i;obtain⟨l1,l2⟩:=hlo i;have m1:=mul_bound b3 b4 (show(0:Int)<=g.ports.length by omega) (show(g.ports.length:Int)<=24 by omega);have m2:=mul_bound b5 b6 (show(0:Int)<=top by omega) (show top<=255 by omega);have m3:=mul_bound (show(0:Int)<=v by omega) (show(v:Int)<=24 by omega) (show(0:Int)<=vs.length by omega) (show(vs.length:Int)<=1000 by omega);have hrow:=okR_len (show v<g.ports.length by omega) (f6 v (by omega));have hat:=at_ok raw hraw (v*vs.length+i);have e1:((v*vs.length+i:Nat):Int)=(v:Int)*vs.length+i:=by rw[Int.natCast_add,Int.natCast_mul]
     rw[e1] at hat;have hE:cfgE g vs raw v i=(bV g vs v i).1+within (gI raw (v*vs.length+i)) ((bV g vs v i).2-(bV g vs v i).1+1):=rfl;generalize gI raw (v*vs.length+i)=q at *;have hsn:=cfgR_succ g vs raw v i;generalize cfgE g vs raw v i=E at *;generalize hp1:(gV vs i).pn*(g.ports.length:Int)=P1 at *;generalize hp2:(gV vs i).pid*top=P2 at *;generalize hp3:(v:Int)*(vs.length:Int)=P3 at *;by_cases k2:(gV vs i).kind=2
     . have hb:bV g vs v i=(0,1):=by rw[bV,if_pos k2]
       rw[hb] at hE;have hw:=within_ok q (1-0+1) (by omega);have hwr:=within_range q (b:=1-0+1) (by omega);simp only at hE;generalize within q (1-0+1)=W at *
       repeat' ((conv=>whnf);first|(refine Ar.mk P1 (by rw[hp1];exact(wrap_i64 (by omega) (by omega)).symm) ?_)|(refine Ar.mk P2 (by rw[hp2];exact(wrap_i64 (by omega) (by omega)).symm) ?_)|(refine Ar.mk P3 (by rw[hp3];exact(wrap_i64 (by omega) (by omega)).symm) ?_)|(refine Br.dec ?_ ?_<;>intro _<;>try omega)|(refine Br.nbeq ?_ ?_<;>intro _<;>try omega)|(refine Ar.i64 (by omega) (by omega) ?_)|(refine Ix.nat (by omega) ?_)|(refine Len.mk (by omega) ?_)|(refine hat.go ?_)|(refine hw.go ?_)|(refine And.intro rfl ?_))
       all_goals (conv=>whnf)
       all_goals
        refine⟨vs.length-(i+1),i+1,by omega,⟨rfl,by omega⟩,?_⟩;simp only[hsn];refine weak_by (fun env own=>[(0,some 0),(1,some 1),(2,ekey env 12)]) ?_ ?_ rfl
        . repeat' (first|exact True.intro|(refine⟨⟨_,rfl,?_⟩,?_⟩)|exact VRen.kf rfl|exact VRen.loc rfl|exact VRen.vec rfl rfl rfl)
        . repeat' (first|(refine⟨Nat.le_refl _,rfl,fun i j hi hj=>?_⟩)|(rw[hE];exact vle_appI _ _ _ hrl _ _ hi hj)|exact True.intro|(refine⟨⟨_,rfl,?_⟩,?_⟩)|exact VRen.kf rfl|exact VLe.rfl|(refine And.intro ?_ ?_))
     . by_cases k3:(gV vs i).kind=3
       . have hb:bV g vs v i=(-1,((gR g.ports v).length:Int)-1):=by rw[bV,if_neg k2,if_pos k3]
         rw[hb] at hE;have hw:=within_ok q (((gR g.ports v).length:Int)-1-(-1)+1) (by omega);have hwr:=within_range q (b:=((gR g.ports v).length:Int)-1-(-1)+1) (by omega);simp only at hE;generalize within q (((gR g.ports v).length:Int)-1-(-1)+1)=W at *
         repeat' ((conv=>whnf);first|(refine Ar.mk P1 (by rw[hp1];exact(wrap_i64 (by omega) (by omega)).symm) ?_)|(refine Ar.mk P2 (by rw[hp2];exact(wrap_i64 (by omega) (by omega)).symm) ?_)|(refine Ar.mk P3 (by rw[hp3];exact(wrap_i64 (by omega) (by omega)).symm) ?_)|(refine Br.dec ?_ ?_<;>intro _<;>try omega)|(refine Br.nbeq ?_ ?_<;>intro _<;>try omega)|(refine Ar.i64 (by omega) (by omega) ?_)|(refine Ix.nat (by omega) ?_)|(refine Len.mk (by omega) ?_)|(refine hat.go ?_)|(refine hw.go ?_)|(refine And.intro rfl ?_))
         all_goals (conv=>whnf)
         all_goals
          refine⟨vs.length-(i+1),i+1,by omega,⟨rfl,by omega⟩,?_⟩;simp only[hsn];refine weak_by (fun env own=>[(0,some 0),(1,some 1),(2,ekey env 12)]) ?_ ?_ rfl
          . repeat' (first|exact True.intro|(refine⟨⟨_,rfl,?_⟩,?_⟩)|exact VRen.kf rfl|exact VRen.loc rfl|exact VRen.vec rfl rfl rfl)
          . repeat' (first|(refine⟨Nat.le_refl _,rfl,fun i j hi hj=>?_⟩)|(rw[hE];exact vle_appI _ _ _ hrl _ _ hi hj)|exact True.intro|(refine⟨⟨_,rfl,?_⟩,?_⟩)|exact VRen.kf rfl|exact VLe.rfl|(refine And.intro ?_ ?_))
       . have hb:bV g vs v i=((gV vs i).lo,(gV vs i).hi+P1+P2):=by rw[bV,if_neg k2,if_neg k3,hp1,htop,hp2]
         rw[hb] at hE;have hw:=within_ok q ((gV vs i).hi+P1+P2-(gV vs i).lo+1) (by omega);have hwr:-1<=within q ((gV vs i).hi+P1+P2-(gV vs i).lo+1)/\within q ((gV vs i).hi+P1+P2-(gV vs i).lo+1)<=1000000:=by
          by_cases h:1<=(gV vs i).hi+P1+P2-(gV vs i).lo+1
          . have:=within_range q h;omega
          . rw[within,if_pos (by omega)];omega
         simp only at hE;generalize within q ((gV vs i).hi+P1+P2-(gV vs i).lo+1)=W at *
         repeat' ((conv=>whnf);first|(refine Ar.mk P1 (by rw[hp1];exact(wrap_i64 (by omega) (by omega)).symm) ?_)|(refine Ar.mk P2 (by rw[hp2];exact(wrap_i64 (by omega) (by omega)).symm) ?_)|(refine Ar.mk P3 (by rw[hp3];exact(wrap_i64 (by omega) (by omega)).symm) ?_)|(refine Br.dec ?_ ?_<;>intro _<;>try omega)|(refine Br.nbeq ?_ ?_<;>intro _<;>try omega)|(refine Ar.i64 (by omega) (by omega) ?_)|(refine Ix.nat (by omega) ?_)|(refine Len.mk (by omega) ?_)|(refine hat.go ?_)|(refine hw.go ?_)|(refine And.intro rfl ?_))
         all_goals (conv=>whnf)
         all_goals
          refine⟨vs.length-(i+1),i+1,by omega,⟨rfl,by omega⟩,?_⟩;simp only[hsn];refine weak_by (fun env own=>[(0,some 0),(1,some 1),(2,ekey env 12)]) ?_ ?_ rfl
          . repeat' (first|exact True.intro|(refine⟨⟨_,rfl,?_⟩,?_⟩)|exact VRen.kf rfl|exact VRen.loc rfl|exact VRen.vec rfl rfl rfl)
          . repeat' (first|(refine⟨Nat.le_refl _,rfl,fun i j hi hj=>?_⟩)|(rw[hE];exact vle_appI _ _ _ hrl _ _ hi hj)|exact True.intro|(refine⟨⟨_,rfl,?_⟩,?_⟩)|exact VRen.kf rfl|exact VLe.rfl|(refine And.intro ?_ ?_))
   . have ei:i=vs.length:=by omega
     subst ei;have hsc:=cfgC_succ g vs raw v
     repeat' ((conv=>whnf);first|(refine Br.dec ?_ ?_<;>intro _<;>try omega)|(refine Br.nbeq ?_ ?_<;>intro _<;>try omega)|(refine Ar.i64 (by omega) (by omega) ?_)|(refine Len.mk (by omega) ?_))
     all_goals (conv=>whnf)
     all_goals
      refine⟨g.ports.length-(v+1),v+1,by omega,⟨rfl,by omega⟩,?_⟩;simp only[hsc];refine weak_by (fun env own=>[(0,some 0),(1,ekey env 10)]) ?_ ?_ rfl
      . repeat' (first|exact True.intro|(refine⟨⟨_,rfl,?_⟩,?_⟩)|exact VRen.kf rfl|exact VRen.loc rfl|exact VRen.vec rfl rfl rfl)
      . repeat' (first|(refine⟨Nat.le_refl _,rfl,fun i j hi hj=>?_⟩)|exact vle_appC _ _ _ _ hcl hrl _ rfl _ _ hi hj|exact True.intro|(refine⟨⟨_,rfl,?_⟩,?_⟩)|exact VRen.kf rfl|(refine And.intro ?_ ?_))
 . have e:v=g.ports.length:=by omega
   subst e;refine VLe.fz hcl.symm (fun h=>h) (fun i j hi hj=>VLe.of_eq ?_);simp[shiftF,cfg]
theorem ret_args {P:Program} {f:FuncId} {args args':List V} {X:V} (hk:allB V.kf args'=true) (hl:LLe args' args) (h:Ret P f args X):Ret P f args' X:=fun own ks=>by
 constructor;intro M w σ us hlen hd hh;obtain⟨d1,d2⟩:=hl.dens (M:=M) (w:=w) (us:=us) hlen (fun i v u hv hu=>(hd i v u hv hu).kf (allB_mem hk v (List.mem_of_getElem? hv)) Sg.none);exact(h own ks).out M w σ us d1 (fun i v u hv hu=>(d2 i v u hv hu).mono (Ext.mk (fun _ _ h=>⟨h,rfl⟩) (Nat.le_refl _)) (Sg.none_le σ)) hh
theorem ret_res {P:Program} {f:FuncId} {args:List V} {X X':V} (hk:X.kf=true) (hl:VLe X X') (h:Ret P f args X):Ret P f args X':=fun own ks=>by
 constructor;intro M w σ us hlen hd hh;refine((h own ks).out M w σ us hlen hd hh).mono ?_;rintro e w' ⟨M',σ',v,own',ks',u,rfl,hv,hh',tr,kd,rfl,rfl,rfl⟩;exact⟨M',σ',X',_,_,u,rfl,(hl.out _ _ _ (hv.kf hk Sg.none)).mono (Ext.mk (fun _ _ h=>⟨h,rfl⟩) (Nat.le_refl _)) (Sg.none_le σ'),hh',tr,kd,rfl,rfl,rfl⟩
def AllLt:Nat->(Nat->Prop)->Prop
 | 0,_=>True
 | n+1,P=>P 0/\AllLt n fun i=>P (i+1)
theorem AllLt.out:∀{n:Nat} {P:Nat->Prop},AllLt n P->∀i,i<n->P i
 | n+1,P,h,0,_=>h.1
 | n+1,P,h,i+1,hi=>AllLt.out h.2 i (by omega)
theorem vle_fzA {n s:Nat} {f g:Nat->Nat->V} (h:AllLt n fun i=>AllLt s fun j=>VLe (f i j) (g i j)):VLe (.fz n s false f) (.fz n s false g) :=
 VLe.fz rfl (fun h=>h) fun i j hi hj=>(h.out i hi).out j hj
theorem vle_str {a b:ByteArray} (h:a=b):VLe (.str a) (.str b):=by subst h;exact .rfl
theorem cfg_len (g:G) (vs:List Vr) (raw:List Int):(cfg g vs raw).length=g.ports.length:=cfgC_len _ _ _ _
theorem cfg_row (g:G) (vs:List Vr) (raw:List Int) {v:Nat} (hv:v<g.ports.length):gC (cfg g vs raw) v=cfgR g vs raw v vs.length:=by
 simp[gC,cfg,cfgC,List.getD,hv]
theorem cfgR_get (g:G) (vs:List Vr) (raw:List Int) (v k:Nat) {i:Nat} (hi:i<k):gI (cfgR g vs raw v k) i=cfgE g vs raw v i:=by
 simp[gI,cfgR,List.getD,hi]
theorem bV_bnd (p:Pr) (hp:PrOk p) (g:G) (hg:g.valid=true) (v x:Nat) (hx:x<p.vars.length):bV g p.vars v x=bnd g (gV p.vars x) v:=by
 obtain⟨f1,f2,f3,f4,f5,f6,f7⟩:=val_facts hg;rw[bV,bnd,f3];rcases (hp.var x hx).kind with h|h|h
 . rw[if_neg (by omega),if_neg (by omega),if_pos h];rfl
 . rw[if_pos h,if_neg (by omega),if_pos h]
 . rw[if_neg (by omega),if_pos h,if_neg (by omega),if_neg (by omega)]
theorem cfg_conf (p:Pr) (hp:PrOk p) (g:G) (hg:g.valid=true) (raw:List Int):Conf p g (cfg g p.vars raw):=by
 obtain⟨f1,f2,f3,f4,f5,f6,f7⟩:=val_facts hg;refine⟨by rw[cfg_len];exact f3,fun v hv=>?_,fun v hv x hx=>?_⟩
 . rw[cfg_len] at hv;rw[cfg_row g _ raw hv,cfgR_len]
 . rw[cfg_len] at hv;rw[cfg_row g _ raw hv,cfgR_get _ _ _ _ _ hx,cfgE,bV_bnd p hp g hg v x hx];have hb:(bnd g (gV p.vars x) v).1<=(bnd g (gV p.vars x) v).2:=by
    have hx:=hp.var x hx;have h1:=bnd_in hg hx hv;rcases hx.kind with h|h|h
    . have:=h1.2.2.2.2 h;omega
    . rw[bnd,if_neg (by omega),if_pos h];decide
    . rw[bnd,if_neg (by omega),if_neg (by omega)];simp only;omega
   have hw:=within_range (gI raw (v*p.vars.length+x)) (b:=(bnd g (gV p.vars x) v).2-(bnd g (gV p.vars x) v).1+1) (by omega);omega
theorem wdpr_agg:VLe pWid.v aggC.v:=by
 repeat' (first|exact True.intro|exact VLe.rfl|exact vle_str (by kernel_rfl)|(refine VLe.agg ?_)|(refine vle_fzA ?_)|(refine And.intro ?_ ?_))
theorem agg_wdpr:VLe aggC.v pWid.v:=by
 repeat' (first|exact True.intro|exact VLe.rfl|exact vle_str (by kernel_rfl)|(refine VLe.agg ?_)|(refine vle_fzA ?_)|(refine And.intro ?_ ?_))
theorem wdcheck_ok:Ret Tryz.prog 97 [pWid.v] (.int .i64 0):=by
 have h:=ev_ret mixed tc_ok ev_check;exact ret_args (args:=[aggC.v]) rfl ⟨wdpr_agg,True.intro⟩ (by simpa only[C.vs,C.v] using h)
theorem wid_types:Ret Tryz.prog 131 [pWid.v] (.bool true):=by
 refine ret_frz rfl ?_;refine fn_rule mixed Tryz.func131 rfl hc131 hr131 rfl ?_
 repeat' ((conv=>whnf);first|(refine Br.tt ?_)|(refine wdcheck_ok.go ?_))
 all_goals (conv=>whnf)
 exact VLe.rfl
def txtB:ByteArray:=match textC with | .str l c=>bytesOf l c|_=>default
theorem text_ok:Ret Tryz.prog 28 [] (.str txtB):=by
 have:=ev_ret mixed ta_ok ev_text;simpa only[C.vs,C.v,textC,txtB] using this
theorem parse_ok:Ret Tryz.prog 75 [.str txtB] (.tup [aggC.v,.int .i64 0,.int .i64 0]):=by
 have:=ev_ret mixed tp_ok ev_parse;simpa only[C.vs,C.v,textC,txtB,progC] using this
theorem parse_ok2:Ret Tryz.prog 75 [.str txtB] (.tup [pWid.v,.int .i64 0,.int .i64 0]) :=
 ret_res (X:=.tup [aggC.v,.int .i64 0,.int .i64 0]) rfl (VLe.tup ⟨agg_wdpr,VLe.rfl,VLe.rfl,True.intro⟩) parse_ok
theorem program_ok:Ret Tryz.prog 55 [.str txtB] pWid.v:=by
 refine ret_frz rfl ?_;refine fn_rule mixed Tryz.func55 rfl hc55 hr55 rfl ?_
 repeat' ((conv=>whnf);first|(refine parse_ok2.go ?_))
 all_goals (conv=>whnf)
 exact VLe.rfl
theorem wid_prOk:PrOk pWid where
 vlen:=by decide
 var:=fun i hi=>by
  rcases (show i=0\/i=1 by have:i<2:=hi;omega) with rfl|rfl
  . exact⟨.inl rfl,by decide,by decide,by decide,by decide,by decide⟩
  . exact⟨.inr (.inr rfl),by decide,by decide,by decide,by decide,by decide⟩
 rlen:=by decide
 gd:=fun i hi=>by
  rcases (show i=0\/i=1 by have:i<2:=hi;omega) with rfl|rfl
  all_goals decide +kernel
 slen:=fun i hi=>by
  rcases (show i=0\/i=1 by have:i<2:=hi;omega) with rfl|rfl
  all_goals decide
 set:=fun i hi j hj=>by
  rcases (show i=0\/i=1 by have:i<2:=hi;omega) with rfl|rfl
  . rcases (show j=0\/j=1 by have:j<2:=hj;omega) with rfl|rfl<;>decide +kernel
  . rcases (show j=0\/j=1 by have:j<2:=hj;omega) with rfl|rfl<;>decide +kernel
 types:=wid_types
theorem ndiff_self (e f:Nat) (he:e<4294967296):ndiff e e &&& f=0:=by
 apply Nat.eq_of_testBit_eq;intro i;rw[Nat.testBit_and,Nat.zero_testBit];by_cases h:i<32
 . rw[ndiff_bit h];cases e.testBit i<;>simp
 . have:(ndiff e e).testBit i=false:=by
    have h1:ndiff e e<4294967296:=Nat.lt_of_le_of_lt Nat.and_le_left he;exact bit_high h1 (by omega)
   rw[this];rfl
theorem settle {g:G} (h:g.conn=true):∀(ws:List Nat) (c:Cf) (n:Cnt),Conf pWid g c->n.Ok->n.steps+ws.length<=4096->n.pend=enN pWid g c->(¬ TrX g c->XIn g c n)->mxV g+1<=(n.rounds:Int)+ws.length->TrX g (lastC (trc pWid g 4 c n ws))
 | [],c,n,hc,hn,hs,hp,hi,hr=>by
   have:TrX g c:=Classical.byContradiction fun q=>by
    have:=(hi q).hr;simp only[List.length_nil] at hr;omega
   exact this
 | w::ws,c,n,hc,hn,hs,hp,hi,hr=>by
   obtain⟨hg,_⟩:=conn_facts h;rw[trc];by_cases h0:enN pWid g c=0
   . rw[if_pos h0];show TrX g c;exact(wid_rests h hc).1 h0
   . rw[if_neg h0];have hne:=trc_ne pWid g 4 (nxC pWid g 4 c w) (nxK pWid g 4 c n w) ws;rw[lastC_cons _ hne];simp only[List.length_cons] at hs hr;obtain⟨c1,c2,c3,c4,c5,c6⟩:=ch_facts pWid hg (k:=4) (by decide) c w h0;obtain⟨k1,k2⟩:=nx_ok hg (k:=4) (by decide) hn (by omega) w h0;have hcn:=nx_conf wid_prOk hg (k:=4) (by decide) hc w h0;have e3:=okC4.1 c3;have hl:lft n (enN pWid g c) (enN pWid g (nxC pWid g 4 c w))=0:=by
      rw[lft,hp];exact ndiff_self _ _ (by have:=en_24 pWid hg c;omega)
     have hx:¬ TrX g (nxC pWid g 4 c w)->XIn g (nxC pWid g 4 c w) (nxK pWid g 4 c n w):=fun q=>by
      have hnt:¬ TrX g c:=fun t=>q (trX_step h hc t c2);exact xin_step h hc (hi hnt) c2 hcn q
     have e4:nxK pWid g 4 c n w=⟨n.steps+1,n.moves+cnt (enN pWid g c) 32,n.rounds+1,n.rounds+1,enN pWid g (nxC pWid g 4 c w)⟩:=by
      show Cnt.add n _ _=_;rw[Cnt.add,e3,if_pos hl]
     refine settle h ws _ _ hcn k1 (by omega) (by rw[e4]) hx ?_;rw[e4];simp only
     push_cast at hr ⊢
     omega
theorem copyR_ok (c:Cf) (hc:c.length<=1000) (hr:∀v,v<c.length->(gC c v).length<=1000):Ret Tryz.prog 73 [cV c] (cV c):=by
 refine ret_frz rfl ?_;refine(copy_ok c hc hr).mono ?_;rintro v own' _ ⟨rfl,rfl⟩
 conv=>whnf
 refine Len.mk (by omega) ?_;exact VLe.fz rfl (fun h=>h) (fun i j hi hj=>VLe.of_eq (by rw[shiftF_eq,Nat.zero_add]))
theorem rcheck_ok (p:Pr) (hp:PrOk p) (g:G) (hs:g.Small) (hg:g.valid=true) (c:Cf) (hc:Conf p g c) (k:Int) (hk:dk k=true) (n:Nat) (hn:n<=4096):Ret Tryz.prog 70 [p.v,g.v,.int .i64 k,cV c,.int .i64 n] (.int .i64 0):=by
 have h1:=check_ok p hp g hs hg c hc;have h2:=dvalid_ok k;rw[hk] at h2;refine ret_frz rfl ?_;refine fn_rule mixed Tryz.func70 rfl hc70 hr70 rfl ?_
 repeat' ((conv=>whnf);first|(refine Br.tt ?_)|(refine Br.ff ?_)|(refine Br.dec ?_ ?_<;>intro _<;>try omega)|(refine h1.go ?_)|(refine h2.go ?_))
 all_goals (conv=>whnf)
 all_goals exact VLe.rfl
def gT (l:List (Cf×Cnt)) (i:Nat):Cf×Cnt:=l.getD i default
def vCfs (l:List (Cf×Cnt)):Nat->Nat->V:=fun i _=>cV (gT l i).1
def vKs (l:List (Cf×Cnt)):Nat->Nat->V:=fun i j=>cntF (gT l i).2 j
def runV (L:List (Cf×Cnt)):V:=.tup [.fz L.length 1 false (vCfs L),.fz L.length 5 false (vKs L),.int .i64 0]
theorem en_and (p:Pr) {g:G} (hg:g.valid=true) (c:Cf):bitI .and .u32 (enN p g c:Int) (full g.ids.length:Nat)=(enN p g c:Nat):=by
 obtain⟨f1,f2,f3,f4,f5,f6,f7⟩:=val_facts hg;rw[bit_and (en_32 p hg c) (by rw[full];exact nb_lt _ (by omega))];congr 1;apply Nat.eq_of_testBit_eq;intro i;rw[Nat.testBit_and];cases e:(enN p g c).testBit i with
 | false=>rfl
 | true =>
   have:=en_part p hg c i e;rw[f3] at this;rw[this];rfl
structure RunS where
 c:Cf
 n:Cnt
 pre:List (Cf×Cnt)
 ch:List Nat
 en:List Nat
structure RunI (p:Pr) (g:G) (k:Int) (c0:Cf) (n0:Cnt) (ws:List Nat) (x:RunS):Prop where
 le:x.ch.length<=ws.length
 conf:Conf p g x.c
 ok:x.n.Ok
 steps:x.n.steps=x.ch.length
 pl:x.pre.length=x.ch.length
 el:x.en.length=x.ch.length+1
 tot:trc p g k c0 n0 ws=x.pre++trc p g k x.c x.n (ws.drop x.ch.length)
 cho:chsL p g k c0 ws=x.ch++chsL p g k x.c (ws.drop x.ch.length)
def cntC (k:Cnt):List V:=[.int .i64 k.steps,.int .i64 k.moves,.int .i64 k.rounds,.int .i64 k.begun,.int .u32 k.pend]
theorem ws_drop {ws:List Nat} {i:Nat} (h:i<ws.length):ws.drop i=ws.getD i 0::ws.drop (i+1):=by
 rw[List.drop_eq_getElem_cons h];simp[List.getD,h]
theorem run_start {p:Pr} {g:G} (hg:g.valid=true) {k:Int} {c:Cf} (hc:Conf p g c) (ws:List Nat):RunI p g k c (cnt0 (enN p g c)) ws ⟨c,cnt0 (enN p g c),[],[],[enN p g c]⟩ :=
 ⟨Nat.zero_le _,hc,cnt0_ok (en_24 p hg c),rfl,rfl,rfl,rfl,rfl⟩
theorem run_next {p:Pr} (hp:PrOk p) {g:G} (hg:g.valid=true) {k:Int} (hk:dk k=true) {c0:Cf} {n0:Cnt} {ws:List Nat} (hl:ws.length<=4000) {x:RunS} (hx:RunI p g k c0 n0 ws x) (hi:x.ch.length<ws.length) (h0:enN p g x.c≠0) :
 RunI p g k c0 n0 ws ⟨nxC p g k x.c (ws.getD x.ch.length 0),nxK p g k x.c x.n (ws.getD x.ch.length 0),x.pre++[(x.c,x.n)],x.ch++[chC p g k x.c (ws.getD x.ch.length 0)],x.en++[enN p g (nxC p g k x.c (ws.getD x.ch.length 0))]⟩:=by
 obtain⟨k1,k2⟩:=nx_ok hg hk hx.ok (by have:=hx.steps;omega) (ws.getD x.ch.length 0) h0 (k:=k);have ht:=hx.tot;have hc:=hx.cho;rw[ws_drop hi,trc,if_neg h0] at ht;rw[ws_drop hi,chsL,if_neg h0] at hc;refine⟨by simp only[List.length_append,List.length_singleton];omega,nx_conf hp hg hk hx.conf _ h0,k1,?_,?_,?_,?_,?_⟩
 . simp only[List.length_append,List.length_singleton];rw[k2,hx.steps]
 . simp only[List.length_append,List.length_singleton];rw[hx.pl]
 . simp only[List.length_append,List.length_singleton];rw[hx.el]
 . simp only[List.length_append,List.length_singleton];rw[ht];simp
 . simp only[List.length_append,List.length_singleton];rw[hc];simp
theorem run_end {p:Pr} {g:G} {k:Int} {c0:Cf} {n0:Cnt} {ws:List Nat} {x:RunS} (hx:RunI p g k c0 n0 ws x) (h:x.ch.length=ws.length\/enN p g x.c=0):trc p g k c0 n0 ws=x.pre++[(x.c,x.n)]/\chsL p g k c0 ws=x.ch:=by
 have ht:=hx.tot;have hc:=hx.cho;by_cases e:x.ch.length<ws.length
 . have h0:enN p g x.c=0:=by rcases h with h|h;omega;exact h
   rw[ws_drop e,trc,if_pos h0] at ht;rw[ws_drop e,chsL,if_pos h0] at hc;exact⟨ht,by simpa using hc⟩
 . rw[List.drop_of_length_le (by omega)] at ht hc;exact⟨ht,by simpa[chsL] using hc⟩
theorem vle_appU7 (l:List Nat) (a:Nat) (F:Nat->Nat->V) (x:Int) (hF:F 0 0=.int .u32 x) (hx:x=a) (i j:Nat) (hi:i<(l++[a]).length) (hj:j<1):VLe (fapp (shiftF 0 (vU7 l)) l.length (shiftF 0 F) i j) (vU7 (l++[a]) i j):=by
 obtain rfl:j=0:=by omega
 apply VLe.of_eq;simp only[List.length_append,List.length_singleton] at hi;by_cases h:i<l.length
 . rw[fapp_lt h,shiftF_eq,Nat.zero_add];simp[vU7,List.getD,List.getElem?_append_left h]
 . rw[fapp_ge h];have:i=l.length:=by omega
   subst this;simp[shiftF,hF,vU7,hx]
theorem gT_snoc (l:List (Cf×Cnt)) (a:Cf×Cnt) (i:Nat) (h:i<l.length+1):gT (l++[a]) i=if i<l.length then gT l i else a:=by
 by_cases e:i<l.length
 . simp[gT,List.getD,e,List.getElem?_append_left e]
 . have:i=l.length:=by omega
   subst this;simp[gT,List.getD]
theorem vle_appCf (l:List (Cf×Cnt)) (a:Cf×Cnt) (F:Nat->Nat->V) (hF:F 0 0=cV a.1) (n i j:Nat) (hn:n=l.length) (hi:i<l.length+1) (hj:j<1):VLe (fapp (shiftF 0 (vCfs l)) n (shiftF 0 F) i j) (vCfs (l++[a]) i j):=by
 obtain rfl:j=0:=by omega
 subst hn;apply VLe.of_eq;rw[vCfs,gT_snoc l a i hi];by_cases h:i<l.length
 . rw[fapp_lt h,shiftF_eq,Nat.zero_add,if_pos h];rfl
 . rw[fapp_ge h,if_neg h];have:i=l.length:=by omega
   subst this;simp[shiftF,hF]
theorem vle_appCnt (l:List (Cf×Cnt)) (a:Cf×Cnt) (F:Nat->Nat->V) (hF:∀j,j<5->F 0 j=cntF a.2 j) (n i j:Nat) (hn:n=l.length) (hi:i<l.length+1) (hj:j<5):VLe (fapp (shiftF 0 (vKs l)) n (shiftF 0 F) i j) (vKs (l++[a]) i j):=by
 subst hn;apply VLe.of_eq;rw[vKs,gT_snoc l a i hi];by_cases h:i<l.length
 . rw[fapp_lt h,shiftF_eq,Nat.zero_add,if_pos h];rfl
 . rw[fapp_ge h,if_neg h];have:i=l.length:=by omega
   subst this;simp only[shiftF_eq,Nat.zero_add,Nat.sub_self];exact hF j hj
theorem five_cnt (k:Cnt) (F:Nat->Nat->V) (h0:F 0 0=.int .i64 k.steps) (h1:F 0 1=.int .i64 k.moves) (h2:F 0 2=.int .i64 k.rounds) (h3:F 0 3=.int .i64 k.begun) (h4:F 0 4=.int .u32 k.pend):∀j,j<5->F 0 j=cntF k j:=fun j hj=>by
 rcases (show j=0\/j=1\/j=2\/j=3\/j=4 by omega) with rfl|rfl|rfl|rfl|rfl
 . exact h0
 . exact h1
 . exact h2
 . exact h3
 . exact h4
theorem vle_e0 {X:V} {F:Nat->Nat->V} (h:F 0 0=X) (i j:Nat) (hi:i<1) (hj:j<1):VLe (shiftF 0 (tab [[X]]) i j) (F i j):=by
 obtain rfl:i=0:=by omega
 obtain rfl:j=0:=by omega
 rw[h];exact VLe.rfl
theorem vle_k0 {k:Cnt} {F:Nat->Nat->V} (h:∀j,F 0 j=cntF k j) (i j:Nat) (hi:i<1) (hj:j<5):VLe (shiftF 0 (tab [[.int .i64 k.steps,.int .i64 k.moves,.int .i64 k.rounds,.int .i64 k.begun,.int .u32 k.pend]]) i j) (F i j):=by
 obtain rfl:i=0:=by omega
 rw[h];rcases (show j=0\/j=1\/j=2\/j=3\/j=4 by omega) with rfl|rfl|rfl|rfl|rfl<;>exact VLe.rfl
theorem runV_end (L:List (Cf×Cnt)) (n:Nat) (hn:n=L.length):VLe (V.tup [.fz n 1 false (shiftF 0 (vCfs L)),.fz n 5 false (shiftF 0 (vKs L)),.int .i64 0]) (runV L):=by
 subst hn;refine VLe.tup ⟨VLe.fz rfl (fun h=>h) (fun i j _ _=>VLe.of_eq (by rw[shiftF_eq,Nat.zero_add])),VLe.fz rfl (fun h=>h) (fun i j _ _=>VLe.of_eq (by rw[shiftF_eq,Nat.zero_add])),VLe.rfl,True.intro⟩
set_option maxHeartbeats 16000000 in
theorem watch_ok (p:Pr) (hp:PrOk p) (g:G) (hs:g.Small) (hg:g.valid=true) (k:Int) (hk:dk k=true) (c:Cf) (hc:Conf p g c) (ws:List Nat) (hwl:ws.length<=1000) (hw:∀w∈ws,w<4294967296) :
 RG 54 [p.v,g.v,.int .i64 k,cV c,.fz ws.length 1 false (vU7 ws)] (runV (trc p g k c (cnt0 (enN p g c)) ws)):=by
 obtain⟨f1,f2,f3,f4,f5,f6,f7⟩:=val_facts hg;have hcl:=hc.len;have hvl:=hp.vlen;have h1:=rcheck_ok p hp g hs hg c hc k hk ws.length (by omega);have h2:=mover_ok p hp g hg;have h3:=newnet_ok g hs hg;have h4:=all_ok g hg;have h5:=copyR_ok c (by omega) (fun v hv=>by have:=hc.row v hv;omega);have h6:=men_ok p hp g hg c hc;have h7:=begin_ok (enN p g c) (en_24 p hg c);have ha:=en_and p hg c;refine ret_frzG2 rfl ?_;refine fn_rule mixed Tryz.func54 rfl hc54 hr54 rfl ?_
 repeat' ((conv=>whnf);first|(refine Sv.mk _ ha.symm ?_)|(refine Br.ff ?_)|(refine Len.mk (by omega) ?_)|(refine h1.go ?_)|(refine h2.go ?_)|(refine h3.go ?_)|(refine h4.go ?_)|(refine h5.go ?_)|(refine h6.go ?_)|(refine h7.go ?_)|(refine fn_rule mixed Tryz.func71 rfl hc71 hr71 rfl ?_)|(refine fn_rule mixed Tryz.func74 rfl hc74 hr74 rfl ?_)|(refine fn_rule mixed Tryz.func91 rfl hc91 hr91 rfl ?_)|(refine fn_rule mixed Tryz.func72 rfl hc72 hr72 rfl ?_)|(refine Chk.mk (by kernel_rfl) ?_)|(refine And.intro rfl ?_))
 all_goals (conv=>whnf)
 refine loop_w mixed [3,4,8,10,12,39] [17,19,21,22] [23,24,25,26,27,28,29,30,31,32,33,34,35,36,37,38,39,40,41,42,43,44,45,46,47,48,49,50,51,52,53,54,55,56,57,58,59] [22,21,19,17,14,13,12,11,10,9,8,3,2,999] (fun x:RunS=>[(1,cV x.c),(11,.int .u32 (enN p g x.c:Nat)),(40,.int .i64 x.ch.length)]) (fun x=>[(22,.vec x.ch.length 1 (vU7 x.ch)),(21,.vec x.en.length 1 (vU7 x.en)),(19,.vec (x.pre.length+1) 5 (vKs (x.pre++[(x.c,x.n)]))),(17,.vec (x.pre.length+1) 1 (vCfs (x.pre++[(x.c,x.n)]))),(14,.cells (cntC x.n)),(13,.cells [.vec 22 1 0 x.ch.length,.vec 21 1 0 x.en.length,.nilslice,.int .i64 0,.int .i64 0,.int .i64 0,.int .i64 0,.int .u32 0]),(12,.cells [.nilslice,.nilslice,.nilslice,.int .i64 0,.int .i64 0,.int .i64 0,.int .i64 0,.int .u32 0]),(11,.cells [mvP p g,.fz g.ports.length 1 false (vNet g),.int .i64 k,.int .u32 (full g.ids.length:Nat),.fn (.func 72) false [.loc 2 0,.loc 3 0]]),(10,.cells [.nilslice,.nilslice,.nilslice,.int .i64 0,.int .i64 0,.int .i64 0,.int .i64 0,.int .u32 0]),(9,.cells [.fz ws.length 1 false (vU7 ws)]),(8,.cells [mvP p g,.fz g.ports.length 1 false (vNet g),.int .i64 k,.int .u32 (full g.ids.length:Nat),.fn (.func 72) false [.loc 2 0,.loc 3 0]]),(3,.cells [.vec 19 5 0 (x.pre.length+1)]),(2,.cells [.vec 17 1 0 (x.pre.length+1)]),(999,GB)]) (fun m x=>m=ws.length-x.ch.length/\RunI p g k c (cnt0 (enN p g c)) ws x) ws.length ⟨c,cnt0 (enN p g c),[],[],[enN p g c]⟩ ⟨rfl,run_start hg hc ws⟩ rfl (fun _=>rfl) ?_ ?_
 . refine weak_by (fun _ _=>[(14,some 14),(13,some 13),(12,some 12),(11,some 11),(10,some 10),(9,some 9),(8,some 8),(3,some 3),(2,some 2),(999,some 999),(17,some 17),(19,some 19),(21,some 21),(22,none)]) ?_ ?_ rfl
   . repeat' (first|exact True.intro|(refine VRen.fn ?_)|(refine⟨⟨_,rfl,?_⟩,?_⟩)|exact VRen.kf rfl|exact VRen.loc rfl|(refine And.intro ?_ ?_))
   . repeat' (first|exact vle_e0 (by rfl) _ _ hi hj|exact vle_k0 (k:=cnt0 (enN p g c)) (fun _=>by rfl) _ _ hi hj|exact True.intro|(refine VRen.fn ?_)|exact⟨rfl,rfl,rfl⟩|(refine⟨⟨_,rfl,?_⟩,?_⟩)|exact VRen.kf rfl|exact VRen.loc rfl|exact VRen.vec rfl rfl rfl|exact VRen.nil rfl rfl|(refine⟨Nat.le_refl _,rfl,fun i j hi hj=>?_⟩)|(refine⟨⟨_,_,rfl⟩,?_⟩)|(refine And.intro ?_ ?_))
 rintro m x ⟨hm,hx⟩;clear h5 h6 h7 ha;have hcx:=hx.conf;have hlx:=hcx.len;have hpl:=hx.pl;have hel:=hx.el;have hle:=hx.le;by_cases hi:x.ch.length<ws.length
 . have hwb:ws.getD x.ch.length 0<4294967296:=hw _ (by rw[List.getD_eq_getElem?_getD,List.getElem?_eq_getElem hi];exact List.getElem_mem hi);have hrs:=nresolve_ok g hg k (enN p g x.c) (ws.getD x.ch.length 0) (en_32 p hg x.c) hwb (en_part p hg x.c);change RG _ _ (.int .u32 (chC p g k x.c (ws.getD x.ch.length 0):Nat)) at hrs;by_cases h0:enN p g x.c=0
   . obtain⟨e1,e2⟩:=run_end hx (.inr h0);rw[e1]
     repeat' ((conv=>whnf);first|(refine Br.ff ?_)|(refine Br.dec ?_ ?_<;>intro _<;>try omega)|(refine Br.bne ?_ ?_<;>intro _<;>try omega)|(refine Ix.nat (by omega) ?_)|(refine Len.mk (by omega) ?_)|(refine hrs.gog ?_)|(refine fn_rule mixed Tryz.func92 rfl hc92 hr92 rfl ?_)|(refine Chk.mk (by kernel_rfl) ?_)|(refine And.intro rfl ?_))
     all_goals (conv=>whnf)
     all_goals exact runV_end _ _ (by simp)
   . have hnx:=run_next hp hg hk (by omega) hx hi h0;obtain⟨c1,c2,c3,c4,c5,c6⟩:=ch_facts p hg hk x.c (ws.getD x.ch.length 0) h0;have hcn:=nx_conf hp hg hk hcx (ws.getD x.ch.length 0) h0;have hpm:=npermits_ok g hg k (enN p g x.c) (chC p g k x.c (ws.getD x.ch.length 0)) (en_32 p hg x.c) (by omega) (en_part p hg x.c);have hin:inner g k (enN p g x.c) (chC p g k x.c (ws.getD x.ch.length 0))=true:=rs_inner hg hk (en_32 p hg x.c) (en_part p hg x.c) h0;rw[hin] at hpm;have hst:=mstep_ok p hp g hg x.c hcx (chC p g k x.c (ws.getD x.ch.length 0)) (by omega) (fun v hv hb=>by have:=c2 v hb;rw[en_bit,Bool.and_eq_true,decide_eq_true_eq,decide_eq_true_eq] at this;exact this.2);change Ret _ _ _ (cV (nxC p g k x.c (ws.getD x.ch.length 0))) at hst;have hen:=men_ok p hp g hg _ hcn;have ha:=en_and p hg (nxC p g k x.c (ws.getD x.ch.length 0));have hcp:=copyR_ok (nxC p g k x.c (ws.getD x.ch.length 0)) (by rw[hcn.len];omega) (fun v hv=>by have:=hcn.row v hv;omega);have had:=add_ok x.n hx.ok (by have:=hx.steps;omega) (chC p g k x.c (ws.getD x.ch.length 0)) (enN p g (nxC p g k x.c (ws.getD x.ch.length 0))) c1 c4 (en_24 p hg _);change Ret _ _ _ (.tup [(nxK p g k x.c x.n (ws.getD x.ch.length 0)).v,.int .i64 0]) at had;generalize nxK p g k x.c x.n (ws.getD x.ch.length 0)=n' at *;generalize nxC p g k x.c (ws.getD x.ch.length 0)=c' at *;generalize chC p g k x.c (ws.getD x.ch.length 0)=s at *;have e1:=en_32 p hg x.c
     repeat' ((conv=>whnf);first|(refine Sv.mk _ ha.symm ?_)|(refine Br.tt ?_)|(refine Br.dec ?_ ?_<;>intro _<;>try omega)|(refine Br.bne ?_ ?_<;>intro _<;>try omega)|(refine Br.nbeq ?_ ?_<;>intro _<;>try omega)|(refine Ar.i64 (by omega) (by omega) ?_)|(refine Ix.nat (by omega) ?_)|(refine Len.mk (by omega) ?_)|(refine hrs.gog ?_)|(refine hpm.gog ?_)|(refine hst.go ?_)|(refine hen.go ?_)|(refine hcp.go ?_)|(refine had.go ?_)|(refine fn_rule mixed Tryz.func72 rfl hc72 hr72 rfl ?_)|(refine fn_rule mixed Tryz.func92 rfl hc92 hr92 rfl ?_)|(refine Chk.mk (by kernel_rfl) ?_)|(refine And.intro rfl ?_))
     all_goals (conv=>whnf)
     refine⟨_,_,?_,⟨rfl,hnx⟩,?_⟩
     . simp only[List.length_append,List.length_singleton];omega
     . refine weak_by (fun env own=>[(14,some 14),(13,some 13),(12,some 12),(11,some 11),(10,some 10),(9,some 9),(8,some 8),(3,some 3),(2,some 2),(999,some 999),(17,ckeyo own 2 0),(19,ckeyo own 3 0),(21,ckeyo own 13 1),(22,ckeyo own 13 0)]) ?_ ?_ rfl
       . repeat' (first|exact VRen.int (by simp only[List.length_append,List.length_singleton]<;>omega)|exact True.intro|(refine VRen.fn ?_)|(refine⟨⟨_,rfl,?_⟩,?_⟩)|exact VRen.kf rfl|exact VRen.loc rfl|(refine And.intro ?_ ?_))
       . repeat' (first|exact VRen.vec rfl rfl (by simp only[List.length_append,List.length_singleton]<;>omega)|(refine⟨by simp only[List.length_append,List.length_singleton]<;>omega,rfl,fun i j hi hj=>?_⟩)|exact VRen.int (by simp only[List.length_append,List.length_singleton]<;>omega)|exact vle_appU7 _ _ _ _ (by rfl) (by rfl) _ _ hi hj|exact vle_appCf _ _ _ (by rfl) _ _ _ (by simp) hi hj|exact vle_appCnt _ _ _ (five_cnt _ _ (by rfl) (by rfl) (by rfl) (by rfl) (by rfl)) _ _ _ (by simp) hi hj|exact True.intro|(refine VRen.fn ?_)|exact⟨rfl,rfl,rfl⟩|(refine⟨⟨_,rfl,?_⟩,?_⟩)|exact VRen.kf rfl|exact VRen.loc rfl|(refine And.intro ?_ ?_))
 . obtain⟨e1,e2⟩:=run_end hx (.inl (by omega));rw[e1]
   repeat' ((conv=>whnf);first|(refine Br.ff ?_)|(refine Br.dec ?_ ?_<;>intro _<;>try omega)|(refine Len.mk (by omega) ?_)|(refine And.intro rfl ?_))
   all_goals (conv=>whnf)
   all_goals exact runV_end _ _ (by simp)
theorem wrun_ok (t:ByteArray) (p:Pr) (hp:PrOk p) (hpr:Ret Tryz.prog 55 [.str t] p.v) (g:G) (hs:g.Small) (hg:g.valid=true) (k:Int) (hk:dk k=true) (c:Cf) (hc:Conf p g c) (ws:List Nat) (hwl:ws.length<=1000) (hw:∀w∈ws,w<4294967296) :
 RG 27 [.str t,g.v,.int .i64 k,cV c,.fz ws.length 1 false (vU7 ws)] (.tup [.fz (trc p g k c (cnt0 (enN p g c)) ws).length 1 false (vCfs (trc p g k c (cnt0 (enN p g c)) ws)),.fz (trc p g k c (cnt0 (enN p g c)) ws).length 5 false (vKs (trc p g k c (cnt0 (enN p g c)) ws)),.bool true]):=by
 have h1:=watch_ok p hp g hs hg k hk c hc ws hwl hw;have h2:=trc_ne p g k c (cnt0 (enN p g c)) ws;have h3:=trc_len p g k ws c (cnt0 (enN p g c));rw[runV] at h1;generalize trc p g k c (cnt0 (enN p g c)) ws=L at *;refine ret_frzG rfl ?_;refine fn_rule mixed Tryz.func27 rfl hc27 hr27 rfl ?_
 repeat' ((conv=>whnf);first|(refine Br.tt ?_)|(refine Br.dec ?_ ?_<;>intro _<;>try omega)|(refine h1.gog ?_)|(refine hpr.go ?_)|(refine And.intro rfl ?_))
 all_goals (conv=>whnf)
 all_goals exact VLe.rfl
theorem gT_mem {T:List (Cf×Cnt)} {i:Nat} (h:i<T.length):gT T i∈T:=by
 simp[gT,List.getD,h]
theorem gT_last {T:List (Cf×Cnt)} (h:0<T.length):(gT T (T.length-1)).1=lastC T:=by
 have:T.getLast?=T[T.length-1]?:=List.getLast?_eq_getElem?;simp only[gT,lastC,this,List.getD]
theorem csmall_of {p:Pr} (hp:PrOk p) {g:G} (hg:g.valid=true) {c:Cf} (h:Conf p g c):CSmall c:=by
 obtain⟨f1,f2,f3,f4,f5,f6,f7⟩:=val_facts hg;have hl:=h.len;have hv:=hp.vlen;refine⟨by omega,fun r hr=>?_⟩;obtain⟨i,hi,e⟩:=List.mem_iff_getElem.1 hr;have h2:gC c i=r:=by simp[gC,List.getD,hi,e]
 have:=h.row i hi;rw[<- h2];omega
theorem brF {b:Bool} {A B:Prop} (e:b=false) (h:B):Br b A B:=⟨fun e'=>(by rw[e] at e';cases e'),fun _=>h⟩
set_option maxHeartbeats 16000000 in
theorem settled_ok (g:G) (hgc:g.conn=true) (raw:List Int) (hraw:raw.length<=9223372036854775807):∃c,Conf pWid g c/\TrX g c/\RG 10 [g.v,.fz raw.length 1 false (vI raw)] (.tup [cV c,.bool true]):=by
 obtain⟨hg,_⟩:=conn_facts hgc;obtain⟨f1,f2,f3,f4,f5,f6,f7⟩:=val_facts hg;have hs:=valid_small hg;have hcf:=config_ok g hg vW2 vW_ok vW_lo raw hraw;have hc:=cfg_conf pWid wid_prOk g hg raw;change Conf pWid g (cfg g vW2 raw) at hc;generalize cfg g vW2 raw=c at *;have hv:=wvars25_ok;have htx:=text_ok;have hw0:=wishes_ok [] (by simp) (16*g.ids.length) (by omega);have hwi:Ret Tryz.prog 31 [.nilslice,.int .i64 ((16*g.ids.length:Nat):Int)] (.fz (wsL [] (16*g.ids.length)).length 1 false (vU7 (wsL [] (16*g.ids.length)))) :=
  ret_args (args:=[.fz ([]:List Int).length 1 false (vUI []),.int .i64 ((16*g.ids.length:Nat):Int)]) rfl ⟨VLe.nilfz rfl,VLe.rfl,True.intro⟩ hw0
 have hwl:=wsL_len [] (16*g.ids.length);have hwlt:=wsL_lt [] (16*g.ids.length);generalize wsL [] (16*g.ids.length)=ws at *;have hrun:=wrun_ok txtB pWid wid_prOk program_ok g hs hg 4 (by decide) c hc ws (by omega) hwlt;have hall:=trc_all wid_prOk hg (k:=4) (by decide) ws c (cnt0 (enN pWid g c)) hc (cnt0_ok (en_24 _ hg c)) (by simp only[cnt0];omega);have hne:=trc_ne pWid g 4 c (cnt0 (enN pWid g c)) ws;have hmx:=mx_top hgc;have hset:=settle hgc ws c (cnt0 (enN pWid g c)) hc (cnt0_ok (en_24 _ hg c)) (by simp only[cnt0];omega) rfl (fun _=>xin_start hgc hc) (by simp only[cnt0];omega);have hlen:=trc_len pWid g 4 ws c (cnt0 (enN pWid g c));generalize trc pWid g 4 c (cnt0 (enN pWid g c)) ws=T at *;have hlast:=gT_last hne;have hlc:Conf pWid g (gT T (T.length-1)).1:=(hall _ (gT_mem (by omega))).1;rw[<- hlast] at hset;have hlg:=wdlegit_ok g hs _ (csmall_of wid_prOk hg hlc);rw[(xleg_iff hgc hlc).2 hset] at hlg;refine⟨_,hlc,hset,?_⟩;refine ret_frzG rfl ?_;refine fn_rule mixed Tryz.func10 rfl hc10 hr10 rfl ?_
 repeat' ((conv=>whnf);first|(refine Ar.mk ((16*g.ids.length:Nat):Int) (by rw[wrap_i64 (by omega) (by omega)];omega) ?_)|(refine Ix.mk (T.length-1) (by omega) (by omega) ?_)|(refine Br.tt ?_)|(refine Ar.i64 (by omega) (by omega) ?_)|(refine hcf.go ?_)|(refine hv.go ?_)|(refine htx.go ?_)|(refine hwi.go ?_)|(refine hlg.go ?_)|(refine hrun.gog ?_)|(refine And.intro rfl ?_))
 all_goals (conv=>whnf)
 all_goals exact VLe.rfl
def vSw (a:Nat):Nat->Nat->V:=fun i _=>.int .i64 ((swp a i:Nat):Int)
def snS (a k:Nat):Nat->Nat->V:=fun u _=>.bool (decide (swp a u<k))
theorem sn_next (a k u t:Nat) (ht:t<1) (m:Nat) (hm:m=swp a k):VLe (fset (snS a k) m 0 [.bool true] u t) (snS a (k+1) u t):=by
 obtain rfl:t=0:=by omega
 subst hm;apply VLe.of_eq;by_cases h:u=swp a k
 . subst h;simp[fset,snS,swp_swp]
 . have hne:swp a u≠k:=fun e=>h (by rw[<- e,swp_swp]);have:fset (snS a k) (swp a k) 0 [.bool true] u 0=snS a k u 0:=by simp[fset,h]
   rw[this];show V.bool _=V.bool _;congr 1;rw[decide_eq_decide];omega
theorem perm_ok (n a:Nat) (hn:n<=24) (ha:a<n):Ret Tryz.prog 34 [.fz n 1 false (vSw a),.int .i64 n] (.bool true):=by
 refine ret_frz rfl ?_;refine fn_rule mixed Tryz.func34 rfl hc34 hr34 rfl ?_
 repeat' ((conv=>whnf);first|(refine Br.bne ?_ ?_<;>intro _<;>try omega)|(refine Bd.nat (by omega) ?_)|(refine Len.mk (by omega) ?_)|(refine MkS.vec ?_))
 all_goals (conv=>whnf)
 refine loop_w mixed [1,5,14,15] [] [1,2,3,4,5,6,7,8,9,10,11,12,13,14,15,16,17,18,19,20,21,22,23,24,25,26,27,28,29] [0] (fun k:Nat=>[(16,.int .i64 k)]) (fun k=>[(0,.vec n 1 (snS a k))]) (fun m k=>m=n-k/\k<=n) n 0 ⟨rfl,Nat.zero_le _⟩ rfl (fun _=>rfl) ?_ ?_
 . refine weak_by (fun _ _=>[(0,some 0)]) ?_ ?_ rfl
   . repeat' (first|exact True.intro|(refine⟨⟨_,rfl,?_⟩,?_⟩)|exact VRen.kf rfl|exact VRen.vec rfl rfl rfl)
   . repeat' (first|exact⟨Nat.le_refl _,rfl,fun i j hi hj=>VLe.of_eq (by obtain rfl:j=0:=(by omega);simp[snS])⟩|exact True.intro|(refine⟨⟨_,rfl,?_⟩,?_⟩))
 rintro m k ⟨hm,hk⟩;by_cases hkn:k<n
 . have hs:=swp_lt ha hkn;have e1:decide (swp a (0+swp a k)<k)=false:=by rw[Nat.zero_add,swp_swp];simp
   repeat' ((conv=>whnf);first|(refine Ix.mk (swp a k) rfl (by omega) ?_)|(refine brF (by first|exact e1|(simp only[Nat.zero_add];simp only[Nat.zero_add] at e1;exact e1)) ?_)|(refine Br.ff ?_)|(refine Br.dec ?_ ?_<;>intro _<;>try omega)|(refine Ar.i64 (by omega) (by omega) ?_)|(refine Ix.nat (by omega) ?_)|(refine Ltn.mk (by omega) ?_))
   all_goals (conv=>whnf)
   all_goals
    refine⟨n-(k+1),k+1,by omega,⟨rfl,by omega⟩,?_⟩;refine weak_by (fun _ _=>[(0,some 0)]) ?_ ?_ rfl
    . repeat' (first|exact True.intro|(refine⟨⟨_,rfl,?_⟩,?_⟩)|exact VRen.kf rfl|exact VRen.vec rfl rfl rfl)
    . repeat' (first|exact⟨Nat.le_refl _,rfl,fun i t hi ht=>by simp only[Nat.zero_add];exact sn_next a k i t ht _ rfl⟩|exact True.intro|(refine⟨⟨_,rfl,?_⟩,?_⟩))
 . repeat' ((conv=>whnf);first|(refine Br.dec ?_ ?_<;>intro _<;>try omega))
   all_goals (conv=>whnf)
   exact VLe.rfl
def idV:Nat->Nat->V:=fun i _=>.int .i64 i
def idK (k:Nat):Nat->Nat->V:=fun i _=>.int .i64 (if i<k then (i:Int) else 0)
theorem idK_next (k u t:Nat) (ht:t<1):VLe (fset (idK k) k 0 [.int .i64 (k:Int)] u t) (idK (k+1) u t):=by
 obtain rfl:t=0:=by omega
 apply VLe.of_eq;by_cases h:u=k
 . subst h;simp[fset,idK]
 . have:fset (idK k) k 0 [.int .i64 (k:Int)] u 0=idK k u 0:=by simp[fset,h]
   rw[this];show V.int _ _=V.int _ _;congr 1;by_cases h2:u<k
   . rw[if_pos h2,if_pos (by omega)]
   . rw[if_neg h2,if_neg (by omega)]
theorem empty_own (n:Nat) (hn:n<=24):CallF Tryz.prog 35 [.int .i64 n] [] KS fun v own' _=>v=gV1 n n/\own'=[(0,.vec n 1 idV),(1,famP (List.replicate n []))]:=by
 refine call_post ?_;refine fn_rule mixed Tryz.func35 rfl hc35 hr35 rfl ?_
 repeat' ((conv=>whnf);first|(refine Bd.nat (by omega) ?_)|(refine Len.mk (by omega) ?_)|(refine MkS.vec ?_))
 all_goals (conv=>whnf)
 refine loop_u mixed [2,3,12] [] [4,5,6,7,8,9,10,11,12,13,14,15,16,17,18,19,20,21,22,23,24,25,26,27,28,29] [3,2,1,0] (fun k:Nat=>[(13,.int .i64 k)]) (fun own k=>updO own 1 (.vec n 1 (idK k))) (fun m k=>m=n-k/\k<=n) n 0 ⟨rfl,Nat.zero_le _⟩ rfl (fun _=>rfl) ?_ ?_
 . refine weak_by (fun _ _=>[(0,some 0),(1,some 1),(2,some 2),(3,some 3)]) ?_ ?_ rfl
   . repeat' (first|exact True.intro|(refine⟨⟨_,rfl,?_⟩,?_⟩)|exact VRen.kf rfl|exact VRen.loc rfl)
   . repeat' (first|exact⟨Nat.le_refl _,rfl,fun i j hi hj=>VLe.of_eq (by obtain rfl:j=0:=(by omega);simp[idK])⟩|exact True.intro|(refine⟨⟨_,rfl,?_⟩,?_⟩)|exact VRen.kf rfl|exact VRen.vec rfl rfl rfl|(refine And.intro ?_ ?_))
 rintro m k ⟨hm,hk⟩;by_cases hkn:k<n
 . repeat' ((conv=>whnf);first|(refine Ix.mk k rfl (by omega) ?_)|(refine Br.dec ?_ ?_<;>intro _<;>try omega)|(refine Ar.i64 (by omega) (by omega) ?_)|(refine Ltn.mk (by omega) ?_))
   all_goals (conv=>whnf)
   all_goals
    refine⟨n-(k+1),k+1,by omega,⟨rfl,by omega⟩,?_⟩;refine weak_by (fun _ _=>[(0,some 0),(1,some 1),(2,some 2),(3,some 3)]) ?_ ?_ rfl
    . repeat' (first|exact True.intro|(refine⟨⟨_,rfl,?_⟩,?_⟩)|exact VRen.kf rfl|exact VRen.loc rfl)
    . repeat' (first|exact⟨Nat.le_refl _,rfl,fun i t hi ht=>by simp only[Nat.zero_add];exact idK_next k i t ht⟩|exact True.intro|(refine⟨⟨_,rfl,?_⟩,?_⟩)|exact VRen.kf rfl|exact VRen.vec rfl rfl rfl|(refine⟨Nat.le_refl _,rfl,fun i j hi hj=>?_⟩)|exact VLe.rfl|(refine And.intro ?_ ?_))
 . have e:k=n:=by omega
   subst e
   repeat' ((conv=>whnf);first|(refine Br.dec ?_ ?_<;>intro _<;>try omega))
   all_goals (conv=>whnf)
   exact postR_byV (fun v o=>[(0,vkey v 0),(1,vkey v 1)]) _ _ ⟨rfl,rfl⟩ (VRen.agg ⟨VRen.vec rfl rfl rfl,VRen.vec rfl rfl rfl,True.intro⟩) ⟨⟨_,rfl,Nat.le_refl _,rfl,fun i j hi hj=>VLe.of_eq (by show V.int _ _=V.int _ _;rw[if_pos hi])⟩,⟨_,rfl,vec_fam [] _⟩,True.intro⟩ rfl
def rlI (g:G) (a v:Nat):Nat->Nat->V:=fun u _=>.int .i64 (if swp a u<v then gI g.ids (swp a u) else (u:Int))
def rlR (g:G) (a v i u:Nat):Lt2':=if swp a u<v then (gR g.ports (swp a u)).map (swL a) else if swp a u=v then ((gR g.ports v).take i).map (swL a) else[]
def rlP (g:G) (a v i:Nat):Ps:=(List.range g.ports.length).map (rlR g a v i)
theorem rlP_row (g:G) (a v i:Nat) {u:Nat} (hu:u<g.ports.length):gR (rlP g a v i) u=rlR g a v i u:=by simp[gR,rlP,List.getD,hu]
theorem rlR_at (g:G) (a v i:Nat):rlR g a v i (swp a v)=((gR g.ports v).take i).map (swL a):=by
 rw[rlR,swp_swp,if_neg (by omega),if_pos rfl]
theorem rlR_else {g:G} {a v i j u:Nat} (h:u≠swp a v):rlR g a v i u=rlR g a v j u:=by
 have hne:swp a u≠v:=fun e=>h (by rw[<- e,swp_swp]);rw[rlR,rlR];by_cases h1:swp a u<v
 . rw[if_pos h1,if_pos h1]
 . rw[if_neg h1,if_neg h1,if_neg hne,if_neg hne]
theorem rlR_next {g:G} {a v u:Nat}:rlR g a v (gR g.ports v).length u=rlR g a (v+1) 0 u:=by
 rw[rlR,rlR];by_cases h1:swp a u<v
 . rw[if_pos h1,if_pos (by omega)]
 . by_cases h2:swp a u=v
   . rw[if_neg h1,if_pos h2,if_pos (by omega),List.take_of_length_le (Nat.le_refl _),h2]
   . rw[if_neg h1,if_neg h2,if_neg (by omega)];by_cases h3:swp a u=v+1
     . rw[if_pos h3];simp
     . rw[if_neg h3]
theorem rlR_end {g:G} {a u:Nat} (ha:a<g.ports.length) (hu:u<g.ports.length):rlR g a g.ports.length 0 u=gR (rlG g a).ports u:=by
 rw[rlR,if_pos (swp_lt ha hu),rl_row hu]
theorem rlI_next (g:G) (a v u t:Nat) (ht:t<1) (m:Nat) (hm:m=swp a v):VLe (fset (rlI g a v) m 0 [.int .i64 (gI g.ids v)] u t) (rlI g a (v+1) u t):=by
 obtain rfl:t=0:=by omega
 subst hm;apply VLe.of_eq;by_cases h:u=swp a v
 . subst h;simp[fset,rlI,swp_swp]
 . have hne:swp a u≠v:=fun e=>h (by rw[<- e,swp_swp]);have:fset (rlI g a v) (swp a v) 0 [.int .i64 (gI g.ids v)] u 0=rlI g a v u 0:=by simp[fset,h]
   rw[this];show V.int _ _=V.int _ _;congr 1;by_cases h2:swp a u<v
   . rw[if_pos h2,if_pos (by omega)]
   . rw[if_neg h2,if_neg (by omega)]
theorem rl_fam {ρ:Rn} {g:G} {a v i q q':Nat} (hv:v<g.ports.length) (ha:a<g.ports.length) (hi:i<(gR g.ports v).length) (hq:Go.Eng.look ρ q'=some (some q)) :
 BRen ρ (.fam g.ports.length 2 (setN (lenP (rlP g a v i)) (swp a v) (i+1)) (rowP (rlP g a v i)) [(swp a v,q)]) (.fam g.ports.length 2 (lenP (rlP g a v (i+1))) (rowP (rlP g a v (i+1))) [(swp a v,q')]):=by
 have hs:=swp_lt ha hv;refine⟨rfl,rfl,⟨rfl,hq,True.intro⟩,fun u hu=>?_,fun u j t hu hn hj ht=>?_⟩
 . by_cases e:u=swp a v
   . subst e;simp only[setN,if_pos,lenP];rw[rlP_row _ _ _ _ hs,rlR_at,List.length_map,List.length_take];omega
   . simp only[setN,if_neg e,lenP];rw[rlP_row _ _ _ _ hu,rlP_row _ _ _ _ hu,rlR_else e]
 . have e:u≠swp a v:=fun e=>by rw[e,look_here rfl] at hn;cases hn
   simp only[rowP];rw[rlP_row _ _ _ _ hu,rlP_row _ _ _ _ hu,rlR_else (j:=i+1) e];exact VLe.rfl
theorem rl_len {g:G} {a v i:Nat} (hv:v<g.ports.length) (ha:a<g.ports.length) (hi:i<=(gR g.ports v).length):lenP (rlP g a v i) (swp a v)=i:=by
 rw[lenP,rlP_row _ _ _ _ (swp_lt ha hv),rlR_at,List.length_map,List.length_take];omega
theorem rl_gF {g:G} {a v i j:Nat} (hv:v<g.ports.length) (ha:a<g.ports.length) (hj:j<i) (hi:i<=(gR g.ports v).length):gF (gR (rlP g a v i) (swp a v)) j=swL a (gF (gR g.ports v) j):=by
 rw[rlP_row _ _ _ _ (swp_lt ha hv),rlR_at];have h1:j<(gR g.ports v).length:=by omega
 simp[gF,List.getD,hj,h1]
theorem rl_app {g:G} {a v i:Nat} (hv:v<g.ports.length) (ha:a<g.ports.length) (hi:i<(gR g.ports v).length) (F:Nat->Nat->V) (h0:F 0 0=.int .i64 ((swp a (gF (gR g.ports v) i).1.toNat:Nat):Int)) (h1:F 0 1=.int .i64 (gF (gR g.ports v) i).2) (j t:Nat) (hj:j<i+1) (ht:t<2) :
 VLe (fapp (shiftF 0 (rowP (rlP g a v i) (swp a v))) i (shiftF 0 F) j t) (rowP (rlP g a v (i+1)) (swp a v) j t):=by
 apply VLe.of_eq;by_cases h:j<i
 . rw[fapp_lt h,shiftF_eq,Nat.zero_add];rcases (show t=0\/t=1 by omega) with rfl|rfl
   . show V.int .i64 (gF (gR (rlP g a v i) (swp a v)) j).1=V.int .i64 (gF (gR (rlP g a v (i+1)) (swp a v)) j).1;rw[rl_gF hv ha h (by omega),rl_gF hv ha (by omega) (by omega)]
   . show V.int .i64 (gF (gR (rlP g a v i) (swp a v)) j).2=V.int .i64 (gF (gR (rlP g a v (i+1)) (swp a v)) j).2;rw[rl_gF hv ha h (by omega),rl_gF hv ha (by omega) (by omega)]
 . obtain rfl:j=i:=by omega
   rw[fapp_ge (by omega),Nat.sub_self,shiftF_eq,Nat.zero_add];rcases (show t=0\/t=1 by omega) with rfl|rfl
   . rw[h0];show V.int .i64 _=V.int .i64 (gF (gR (rlP g a v (j+1)) (swp a v)) j).1;rw[rl_gF hv ha (by omega) (by omega)];rfl
   . rw[h1];show V.int .i64 _=V.int .i64 (gF (gR (rlP g a v (j+1)) (swp a v)) j).2;rw[rl_gF hv ha (by omega) (by omega)];rfl
theorem rl_shut {ρ:Rn} {g:G} {a v:Nat} (hv:v<g.ports.length) (ha:a<g.ports.length) (n:Nat) (hn:n=g.ports.length) :
 BRen ρ (.fam n 2 (lenP (rlP g a v (gR g.ports v).length)) (setF (rowP (rlP g a v (gR g.ports v).length)) (swp a v) (rowP (rlP g a v (gR g.ports v).length) (swp a v))) []) (.fam n 2 (lenP (rlP g a (v+1) 0)) (rowP (rlP g a (v+1) 0)) []):=by
 subst hn;refine⟨rfl,rfl,True.intro,fun u hu=>?_,fun u j t hu hn hj ht=>?_⟩
 . simp only[lenP];rw[rlP_row _ _ _ _ hu,rlP_row _ _ _ _ hu,rlR_next]
 . have e:setF (rowP (rlP g a v (gR g.ports v).length)) (swp a v) (rowP (rlP g a v (gR g.ports v).length) (swp a v)) u=rowP (rlP g a v (gR g.ports v).length) u:=by
    by_cases h:u=swp a v
    . subst h;simp[setF]
    . simp[setF,h]
   rw[e];simp only[rowP];rw[rlP_row _ _ _ _ hu,rlP_row _ _ _ _ hu,rlR_next];exact VLe.rfl
theorem ksC' {c:List Nat} {q:Nat} {chg:List Nat} (h:memN q chg=true):∀k,k∈(q::c)->k∈c\/k∈chg:=fun k hk=>by
 rcases List.mem_cons.1 hk with e|e
 . exact .inr (by rw[e];exact memN_iff.1 h)
 . exact .inl e
theorem ksS' {a b chg:List Nat} (h:(a.all fun k=>memN k b)=true):∀k,k∈a->k∈b\/k∈chg:=fun k hk=>.inl (memN_iff.1 (List.all_eq_true.1 h k hk))
theorem rl_fam0 (ρ:Rn) (g:G) (a n:Nat) (hn:n=g.ports.length):BRen ρ (famP (List.replicate n [])) (.fam g.ports.length 2 (lenP (rlP g a 0 0)) (rowP (rlP g a 0 0)) []):=by
 subst hn;have h0:∀i,lenP (List.replicate g.ports.length []) i=0:=fun i=>by rw[lenP,rep_row];rfl
 refine⟨by simp,rfl,True.intro,fun i hi=>?_,fun i j t hi hn hj ht=>?_⟩
 . rw[h0,lenP,rlP_row _ _ _ _ (by simpa using hi),rlR,if_neg (by omega)];split
   . rfl
   . rfl
 . rw[h0] at hj;omega
theorem rl_ids0 (ρ:Rn) (g:G) (a n:Nat):BRen ρ (.vec n 1 idV) (.vec n 1 (rlI g a 0)):=⟨Nat.le_refl _,rfl,fun i j hi hj=>VLe.of_eq (by simp[idV,rlI])⟩
def KSr:List Nat:=[1,2,3,4,5,6,7,8,9,10,11,12,13,14,15,16,17,18,19,20,21,22,23,24,25,26,27,28,29]
theorem call_frzR {P:Program} {f:FuncId} {args:List V} {own:Own} {ks:List Nat} {K:V->Own->List Nat->Prop} (keys:List Nat) (X:V)
 (h:CallF P f args own ks fun v own' ks'=>frzT (keepK keys own') v fun v1=>VLe v1 X/\K X (dropK keys own') ks'):CallF P f args own ks K:=by
 constructor;intro M w σ us hlen hd hh;refine(h.out M w σ us hlen hd hh).mono ?_;rintro e w' ⟨M',σ',v,own',ks',u,rfl,hv,hh',tr,kd,hF⟩;obtain⟨v1,⟨hle,hK⟩,hb⟩:=frzT_sound hF;obtain⟨f1,f2⟩:=freeze_sim hh' keys;have tr2:Tr M' w' σ' own' (lent M' w' σ' (keepK keys own')) w' σ' (dropK keys own'):=⟨⟨rfl,rfl,rfl,Nat.le_refl _,fun _ _ _=>rfl,fun b _ hn=>f2 b hn⟩,fun b ⟨k,c,h1,h2⟩=>.inl ⟨k,c,(dropK_mem.1 h1).1,h2⟩,Sg.le_refl _⟩;refine⟨_,σ',X,_,ks',u,rfl,(hle.out _ _ _ (hb M' w' σ' u (keep_sim hh' keys) hv)).mono (Ext.mk (fun _ _ h=>⟨h,rfl⟩) (Nat.le_refl _)) (Sg.none_le σ'),f1,tr.trans tr2,⟨kd.1,kd.2.1,fun k hk=>?_⟩,hK⟩;obtain⟨⟨q,c⟩,h1,h2⟩:=List.mem_map.1 hk;exact kd.2.2 k (List.mem_map.2 ⟨_,(dropK_mem.1 h1).1,h2⟩)
theorem rlF_le {g:G} {a:Nat} (hg:g.valid=true) (ha:a<g.ids.length):VLe (V.tup [.agg [.fz g.ids.length 1 false (shiftF 0 (rlI g a g.ports.length)),.fz g.ids.length 1 false fun i _=>.fz (lenP (rlP g a g.ports.length 0) i) 2 false (rowP (rlP g a g.ports.length 0) i)],.int .i64 0]) (.tup [(rlG g a).v,.int .i64 0]):=by
 obtain⟨f1,f2,f3,f4,f5,f6,f7⟩:=val_facts hg;have ha':a<g.ports.length:=by omega
 refine VLe.tup ⟨VLe.agg ⟨VLe.fz (rl_ilen g a).symm (fun h=>h) (fun i j hi hj=>VLe.of_eq ?_),VLe.fz (by rw[rl_plen,f3]) (fun h=>h) (fun i j hi hj=>?_),True.intro⟩,VLe.rfl,True.intro⟩
 . rw[shiftF_eq,Nat.zero_add];show V.int _ _=V.int _ (gI (rlG g a).ids i);rw[rl_ids hi,if_pos (swp_lt ha' (by omega))]
 . have hi':i<g.ports.length:=by omega
   have e:gR (rlP g a g.ports.length 0) i=gR (rlG g a).ports i:=by rw[rlP_row _ _ _ _ hi',rlR_end ha' hi']
   show VLe (.fz (gR (rlP g a g.ports.length 0) i).length 2 false (rowP (rlP g a g.ports.length 0) i)) (.fz (gR (rlG g a).ports i).length 2 false (rowP (rlG g a).ports i));rw[rowP,rowP,e];exact VLe.rfl
set_option maxHeartbeats 16000000 in
theorem relabel_own (g:G) (hs:g.Small) (hg:g.valid=true) (a:Nat) (ha:a<g.ids.length):CallF Tryz.prog 13 [g.v,.vec 0 1 0 g.ids.length] [(0,.vec g.ids.length 1 (vSw a))] KSr fun v own' _=>v=.tup [.agg [.vec 1 1 0 g.ids.length,.vec 2 1 0 g.ids.length],.int .i64 0]/\own'=[(0,.vec g.ids.length 1 (vSw a)),(1,.vec g.ids.length 1 (rlI g a g.ports.length)),(2,.fam g.ids.length 2 (lenP (rlP g a g.ports.length 0)) (rowP (rlP g a g.ports.length 0)) [])]:=by
 obtain⟨f1,f2,f3,f4,f5,f6,f7⟩:=val_facts hg;have hval:=valid_ok g hs;rw[hg] at hval;have hpm:=perm_ok g.ids.length a (by omega) ha;have hem:=empty_own g.ids.length (by omega);refine call_post ?_;refine fn_rule mixed Tryz.func13 rfl hc13 hr13 rfl ?_
 repeat' ((conv=>whnf);first|(refine Br.tt ?_)|(refine hval.go ?_)|(refine call_lend hpm rfl ⟨by omega,VLe.fz rfl (fun h=>h) (fun i t hi ht=>VLe.of_eq (by rw[shiftF_eq,Nat.zero_add])),VLe.rfl,True.intro⟩ ?_)|(refine call_by [] [0,1] (hem.mono ?_) ⟨VRen.kf rfl,True.intro⟩ True.intro rfl;rintro _ _ _ ⟨rfl,rfl⟩)|(refine Chk.mk rfl ?_))
 all_goals (conv=>whnf)
 refine loop_u mixed [1,2,4,6,27,28] [] [6,7,8,9,10,11,12,13,14,15,16,17,18,19,20,21,22,23,24,25,26,27,28,29] [5,3,4,2,1,0] (fun v:Nat=>[(29,.int .i64 v)]) (fun own v=>updO (updO own 3 (.vec g.ids.length 1 (rlI g a v))) 4 (.fam g.ports.length 2 (lenP (rlP g a v 0)) (rowP (rlP g a v 0)) [])) (fun m v=>m=g.ports.length-v/\v<=g.ports.length) g.ports.length 0 ⟨rfl,Nat.zero_le _⟩ rfl (fun _=>rfl) ?_ ?_
 . refine weak_by (fun _ _=>[(0,some 0),(1,some 1),(2,some 2),(3,some 3),(4,some 4),(5,some 5)]) ?_ ?_ rfl
   . repeat' (first|exact True.intro|(refine⟨⟨_,rfl,?_⟩,?_⟩)|exact VRen.kf rfl|exact VRen.loc rfl|exact VRen.vec rfl rfl rfl)
   . repeat' (first|exact rl_fam0 _ g a _ f3.symm|exact rl_ids0 _ g a _|exact True.intro|(refine⟨⟨_,rfl,?_⟩,?_⟩)|exact VRen.kf rfl|exact VRen.vec rfl rfl rfl|(refine⟨Nat.le_refl _,rfl,fun i j hi hj=>?_⟩)|exact VLe.rfl|(refine And.intro ?_ ?_))
 rintro m v ⟨hm,hv⟩;have ha':a<g.ports.length:=by omega
 by_cases hvn:v<g.ports.length
 . have hsw:=swp_lt ha' hvn
   repeat' ((conv=>whnf);first|(refine Ix.mk (swp a v) (by simp only[Nat.zero_add]) (by omega) ?_)|(refine Ix.mk v (by omega) (by omega) ?_)|(refine Br.dec ?_ ?_<;>intro _<;>try omega)|(refine Ltn.mk (by omega) ?_))
   all_goals (conv=>whnf)
   refine loop_u mixed [1,2,4,6,7,27,28,29,46,47] [6] [7,8,9,10,11,12,13,14,15,16,17,18,19,20,21,22,23,24,25,26,27,28,29] [6,5,3,4,2,1,0] (fun i:Nat=>[(48,.int .i64 i)]) (fun own i=>(6,.vec (lenP (rlP g a v i) (swp a v)) 2 (rowP (rlP g a v i) (swp a v)))::updO (updO own 4 (.fam g.ports.length 2 (lenP (rlP g a v i)) (rowP (rlP g a v i)) [])) 4 (.fam g.ports.length 2 (lenP (rlP g a v i)) (rowP (rlP g a v i)) [(swp a v,6)])) (fun m i=>m=(gR g.ports v).length-i/\i<=(gR g.ports v).length) (gR g.ports v).length 0 ⟨rfl,Nat.zero_le _⟩ rfl (fun _=>rfl) ?_ ?_
   . refine Weak.trans ?_ (weak_open (ks:=[6,7,8,9,10,11,12,13,14,15,16,17,18,19,20,21,22,23,24,25,26,27,28,29]) rfl rfl rfl hsw rfl) (ksC' rfl);refine weak_by (fun _ _=>[(0,some 0),(1,some 1),(2,some 2),(3,some 3),(4,some 4),(5,some 5)]) ?_ ?_ rfl
     . repeat' (first|exact True.intro|(refine⟨⟨_,rfl,?_⟩,?_⟩)|exact VRen.kf rfl|exact VRen.loc rfl|exact VRen.vec rfl rfl rfl)
     . repeat' (first|exact⟨rfl,rfl,True.intro,fun i hi=>rfl,fun i j t hi hn hj ht=>VLe.rfl⟩|exact True.intro|(refine⟨⟨_,rfl,?_⟩,?_⟩)|exact VRen.kf rfl|exact VRen.vec rfl rfl rfl|(refine⟨Nat.le_refl _,rfl,fun i j hi hj=>?_⟩)|exact VLe.rfl|(refine And.intro ?_ ?_))
   rintro m2 i ⟨hm2,hi⟩;have hlen:=rl_len hvn ha' hi;by_cases hin:i<(gR g.ports v).length
   . have hok:=(okR_iff.1 (f6 v hvn)).1 _ (gF_mem hin);have hst:=swp_lt (a:=a) (n:=g.ports.length) (v:=(gF (gR g.ports v) i).1.toNat) ha' (by omega);have hrow:=row_le' hg v;have hto:(gF (gR g.ports v) i).1=((gF (gR g.ports v) i).1.toNat:Int):=by omega
     have hto2:(gF (gR g.ports v) i).1.toNat<g.ports.length:=by omega
     simp only[hlen]
     repeat' ((conv=>whnf);first|(refine Ix.mk (swp a v) (by simp only[Nat.zero_add]) (by omega) ?_)|(refine Ix.mk v (by omega) (by omega) ?_)|(refine Ix.mk (gF (gR g.ports v) i).1.toNat hto (by omega) ?_)|(refine Ix.int (by omega) (by omega) ?_)|(refine Br.dec ?_ ?_<;>intro _<;>try omega)|(refine Br.nbeq ?_ ?_<;>intro _<;>try omega)|(refine Ar.i64 (by omega) (by omega) ?_)|(refine Len.mk (by omega) ?_)|(refine Ltn.mk (by omega) ?_)|(refine Opn.hdl (by omega) hlen ?_)|(refine OpnSet.hd (by omega) ?_)|(refine And.intro rfl ?_)|(refine And.intro (Ltn.mk (by omega) rfl) ?_))
     all_goals (conv=>whnf)
     all_goals
      refine⟨(gR g.ports v).length-(i+1),i+1,by omega,⟨rfl,by omega⟩,?_⟩;have hl1:=rl_len hvn ha' (i:=i+1) (by omega);simp only[hl1];refine weak_by (fun env _=>[(0,some 0),(1,some 1),(2,some 2),(3,some 3),(4,some 4),(5,some 5),(6,ekey env 75)]) ?_ ?_ rfl
      . repeat' (first|exact True.intro|(refine⟨⟨_,rfl,?_⟩,?_⟩)|exact VRen.kf rfl|exact VRen.loc rfl|exact VRen.vec rfl rfl rfl)
      . repeat' (first|exact rl_fam hvn ha' hin rfl|exact⟨Nat.le_refl _,rfl,fun j t hj ht=>rl_app hvn ha' hin _ (by simp only[Nat.zero_add];rfl) rfl j t hj ht⟩|exact True.intro|(refine⟨⟨_,rfl,?_⟩,?_⟩)|exact VRen.kf rfl|exact VRen.vec rfl rfl rfl|(refine⟨Nat.le_refl _,rfl,fun i j hi hj=>?_⟩)|exact VLe.rfl|(refine And.intro ?_ ?_))
   . obtain rfl:i=(gR g.ports v).length:=by omega
     repeat' ((conv=>whnf);first|(refine Br.dec ?_ ?_<;>intro _<;>try omega)|(refine Ar.i64 (by omega) (by omega) ?_))
     all_goals (conv=>whnf)
     refine⟨g.ports.length-(v+1),v+1,by omega,⟨rfl,by omega⟩,?_⟩;refine Weak.trans (weak_step (own_close (q:=6) (k:=4) (i:=swp a v) [] rfl rfl hsw (look_here rfl) (Nat.le_refl _) rfl (fun j hj=>(look_there (fun e=>hj e.symm)).symm))) ?_ (ksS' rfl);refine weak_by (fun _ _=>[(0,some 0),(1,some 1),(2,some 2),(3,some 3),(4,some 4),(5,some 5)]) ?_ ?_ rfl
     . repeat' (first|exact True.intro|(refine⟨⟨_,rfl,?_⟩,?_⟩)|exact VRen.kf rfl|exact VRen.loc rfl|exact VRen.vec rfl rfl rfl)
     . repeat' (first|exact rl_shut hvn ha' _ rfl|exact⟨Nat.le_refl _,rfl,fun i t hi ht=>by simp only[Nat.zero_add];exact rlI_next g a v i t ht _ rfl⟩|exact True.intro|(refine⟨⟨_,rfl,?_⟩,?_⟩)|exact VRen.kf rfl|exact VRen.vec rfl rfl rfl|(refine⟨Nat.le_refl _,rfl,fun i j hi hj=>?_⟩)|exact VLe.rfl|(refine And.intro ?_ ?_))
 . repeat' ((conv=>whnf);first|(refine Br.dec ?_ ?_<;>intro _<;>try omega))
   all_goals (conv=>whnf)
   have e:v=g.ports.length:=by omega
   subst e;exact postR_by (fun _=>[(0,some 0),(1,some 3),(2,some 4)]) _ _ ⟨rfl,rfl⟩ (VRen.tup ⟨VRen.agg ⟨VRen.vec rfl rfl rfl,VRen.vec rfl rfl rfl,True.intro⟩,VRen.kf rfl,True.intro⟩) ⟨⟨_,rfl,Nat.le_refl _,rfl,fun _ _ _ _=>VLe.rfl⟩,⟨_,rfl,Nat.le_refl _,rfl,fun _ _ _ _=>VLe.rfl⟩,⟨_,rfl,f3.symm,rfl,True.intro,fun i hi=>rfl,fun i j t hi hn hj ht=>VLe.rfl⟩,True.intro⟩ rfl
theorem relabel_ok (g:G) (hs:g.Small) (hg:g.valid=true) (a:Nat) (ha:a<g.ids.length):CallF Tryz.prog 13 [g.v,.vec 0 1 0 g.ids.length] [(0,.vec g.ids.length 1 (vSw a))] KSr fun v own' _=>v=.tup [(rlG g a).v,.int .i64 0]/\own'=[(0,.vec g.ids.length 1 (vSw a))]:=by
 refine call_frzR [1,2] (.tup [(rlG g a).v,.int .i64 0]) ((relabel_own g hs hg a ha).mono ?_);rintro _ _ _ ⟨rfl,rfl⟩
 conv=>whnf
 exact⟨by omega,by omega,rlF_le hg ha,rfl,rfl⟩
theorem bot_tr {g:G} (hgc:g.conn=true) {c:Cf} (hc:Conf pWid g c) (ht:TrX g c):g.botX c=btL c/\c.length=g.ids.length/\∀v,v<g.ids.length->gI (btL c) v=(btN g v:Nat):=by
 have hl:=hc.len;refine⟨by rw[G.botX,hgc,xconf_of hc];rfl,hl,fun v hv=>?_⟩;rw[btL_get c (by omega)];have h1:=(ht v hv).1;have e:gI (gC c v) 0=dC c v:=rfl;rw[e,h1,hl,btN,Int.tdiv_eq_ediv_of_nonneg (by omega)];exact(Int.natCast_ediv _ _).symm
theorem fm_len {α β:Type} (f:α->Option β) (p:α->Bool):∀l:List α,(∀a,p a=false->f a=none)->(l.filterMap f).length<=l.countP p
 | [],_=>by simp
 | a::r,h=>by
   have ih:=fm_len f p r h;rw[List.countP_cons];cases e:p a with
   | false=>rw[List.filterMap_cons_none (h a e)];simpa using ih
   | true =>
     cases e2:f a with
     | none=>rw[List.filterMap_cons_none e2];simp;omega
     | some b=>rw[List.filterMap_cons_some e2];simp;omega
theorem fl_len {α β:Type} (f:α->List β) (k:α->Nat):∀l:List α,(∀a,(f a).length<=k a)->(l.flatMap f).length<=(l.map k).sum
 | [],_=>by simp
 | a::r,h=>by
   have ih:=fl_len f k r h;have:=h a;simp only[List.flatMap_cons,List.length_append,List.map_cons,List.sum_cons];omega
theorem raw_12 {g:G} (hg:g.valid=true) (h:g.ids.length<=4):(rawL g).length<=12:=by
 rw[<- edges_len hg,edgesL];generalize hn:g.ids.length=n at h;refine Nat.le_trans (fl_len _ (fun a=>(List.range n).countP fun b=>decide (a<b)) _ fun a=>fm_len _ _ _ fun b e=>?_) ?_
 . rw[edE,if_neg (fun q=>of_decide_eq_false e q.1)]
 . rcases (show n=0\/n=1\/n=2\/n=3\/n=4 by omega) with rfl|rfl|rfl|rfl|rfl<;>decide
theorem edges_pos {g:G} (h:g.conn=true) (h2:2<=g.ids.length):0<(edgesL g).length:=by
 obtain⟨hg,_⟩:=conn_facts h;obtain⟨f1,f2,f3,f4,f5,f6,f7⟩:=val_facts hg;obtain⟨u,hu,_⟩:=(netB h).near 1 (by omega) (by omega);have hun:=(netB h).rng 1 u (by omega) hu;have hne:u≠1:=fun e=>by have:=(adj_adj hg).irr 1 (by omega);rw[e] at hu;rw[hu] at this;cases this
 obtain⟨l,hl,e⟩:=adj_iff.1 hu;have hok:=(okR_iff.1 (f6 1 (by omega))).1 l hl;have hE:EdgeG g 1 u l.2:=⟨by omega,hun,by
  have:((u:Nat):Int)=l.1:=by omega
  rw[this];exact hl⟩
 by_cases q:1<u
 . exact List.length_pos_of_mem ((edges_mem hg (e:=⟨1,u,l.2⟩)).2 ⟨q,hE⟩)
 . obtain rfl:u=0:=by omega
   exact List.length_pos_of_mem ((edges_mem hg (e:=⟨0,1,l.2⟩)).2 ⟨by show 0<1;omega,hE.symm hg⟩)
theorem samePairs_ok (L:List (Nat×Nat)) (hl:L.length<=1000):Ret Tryz.prog 14 [.fz L.length 2 false (sF L),.fz L.length 2 false (sF L)] (.bool true):=by
 refine ret_frz rfl ?_;refine fn_rule mixed Tryz.func14 rfl hc14 hr14 rfl ?_
 repeat' ((conv=>whnf);first|(refine Br.bne ?_ ?_<;>intro _<;>try omega))
 all_goals (conv=>whnf)
 refine loop_r mixed [0,1] (fun i:Nat=>[(5,.int .i64 i)]) (fun m i=>m=L.length-i/\i<=L.length) L.length 0 ⟨rfl,Nat.zero_le _⟩ ?_ ?_
 . exact weak_b (fun _ _=>[])
 rintro m i ⟨hm,hi⟩
 repeat' ((conv=>whnf);first|(refine Br.dec ?_ ?_<;>intro _<;>try omega)|(refine Ar.i64 (by omega) (by omega) ?_)|(refine Ix.nat (by omega) ?_)|(refine Br.any (fun _=>?_) (fun _=>?_)))
 all_goals (conv=>whnf)
 all_goals first
  | (exfalso;simp_all;done)
  | exact VLe.rfl
  | (refine⟨L.length-(i+1),i+1,by omega,⟨rfl,by omega⟩,?_⟩
     exact weak_b (fun _ _=>[]))
theorem gF_injZ {r:Lt2'} (h:(r.map (·.1)).Nodup) {i j:Nat} (hi:i<r.length) (hj:j<r.length) (e:(gF r i).1=(gF r j).1):i=j:=by
 have h1:(r.map (·.1))[i]'(by simpa using hi)=(r.map (·.1))[j]'(by simpa using hj):=by simpa[gF,List.getD,hi,hj] using e
 have hp:=List.pairwise_iff_getElem.1 h;rcases Nat.lt_trichotomy i j with q|q|q
 . exact(hp i j (by simpa using hi) (by simpa using hj) q h1).elim
 . exact q
 . exact(hp j i (by simpa using hj) (by simpa using hi) q h1.symm).elim
def hitB (g:G) (a b:Nat) (w:Int) (i:Nat):Bool:=((gR g.ports a).take i).any fun l=>decide (l.1=(b:Int)/\l.2=w)
theorem hitB_next (g:G) (a b:Nat) (w:Int) {i:Nat} (hi:i<(gR g.ports a).length):hitB g a b w (i+1)=(hitB g a b w i || decide ((gF (gR g.ports a) i).1=(b:Int)/\(gF (gR g.ports a) i).2=w)):=by
 rw[hitB,hitB,gF_take _ _ hi,List.any_append];simp
theorem hitB_no {g:G} (hg:g.valid=true) {a b:Nat} (ha:a<g.ports.length) {w:Int} {i:Nat} (hi:i<(gR g.ports a).length) (e:(gF (gR g.ports a) i).1=(b:Int)):hitB g a b w i=false:=by
 obtain⟨f1,f2,f3,f4,f5,f6,f7⟩:=val_facts hg;have hnd:=(okR_iff.1 (f6 a ha)).2;cases q:hitB g a b w i with
 | false=>rfl
 | true =>
   exfalso;rw[hitB,List.any_eq_true] at q;obtain⟨l,hl,h⟩:=q;rw[decide_eq_true_eq] at h;obtain⟨j,hj,e2⟩:=List.mem_iff_getElem.1 hl;rw[List.length_take] at hj;have e3:gF (gR g.ports a) j=l:=by rw[<- e2];simp[gF,List.getD,show j<(gR g.ports a).length by omega]
   have:=gF_injZ hnd (i:=j) (j:=i) (by omega) hi (by rw[e3,h.1,e]);omega
noncomputable def FA (g:G) (a:Nat):List (Nat×Nat):=(List.range a).flatMap fun a=>(List.range g.ids.length).filterMap (selE g a)
noncomputable def FB (g:G) (a b:Nat):List (Nat×Nat):=FA g a++(List.range b).filterMap (selE g a)
noncomputable def FI (g:G) (a b i:Nat):List (Nat×Nat):=FB g a b++(if hitB g a b (btN (rlG g a) (swp a b):Nat) i=true then[(a,b)] else[])
theorem selE_low (g:G) {a b:Nat} (h:b<=a):selE g a b=none:=by
 have:edE g a b=none:=if_neg (fun q=>by omega);rw[selE,this]
theorem FB_start (g:G) (a:Nat):FB g a (a+1)=FA g a:=by
 have:(List.range (a+1)).filterMap (selE g a)=[]:=by
  rw[List.filterMap_eq_nil_iff];intro b hb;exact selE_low g (by have:=List.mem_range.1 hb;omega)
 rw[FB,this,List.append_nil]
theorem FB_end (g:G) (a:Nat):FB g a g.ids.length=FA g (a+1):=by
 rw[FB,FA,FA,List.range_succ,List.flatMap_append];simp
theorem FI_zero (g:G) (a b:Nat):FI g a b 0=FB g a b:=by simp[FI,hitB]
theorem FI_end {g:G} (h:g.conn=true) {a b:Nat} (hab:a<b) (hb:b<g.ids.length):FI g a b (gR g.ports a).length=FB g a (b+1):=by
 obtain⟨hg,_⟩:=conn_facts h;obtain⟨f1,f2,f3,f4,f5,f6,f7⟩:=val_facts hg;have key:(if hitB g a b (btN (rlG g a) (swp a b):Nat) (gR g.ports a).length=true then[(a,b)] else[])=(selE g a b).toList:=by
  rw[hitB,List.take_of_length_le (Nat.le_refl _)];cases e:edE g a b with
  | none =>
    have hno:¬ ((gR g.ports a).any fun l=>decide (l.1=(b:Int)/\l.2=((btN (rlG g a) (swp a b):Nat):Int)))=true:=fun q=>by
     rw[List.any_eq_true] at q;obtain⟨l,hl,h1⟩:=q;rw[decide_eq_true_eq] at h1;have:=(edE_iff hg (a:=a) (b:=b) (by omega) hb (e:=⟨a,b,l.2⟩)).2 ⟨rfl,rfl,hab,⟨by omega,hb,by rw[<- h1.1];exact hl⟩⟩;rw[e] at this;cases this
    rw[if_neg hno,selE,e];rfl
  | some ed =>
    obtain⟨e1,e2,e3,hE⟩:=(edE_iff hg (by omega) hb).1 e;obtain⟨ea,eb,ew⟩:=ed;simp only at e1 e2 hE;subst e1 e2;have hc:=ch_bot h hE;rw[selE,e];simp only[hc];have hiff:((gR g.ports ea).any fun l=>decide (l.1=(eb:Int)/\l.2=((btN (rlG g ea) (swp ea eb):Nat):Int)))=decide (((btN (rlG g ea) (swp ea eb):Nat):Int)=ew):=by
     rw[Bool.eq_iff_iff,List.any_eq_true,decide_eq_true_eq];constructor
     . rintro⟨l,hl,h1⟩;rw[decide_eq_true_eq] at h1;have:=fst_uniq (okR_iff.1 (f6 ea (by omega))).2 hl hE.mem h1.1;rw[<- h1.2,this]
     . intro h1;exact⟨_,hE.mem,by rw[decide_eq_true_eq];exact⟨rfl,h1.symm⟩⟩
    rw[hiff];by_cases q:((btN (rlG g ea) (swp ea eb):Nat):Int)=ew
    . rw[if_pos (decide_eq_true q),if_pos (decide_eq_true q)];rfl
    . rw[if_neg (by simp[q]),if_neg (by simp[q])];rfl
 rw[FI,key,FB,FB,List.range_succ,List.filterMap_append,List.append_assoc];congr 2
theorem FI_hit {g:G} (hg:g.valid=true) {a b i:Nat} (ha:a<g.ports.length) (hi:i<(gR g.ports a).length) (h1:(gF (gR g.ports a) i).1=(b:Int)) (h2:(gF (gR g.ports a) i).2=((btN (rlG g a) (swp a b):Nat):Int)):FI g a b (i+1)=FI g a b i++[(a,b)]:=by
 rw[FI,FI,hitB_next g a b _ hi,hitB_no hg ha hi h1,Bool.false_or,decide_eq_true ⟨h1,h2⟩,if_pos rfl,if_neg Bool.false_ne_true,List.append_nil]
theorem FI_miss {g:G} {a b i:Nat} (hi:i<(gR g.ports a).length) (h:¬ ((gF (gR g.ports a) i).1=(b:Int)/\(gF (gR g.ports a) i).2=((btN (rlG g a) (swp a b):Nat):Int))):FI g a b (i+1)=FI g a b i:=by
 rw[FI,FI,hitB_next g a b _ hi,decide_eq_false h,Bool.or_false]
theorem sum_constZ (n:Nat):∀l:List Nat,(l.map fun _=>n).sum=l.length*n
 | []=>by simp
 | a::r=>by rw[List.map_cons,List.sum_cons,sum_constZ n r,List.length_cons,Nat.succ_mul];omega
theorem FA_len (g:G) (a:Nat):(FA g a).length<=a*g.ids.length:=by
 refine Nat.le_trans (fl_len _ (fun _=>g.ids.length) (List.range a) fun b=>?_) ?_
 . refine Nat.le_trans (fm_len _ (fun _=>true) _ fun _ e=>by cases e) ?_;simp
 . rw[sum_constZ,List.length_range];exact Nat.le_refl _
theorem FB_len (g:G) (a b:Nat):(FB g a b).length<=a*g.ids.length+b:=by
 rw[FB,List.length_append];have h1:=FA_len g a;have h2:((List.range b).filterMap (selE g a)).length<=b:=by
  refine Nat.le_trans (fm_len _ (fun _=>true) _ fun _ e=>by cases e) ?_;simp
 omega
theorem FI_len (g:G) (a b i:Nat):(FI g a b i).length<=a*g.ids.length+b+1:=by
 rw[FI,List.length_append];have:=FB_len g a b;have:(if hitB g a b (btN (rlG g a) (swp a b):Nat) i=true then[(a,b)] else[]).length<=1:=by split<;>simp
 omega
theorem sF_app (L:List (Nat×Nat)) (p:Nat×Nat) (F:Nat->Nat->V) (n:Nat) (hn:n=L.length) (h0:F 0 0=.int .i64 p.1) (h1:F 0 1=.int .i64 p.2) (i j:Nat) (hi:i<L.length+1) (hj:j<2):VLe (fapp (shiftF 0 (sF L)) n (shiftF 0 F) i j) (sF (L++[p]) i j):=by
 subst hn;apply VLe.of_eq;by_cases h:i<L.length
 . rw[fapp_lt h,shiftF_eq,Nat.zero_add];rcases (show j=0\/j=1 by omega) with rfl|rfl
   . simp[sF,List.getD,List.getElem?_append_left h]
   . simp[sF,List.getD,List.getElem?_append_left h]
 . obtain rfl:i=L.length:=by omega
   rw[fapp_ge (by omega),Nat.sub_self,shiftF_eq,Nat.zero_add];rcases (show j=0\/j=1 by omega) with rfl|rfl
   . rw[h0];simp[sF]
   . rw[h1];simp[sF]
theorem sw_set (n a i t:Nat) (hi:i<n) (ht:t<1) (m:Nat) (hm:m=a):VLe (fset (fset (idK n) 0 0 [.int .i64 (a:Int)]) m 0 [.int .i64 0] i t) (vSw a i t):=by
 obtain rfl:t=0:=by omega
 subst hm;apply VLe.of_eq;show _=V.int .i64 ((swp m i:Nat):Int);by_cases h1:i=m
 . subst h1;rw[swp_aa];simp[fset]
 . by_cases h0:i=0
   . subst h0;have:fset (fset (idK n) 0 0 [.int .i64 (m:Int)]) m 0 [.int .i64 0] 0 0=fset (idK n) 0 0 [.int .i64 (m:Int)] 0 0:=by simp[fset,h1]
     rw[this,swp_a];simp[fset]
   . have:fset (fset (idK n) 0 0 [.int .i64 (m:Int)]) m 0 [.int .i64 0] i 0=idK n i 0:=by simp[fset,h1,h0]
     rw[this,swp,if_neg h0,if_neg h1];show V.int .i64 (if i<n then (i:Int) else 0)=_;rw[if_pos hi]
set_option maxHeartbeats 32000000 in
theorem lawXTree (x:Net) (hx:x.Small) (raw:List Int) (hraw:raw.length<=9223372036854775807) (hs1:∀g:G,g.Small->g.conn=true->g.ids.length=1->Ret Tryz.prog 8 [g.v] (.tup [.fz (spanL g).length 2 false (sF (spanL g)),.int .i64 0])) :
 RG 4 [x.v,.fz raw.length 1 false (vI raw)] (.bool true):=by
 have h0:=connected_ok x hx 4 (by omega) (by omega);have hgc:=con_conn x (most:=4) (by omega) (by omega);have hlen:(x.con 4).ids.length<=4:=by
  rw[(con_len x 4).1];have hw:=within_range x.n1 (b:=4) (by omega);rw[Net.size];omega
 generalize x.con 4=g at *;obtain⟨hg,_⟩:=conn_facts hgc;obtain⟨f1,f2,f3,f4,f5,f6,f7⟩:=val_facts hg;have hs:=valid_small hg;have hsp:Ret Tryz.prog 8 [g.v] (.tup [.fz (spanL g).length 2 false (sF (spanL g)),.int .i64 0]):=by
  by_cases h1:g.ids.length=1
  . exact hs1 g hs hgc h1
  . exact spanning_ok g hs hgc (raw_12 hg hlen) (edges_pos hgc (by omega))
 have hk:=known25_ok;have hfe:FA g g.ids.length=spanL g:=rfl;have hfl:=FA_len g g.ids.length;have hfm:g.ids.length*g.ids.length<=16:=Nat.mul_le_mul hlen hlen;have hsm:=samePairs_ok (spanL g) (by rw[<- hfe];omega);refine ret_frzG rfl ?_;refine fn_rule mixed Tryz.func4 rfl hc4 hr4 rfl ?_
 repeat' ((conv=>whnf);first|(refine h0.go ?_))
 all_goals (conv=>whnf)
 refine loop_u mixed [1,5,6] [2] [3,4,5,6,7,8,9,10,11,12,13,14,15,16,17,18,19,20,21,22,23,24,25,26,27,28,29] [2,1,0,999] (fun a:Nat=>[(7,.vec 2 2 0 (FA g a).length),(8,.int .i64 a)]) (fun own a=>(2,.vec (FA g a).length 2 (sF (FA g a)))::own) (fun m a=>m=g.ids.length-a/\a<=g.ids.length) g.ids.length 0 ⟨rfl,Nat.zero_le _⟩ rfl (fun _=>rfl) ?_ ?_
 . exact weak_b (fun _ _=>[(0,some 0),(1,some 1),(2,none),(999,some 999)])
 rintro m a ⟨hm,ha⟩;by_cases han:a<g.ids.length
 . have hal:=FA_len g a;have ham:a*g.ids.length<=16:=Nat.le_trans (Nat.mul_le_mul_right _ (by omega)) hfm;have hrl:=relabel_ok g hs hg a han;have hrc:=rl_conn hgc han;obtain⟨hrg,_⟩:=conn_facts hrc;have hrs:=valid_small hrg;have hrn:=rl_ilen g a;obtain⟨c,hc,ht,hse⟩:=settled_ok (rlG g a) hrc raw hraw;obtain⟨b1,b2,b3⟩:=bot_tr hrc hc ht;have hbo:=wdbottle_ok (rlG g a) hrs c (csmall_of wid_prOk hrg hc);have hbl:=btL_len c;rw[b1] at hbo;generalize btL c=L at *
   repeat' ((conv=>whnf);first|(refine Br.dec ?_ ?_<;>intro _<;>try omega)|(refine Bd.nat (by omega) ?_)|(refine Len.mk (by omega) ?_)|(refine MkS.vec ?_))
   all_goals (conv=>whnf)
   refine loop_u mixed [1,5,6,7,8,9] [] [4,5,6,7,8,9,10,11,12,13,14,15,16,17,18,19,20,21,22,23,24,25,26,27,28,29] [3,2,1,0,999] (fun v:Nat=>[(10,.int .i64 v)]) (fun own v=>updO own 3 (.vec g.ids.length 1 (idK v))) (fun m v=>m=g.ids.length-v/\v<=g.ids.length) g.ids.length 0 ⟨rfl,Nat.zero_le _⟩ rfl (fun _=>rfl) ?_ ?_
   . refine weak_by (fun _ _=>[(0,some 0),(1,some 1),(2,some 2),(3,some 3),(999,some 999)]) ?_ ?_ rfl
     . repeat' (first|exact True.intro|(refine⟨⟨_,rfl,?_⟩,?_⟩)|exact VRen.kf rfl|exact VRen.loc rfl|exact VRen.vec rfl rfl rfl)
     . repeat' (first|exact⟨by omega,rfl,fun i j hi hj=>VLe.of_eq (by obtain rfl:j=0:=(by omega);simp[idK])⟩|exact True.intro|exact⟨rfl,rfl,rfl⟩|(refine⟨⟨_,rfl,?_⟩,?_⟩)|exact VRen.kf rfl|(refine⟨Nat.le_refl _,rfl,fun i j hi hj=>?_⟩)|exact VLe.rfl|(refine And.intro ?_ ?_))
   rintro m2 v ⟨hm2,hv⟩;by_cases hvn:v<g.ids.length
   . repeat' ((conv=>whnf);first|(refine Ix.mk v rfl (by omega) ?_)|(refine Br.dec ?_ ?_<;>intro _<;>try omega)|(refine Ar.i64 (by omega) (by omega) ?_)|(refine Ltn.mk (by omega) ?_))
     all_goals (conv=>whnf)
     all_goals
      refine⟨g.ids.length-(v+1),v+1,by omega,⟨rfl,by omega⟩,?_⟩;refine weak_by (fun _ _=>[(0,some 0),(1,some 1),(2,some 2),(3,some 3),(999,some 999)]) ?_ ?_ rfl
      . repeat' (first|exact True.intro|(refine⟨⟨_,rfl,?_⟩,?_⟩)|exact VRen.kf rfl|exact VRen.loc rfl|exact VRen.vec rfl rfl rfl)
      . repeat' (first|exact⟨Nat.le_refl _,rfl,fun i t hi ht=>by simp only[Nat.zero_add];exact idK_next v i t ht⟩|exact True.intro|exact⟨rfl,rfl,rfl⟩|(refine⟨⟨_,rfl,?_⟩,?_⟩)|exact VRen.kf rfl|(refine⟨Nat.le_refl _,rfl,fun i j hi hj=>?_⟩)|exact VLe.rfl|(refine And.intro ?_ ?_))
   . obtain rfl:v=g.ids.length:=by omega
     repeat' ((conv=>whnf);first|(refine Ix.mk 0 rfl (by omega) ?_)|(refine Ix.mk a rfl (by omega) ?_)|(refine Br.tt ?_)|(refine Br.ff ?_)|(refine Br.dec ?_ ?_<;>intro _<;>try omega)|(refine Br.bne ?_ ?_<;>intro _<;>try omega)|(refine Ar.i64 (by omega) (by omega) ?_)|(refine Ltn.mk (by omega) ?_)|(refine call_by [(0,some 3)] [] (hrl.mono ?_) ⟨VRen.kf rfl,VRen.vec rfl rfl (by omega),True.intro⟩ ⟨⟨_,rfl,by omega,rfl,fun i t hi ht=>by simp only[Nat.zero_add];exact sw_set _ a i t (by omega) ht _ rfl⟩,True.intro⟩ rfl;rintro _ _ _ ⟨rfl,rfl⟩)|(refine Chk.mk rfl ?_)|(refine hse.gog ?_)|(refine hbo.go ?_))
     all_goals (conv=>whnf)
     refine loop_u mixed [1,5,6,8,9,15] [2] [5,6,7,8,9,10,11,12,13,14,15,16,17,18,19,20,21,22,23,24,25,26,27,28,29] [4,3,2,1,0,999] (fun b:Nat=>[(7,.vec 2 2 0 (FB g a b).length),(16,.int .i64 b)]) (fun own b=>updO own 2 (.vec (FB g a b).length 2 (sF (FB g a b)))) (fun m b=>m=g.ids.length-b/\a+1<=b/\b<=g.ids.length) (g.ids.length-(a+1)) (a+1) ⟨rfl,Nat.le_refl _,han⟩ rfl (fun _=>rfl) ?_ ?_
     . simp only[FB_start];exact weak_b (fun _ _=>[(0,some 0),(1,some 1),(2,some 2),(3,some 3),(4,some 4),(999,some 999)])
     rintro m3 b ⟨hm3,hb1,hb2⟩;by_cases hbn:b<g.ids.length
     . have hsw:swp a b<g.ids.length:=swp_lt han hbn;have hL:=b3 (swp a b) (by rw[hrn];exact hsw);have hrow:=row_le' hg a
       repeat' ((conv=>whnf);first|(refine Br.dec ?_ ?_<;>intro _<;>try omega))
       all_goals (conv=>whnf)
       refine loop_u mixed [1,5,6,8,9,15,16] [2] [5,6,7,8,9,10,11,12,13,14,15,16,17,18,19,20,21,22,23,24,25,26,27,28,29] [4,3,2,1,0,999] (fun i:Nat=>[(7,.vec 2 2 0 (FI g a b i).length),(17,.int .i64 i)]) (fun own i=>updO own 2 (.vec (FI g a b i).length 2 (sF (FI g a b i)))) (fun m i=>m=(gR g.ports a).length-i/\i<=(gR g.ports a).length) (gR g.ports a).length 0 ⟨rfl,Nat.zero_le _⟩ rfl (fun _=>rfl) ?_ ?_
       . simp only[FI_zero];exact weak_b (fun _ _=>[(0,some 0),(1,some 1),(2,some 2),(3,some 3),(4,some 4),(999,some 999)])
       rintro m4 i ⟨hm4,hi⟩;by_cases hin:i<(gR g.ports a).length
       . have hil:=FI_len g a b i;have hok:=(okR_iff.1 (f6 a (by omega))).1 _ (gF_mem hin);by_cases hto:(gF (gR g.ports a) i).1=(b:Int)
         . have hto':(gF (gR g.ports a) ((i:Int).toNat)).1=(b:Int):=hto;by_cases hw:(gF (gR g.ports a) i).2=((btN (rlG g a) (swp a b):Nat):Int)
           . have hw':(gF (gR g.ports a) ((i:Int).toNat)).2=((btN (rlG g a) (swp a b):Nat):Int):=hw;have e:=FI_hit hg (by omega) hin hto hw
             repeat' ((conv=>whnf);first|(refine Ix.mk a rfl (by omega) ?_)|(refine Ix.mk i rfl (by omega) ?_)|(refine Ix.mk b rfl (by omega) ?_)|(refine Ix.mk (swp a b) (by simp only[Nat.zero_add]) (by omega) ?_)|(refine Br.dec ?_ ?_<;>intro _<;>try omega)|(refine Br.nbeq ?_ ?_<;>intro _<;>try omega)|(refine Ar.i64 (by omega) (by omega) ?_)|(refine Len.mk (by omega) ?_)|(refine Ltn.mk (by omega) ?_))
             all_goals (conv=>whnf)
             all_goals
              refine⟨(gR g.ports a).length-(i+1),i+1,by omega,⟨rfl,by omega⟩,?_⟩;simp only[e];refine weak_by (fun env _=>[(0,some 0),(1,some 1),(2,ekey env 126),(3,some 3),(4,some 4),(999,some 999)]) ?_ ?_ rfl
              . repeat' (first|exact VRen.vec rfl rfl (by simp)|exact True.intro|(refine⟨⟨_,rfl,?_⟩,?_⟩)|exact VRen.kf rfl|exact VRen.loc rfl)
              . repeat' (first|exact⟨by simp,rfl,fun i j hi hj=>sF_app _ _ _ _ rfl rfl rfl i j (by simpa using hi) hj⟩|exact True.intro|exact⟨rfl,rfl,rfl⟩|(refine⟨⟨_,rfl,?_⟩,?_⟩)|exact VRen.kf rfl|(refine⟨Nat.le_refl _,rfl,fun i j hi hj=>?_⟩)|exact VLe.rfl|(refine And.intro ?_ ?_))
           . have hw':(gF (gR g.ports a) ((i:Int).toNat)).2≠((btN (rlG g a) (swp a b):Nat):Int):=hw;have e:=FI_miss (b:=b) hin (fun q=>hw q.2)
             repeat' ((conv=>whnf);first|(refine Ix.mk a rfl (by omega) ?_)|(refine Ix.mk i rfl (by omega) ?_)|(refine Ix.mk b rfl (by omega) ?_)|(refine Ix.mk (swp a b) (by simp only[Nat.zero_add]) (by omega) ?_)|(refine Br.dec ?_ ?_<;>intro _<;>try omega)|(refine Ar.i64 (by omega) (by omega) ?_)|(refine Ltn.mk (by omega) ?_))
             all_goals (conv=>whnf)
             all_goals
              refine⟨(gR g.ports a).length-(i+1),i+1,by omega,⟨rfl,by omega⟩,?_⟩;simp only[e];exact weak_b (fun _ _=>[(0,some 0),(1,some 1),(2,some 2),(3,some 3),(4,some 4),(999,some 999)])
         . have hto':(gF (gR g.ports a) ((i:Int).toNat)).1≠(b:Int):=hto;have e:=FI_miss (b:=b) hin (fun q=>hto q.1)
           repeat' ((conv=>whnf);first|(refine Ix.mk a rfl (by omega) ?_)|(refine Ix.mk i rfl (by omega) ?_)|(refine Br.dec ?_ ?_<;>intro _<;>try omega)|(refine Ar.i64 (by omega) (by omega) ?_))
           all_goals (conv=>whnf)
           all_goals
            refine⟨(gR g.ports a).length-(i+1),i+1,by omega,⟨rfl,by omega⟩,?_⟩;simp only[e];exact weak_b (fun _ _=>[(0,some 0),(1,some 1),(2,some 2),(3,some 3),(4,some 4),(999,some 999)])
       . obtain rfl:i=(gR g.ports a).length:=by omega
         have e:=FI_end hgc (show a<b by omega) hbn
         repeat' ((conv=>whnf);first|(refine Br.dec ?_ ?_<;>intro _<;>try omega)|(refine Ar.i64 (by omega) (by omega) ?_)|(refine Ix.nat (by omega) ?_))
         all_goals (conv=>whnf)
         refine⟨g.ids.length-(b+1),b+1,by omega,⟨rfl,by omega,by omega⟩,?_⟩;simp only[e];exact weak_b (fun _ _=>[(0,some 0),(1,some 1),(2,some 2),(3,some 3),(4,some 4),(999,some 999)])
     . obtain rfl:b=g.ids.length:=by omega
       repeat' ((conv=>whnf);first|(refine Br.dec ?_ ?_<;>intro _<;>try omega)|(refine Ar.i64 (by omega) (by omega) ?_))
       all_goals (conv=>whnf)
       refine⟨g.ids.length-(a+1),a+1,by omega,⟨rfl,by omega⟩,?_⟩;simp only[FB_end];exact weak_b (fun _ _=>[(0,some 0),(1,some 1),(2,some 2),(999,some 999)])
 . obtain rfl:a=g.ids.length:=by omega
   rw[hfe]
   repeat' ((conv=>whnf);first|(refine Br.tt ?_)|(refine Br.dec ?_ ?_<;>intro _<;>try omega)|(refine hsp.go ?_)|(refine hk.go ?_)|(refine call_lend hsm rfl ⟨by omega,VLe.rfl,VLe.fz rfl (fun h=>h) (fun i t hi ht=>VLe.of_eq (by rw[shiftF_eq,Nat.zero_add])),True.intro⟩ ?_))
   all_goals (conv=>whnf)
   all_goals exact VLe.rfl
theorem raw_one {g:G} (hg:g.valid=true) (h:g.ids.length=1):edgesL g=[]:=by
 rw[edgesL,h];show((List.range 1).flatMap fun a=>(List.range 1).filterMap (edE g a))=[];have e:edE g 0 0=none:=if_neg (fun q=>by omega);simp[List.range_succ,e]
theorem insnil_ok (cl:FuncId):Ret Tryz.prog 66 [.nilslice,.int .i64 0,.int .i64 0,.fn (.func cl) false []] (.tup []):=by
 refine ret_frz rfl ?_;refine fn_rule mixed Tryz.func66 rfl hc66 hr66 rfl ?_
 repeat' ((conv=>whnf);first|(refine Ar.i64 (by omega) (by omega) ?_))
 all_goals (conv=>whnf)
 refine loop_fuel mixed 1 ?_
 repeat' ((conv=>whnf);first|(refine Br.ff ?_))
 all_goals (conv=>whnf)
 exact VLe.rfl
theorem stabnil_ok (cl:FuncId):Ret Tryz.prog 49 [.nilslice,.int .i64 0,.fn (.func cl) false []] (.tup []):=by
 have hi:=insnil_ok cl;refine ret_frz rfl ?_;refine fn_rule mixed Tryz.func49 rfl hc49 hr49 rfl ?_
 repeat' ((conv=>whnf);first|fail)
 all_goals (conv=>whnf)
 refine loop_fuel mixed 1 ?_
 repeat' ((conv=>whnf);first|(refine Br.ff ?_)|(refine hi.go ?_))
 all_goals (conv=>whnf)
 refine loop_fuel mixed 1 ?_
 repeat' ((conv=>whnf);first|(refine Br.ff ?_))
 all_goals (conv=>whnf)
 exact VLe.rfl
theorem sortnil_ok (cl:FuncId):Ret Tryz.prog 21 [.nilslice,.fn (.func cl) false []] (.tup []):=by
 have hi:=stabnil_ok cl;refine ret_frz rfl ?_;refine fn_rule mixed Tryz.func21 rfl hc21 hr21 rfl ?_
 repeat' ((conv=>whnf);first|(refine hi.go ?_))
 all_goals (conv=>whnf)
 exact VLe.rfl
set_option maxHeartbeats 16000000 in
theorem spanning_one (g:G) (hs:g.Small) (hgc:g.conn=true) (h1:g.ids.length=1):Ret Tryz.prog 8 [g.v] (.tup [.fz (spanL g).length 2 false (sF (spanL g)),.int .i64 0]):=by
 obtain⟨hg,_⟩:=conn_facts hgc;obtain⟨f1,f2,f3,f4,f5,f6,f7⟩:=val_facts hg;have hcn:=conn_ok g hs;rw[hgc] at hcn;have he0:=raw_one hg h1;have hle:=edges_len hg;have h0:(edgesL g).length=0:=by rw[he0];rfl
 have hed:=edges_ok g hs hg (by omega);have hsp:spanL g=[]:=by
  have:=selT_end g;rw[selT,he0] at this;exact this.symm
 rw[hsp];refine ret_frz rfl ?_;refine fn_rule mixed Tryz.func8 rfl hc8 hr8 rfl ?_;have hnil:=sortnil_ok 22;have hso:=sorts_ok 22 (by kernel_rfl) (fun x y=>cpI x.w y.w) span1_ok ltW wo_w cpW_lt (edgesL g) (by omega)
 repeat' ((conv=>whnf);first|(refine Br.tt ?_)|(refine Br.nbeq ?_ ?_<;>intro _<;>try omega)|(refine Bd.nat (by omega) ?_)|(refine Len.mk (by omega) ?_)|(refine Both.mk ?_ ?_)|(refine MkS.vec ?_)|(refine hcn.go ?_)|(refine hed.go ?_)|(refine Chk.mk (by kernel_rfl) ?_)|(refine fn_rule mixed Tryz.func20 rfl hc20 hr20 rfl ?_)|(refine call_by [(0,some 2)] [] (hso.mono ?_) ⟨VRen.vec rfl rfl (Nat.zero_add _),VRen.fn True.intro,True.intro⟩ (by repeat' (first|exact True.intro|(refine⟨⟨_,rfl,?_⟩,?_⟩)|(refine⟨by omega,rfl,fun i j hi hj=>?_⟩)|exact VLe.rfl|(refine And.intro ?_ ?_))) rfl;rintro _ _ _ ⟨B,⟨hp,hsl⟩,rfl,rfl⟩))
 all_goals (conv=>whnf)
 . refine hnil.go ?_
   repeat' ((conv=>whnf);first|(refine Bd.nat (by omega) ?_)|(refine Len.mk (by omega) ?_)|(refine MkS.vec ?_))
   all_goals (conv=>whnf)
   refine loop_u mixed [2,3,4,5,6,31] [] [2,3,4,5,6,7,8,9,10,11,12,13,14,15,16,17,18,19,20,21,22,23,24,25,26,27,28,29] [1,0] (fun v:Nat=>[(32,.int .i64 v)]) (fun own v=>updO own 1 (.vec g.ids.length 1 (pF fun u=>if u<v then (u:Int) else 0))) (fun m v=>m=g.ids.length-v/\v<=g.ids.length) g.ids.length 0 ⟨rfl,Nat.zero_le _⟩ rfl (fun _=>rfl) ?_ ?_
   . refine weak_by (fun _ _=>[(0,some 0),(1,some 1)]) ?_ ?_ rfl
     . repeat' (first|exact True.intro|(refine⟨⟨_,rfl,?_⟩,?_⟩)|exact VRen.kf rfl|exact VRen.vec rfl rfl rfl)
     . repeat' (first|exact⟨Nat.le_refl _,rfl,fun i j hi hj=>VLe.of_eq (by obtain rfl:j=0:=(by omega);rfl)⟩|exact True.intro|(refine⟨⟨_,rfl,?_⟩,?_⟩)|exact VRen.kf rfl|(refine And.intro ?_ ?_))
   rintro m v ⟨hm,hv⟩;by_cases hvn:v<g.ids.length
   . repeat' ((conv=>whnf);first|(refine Ix.mk v (by omega) (by omega) ?_)|(refine Br.dec ?_ ?_<;>intro _<;>try omega)|(refine Ar.i64 (by omega) (by omega) ?_)|(refine Ltn.mk (by omega) ?_))
     all_goals (conv=>whnf)
     refine⟨g.ids.length-(v+1),v+1,by omega,⟨rfl,by omega⟩,?_⟩;refine weak_by (fun _ _=>[(0,some 0),(1,some 1)]) ?_ ?_ rfl
     . repeat' (first|exact True.intro|(refine⟨⟨_,rfl,?_⟩,?_⟩)|exact VRen.kf rfl|exact VRen.vec rfl rfl rfl)
     . repeat' (first|exact⟨Nat.le_refl _,rfl,fun i t hi ht=>by simp only[Nat.zero_add];exact pf_next g.ids.length v i t ht⟩|exact True.intro|(refine⟨⟨_,rfl,?_⟩,?_⟩)|exact VRen.kf rfl|(refine And.intro ?_ ?_))
   have ev:v=g.ids.length:=by omega
   subst ev
   repeat' ((conv=>whnf);first|(refine Br.dec ?_ ?_<;>intro _<;>try omega))
   all_goals (conv=>whnf)
   refine loop_fuel mixed 1 ?_
   repeat' ((conv=>whnf);first|(refine Br.ff ?_))
   all_goals (conv=>whnf)
   refine loop_fuel mixed 1 ?_
   repeat' ((conv=>whnf);first|(refine Br.dec ?_ ?_<;>intro _<;>try omega))
   all_goals (conv=>whnf)
   exact VLe.tup ⟨VLe.nilfz rfl,VLe.rfl,True.intro⟩
 . have hBl:=hp.length_eq;have hB0:B.length=0:=by omega
   refine loop_u mixed [2,3,4,5,6,31] [] [4,5,6,7,8,9,10,11,12,13,14,15,16,17,18,19,20,21,22,23,24,25,26,27,28,29] [3,2,0] (fun v:Nat=>[(32,.int .i64 v)]) (fun own v=>updO own 3 (.vec g.ids.length 1 (pF fun u=>if u<v then (u:Int) else 0))) (fun m v=>m=g.ids.length-v/\v<=g.ids.length) g.ids.length 0 ⟨rfl,Nat.zero_le _⟩ rfl (fun _=>rfl) ?_ ?_
   . refine weak_by (fun _ _=>[(0,some 0),(2,some 2),(3,some 3)]) ?_ ?_ rfl
     . repeat' (first|exact True.intro|(refine⟨⟨_,rfl,?_⟩,?_⟩)|exact VRen.kf rfl|exact VRen.vec rfl rfl rfl)
     . repeat' (first|exact⟨Nat.le_refl _,rfl,fun i j hi hj=>VLe.of_eq (by obtain rfl:j=0:=(by omega);rfl)⟩|exact True.intro|(refine⟨⟨_,rfl,?_⟩,?_⟩)|exact VRen.kf rfl|(refine And.intro ?_ ?_))
   rintro m v ⟨hm,hv⟩;by_cases hvn:v<g.ids.length
   . repeat' ((conv=>whnf);first|(refine Ix.mk v (by omega) (by omega) ?_)|(refine Br.dec ?_ ?_<;>intro _<;>try omega)|(refine Ar.i64 (by omega) (by omega) ?_)|(refine Ltn.mk (by omega) ?_))
     all_goals (conv=>whnf)
     refine⟨g.ids.length-(v+1),v+1,by omega,⟨rfl,by omega⟩,?_⟩;refine weak_by (fun _ _=>[(0,some 0),(2,some 2),(3,some 3)]) ?_ ?_ rfl
     . repeat' (first|exact True.intro|(refine⟨⟨_,rfl,?_⟩,?_⟩)|exact VRen.kf rfl|exact VRen.vec rfl rfl rfl)
     . repeat' (first|exact⟨Nat.le_refl _,rfl,fun i t hi ht=>by simp only[Nat.zero_add];exact pf_next g.ids.length v i t ht⟩|exact True.intro|(refine⟨⟨_,rfl,?_⟩,?_⟩)|exact VRen.kf rfl|(refine⟨Nat.le_refl _,rfl,fun i j hi hj=>?_⟩)|exact VLe.rfl|(refine And.intro ?_ ?_))
   have ev:v=g.ids.length:=by omega
   subst ev
   repeat' ((conv=>whnf);first|(refine Br.dec ?_ ?_<;>intro _<;>try omega))
   all_goals (conv=>whnf)
   refine loop_fuel mixed 1 ?_
   repeat' ((conv=>whnf);first|(refine Br.dec ?_ ?_<;>intro _<;>try omega))
   all_goals (conv=>whnf)
   refine loop_fuel mixed 1 ?_
   repeat' ((conv=>whnf);first|(refine Br.dec ?_ ?_<;>intro _<;>try omega))
   all_goals (conv=>whnf)
   exact VLe.tup ⟨VLe.nilfz rfl,VLe.rfl,True.intro⟩
theorem lawXTreeW (x:Net) (hx:x.Small) (raw:List Int) (hraw:raw.length<=9223372036854775807) :
 RG 4 [x.v,.fz raw.length 1 false (vI raw)] (.bool true) :=
 lawXTree x hx raw hraw fun g h1 h2 h3=>spanning_one g h1 h2 h3
end Go.Proofs.YtefdkgkojlflaaaGreatDoor
