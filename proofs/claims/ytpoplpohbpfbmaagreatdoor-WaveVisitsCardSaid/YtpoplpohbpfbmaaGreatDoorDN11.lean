import Derived.Test.YtpoplpohbpfbmaaGreatDoorGR10
import Derived.Test.YtpoplpohbpfbmaaGreatDoorEngZ
import Derived.Test.YtpoplpohbpfbmaaGreatDoorGRCode
namespace Go.Proofs.YtpoplpohbpfbmaaGreatDoor
open Go.Eng
set_option maxRecDepth 100000
set_option linter.unusedVariables false
def rowB (p:Pr) (g:G) (v:Nat):Nat->Nat->V:=fun x j=>match j with
 | 0=>.int .i64 (bnd g (gV p.vars x) v).1
 | _=>.int .i64 (bnd g (gV p.vars x) v).2
def tbl (p:Pr) (g:G):Nat->Nat->V:=fun v _=>.fz p.vars.length 2 false (rowB p g v)
def tblV (p:Pr) (g:G):V:=.fz g.ids.length 1 false (tbl p g)
def opn (v n k:Nat):List (Nat×Nat):=if v<n then[(v,k)] else[]
def lenT (m v:Nat):Nat->Nat:=fun i=>if i<v then m else 0
def rowX (p:Pr) (g:G) (v x:Nat):Nat->Nat->V:=fun i j=>if i<x then rowB p g v i j else .int .i64 0
theorem rowX_succ (p:Pr) (g:G) (v x i j:Nat) (hj:j<2):VLe (fset (fset (rowX p g v x) x 0 [.int .i64 (bnd g (gV p.vars x) v).1]) x 1 [.int .i64 (bnd g (gV p.vars x) v).2] i j) (rowX p g v (x+1) i j):=by
 apply VLe.of_eq;by_cases h:i=x
 . subst h;obtain rfl|rfl:j=0\/j=1:=by omega
   . simp[fset,rowX,rowB]
   . simp[fset,rowX,rowB]
 . have h1:(i<x+1)=(i<x):=by simp;omega
   simp[fset,rowX,h,h1]
theorem ks_cons {c:List Nat} {q:Nat} {chg:List Nat} (h:memN q chg=true):∀k,k∈(q::c)->k∈c\/k∈chg:=fun k hk=>by
 rcases List.mem_cons.1 hk with e|e
 . exact .inr (by rw[e];exact memN_iff.1 h)
 . exact .inl e
theorem lenT_self (m v:Nat):lenT m v v=0:=if_neg (by omega)
theorem lenT_set (m v i:Nat):setN (lenT m v) v m i=lenT m (v+1) i:=by
 simp only[setN,lenT];by_cases h:i=v
 . rw[if_pos h,if_pos (by omega)]
 . rw[if_neg h];by_cases h2:i<v
   . rw[if_pos h2,if_pos (by omega)]
   . rw[if_neg h2,if_neg (by omega)]
theorem setF_row2 (p:Pr) (g:G) (v i j t:Nat) (hj:j<setN (lenT p.vars.length v) v p.vars.length i) (ht:t<2):VLe (setF (rowB p g) v (rowX p g v p.vars.length) i j t) (rowB p g i j t):=by
 apply VLe.of_eq;simp only[setF];split
 . rename_i e;subst e;rw[setN,if_pos rfl] at hj;rw[rowX,if_pos hj]
 . rfl
theorem ks_sub {a b chg:List Nat} (h:(a.all fun k=>memN k b)=true):∀k,k∈a->k∈b\/k∈chg:=fun k hk=>.inl (memN_iff.1 (List.all_eq_true.1 h k hk))
set_option maxHeartbeats 8000000 in
theorem table_ok (p:Pr) (hp:PrOk p) (g:G) (hg:g.valid=true):Ret Tryz.prog 69 [p.v,g.v] (tblV p g):=by
 obtain⟨f1,f2,f3,f4,f5,f6,f7⟩:=val_facts hg;have hvl:=hp.vlen;refine ret_frz rfl ?_;refine fn_rule mixed Tryz.func69 rfl hc69 hr69 rfl ?_
 repeat' ((conv=>whnf);first|(refine Bd.nat (by omega) ?_)|(refine Len.mk (by omega) ?_)|(refine MkS.vec ?_))
 all_goals (conv=>whnf)
 refine loop_u mixed [2,3,5,14] [3] [4,5,6,7,8,9,10,11,12,13,14,15,16,17,18,19,20,21,22,23,24,25,26,27,28,29] [3,2,1,0] (fun v:Nat=>[(15,.int .i64 v)])
  (fun own v=>(3,.vec (lenT p.vars.length v v) 2 (rowB p g v))::updO (updO own 2 (.fam g.ids.length 2 (lenT p.vars.length v) (rowB p g) [])) 2 (.fam g.ids.length 2 (lenT p.vars.length v) (rowB p g) (opn v g.ids.length 3))) (fun k v=>k=g.ids.length-v/\v<=g.ids.length) g.ids.length 0 ⟨rfl,Nat.zero_le _⟩ rfl (fun _=>rfl) ?_ ?_
 . have e:opn 0 g.ids.length 3=[(0,3)]:=if_pos (by omega);simp only[e];refine Weak.trans ?_ (weak_open (ks:=[3,4,5,6,7,8,9,10,11,12,13,14,15,16,17,18,19,20,21,22,23,24,25,26,27,28,29]) rfl rfl rfl (by omega) rfl) (ks_cons rfl);refine weak_by (fun _ _=>[(0,some 0),(1,some 1),(2,some 2)]) ?_ ?_ rfl
   . repeat' (first|exact True.intro|(refine⟨⟨_,rfl,?_⟩,?_⟩)|exact VRen.kf rfl|exact VRen.loc rfl|exact VRen.vec rfl rfl rfl)
   . repeat' (first|exact⟨rfl,rfl,rfl,fun i hi=>⟨rfl,if_neg (by omega)⟩⟩|exact True.intro|(refine⟨⟨_,rfl,?_⟩,?_⟩)|exact VRen.kf rfl|(refine And.intro ?_ ?_))
 rintro k v ⟨hk,hv⟩;by_cases hvn:v<g.ids.length
 . have e:opn v g.ids.length 3=[(v,3)]:=if_pos hvn;simp only[e]
   repeat' ((conv=>whnf);first|(refine Br.dec ?_ ?_<;>intro _<;>try omega)|(refine Ix.nat (by omega) ?_)|(refine Bd.nat (by omega) ?_)|(refine Len.mk (by omega) ?_)|(refine Ltn.mk (by omega) ?_)|(refine OpnSet.hd (by omega) ?_))
   all_goals (conv=>whnf)
   refine loop_u mixed [2,3,5,6,14,15,26,27] [4] [5,6,7,8,9,10,11,12,13,14,15,16,17,18,19,20,21,22,23,24,25,26,27,28,29] [4,3,2,1,0] (fun x:Nat=>[(28,.int .i64 x)])
    (fun own x=>updO own 4 (.vec p.vars.length 2 (rowX p g v x))) (fun k x=>k=p.vars.length-x/\x<=p.vars.length) p.vars.length 0 ⟨rfl,Nat.zero_le _⟩ rfl (fun _=>rfl) ?_ ?_
   . refine weak_by (fun _ _=>[(0,some 0),(1,some 1),(2,some 2),(3,some 3),(4,some 4)]) ?_ ?_ rfl
     . repeat' (first|exact True.intro|(refine⟨⟨_,rfl,?_⟩,?_⟩)|exact VRen.kf rfl|exact VRen.loc rfl|exact VRen.vec rfl rfl rfl)
     . repeat' (first|exact⟨rfl,rfl,⟨rfl,rfl,True.intro⟩,fun i hi=>rfl,fun i j t hi hn hj ht=>VLe.rfl⟩|(refine⟨Nat.le_refl _,rfl,fun i j hi hj=>VLe.of_eq ?_⟩;rw[rowX,if_neg (by omega)];(obtain rfl|rfl:j=0\/j=1:=by omega)<;>rfl)|exact True.intro|(refine⟨⟨_,rfl,?_⟩,?_⟩)|exact VRen.kf rfl|(refine⟨Nat.le_refl _,rfl,fun i j hi hj=>?_⟩)|exact VLe.rfl|(refine And.intro ?_ ?_))
   rintro k x ⟨hk2,hx⟩;by_cases hxn:x<p.vars.length
   . have hb:=bnd_ok g hg _ (hp.var x hxn) v (by omega)
     repeat' ((conv=>whnf);first|(refine Br.dec ?_ ?_<;>intro _<;>try omega)|(refine Ar.i64 (by omega) (by omega) ?_)|(refine Ix.nat (by omega) ?_)|(refine Ix.mk 0 rfl (by omega) ?_)|(refine Ix.mk 1 rfl (by omega) ?_)|(refine Ltn.mk (by omega) ?_)|(refine Opn.hdl (by omega) (show setN _ _ _ _=p.vars.length from if_pos rfl) ?_)|(refine hb.go ?_)|(refine And.intro (Ltn.mk (by omega) (Opn.hdl (by omega) (show setN _ _ _ _=p.vars.length from if_pos rfl) rfl)) ?_))
     all_goals (conv=>whnf)
     refine⟨p.vars.length-(x+1),x+1,by omega,⟨rfl,by omega⟩,?_⟩;refine weak_by (fun _ _=>[(0,some 0),(1,some 1),(2,some 2),(3,some 3),(4,some 4)]) ?_ ?_ rfl
     . repeat' (first|exact True.intro|(refine⟨⟨_,rfl,?_⟩,?_⟩)|exact VRen.kf rfl|exact VRen.loc rfl|exact VRen.vec rfl rfl rfl)
     . repeat' (first|exact⟨rfl,rfl,⟨rfl,rfl,True.intro⟩,fun i hi=>rfl,fun i j t hi hn hj ht=>VLe.rfl⟩|(simp only[Nat.zero_add,Nat.zero_mul,Nat.one_mul];exact rowX_succ p g v x _ _ hj)|exact True.intro|(refine⟨⟨_,rfl,?_⟩,?_⟩)|exact VRen.kf rfl|(refine⟨Nat.le_refl _,rfl,fun i j hi hj=>?_⟩)|exact VLe.rfl|(refine And.intro ?_ ?_))
   . have ex:x=p.vars.length:=by omega
     subst ex
     repeat' ((conv=>whnf);first|(refine Br.dec ?_ ?_<;>intro _<;>try omega)|(refine Ar.i64 (by omega) (by omega) ?_))
     all_goals (conv=>whnf)
     refine⟨g.ids.length-(v+1),v+1,by omega,⟨rfl,by omega⟩,?_⟩;refine Weak.trans (weak_step (own_close (q:=4) (k:=2) (i:=v) [] rfl rfl hvn (look_here rfl) (Nat.le_of_eq (if_pos rfl)) rfl (fun j hj=>(look_there (fun e=>hj e.symm)).symm))) ?_ (ks_sub rfl);by_cases h1:v+1<g.ids.length
     . have e1:opn (v+1) g.ids.length 3=[(v+1,3)]:=if_pos h1;simp only[e1];refine Weak.trans ?_ (weak_open (ks:=[3,4,5,6,7,8,9,10,11,12,13,14,15,16,17,18,19,20,21,22,23,24,25,26,27,28,29]) rfl rfl rfl h1 rfl) (ks_cons rfl);refine weak_by (fun _ _=>[(0,some 0),(1,some 1),(2,some 2)]) ?_ ?_ rfl
       . repeat' (first|exact True.intro|(refine⟨⟨_,rfl,?_⟩,?_⟩)|exact VRen.kf rfl|exact VRen.loc rfl|exact VRen.vec rfl rfl rfl)
       . repeat' (first|exact⟨rfl,rfl,True.intro,fun i hi=>(lenT_set _ _ _).symm,fun i j t hi hn hj ht=>setF_row2 p g v i j t hj ht⟩|exact True.intro|(refine⟨⟨_,rfl,?_⟩,?_⟩)|exact VRen.kf rfl|(refine And.intro ?_ ?_))
     . have e1:opn (v+1) g.ids.length 3=[]:=if_neg h1;simp only[e1];refine weak_by (fun _ _=>[(0,some 0),(1,some 1),(2,some 2),(3,none)]) ?_ ?_ rfl
       . repeat' (first|exact True.intro|(refine⟨⟨_,rfl,?_⟩,?_⟩)|exact VRen.kf rfl|exact VRen.loc rfl|exact VRen.vec rfl rfl rfl)
       . repeat' (first|exact⟨rfl,rfl,True.intro,fun i hi=>(lenT_set _ _ _).symm,fun i j t hi hn hj ht=>setF_row2 p g v i j t hj ht⟩|exact⟨2,rowB p g (v+1),by rw[lenT_self]⟩|exact True.intro|(refine⟨⟨_,rfl,?_⟩,?_⟩)|exact VRen.kf rfl|(refine And.intro ?_ ?_))
 . have e:opn v g.ids.length 3=[]:=if_neg hvn;have ev:v=g.ids.length:=by omega
   simp only[e]
   repeat' ((conv=>whnf);first|(refine Br.dec ?_ ?_<;>intro _<;>try omega)|(refine Len.mk (by omega) ?_))
   all_goals (conv=>whnf)
   refine VLe.fz rfl (fun h=>h) (fun i j hi hj=>?_);show VLe (.fz (lenT p.vars.length v i) 2 false (rowB p g i)) (.fz p.vars.length 2 false (rowB p g i));rw[show lenT p.vars.length v i=p.vars.length from if_pos (by omega)];exact VLe.rfl
theorem state_ok (p:Pr) (g:G) (v:Nat) (l:List Int) (h1:p.vars.length<=1000) (h:l.length=p.vars.length) (hb:∀x,x<p.vars.length->(bnd g (gV p.vars x) v).1<=gI l x/\gI l x<=(bnd g (gV p.vars x) v).2) :
 Ret Tryz.prog 103 [.fz p.vars.length 2 false (rowB p g v),.fz l.length 1 false (vI l)] (.bool true):=by
 refine ret_frz rfl ?_;refine fn_rule mixed Tryz.func103 rfl hc103 hr103 rfl ?_
 repeat' ((conv=>whnf);first|(refine Br.bne ?_ ?_<;>intro _<;>try omega))
 all_goals (conv=>whnf)
 refine loop_r mixed [0,12,13] (fun i:Nat=>[(14,.int .i64 i)]) (fun m i=>m=l.length-i/\i<=l.length) l.length 0 ⟨rfl,Nat.zero_le _⟩ ?_ ?_
 . exact weak_b (fun _ _=>[])
 rintro m i ⟨hm,hi⟩;by_cases hil:i<l.length
 . have hb:=hb i (by omega)
   repeat' ((conv=>whnf);first|(refine Br.dec ?_ ?_<;>intro _<;>try omega)|(refine Ar.i64 (by omega) (by omega) ?_)|(refine Ix.nat (by omega) ?_)|(refine Ix.mk 0 rfl (by omega) ?_)|(refine Ix.mk 1 rfl (by omega) ?_))
   all_goals (conv=>whnf)
   all_goals first
    | (exfalso;omega)
    | (refine⟨l.length-(i+1),i+1,by omega,⟨rfl,by omega⟩,?_⟩
       exact weak_b (fun _ _=>[]))
 . repeat' ((conv=>whnf);first|(refine Br.dec ?_ ?_<;>intro _<;>try omega))
   all_goals (conv=>whnf)
   exact VLe.rfl
structure Conf (p:Pr) (g:G) (c:Cf):Prop where
 len:c.length=g.ids.length
 row:∀v,v<c.length->(gC c v).length=p.vars.length
 val:∀v,v<c.length->∀x,x<p.vars.length->(bnd g (gV p.vars x) v).1<=gI (gC c v) x/\gI (gC c v) x<=(bnd g (gV p.vars x) v).2
theorem Conf.fit {p:Pr} (hp:PrOk p) {g:G} (hg:g.valid=true) {c:Cf} (h:Conf p g c):Fit g p.vars.length c:=by
 obtain⟨f1,f2,f3,f4,f5,f6,f7⟩:=val_facts hg;refine⟨h.len.trans f3.symm,h.row,fun v hv x hx=>?_⟩;have h1:=h.val v hv x hx;have h2:=bnd_in hg (hp.var x hx) (v:=v) (by rw[f3,<- h.len];exact hv);unfold inR;omega
theorem within_ok2 (p:Pr) (hp:PrOk p) (g:G) (hg:g.valid=true) (c:Cf) (hc:Conf p g c):Ret Tryz.prog 68 [tblV p g,cV c] (.bool true):=by
 obtain⟨f1,f2,f3,f4,f5,f6,f7⟩:=val_facts hg;have hcl:=hc.len;refine ret_frz rfl ?_;refine fn_rule mixed Tryz.func68 rfl hc68 hr68 rfl ?_
 repeat' ((conv=>whnf);first|(refine Br.bne ?_ ?_<;>intro _<;>try omega))
 all_goals (conv=>whnf)
 refine loop_r mixed [1,12,13] (fun i:Nat=>[(14,.int .i64 i)]) (fun m i=>m=g.ids.length-i/\i<=g.ids.length) g.ids.length 0 ⟨rfl,Nat.zero_le _⟩ ?_ ?_
 . exact weak_b (fun _ _=>[])
 rintro m i ⟨hm,hi⟩;by_cases hil:i<g.ids.length
 . have hs:=state_ok p g i (gC c i) hp.vlen (hc.row i (by omega)) (hc.val i (by omega))
   repeat' ((conv=>whnf);first|(refine Br.tt ?_)|(refine Br.dec ?_ ?_<;>intro _<;>try omega)|(refine Ar.i64 (by omega) (by omega) ?_)|(refine Ix.nat (by omega) ?_)|(refine hs.go ?_))
   all_goals (conv=>whnf)
   refine⟨g.ids.length-(i+1),i+1,by omega,⟨rfl,by omega⟩,?_⟩;exact weak_b (fun _ _=>[])
 . repeat' ((conv=>whnf);first|(refine Br.dec ?_ ?_<;>intro _<;>try omega))
   all_goals (conv=>whnf)
   exact VLe.rfl
theorem check_ok (p:Pr) (hp:PrOk p) (g:G) (hs:g.Small) (hg:g.valid=true) (c:Cf) (hc:Conf p g c):Ret Tryz.prog 42 [p.v,g.v,cV c] (.int .i64 0):=by
 have h1:=fits_ok p hp g hs hg;have h2:=table_ok p hp g hg;have h3:=within_ok2 p hp g hg c hc;refine ret_frz rfl ?_;refine fn_rule mixed Tryz.func42 rfl hc42 hr42 rfl ?_
 repeat' ((conv=>whnf);first|(refine Br.tt ?_)|(refine Br.ff ?_)|(refine h1.go ?_)|(refine h2.go ?_)|(refine h3.go ?_))
 all_goals (conv=>whnf)
 exact VLe.rfl
def mvP (p:Pr) (g:G):V:=.fe 1 5 (tab [[.str p.nm,p.pg.vs,p.pg.rs,scP p.pg g,tblV p g]]) 0 0
theorem guard_ok (p:Pr) (hp:PrOk p) (g:G) (hg:g.valid=true) (c:Cf) (hc:Conf p g c) (v:Nat) (hv:v<g.ports.length) (i:Nat) (hi:i<p.rules.length) :
 Ret Tryz.prog 140 [scP p.pg g,cV c,.int .i64 v,.int .i64 i] (.bool (decide ((gRl p.rules i).gd.sem g c v (-1)≠0))):=by
 have hgd:=hp.gd i hi;simp only[Tm.okB,Bool.and_eq_true,decide_eq_true_eq] at hgd;have h1:=Value_ok p.pg g hg (hc.fit hp hg) v hv (gRl p.rules i).gd hgd.2 hgd.1;refine ret_frz rfl ?_;refine fn_rule mixed Tryz.func140 rfl hc140 hr140 rfl ?_
 repeat' ((conv=>whnf);first|(refine Br.bne ?_ ?_<;>intro _<;>try omega)|(refine Ix.nat (by omega) ?_)|(refine h1.go ?_))
 all_goals (conv=>whnf)
 . rename_i h;exact VLe.bool (decide_eq_true h).symm
 . rename_i h;exact VLe.bool (decide_eq_false (by simpa using h)).symm
def gds (p:Pr) (g:G) (c:Cf) (v:Nat):List Int:=p.rules.map fun r=>r.gd.sem g c v (-1)
def ruleI (p:Pr) (g:G) (c:Cf) (v:Nat):Int:=idxI 0 (gds p g c v)
theorem gds_get (p:Pr) (g:G) (c:Cf) (v i:Nat) (hi:i<p.rules.length):gI (gds p g c v) i=(gRl p.rules i).gd.sem g c v (-1):=by
 simp[gds,gI,gRl,hi]
theorem rule_ok (p:Pr) (hp:PrOk p) (g:G) (hg:g.valid=true) (c:Cf) (hc:Conf p g c) (v:Nat) (hv:v<g.ports.length) :
 Ret Tryz.prog 107 [mvP p g,cV c,.int .i64 v] (.int .i64 (ruleI p g c v)):=by
 have hrl:=hp.rlen;have hgl:(gds p g c v).length=p.rules.length:=by simp[gds]
 refine ret_frz rfl ?_;refine fn_rule mixed Tryz.func107 rfl hc107 hr107 rfl ?_
 repeat' ((conv=>whnf);first|fail)
 all_goals (conv=>whnf)
 refine loop_r mixed [0,1,2,13] (fun i:Nat=>[(14,.int .i64 i)]) (fun m i=>m=p.rules.length-i/\i<=p.rules.length/\∀a∈(gds p g c v).take i,a=0) p.rules.length 0 ⟨rfl,Nat.zero_le _,by simp⟩ ?_ ?_
 . exact weak_b (fun _ _=>[])
 rintro m i ⟨hm,hi,hall⟩;by_cases hil:i<p.rules.length
 . have hgu:=guard_ok p hp g hg c hc v hv i hil;have hge:=gds_get p g c v i hil;by_cases hz:(gRl p.rules i).gd.sem g c v (-1)=0
   . rw[decide_eq_false (by simpa using hz)] at hgu
     repeat' ((conv=>whnf);first|(refine Br.ff ?_)|(refine Br.dec ?_ ?_<;>intro _<;>try omega)|(refine Ar.i64 (by omega) (by omega) ?_)|(refine hgu.go ?_))
     all_goals (conv=>whnf)
     refine⟨p.rules.length-(i+1),i+1,by omega,⟨rfl,by omega,?_⟩,?_⟩
     . rw[gI_take _ i (by omega)];intro a ha;rcases List.mem_append.1 ha with h|h
       . exact hall a h
       . simp at h;rw[h,hge];exact hz
     . exact weak_b (fun _ _=>[])
   . rw[decide_eq_true hz] at hgu
     repeat' ((conv=>whnf);first|(refine Br.tt ?_)|(refine Br.dec ?_ ?_<;>intro _<;>try omega)|(refine hgu.go ?_))
     all_goals (conv=>whnf)
     refine VLe.int ?_;rw[ruleI,idxI_split _ 0 i (by omega) hall,gI_drop _ i (by omega)];simp only[idxI,hge];rw[if_pos hz];omega
 . repeat' ((conv=>whnf);first|(refine Br.dec ?_ ?_<;>intro _<;>try omega))
   all_goals (conv=>whnf)
   refine VLe.int ?_;rw[ruleI,idxI_split _ 0 i (by omega) hall,List.drop_of_length_le (by omega)];rfl
theorem en1_ok (p:Pr) (hp:PrOk p) (g:G) (hg:g.valid=true) (c:Cf) (hc:Conf p g c) (v:Nat) (hv:v<g.ports.length) :
 Ret Tryz.prog 106 [.int .i64 v,.fe 1 1 (tab [[mvP p g]]) 0 0,.fe 1 1 (tab [[cV c]]) 0 0] (.bool (decide (0<=ruleI p g c v))):=by
 have h1:=rule_ok p hp g hg c hc v hv;refine ret_frz rfl ?_;refine fn_rule mixed Tryz.func106 rfl hc106 hr106 rfl ?_
 repeat' ((conv=>whnf);first|(refine Br.dec ?_ ?_<;>intro _<;>try omega)|(refine h1.go ?_))
 all_goals (conv=>whnf)
 . rename_i h;exact VLe.bool (decide_eq_true (by omega)).symm
 . rename_i h;exact VLe.bool (decide_eq_false (by omega)).symm
def enN (p:Pr) (g:G) (c:Cf):Nat:=nb (fun v=>decide (0<=ruleI p g c v)) g.ids.length
theorem ptoI_split:∀(l:Lt2) (k i:Nat) (b:Int),i<=l.length->(∀a∈l.take i,a.1≠b)->ptoI k l b=ptoI (k+i) (l.drop i) b
 | _,k,0,_,_,_=>by simp
 | [],k,i+1,b,h,_=>by simp at h
 | a::r,k,i+1,b,h,h2=>by
   have ha:a.1≠b:=h2 a (by simp);simp only[ptoI,ha,if_false,List.drop_succ_cons];rw[ptoI_split r (k+1) i b (by simpa using h) (fun x hx=>h2 x (by simp[hx]))];congr 1;omega
theorem pto_ok (g:G) (hg:g.valid=true) (a:Nat) (b:Int) (ha:a<g.ports.length):Ret Tryz.prog 104 [g.v,.int .i64 a,.int .i64 b] (.int .i64 (ptoI 0 (gR g.ports a) b)):=by
 have hrl:=row_le hg a;refine ret_frz rfl ?_;refine fn_rule mixed Tryz.func104 rfl hc104 hr104 rfl ?_
 repeat' ((conv=>whnf);first|(refine Ix.nat (by omega) ?_))
 all_goals (conv=>whnf)
 refine loop_r mixed [2,13,14] (fun i:Nat=>[(15,.int .i64 i)]) (fun m i=>m=(gR g.ports a).length-i/\i<=(gR g.ports a).length/\∀l∈(gR g.ports a).take i,l.1≠b) (gR g.ports a).length 0 ⟨rfl,Nat.zero_le _,by simp⟩ ?_ ?_
 . exact weak_b (fun _ _=>[(0,some 0)])
 rintro m i ⟨hm,hi,hall⟩
 repeat' ((conv=>whnf);first|(refine Br.dec ?_ ?_<;>intro _<;>try omega)|(refine Ar.i64 (by omega) (by omega) ?_)|(refine Ix.nat (by omega) ?_))
 all_goals (conv=>whnf)
 . refine VLe.int ?_;rename_i h;rw[ptoI_split _ 0 i b hi hall,gF_drop _ i (by omega),ptoI,if_pos h];omega
 . rename_i h;refine⟨(gR g.ports a).length-(i+1),i+1,by omega,⟨rfl,by omega,?_⟩,?_⟩
   . rw[gF_take _ i (by omega)];intro l hl;rcases List.mem_append.1 hl with h1|h1
     . exact hall l h1
     . simp at h1;rw[h1];exact h
   . exact weak_b (fun _ _=>[(0,some 0)])
 . refine VLe.int ?_;rw[ptoI_split _ 0 i b hi hall,List.drop_of_length_le (by omega)];rfl
def rowK (g:G) (v:Nat):Nat->Nat->V:=fun i _=>.int .i64 (backI g v i)
def lenK (g:G) (v:Nat):Nat->Nat:=fun i=>if i<v then (gR g.ports i).length else 0
theorem lenK_self (g:G) (v:Nat):lenK g v v=0:=if_neg (by omega)
theorem lenK_set (g:G) (v i:Nat):setN (lenK g v) v (gR g.ports v).length i=lenK g (v+1) i:=by
 simp only[setN,lenK];by_cases h:i=v
 . rw[if_pos h,if_pos (by omega),h]
 . rw[if_neg h];by_cases h2:i<v
   . rw[if_pos h2,if_pos (by omega)]
   . rw[if_neg h2,if_neg (by omega)]
theorem lenK_set0 (g:G) (v i:Nat):setN (lenK g v) v 0 i=lenK g v i:=by
 simp only[setN];split
 . rename_i e;subst e;exact(lenK_self g i).symm
 . rfl
theorem setN_setN (f:Nat->Nat) (v a b i:Nat):setN f v b i=setN (setN f v a) v b i:=by
 simp only[setN];split<;>rfl
theorem setF_rowK (g:G) (v i j t:Nat):VLe (setF (rowK g) v (rowK g v) i j t) (rowK g i j t):=by
 apply VLe.of_eq;simp only[setF];split
 . rename_i e;rw[e]
 . rfl
theorem vle_appK (g:G) (v i a b:Nat) (ha:a<i+1) (hb:b<1):VLe (fapp (shiftF 0 (rowK g v)) i (shiftF 0 (tab [[.int .i64 (ptoI 0 (gR g.ports (gF (gR g.ports v) i).1.toNat) v)]])) a b) (rowK g v a b):=by
 obtain rfl:b=0:=by omega
 apply VLe.of_eq;by_cases h:a<i
 . rw[fapp_lt h];simp[shiftF]
 . rw[fapp_ge h];have:a=i:=by omega
   subst this;simp[shiftF,tab,rowK,backI]
theorem vle_fe {n s i j:Nat} {f f':Nat->Nat->V} (h:∀a b,a<n->b<s->VLe (f a b) (f' a b)):VLe (.fe n s f i j) (.fe n s f' i j) :=
 ⟨fun M w u hd=>by
   cases hd with
   | fe _ _ _ _ _ _ b off u hi hM hb hcell h1 hd=>exact .fe _ _ _ _ _ _ b off u hi hM hb hcell h1 (fun a b ha hb=>(h a b ha hb).out _ _ _ (hd a b ha hb))⟩
set_option maxHeartbeats 16000000 in
theorem scene_ok (p:Pr) (g:G) (hg:g.valid=true):Ret Tryz.prog 70 [p.v,g.v] (scP p.pg g):=by
 obtain⟨f1,f2,f3,f4,f5,f6,f7⟩:=val_facts hg;refine ret_frz rfl ?_;refine fn_rule mixed Tryz.func70 rfl hc70 hr70 rfl ?_
 repeat' ((conv=>whnf);first|(refine Bd.nat (by omega) ?_)|(refine Len.mk (by omega) ?_)|(refine MkS.vec ?_))
 all_goals (conv=>whnf)
 refine loop_u mixed [3,5,19,20] [4] [5,6,7,8,9,10,11,12,13,14,15,16,17,18,19,20,21,22,23,24,25,26,27,28,29] [4,3,2,1,0] (fun v:Nat=>[(21,.int .i64 v)])
  (fun own v=>(4,.vec (lenK g v v) 1 (rowK g v))::updO (updO (updO own 3 (.cells [.str p.nm,p.pg.vs,p.pg.rs,.fz g.ids.length 1 false (vI g.ids),.fz g.ports.length 1 false (vP g.ports),.int .i64 (maxL (g.ids.take v) 0),.vec 2 1 0 g.ports.length])) 2 (.fam g.ports.length 1 (lenK g v) (rowK g) [])) 2 (.fam g.ports.length 1 (lenK g v) (rowK g) (opn v g.ports.length 4))) (fun k v=>k=g.ports.length-v/\v<=g.ports.length) g.ports.length 0 ⟨rfl,Nat.zero_le _⟩ rfl (fun _=>rfl) ?_ ?_
 . have e:opn 0 g.ports.length 4=[(0,4)]:=if_pos (by omega);simp only[e];refine Weak.trans ?_ (weak_open (ks:=[4,5,6,7,8,9,10,11,12,13,14,15,16,17,18,19,20,21,22,23,24,25,26,27,28,29]) rfl rfl rfl (by omega) rfl) (ks_cons rfl);refine weak_by (fun _ _=>[(0,some 0),(1,some 1),(2,some 2),(3,some 3)]) ?_ ?_ rfl
   . repeat' (first|exact True.intro|(refine⟨⟨_,rfl,?_⟩,?_⟩)|exact VRen.kf rfl|exact VRen.loc rfl)
   . repeat' (first|exact⟨rfl,rfl,rfl,fun i hi=>⟨rfl,if_neg (by omega)⟩⟩|exact True.intro|(refine⟨⟨_,rfl,?_⟩,?_⟩)|exact VRen.kf rfl|exact VRen.vec rfl rfl rfl|(refine And.intro ?_ ?_))
 rintro k v ⟨hk,hv⟩;by_cases hvn:v<g.ports.length
 . have e:opn v g.ports.length 4=[(v,4)]:=if_pos hvn;simp only[e];have hrl:=row_le hg v
   repeat' ((conv=>whnf);first|(refine Br.dec ?_ ?_<;>intro _<;>try omega)|(refine Sv.mk _ rfl ?_)|(refine Ix.nat (by omega) ?_))
   all_goals (conv=>whnf)
   refine loop_u mixed [3,5,6,19,20,21,39,40] [4] [5,6,7,8,9,10,11,12,13,14,15,16,17,18,19,20,21,22,23,24,25,26,27,28,29] [4,3,2,1,0] (fun i:Nat=>[(41,.int .i64 i)])
    (fun own i=>updO (updO own 4 (.vec i 1 (rowK g v))) 2 (.fam g.ports.length 1 (setN (lenK g v) v i) (rowK g) [(v,4)])) (fun k i=>k=(gR g.ports v).length-i/\i<=(gR g.ports v).length) (gR g.ports v).length 0 ⟨rfl,Nat.zero_le _⟩ rfl (fun _=>rfl) ?_ ?_
   . refine weak_by (fun _ _=>[(0,some 0),(1,some 1),(2,some 2),(3,some 3),(4,some 4)]) ?_ ?_ rfl
     . repeat' (first|exact True.intro|(refine⟨⟨_,rfl,?_⟩,?_⟩)|exact VRen.kf rfl|exact VRen.loc rfl)
     . repeat' (first|exact⟨rfl,rfl,⟨rfl,rfl,True.intro⟩,fun i hi=>lenK_set0 _ _ _,fun i j t hi hn hj ht=>VLe.rfl⟩|exact True.intro|(refine⟨⟨_,rfl,?_⟩,?_⟩)|exact VRen.kf rfl|exact VRen.vec rfl rfl rfl|(refine⟨by omega,rfl,fun i j hi hj=>?_⟩)|exact VLe.rfl|(refine And.intro ?_ ?_))
   rintro k i ⟨hk2,hi⟩;by_cases hin:i<(gR g.ports v).length
   . have hr:=okR_nd (f6 v hvn) hin;have hp:=pto_ok g hg (gF (gR g.ports v) i).1.toNat v (by omega);rw[show(((gF (gR g.ports v) i).1.toNat:Nat):Int)=(gF (gR g.ports v) i).1 by omega] at hp
     repeat' ((conv=>whnf);first|(refine Br.dec ?_ ?_<;>intro _<;>try omega)|(refine Br.nbeq ?_ ?_<;>intro _<;>try omega)|(refine Ar.i64 (by omega) (by omega) ?_)|(refine Ix.nat (by omega) ?_)|(refine Len.mk (by omega) ?_)|(refine Ltn.mk (by omega) ?_)|(refine hp.go ?_)|(refine Opn.hdl (by omega) (show setN _ _ _ _=i from if_pos rfl) ?_)|(refine And.intro (Ltn.mk (by omega) (Opn.hdl (by omega) (show setN _ _ _ _=i from if_pos rfl) rfl)) ?_)|(refine OpnSet.hd (by omega) ?_)|(refine And.intro rfl ?_))
     all_goals (conv=>whnf)
     refine⟨(gR g.ports v).length-(i+1),i+1,by omega,⟨rfl,by omega⟩,?_⟩;refine weak_by (fun env own=>[(0,some 0),(1,some 1),(2,some 2),(3,some 3),(4,ekey env 63)]) ?_ ?_ rfl
     . repeat' (first|exact True.intro|(refine⟨⟨_,rfl,?_⟩,?_⟩)|exact VRen.kf rfl|exact VRen.loc rfl)
     . repeat' (first|exact⟨rfl,rfl,⟨rfl,rfl,True.intro⟩,fun i hi=>setN_setN _ _ _ _ _,fun i j t hi hn hj ht=>VLe.rfl⟩|exact⟨Nat.le_refl _,rfl,fun a b ha hb=>vle_appK g v i a b ha hb⟩|exact True.intro|(refine⟨⟨_,rfl,?_⟩,?_⟩)|exact VRen.kf rfl|exact VRen.vec rfl rfl rfl|(refine And.intro ?_ ?_))
   . have ei:i=(gR g.ports v).length:=by omega
     subst ei
     repeat' ((conv=>whnf);first|(refine Br.dec ?_ ?_<;>intro _<;>try omega)|(refine Ar.i64 (by omega) (by omega) ?_))
     all_goals (conv=>whnf)
     refine⟨g.ports.length-(v+1),v+1,by omega,⟨rfl,by omega⟩,?_⟩;refine Weak.trans (weak_step (own_close (q:=4) (k:=2) (i:=v) [] rfl rfl hvn (look_here rfl) (Nat.le_of_eq (if_pos rfl)) rfl (fun j hj=>(look_there (fun e=>hj e.symm)).symm))) ?_ (ks_sub rfl);have em:maxL (g.ids.take (v+1)) 0=if gI g.ids v > maxL (g.ids.take v) 0 then gI g.ids v else maxL (g.ids.take v) 0:=by rw[gI_take g.ids v (by omega),maxL_snoc]
     simp only[em];by_cases h1:v+1<g.ports.length
     . have e1:opn (v+1) g.ports.length 4=[(v+1,4)]:=if_pos h1;simp only[e1];refine Weak.trans ?_ (weak_open (ks:=[4,5,6,7,8,9,10,11,12,13,14,15,16,17,18,19,20,21,22,23,24,25,26,27,28,29]) rfl rfl rfl h1 rfl) (ks_cons rfl);refine weak_by (fun _ _=>[(0,some 0),(1,some 1),(2,some 2),(3,some 3)]) ?_ ?_ rfl
       . repeat' (first|exact True.intro|(refine⟨⟨_,rfl,?_⟩,?_⟩)|exact VRen.kf rfl|exact VRen.loc rfl)
       . repeat' (first|exact⟨rfl,rfl,True.intro,fun i hi=>(lenK_set _ _ _).symm,fun i j t hi hn hj ht=>setF_rowK g v i j t⟩|exact True.intro|(refine⟨⟨_,rfl,?_⟩,?_⟩)|exact VRen.kf rfl|exact VRen.vec rfl rfl rfl|(refine And.intro ?_ ?_))
     . have e1:opn (v+1) g.ports.length 4=[]:=if_neg h1;simp only[e1];refine weak_by (fun _ _=>[(0,some 0),(1,some 1),(2,some 2),(3,some 3),(4,none)]) ?_ ?_ rfl
       . repeat' (first|exact True.intro|(refine⟨⟨_,rfl,?_⟩,?_⟩)|exact VRen.kf rfl|exact VRen.loc rfl)
       . repeat' (first|exact⟨rfl,rfl,True.intro,fun i hi=>(lenK_set _ _ _).symm,fun i j t hi hn hj ht=>setF_rowK g v i j t⟩|exact⟨1,rowK g (v+1),by rw[lenK_self]⟩|exact True.intro|(refine⟨⟨_,rfl,?_⟩,?_⟩)|exact VRen.kf rfl|exact VRen.vec rfl rfl rfl|(refine And.intro ?_ ?_))
 . have e:opn v g.ports.length 4=[]:=if_neg hvn;have ev:v=g.ports.length:=by omega
   simp only[e]
   repeat' ((conv=>whnf);first|(refine Br.dec ?_ ?_<;>intro _<;>try omega)|(refine Len.mk (by omega) ?_))
   all_goals (conv=>whnf)
   refine vle_fe (fun a b ha hb=>?_);obtain rfl:a=0:=by omega
   have hb:b<7:=hb;have em:maxL (g.ids.take v) 0=topI g:=by rw[List.take_of_length_le (by omega)];rfl
   rcases (show b=0\/b=1\/b=2\/b=3\/b=4\/b=5\/b=6 by omega) with rfl|rfl|rfl|rfl|rfl|rfl|rfl
   . exact VLe.rfl
   . exact VLe.rfl
   . exact VLe.rfl
   . exact VLe.rfl
   . exact VLe.rfl
   . exact VLe.int em
   . refine VLe.fz rfl (fun h=>h) (fun i j hi hj=>?_);show VLe (.fz (lenK g v i) 1 false (rowK g i)) (.fz (gR g.ports i).length 1 false (rowK g i));rw[show lenK g v i=(gR g.ports i).length from if_pos (by omega)];exact VLe.rfl
theorem mover_ok (p:Pr) (hp:PrOk p) (g:G) (hg:g.valid=true):Ret Tryz.prog 44 [p.v,g.v] (mvP p g):=by
 have h1:=scene_ok p g hg;have h2:=table_ok p hp g hg;refine ret_frz rfl ?_;refine fn_rule mixed Tryz.func44 rfl hc44 hr44 rfl ?_
 repeat' ((conv=>whnf);first|(refine h1.go ?_)|(refine h2.go ?_)|(refine And.intro rfl ?_))
 all_goals (conv=>whnf)
 exact VLe.rfl
set_option maxHeartbeats 4000000 in
theorem snodes_ok (p:Pr) (hp:PrOk p) (g:G) (hg:g.valid=true) (c:Cf) (hc:Conf p g c) :
 CallF Tryz.prog 105 [.int .i64 g.ids.length,.fn (.func 106) false [.loc 0 0,.loc 1 0]] [(1,.cells [cV c]),(0,.cells [mvP p g])] [2,3,4,5,6,7,8,9,10,11,12,13,14,15,16,17,18,19,20,21,22,23,24,25,26,27,28,29] fun v own' _=>v=.int .u32 (enN p g c)/\own'=[(1,.cells [cV c]),(0,.cells [mvP p g])]:=by
 obtain⟨f1,f2,f3,f4,f5,f6,f7⟩:=val_facts hg;refine fn_rule mixed Tryz.func105 rfl hc105 hr105 rfl ?_
 repeat' ((conv=>whnf);first|fail)
 all_goals (conv=>whnf)
 refine loop_r mixed [1,7] (fun i:Nat=>[(5,.int .u32 (nb (fun v=>decide (0<=ruleI p g c v)) i)),(8,.int .i64 i)]) (fun m i=>m=g.ids.length-i/\i<=g.ids.length) g.ids.length 0 ⟨rfl,Nat.zero_le _⟩ ?_ ?_
 . exact weak_b (fun _ _=>[(0,some 0),(1,some 1)])
 rintro m i ⟨hm,hi⟩;by_cases hin:i<g.ids.length
 . have he:=en1_ok p hp g hg c hc i (by omega);cases hd:decide (0<=ruleI p g c i) with
   | true =>
     rw[hd] at he
     repeat' ((conv=>whnf);first|(refine Br.tt ?_)|(refine Br.dec ?_ ?_<;>intro _<;>try omega)|(refine Ar.i64 (by omega) (by omega) ?_)|(refine Ar.sh1 (by omega) ?_)|(refine Sv.mk _ rfl ?_)|(refine Nn.mk (by omega) ?_)|(refine Chk.mk (by kernel_rfl) ?_)|(refine call_lend he rfl ⟨VLe.rfl,VLe.rfl,VLe.rfl,True.intro⟩ ?_))
     all_goals (conv=>whnf)
     have hx:=nb_or (p:=fun v=>decide (0<=ruleI p g c v)) (k:=i) (by omega) hd;refine⟨g.ids.length-(i+1),i+1,by omega,⟨rfl,by omega⟩,?_⟩;refine weak_by (fun _ _=>[(0,some 0),(1,some 1)]) ?_ ?_ rfl
     . repeat' (first|exact VRen.int hx|exact True.intro|(refine VRen.fn ?_)|(refine⟨⟨_,rfl,?_⟩,?_⟩)|exact VRen.kf rfl|exact VRen.loc rfl|(refine And.intro ?_ ?_))
     . repeat' (first|exact True.intro|(refine⟨⟨_,rfl,?_⟩,?_⟩)|exact VRen.kf rfl|(refine And.intro ?_ ?_))
   | false =>
     rw[hd] at he
     repeat' ((conv=>whnf);first|(refine Br.ff ?_)|(refine Br.dec ?_ ?_<;>intro _<;>try omega)|(refine Ar.i64 (by omega) (by omega) ?_)|(refine Chk.mk (by kernel_rfl) ?_)|(refine call_lend he rfl ⟨VLe.rfl,VLe.rfl,VLe.rfl,True.intro⟩ ?_))
     all_goals (conv=>whnf)
     have hx:=nb_no (p:=fun v=>decide (0<=ruleI p g c v)) (k:=i) hd;refine⟨g.ids.length-(i+1),i+1,by omega,⟨rfl,by omega⟩,?_⟩;refine weak_by (fun _ _=>[(0,some 0),(1,some 1)]) ?_ ?_ rfl
     . repeat' (first|exact VRen.int (by rw[hx])|exact True.intro|(refine VRen.fn ?_)|(refine⟨⟨_,rfl,?_⟩,?_⟩)|exact VRen.kf rfl|exact VRen.loc rfl|(refine And.intro ?_ ?_))
     . repeat' (first|exact True.intro|(refine⟨⟨_,rfl,?_⟩,?_⟩)|exact VRen.kf rfl|(refine And.intro ?_ ?_))
 . repeat' ((conv=>whnf);first|(refine Br.dec ?_ ?_<;>intro _<;>try omega))
   all_goals (conv=>whnf)
   have e:i=g.ids.length:=by omega
   exact⟨by rw[enN,e],rfl⟩
theorem men_ok (p:Pr) (hp:PrOk p) (g:G) (hg:g.valid=true) (c:Cf) (hc:Conf p g c):Ret Tryz.prog 71 [mvP p g,cV c] (.int .u32 (enN p g c)):=by
 have hn:=snodes_ok p hp g hg c hc;refine ret_frz rfl ?_;refine fn_rule mixed Tryz.func71 rfl hc71 hr71 rfl ?_
 repeat' ((conv=>whnf);first|(refine call_by [(0,some 0),(1,some 1)] [] (hn.mono ?_) ⟨VRen.int rfl,VRen.fn ⟨VRen.loc rfl,VRen.loc rfl,True.intro⟩,True.intro⟩ (by repeat' (first|exact True.intro|(refine⟨⟨_,rfl,?_⟩,?_⟩)|exact VRen.kf rfl|(refine And.intro ?_ ?_))) rfl;rintro _ _ _ ⟨rfl,rfl⟩)|(refine Chk.mk rfl ?_))
 all_goals (conv=>whnf)
 exact VLe.rfl
def brI (kind lo hi v:Int):Int:=if lo<=v/\v<=hi then v else if kind=3 then -1 else if v<lo then lo else hi
theorem bring_ok (kind lo hi v:Int):Ret Tryz.prog 142 [.int .i64 kind,.agg [.int .i64 lo,.int .i64 hi],.int .i64 v] (.int .i64 (brI kind lo hi v)):=by
 refine ret_frz rfl ?_;refine fn_rule mixed Tryz.func142 rfl hc142 hr142 rfl ?_;rw[brI]
 repeat' ((conv=>whnf);first|(refine Br.dec ?_ ?_<;>intro _<;>try omega)|(refine Ix.mk 0 rfl (by omega) ?_)|(refine Ix.mk 1 rfl (by omega) ?_))
 all_goals (conv=>whnf)
 all_goals refine VLe.int ?_
 all_goals repeat' split
 all_goals omega
def putV (p:Pr) (g:G) (c:Cf) (v:Nat) (st:List Int) (s:Int×Tm):List Int :=
 st.set s.1.toNat (brI (gV p.vars s.1.toNat).kind (bnd g (gV p.vars s.1.toNat) v).1 (bnd g (gV p.vars s.1.toNat) v).2 (s.2.sem g c v (-1)))
def putL (p:Pr) (g:G) (c:Cf) (v:Nat) (l:List (Int×Tm)):List Int:=l.foldl (putV p g c v) (gC c v)
def moveL (p:Pr) (g:G) (c:Cf) (v r:Nat):List Int:=putL p g c v (gRl p.rules r).sets
theorem putL_len (p:Pr) (g:G) (c:Cf) (v:Nat):∀(l:List (Int×Tm)),(putL p g c v l).length=(gC c v).length:=by
 intro l;rw[putL];generalize gC c v=st
 induction l generalizing st with
 | nil=>rfl
 | cons s r ih=>rw[List.foldl_cons,ih];simp[putV]
theorem gS_take (l:List (Int×Tm)) (i:Nat) (h:i<l.length):l.take (i+1)=l.take i++[gS l i]:=by
 rw[List.take_succ_eq_append_getElem h];simp only[gS,List.getD,List.getElem?_eq_getElem h,Option.getD_some]
theorem putL_snoc (p:Pr) (g:G) (c:Cf) (v:Nat) (l:List (Int×Tm)) (s:Int×Tm):putL p g c v (l++[s])=putV p g c v (putL p g c v l) s:=by
 simp[putL,List.foldl_append]
theorem vle_set6 (r:List Int) (u i t:Nat) (d:Int) (hu:u<r.length) (ht:t<1):VLe (fset (vI r) u 0 [.int .i64 d] i t) (vI (r.set u d) i t):=by
 obtain rfl:t=0:=by omega
 apply VLe.of_eq;simp only[fset,vI,gI,List.getD,List.getElem?_set];by_cases h:i=u
 . subst h;simp[hu]
 . have:¬ u=i:=fun e=>h e.symm;simp[h,this]
set_option maxHeartbeats 8000000 in
theorem move_ok (p:Pr) (hp:PrOk p) (g:G) (hg:g.valid=true) (c:Cf) (hc:Conf p g c) (v:Nat) (hv:v<g.ports.length) (r:Nat) (hr:r<p.rules.length) :
 Ret Tryz.prog 109 [mvP p g,cV c,.int .i64 v,.int .i64 r] (.fz (moveL p g c v r).length 1 false (vI (moveL p g c v r))):=by
 obtain⟨f1,f2,f3,f4,f5,f6,f7⟩:=val_facts hg;have hcl:=hc.len;have hrow:=hc.row v (by omega);have hvl:=hp.vlen;have hsl:=hp.slen r hr;refine ret_frz rfl ?_;refine fn_rule mixed Tryz.func109 rfl hc109 hr109 rfl ?_
 repeat' ((conv=>whnf);first|(refine Ix.nat (by omega) ?_)|(refine Len.mk (by omega) ?_))
 all_goals (conv=>whnf)
 refine loop_w mixed [0,1,2,9,26,27] [] [1,2,3,4,5,6,7,8,9,10,11,12,13,14,15,16,17,18,19,20,21,22,23,24,25,26,27,28,29] [0] (fun j:Nat=>[(28,.int .i64 j)]) (fun j=>[(0,.vec (gC c v).length 1 (vI (putL p g c v ((gRl p.rules r).sets.take j))))]) (fun m j=>m=(gRl p.rules r).sets.length-j/\j<=(gRl p.rules r).sets.length) (gRl p.rules r).sets.length 0 ⟨rfl,Nat.zero_le _⟩ rfl (fun _=>rfl) ?_ ?_
 . exact weak_b (fun _ _=>[(0,some 0)])
 rintro m j ⟨hm,hj⟩;by_cases hjl:j<(gRl p.rules r).sets.length
 . obtain⟨s1,s2,s3⟩:=hp.set r hr j hjl;simp only[Tm.okB,Bool.and_eq_true,decide_eq_true_eq] at s3;have hval:=Value_ok p.pg g hg (hc.fit hp hg) v hv (gS (gRl p.rules r).sets j).2 s3.2 s3.1;have hbr:=bring_ok (gV p.vars (gS (gRl p.rules r).sets j).1.toNat).kind (bnd g (gV p.vars (gS (gRl p.rules r).sets j).1.toNat) v).1 (bnd g (gV p.vars (gS (gRl p.rules r).sets j).1.toNat) v).2 ((gS (gRl p.rules r).sets j).2.sem g c v (-1))
   repeat' ((conv=>whnf);first|(refine Br.dec ?_ ?_<;>intro _<;>try omega)|(refine Ar.i64 (by omega) (by omega) ?_)|(refine Ix.nat (by omega) ?_)|(refine Ix.int (by omega) (by omega) ?_)|(refine Ltn.mk (by omega) ?_)|(refine hval.go ?_)|(refine hbr.go ?_)|(refine And.intro rfl ?_))
   all_goals (conv=>whnf)
   refine⟨(gRl p.rules r).sets.length-(j+1),j+1,by omega,⟨rfl,by omega⟩,?_⟩;simp only[gS_take _ j hjl,putL_snoc];refine weak_by (fun _ _=>[(0,some 0)]) ?_ ?_ rfl
   . repeat' (first|exact True.intro|(refine⟨⟨_,rfl,?_⟩,?_⟩)|exact VRen.kf rfl|exact VRen.vec rfl rfl rfl)
   . repeat' (first|exact⟨Nat.le_refl _,rfl,fun i t hi ht=>by simp only[Nat.zero_add];exact vle_set6 _ _ _ _ _ (by rw[putL_len];omega) ht⟩|exact True.intro|(refine⟨⟨_,rfl,?_⟩,?_⟩))
 . repeat' ((conv=>whnf);first|(refine Br.dec ?_ ?_<;>intro _<;>try omega)|(refine Len.mk (by omega) ?_))
   all_goals (conv=>whnf)
   rw[List.take_of_length_le (by omega)];exact VLe.fz (putL_len _ _ _ _ _).symm (fun h=>h) (fun i t hi ht=>VLe.of_eq (by simp[shiftF,moveL]))
theorem vle_rowset (c:Cf) (F:Nat->Nat->V) (n v i t:Nat) (ht:t<1) (G':Nat->Nat->V) (hG:∀i,i≠v->G' i 0=F i 0) (X:V) (hX:VLe X (G' v 0)):VLe (fset F v 0 [X] i t) (G' i t):=by
 obtain rfl:t=0:=by omega
 by_cases h:i=v
 . subst h;have e:fset F i 0 [X] i 0=X:=by simp[fset]
   rw[e];exact hX
 . apply VLe.of_eq;simp only[fset];rw[if_neg (by simp[h]),hG i h]
def cpF (c:Cf) (j:Nat):Nat->Nat->V:=fun i _=>if i<j then .fz (gC c i).length 1 false (vI (gC c i)) else .nilslice
theorem copy_ok (c:Cf) (hc:c.length<=1000) (hr:∀v,v<c.length->(gC c v).length<=1000):CallF Tryz.prog 55 [cV c] [] KS fun X own' _=>X=.vec 0 1 0 c.length/\own'=[(0,.vec c.length 1 (vC c))]:=by
 refine call_post ?_;refine fn_rule mixed Tryz.func55 rfl hc55 hr55 rfl ?_
 repeat' ((conv=>whnf);first|(refine Bd.nat (by omega) ?_)|(refine Len.mk (by omega) ?_)|(refine MkS.vec ?_))
 all_goals (conv=>whnf)
 refine loop_w mixed [3,9,10] [] [1,2,3,4,5,6,7,8,9,10,11,12,13,14,15,16,17,18,19,20,21,22,23,24,25,26,27,28,29] [0] (fun j:Nat=>[(11,.int .i64 j)]) (fun j=>[(0,.vec c.length 1 (cpF c j))]) (fun m j=>m=c.length-j/\j<=c.length) c.length 0 ⟨rfl,Nat.zero_le _⟩ rfl (fun _=>rfl) ?_ ?_
 . refine weak_by (fun _ _=>[(0,some 0)]) ?_ ?_ rfl
   . repeat' (first|exact True.intro|(refine⟨⟨_,rfl,?_⟩,?_⟩)|exact VRen.kf rfl|exact VRen.vec rfl rfl rfl)
   . repeat' (first|exact⟨Nat.le_refl _,rfl,fun i j hi hj=>VLe.of_eq (by obtain rfl:j=0:=(by omega);rfl)⟩|exact True.intro|(refine⟨⟨_,rfl,?_⟩,?_⟩))
 rintro m j ⟨hm,hj⟩;by_cases hjl:j<c.length
 . have hrj:=hr j hjl
   repeat' ((conv=>whnf);first|(refine Br.dec ?_ ?_<;>intro _<;>try omega)|(refine Ar.i64 (by omega) (by omega) ?_)|(refine Ix.nat (by omega) ?_)|(refine Len.mk (by omega) ?_)|(refine Ltn.mk (by omega) ?_))
   all_goals (conv=>whnf)
   refine⟨c.length-(j+1),j+1,by omega,⟨rfl,by omega⟩,?_⟩;refine weak_by (fun _ _=>[(0,some 0)]) ?_ ?_ rfl
   . repeat' (first|exact True.intro|(refine⟨⟨_,rfl,?_⟩,?_⟩)|exact VRen.kf rfl|exact VRen.vec rfl rfl rfl)
   . repeat' (first|exact⟨Nat.le_refl _,rfl,fun i t hi ht=>by simp only[Nat.zero_add];exact vle_rowset c _ c.length j i t ht _ (fun i hne=>by simp only[cpF];by_cases h:i<j<;>simp[h]<;>omega) _ (by simp only[cpF];rw[if_pos (by omega)];exact VLe.fz rfl (fun h=>h) (fun a b ha hb=>VLe.of_eq (by simp[shiftF])))⟩|exact True.intro|(refine⟨⟨_,rfl,?_⟩,?_⟩))
 . have e:j=c.length:=by omega
   subst e
   repeat' ((conv=>whnf);first|(refine Br.dec ?_ ?_<;>intro _<;>try omega))
   all_goals (conv=>whnf)
   exact postR_by (fun _=>[(0,some 0)]) _ _ ⟨rfl,rfl⟩ (VRen.vec rfl rfl rfl) ⟨⟨_,rfl,Nat.le_refl _,rfl,fun i t hi ht=>VLe.of_eq (by simp only[cpF,vC];rw[if_pos hi])⟩,True.intro⟩ rfl
def stepC (p:Pr) (g:G) (c:Cf) (s:Nat):Cf:=(List.range c.length).map fun v=>if s.testBit v then moveL p g c v (ruleI p g c v).toNat else gC c v
def stF (p:Pr) (g:G) (c:Cf) (s j:Nat):Nat->Nat->V:=fun i _=>if i<j/\s.testBit i=true then .fz (moveL p g c i (ruleI p g c i).toNat).length 1 false (vI (moveL p g c i (ruleI p g c i).toNat)) else .fz (gC c i).length 1 false (vI (gC c i))
theorem stF_next (p:Pr) (g:G) (c:Cf) (s j i t:Nat) (hb:s.testBit j=true) (ht:t<1) (F:V) (hF:VLe F (.fz (moveL p g c j (ruleI p g c j).toNat).length 1 false (vI (moveL p g c j (ruleI p g c j).toNat)))) :
 VLe (fset (stF p g c s j) j 0 [F] i t) (stF p g c s (j+1) i t) :=
 vle_rowset c _ 0 j i t ht _ (fun i hne=>by
  simp only[stF];by_cases h:i<j
  . simp[h,Nat.lt_succ_of_lt h]
  . have h2:¬ i<j+1:=by omega
    simp[h,h2]) _ (by simp only[stF];rw[if_pos ⟨by omega,hb⟩];exact hF)
theorem stF_skip (p:Pr) (g:G) (c:Cf) (s j i t:Nat) (hb:s.testBit j=false):VLe (stF p g c s j i t) (stF p g c s (j+1) i t):=by
 apply VLe.of_eq;simp only[stF];by_cases h:i=j
 . subst h;simp[hb]
 . by_cases h2:i<j
   . simp[h2,Nat.lt_succ_of_lt h2]
   . have h3:¬ i<j+1:=by omega
     simp[h2,h3]
theorem stepC_len (p:Pr) (g:G) (c:Cf) (s:Nat):(stepC p g c s).length=c.length:=by simp[stepC]
theorem stepC_row (p:Pr) (g:G) (c:Cf) (s:Nat) {v:Nat} (hv:v<c.length):gC (stepC p g c s) v=if s.testBit v then moveL p g c v (ruleI p g c v).toNat else gC c v:=by
 simp[stepC,gC,hv]
theorem ruleI_lt (p:Pr) (g:G) (c:Cf) (v:Nat):ruleI p g c v<p.rules.length:=by
 have:=idxI_range (gds p g c v) 0;have hl:(gds p g c v).length=p.rules.length:=by simp[gds]
 rw[ruleI];omega
theorem shr_oneS {s k:Nat} (hs:s<4294967296) (hk:k<32):(bitI .and .u32 ((s:Int).fdiv (2 ^ (min (k:Int).toNat IntKind.u32.bits))) 1=1)↔s.testBit k=true:=shr_one hs hk
set_option maxHeartbeats 8000000 in
theorem mstep_ok (p:Pr) (hp:PrOk p) (g:G) (hg:g.valid=true) (c:Cf) (hc:Conf p g c) (s:Nat) (hs:s<4294967296) (hen:∀v,v<c.length->s.testBit v=true->0<=ruleI p g c v) :
 Ret Tryz.prog 74 [mvP p g,cV c,.int .u32 s] (cV (stepC p g c s)):=by
 obtain⟨f1,f2,f3,f4,f5,f6,f7⟩:=val_facts hg;have hcl:=hc.len;have hvl:=hp.vlen;have hcp:=copy_ok c (by omega) (fun v hv=>by have:=hc.row v hv;omega);refine ret_frz rfl ?_;refine fn_rule mixed Tryz.func74 rfl hc74 hr74 rfl ?_
 repeat' ((conv=>whnf);first|(refine call_by [] [0] (hcp.mono ?_) ⟨VRen.kf rfl,True.intro⟩ True.intro rfl;rintro _ _ _ ⟨rfl,rfl⟩)|(refine Chk.mk rfl ?_))
 all_goals (conv=>whnf)
 refine loop_w mixed [0,1,2,7,12] [] [1,2,3,4,5,6,7,8,9,10,11,12,13,14,15,16,17,18,19,20,21,22,23,24,25,26,27,28,29] [0] (fun j:Nat=>[(13,.int .i64 j)]) (fun j=>[(0,.vec c.length 1 (stF p g c s j))]) (fun m j=>m=c.length-j/\j<=c.length) c.length 0 ⟨rfl,Nat.zero_le _⟩ rfl (fun _=>rfl) ?_ ?_
 . exact weak_b (fun _ _=>[(0,some 0)])
 rintro m j ⟨hm,hj⟩;by_cases hjl:j<c.length
 . have h1:=shr_oneS (s:=s) (k:=j) hs (by omega);cases hb:s.testBit j with
   | true =>
     have h2:=h1.2 hb;obtain⟨r,hr⟩:∃r:Nat,ruleI p g c j=r:=⟨(ruleI p g c j).toNat,by have:=hen j hjl hb;omega⟩;have hrl:=ruleI_lt p g c j;have hru:=rule_ok p hp g hg c hc j (by omega);have hmv:=move_ok p hp g hg c hc j (by omega) r (by omega);rw[hr] at hru
     repeat' ((conv=>whnf);first|(refine Br.dec ?_ ?_<;>intro _<;>try omega)|(refine Ar.i64 (by omega) (by omega) ?_)|(refine Sv.mk _ rfl ?_)|(refine Nn.mk (by omega) ?_)|(refine Ix.nat (by omega) ?_)|(refine Ltn.mk (by omega) ?_)|(refine hru.go ?_)|(refine hmv.go ?_))
     all_goals (conv=>whnf)
     refine⟨c.length-(j+1),j+1,by omega,⟨rfl,by omega⟩,?_⟩;refine weak_by (fun _ _=>[(0,some 0)]) ?_ ?_ rfl
     . repeat' (first|exact True.intro|(refine⟨⟨_,rfl,?_⟩,?_⟩)|exact VRen.kf rfl|exact VRen.vec rfl rfl rfl)
     . repeat' (first|exact⟨Nat.le_refl _,rfl,fun i t hi ht=>by simp only[Nat.zero_add];exact stF_next p g c s j i t hb ht _ (by rw[hr];exact VLe.rfl)⟩|exact True.intro|(refine⟨⟨_,rfl,?_⟩,?_⟩))
   | false =>
     have h2:¬ (bitI .and .u32 ((s:Int).fdiv (2 ^ (min (j:Int).toNat IntKind.u32.bits))) 1=1):=fun e=>by rw[h1.1 e] at hb;cases hb
     repeat' ((conv=>whnf);first|(refine Br.dec ?_ ?_<;>intro _<;>try omega)|(refine Ar.i64 (by omega) (by omega) ?_)|(refine Sv.mk _ rfl ?_)|(refine Nn.mk (by omega) ?_))
     all_goals (conv=>whnf)
     refine⟨c.length-(j+1),j+1,by omega,⟨rfl,by omega⟩,?_⟩;refine weak_by (fun _ _=>[(0,some 0)]) ?_ ?_ rfl
     . repeat' (first|exact True.intro|(refine⟨⟨_,rfl,?_⟩,?_⟩)|exact VRen.kf rfl|exact VRen.vec rfl rfl rfl)
     . repeat' (first|exact⟨Nat.le_refl _,rfl,fun i t hi ht=>stF_skip p g c s j i t hb⟩|exact True.intro|(refine⟨⟨_,rfl,?_⟩,?_⟩))
 . repeat' ((conv=>whnf);first|(refine Br.dec ?_ ?_<;>intro _<;>try omega)|(refine Len.mk (by omega) ?_))
   all_goals (conv=>whnf)
   refine VLe.fz (stepC_len p g c s).symm (fun h=>h) (fun i t hi ht=>VLe.of_eq ?_);show shiftF 0 (stF p g c s j) i t=.fz (gC (stepC p g c s) i).length 1 false (vI (gC (stepC p g c s) i));rw[stepC_row p g c s hi,shiftF_eq,Nat.zero_add];simp only[stF];by_cases hb:s.testBit i=true
   . rw[if_pos ⟨by omega,hb⟩,if_pos hb]
   . rw[if_neg (fun h=>hb h.2),if_neg hb]
abbrev P8:ByteArray:=ByteArray.mk (Array.mk [0,1,1,2,1,2,2,3,1,2,2,3,2,3,3,4,1,2,2,3,2,3,3,4,2,3,3,4,3,4,4,5,1,2,2,3,2,3,3,4,2,3,3,4,3,4,4,5,2,3,3,4,3,4,4,5,3,4,4,5,4,5,5,6,1,2,2,3,2,3,3,4,2,3,3,4,3,4,4,5,2,3,3,4,3,4,4,5,3,4,4,5,4,5,5,6,2,3,3,4,3,4,4,5,3,4,4,5,4,5,5,6,3,4,4,5,4,5,5,6,4,5,5,6,5,6,6,7,1,2,2,3,2,3,3,4,2,3,3,4,3,4,4,5,2,3,3,4,3,4,4,5,3,4,4,5,4,5,5,6,2,3,3,4,3,4,4,5,3,4,4,5,4,5,5,6,3,4,4,5,4,5,5,6,4,5,5,6,5,6,6,7,2,3,3,4,3,4,4,5,3,4,4,5,4,5,5,6,3,4,4,5,4,5,5,6,4,5,5,6,5,6,6,7,3,4,4,5,4,5,5,6,4,5,5,6,5,6,6,7,4,5,5,6,5,6,6,7,5,6,6,7,6,7,7,8])
theorem pop8:∀x:Nat,x<256->(P8.get! x).toNat=cnt x 8:=by decide +kernel
theorem fdiv_shr (s k:Nat):(s:Int).fdiv (2 ^ k)=((s >>> k:Nat):Int):=by
 rw[Int.fdiv_eq_ediv_of_nonneg _ (Int.pow_nonneg (by omega)),Nat.shiftRight_eq_div_pow];simp
theorem and255 (x:Nat):x &&& 255<256:=Nat.lt_of_le_of_lt Nat.and_le_right (by omega)
theorem cnt255 (x:Nat):cnt (x &&& 255) 8=cnt x 8:=cnt_ext fun i hi=>by
 rw[Nat.testBit_and,show(255:Nat)=2 ^ 8-1 from rfl,Nat.testBit_two_pow_sub_one];simp[hi]
theorem cnt_bytes (s:Nat) (hs:s<4294967296):cnt (s >>> 24) 8+cnt (s >>> 16 &&& 255) 8+cnt (s >>> 8 &&& 255) 8+cnt (s &&& 255) 8=cnt s 32:=by
 rw[cnt255,cnt255,cnt255,show(32:Nat)=8+24 from rfl,cnt_add 8 24,show(24:Nat)=8+16 from rfl,cnt_add 8 16,show(16:Nat)=8+8 from rfl,cnt_add 8 8];rw[<- Nat.shiftRight_add,<- Nat.shiftRight_add];show cnt (s >>> 24) 8+cnt (s >>> 16) 8+cnt (s >>> 8) 8+cnt s 8=cnt s 8+(cnt (s >>> 8) 8+(cnt (s >>> 16) 8+cnt (s >>> 24) 8));omega
theorem wrap_u8 {n:Int} (h1:0<=n) (h2:n<=255):IntKind.u8.wrap n=n:=by
 simp only[IntKind.wrap,IntKind.bits,IntKind.signed,Bool.false_and]
 first|(split<;>omega)|(simp;omega)
theorem Ar.u8 {n:Int} {K:Int->Prop} (h1:0<=n) (h2:n<=255) (hK:K n):Ar .u8 n K:=⟨n,(wrap_u8 h1 h2).symm,hK⟩
theorem Ar.u8e {n:Int} {K:Int->Prop} (a:Nat) (h:n=(a:Int)) (ha:a<=255) (hK:K (a:Int)):Ar .u8 n K:=by subst h;exact Ar.u8 (by omega) (by omega) hK
theorem oc_ok (s:Nat) (hs:s<4294967296):Ret Tryz.prog 112 [.int .u32 s] (.int .i64 (cnt s 32)):=by
 have hsum:=cnt_bytes s hs;have f24:(s:Int).fdiv (2 ^ (min (24:Int).toNat 32))=((s >>> 24:Nat):Int):=fdiv_shr s 24;have f16:(s:Int).fdiv (2 ^ (min (16:Int).toNat 32))=((s >>> 16:Nat):Int):=fdiv_shr s 16;have f8:(s:Int).fdiv (2 ^ (min (8:Int).toNat 32))=((s >>> 8:Nat):Int):=fdiv_shr s 8;have l24:s >>> 24<256:=by rw[Nat.shiftRight_eq_div_pow];omega
 have l16:s >>> 16<4294967296:=Nat.lt_of_le_of_lt (Nat.shiftRight_le s 16) hs;have l8:s >>> 8<4294967296:=Nat.lt_of_le_of_lt (Nat.shiftRight_le s 8) hs;have a16:bitI .and .u32 ((s >>> 16:Nat):Int) 255=((s >>> 16 &&& 255:Nat):Int):=bit_and (b:=255) l16 (by omega);have a8:bitI .and .u32 ((s >>> 8:Nat):Int) 255=((s >>> 8 &&& 255:Nat):Int):=bit_and (b:=255) l8 (by omega);have a0:bitI .and .u32 (s:Int) 255=((s &&& 255:Nat):Int):=bit_and (b:=255) hs (by omega);have m16:=and255 (s >>> 16);have m8:=and255 (s >>> 8);have m0:=and255 s;generalize s >>> 24=x24 at *;generalize s >>> 16 &&& 255=x16 at *;generalize s >>> 8 &&& 255=x8 at *;generalize s &&& 255=x0 at *;have p24:=pop8 x24 l24;have p16:=pop8 x16 m16;have p8:=pop8 x8 m8;have p0:=pop8 x0 m0;have c24:=cnt_le x24 8;have c16:=cnt_le x16 8;have c8:=cnt_le x8 8;have c0:=cnt_le x0 8;rw[<- hsum];rw[<- p24] at c24 ⊢;rw[<- p16] at c16 ⊢;rw[<- p8] at c8 ⊢;rw[<- p0] at c0 ⊢;clear p24 p16 p8 p0 hsum;refine ret_frz rfl ?_;refine fn_rule mixed Tryz.func112 rfl hc112 hr112 rfl ?_
 repeat' ((conv=>whnf);first|(refine Sv.mk _ f24.symm ?_)|(refine Sv.mk _ f16.symm ?_)|(refine Sv.mk _ f8.symm ?_)|(refine Sv.mk _ a16.symm ?_)|(refine Sv.mk _ a8.symm ?_)|(refine Sv.mk _ a0.symm ?_)|(refine Ix.mk x24 rfl l24 ?_)|(refine Ix.mk x16 rfl m16 ?_)|(refine Ix.mk x8 rfl m8 ?_)|(refine Ix.mk x0 rfl m0 ?_)|(refine Ar.u8e ((P8.get! x24).toNat+(P8.get! x16).toNat) rfl (by omega) ?_)|(refine Ar.u8e ((P8.get! x24).toNat+(P8.get! x16).toNat+(P8.get! x8).toNat) rfl (by omega) ?_)|(refine Ar.u8e ((P8.get! x24).toNat+(P8.get! x16).toNat+(P8.get! x8).toNat+(P8.get! x0).toNat) rfl (by omega) ?_)|(refine Ar.i64 (by omega) (by omega) ?_)|(refine Nn.mk (by omega) ?_))
 all_goals (conv=>whnf)
 all_goals exact VLe.rfl
structure Cnt where
 steps:Nat
 moves:Nat
 rounds:Nat
 begun:Nat
 pend:Nat
def Cnt.v (k:Cnt):V:=.agg [.int .i64 k.steps,.int .i64 k.moves,.int .i64 k.rounds,.int .i64 k.begun,.int .u32 k.pend]
structure Cnt.Ok (k:Cnt):Prop where
 steps:k.steps<=4096
 rb:k.rounds<=k.begun
 bs:k.begun<=k.steps
 br:k.begun<=k.rounds+1
 sm:k.steps<=k.moves
 ms:k.moves<=24*k.steps
 pend:k.pend<16777216
def vU7 (l:List Nat):Nat->Nat->V:=fun i _=>.int .u32 (l.getD i 0:Nat)
theorem nd24 {a:Nat} (h:a<16777216):ndiff a 16777215=0:=by
 refine Nat.eq_of_testBit_eq fun i=>?_;rw[ndiff,Nat.testBit_and,Nat.zero_testBit];by_cases hi:i<24
 . have h1:(4294967295 ^^^ 16777215:Nat).testBit i=false:=by
    rw[Nat.testBit_xor,show(4294967295:Nat)=2 ^ 32-1 from rfl,show(16777215:Nat)=2 ^ 24-1 from rfl,Nat.testBit_two_pow_sub_one,Nat.testBit_two_pow_sub_one];simp[hi];omega
   rw[h1,Bool.and_false]
 . have:a.testBit i=false:=Nat.testBit_lt_two_pow (Nat.lt_of_lt_of_le (show a<2 ^ 24 from h) (Nat.pow_le_pow_right (by omega) (by omega)));rw[this,Bool.false_and]
theorem possible_ok (l:List Nat) (hl:l.length<=10) (h:∀a∈l,a<16777216):Ret Tryz.prog 111 [.fz l.length 1 false (vU7 l)] (.bool true):=by
 refine ret_frz rfl ?_;refine fn_rule mixed Tryz.func111 rfl hc111 hr111 rfl ?_
 repeat' ((conv=>whnf);first|fail)
 all_goals (conv=>whnf)
 refine loop_r mixed [5,6] (fun i:Nat=>[(7,.int .i64 i)]) (fun m i=>m=l.length-i/\i<=l.length) l.length 0 ⟨rfl,Nat.zero_le _⟩ ?_ ?_
 . exact weak_b (fun _ _=>[])
 rintro m i ⟨hm,hi⟩;by_cases hil:i<l.length
 . have ha:l.getD i 0<16777216:=h _ (by rw[List.getD_eq_getElem?_getD,List.getElem?_eq_getElem hil];exact List.getElem_mem hil);have hb:bitI .andNot .u32 ((l.getD i 0:Nat):Int) 16777215=0:=by
    have:=bit_andNot (a:=l.getD i 0) (b:=16777215) (by omega) (by omega);rw[nd24 ha] at this;exact this
   repeat' ((conv=>whnf);first|(refine Sv.mk 0 hb.symm ?_)|(refine Br.ff ?_)|(refine Br.dec ?_ ?_<;>intro _<;>try omega)|(refine Ar.i64 (by omega) (by omega) ?_)|(refine Ix.nat (by omega) ?_))
   all_goals (conv=>whnf)
   refine⟨l.length-(i+1),i+1,by omega,⟨rfl,by omega⟩,?_⟩;exact weak_b (fun _ _=>[])
 . repeat' ((conv=>whnf);first|(refine Br.dec ?_ ?_<;>intro _<;>try omega))
   all_goals (conv=>whnf)
   exact VLe.rfl
theorem one_u (a:Nat) (f:Nat->Nat->V) (h0:f 0 0=.int .u32 a):∀i j:Nat,i<1->j<1->VLe (f i j) (vU7 [a] i j):=by
 intro i j hi hj;obtain rfl:j=0:=by omega
 obtain rfl:i=0:=by omega
 rw[h0];exact VLe.rfl
theorem two_u (a b:Nat) (f:Nat->Nat->V) (h0:f 0 0=.int .u32 a) (h1:f 1 0=.int .u32 b):∀i j:Nat,i<2->j<1->VLe (f i j) (vU7 [a,b] i j):=by
 intro i j hi hj;obtain rfl:j=0:=by omega
 rcases (show i=0\/i=1 by omega) with rfl|rfl
 . rw[h0];exact VLe.rfl
 . rw[h1];exact VLe.rfl
theorem avalid_ok (k:Cnt) (hk:k.Ok):Ret Tryz.prog 110 [k.v] (.bool true):=by
 have hp:=possible_ok [k.pend] (by simp) (by simpa using hk.pend);obtain⟨h1,h2,h3,h4,h5,h6,h7⟩:=hk;refine ret_frz rfl ?_;refine fn_rule mixed Tryz.func110 rfl hc110 hr110 rfl ?_
 repeat' ((conv=>whnf);first|(refine Br.tt ?_)|(refine Br.ff ?_)|(refine Br.dec ?_ ?_<;>intro _<;>try omega)|(refine Ar.i64 (by omega) (by omega) ?_)|(refine call_frz [1] hp ⟨by decide,VLe.fz rfl (fun h=>h) (one_u _ _ rfl),True.intro⟩ ?_))
 all_goals (conv=>whnf)
 all_goals exact VLe.rfl
theorem begin_ok (e:Nat) (he:e<16777216):Ret Tryz.prog 72 [.int .u32 e] (Cnt.v ⟨0,0,0,0,e⟩):=by
 have hb:bitI .and .u32 (e:Int) 16777215=(e:Int):=by
  have:=bit_and (a:=e) (b:=16777215) (by omega) (by omega);rw[show e &&& 16777215=e by rw[show(16777215:Nat)=2 ^ 24-1 from rfl,Nat.and_two_pow_sub_one_eq_mod];omega] at this;exact this
 refine ret_frz rfl ?_;refine fn_rule mixed Tryz.func72 rfl hc72 hr72 rfl ?_
 repeat' ((conv=>whnf);first|(refine Sv.mk (e:Int) hb.symm ?_))
 all_goals (conv=>whnf)
 exact VLe.rfl
def lft (k:Cnt) (s e:Nat):Nat:=ndiff k.pend s &&& e
def Cnt.add (k:Cnt) (s e:Nat):Cnt:=if lft k s e=0 then⟨k.steps+1,k.moves+cnt s 32,k.rounds+1,k.rounds+1,e⟩ else⟨k.steps+1,k.moves+cnt s 32,k.rounds,k.rounds+1,lft k s e⟩
theorem ndiff_le (a b:Nat):ndiff a b<=a:=Nat.and_le_left
set_option maxHeartbeats 4000000 in
theorem add_ok (k:Cnt) (hk:k.Ok) (h0:k.steps<4096) (s e:Nat) (hs0:s≠0) (hs:s<16777216) (he:e<16777216):Ret Tryz.prog 75 [k.v,.int .u32 s,.int .u32 e] (.tup [(k.add s e).v,.int .i64 0]):=by
 have hv:=avalid_ok k hk;have hp:=possible_ok [s,e] (by simp) (by simp;omega);have hoc:=oc_ok s (by omega);have hcl:=cnt_le s 32;obtain⟨h1,h2,h3,h4,h5,h6,h7⟩:=hk;have hb1:=bit_andNot (a:=k.pend) (b:=s) (by omega) (by omega);have hnl:=ndiff_le k.pend s;have hb2:=bit_and (a:=ndiff k.pend s) (b:=e) (by omega) (by omega);have hlf:lft k s e=ndiff k.pend s &&& e:=rfl;rw[<- hlf] at hb2;refine ret_frz rfl ?_;refine fn_rule mixed Tryz.func75 rfl hc75 hr75 rfl ?_
 repeat' ((conv=>whnf);first|(refine Sv.mk _ hb1.symm ?_)|(refine Sv.mk _ hb2.symm ?_)|(refine Br.tt ?_)|(refine Br.dec ?_ ?_<;>intro _<;>try omega)|(refine Ar.i64 (by omega) (by omega) ?_)|(refine hv.go ?_)|(refine hoc.go ?_)|(refine call_frz [2] hp ⟨by decide,VLe.fz rfl (fun h=>h) (two_u _ _ _ rfl rfl),True.intro⟩ ?_)|(refine And.intro rfl ?_))
 all_goals (conv=>whnf)
 . rename_i hz;rw[Cnt.add,if_pos (by omega),Cnt.v]
   repeat' (first|exact VLe.rfl)
 . rename_i hz;rw[Cnt.add,if_neg (by omega),Cnt.v]
   repeat' (first|exact VLe.rfl)
theorem add_fit (k:Cnt) (hk:k.Ok) (h0:k.steps<4096) (s e:Nat) (hs0:1<=cnt s 32) (hs:cnt s 32<=24) (he:e<16777216):(k.add s e).Ok:=by
 obtain⟨h1,h2,h3,h4,h5,h6,h7⟩:=hk;have hle:lft k s e<=e:=Nat.and_le_right;rw[Cnt.add];split
 . exact⟨by simp only;omega,by simp only;omega,by simp only;omega,by simp only;omega,by simp only;omega,by simp only;omega,he⟩
 . exact⟨by simp only;omega,by simp only;omega,by simp only;omega,by simp only;omega,by simp only;omega,by simp only;omega,by simp only;omega⟩
def one (c:Cf) (x v:Nat):Bool:=decide (gI (gC c v) x=1)
theorem Ar.sh01 {a:Int} {k:Nat} {K:Int->Prop} (h0:0<=a) (h1:a<=1) (hk:k<32) (hK:K ((if a=1 then 2 ^ k else 0:Nat):Int)):Ar .u32 (a*2 ^ (min (k:Int).toNat 32)) K:=by
 have:a=0\/a=1:=by omega
 rcases this with rfl|rfl
 . rw[if_neg (by omega)] at hK;rw[Int.zero_mul];exact Ar.u32 (by omega) (by omega) hK
 . rw[if_pos rfl] at hK;exact Ar.sh1 hk hK
theorem one_or {c:Cf} {x v:Nat} (hv:v<32):bitI .or .u32 (nb (one c x) v:Nat) ((if gI (gC c v) x=1 then 2 ^ v else 0:Nat):Int)=(nb (one c x) (v+1):Nat):=by
 by_cases h:gI (gC c v) x=1
 . rw[if_pos h];exact nb_or hv (by rw[one,decide_eq_true h])
 . rw[if_neg h,bit_or (nb_lt _ (by omega)) (by decide),Nat.or_zero,nb_no (by rw[one,decide_eq_false h])]
def mx (g:G) (p:Nat->Bool):Bool:=decide (∀v,v<g.ports.length->nbr g (nb p g.ports.length) v=!p v)
def tzL:List Int:=[0,1,28,2,29,14,24,3,30,22,20,15,25,17,4,8,31,27,13,23,21,19,16,7,26,12,18,6,11,5,10,9]
def tzF (i j:Nat):V:=.int .u8 (tzL.getD i 0)
abbrev GB:Blk:=.glob 0 32 tzF
abbrev RG (f:FuncId) (args:List V) (X:V):Prop:=RetG Tryz.prog GB f args X
theorem tz_all0:∀k:Nat,k<32->IntKind.u32.wrap (((2 ^ k:Nat):Int)*125613361)=((2 ^ k*125613361 % 4294967296:Nat):Int)/\((2 ^ k*125613361 % 4294967296:Nat):Int).fdiv (2 ^ (min (27:Int).toNat 32))=((2 ^ k*125613361 % 4294967296 / 134217728:Nat):Int)/\2 ^ k*125613361 % 4294967296 / 134217728<32/\tzL.getD (2 ^ k*125613361 % 4294967296 / 134217728) 0=(k:Int):=by
 decide +kernel
theorem tz_all (k:Nat) (hk:k<32):∃a b:Nat,IntKind.u32.wrap (((2 ^ k:Nat):Int)*125613361)=(a:Int)/\(a:Int).fdiv (2 ^ (min (27:Int).toNat 32))=(b:Int)/\b<32/\tzL.getD b 0=(k:Int):=⟨_,_,tz_all0 k hk⟩
theorem tz_ok (s:Nat) (h0:s≠0) (hs:s<4294967296):RG 114 [.int .u32 s] (.int .i64 (ctz s)):=by
 obtain⟨k1,k2,k3⟩:=ctz_spec h0 hs;obtain⟨a,b,t1,t2,t3,t4⟩:=tz_all (ctz s) k1;have hand:bitI .and .u32 (s:Int) (((4294967296-s) % 4294967296:Nat):Int)=((2 ^ ctz s:Nat):Int):=by
  rw[bit_and hs (Nat.mod_lt _ (by omega)),lowb_neg hs,lowb,if_neg h0]
 have t5:(ctz s:Int)=IntKind.i64.wrap (tzL.getD b 0):=by rw[t4];exact(wrap_i64 (by omega) (by omega)).symm
 generalize ((2 ^ ctz s:Nat):Int)=p at hand t1;refine ret_frzG rfl ?_;refine fn_rule mixed Tryz.func114 rfl hc114 hr114 rfl ?_
 repeat' ((conv=>whnf);first|(refine Ar.neg32 hs ?_)|(refine Sv.mk _ hand.symm ?_)|(refine Ar.mk _ t1.symm ?_)|(refine Sv.mk _ t2.symm ?_)|(refine Ix.mk _ rfl t3 ?_)|(refine Ar.mk _ t5 ?_)|(refine Br.dec ?_ ?_<;>intro _<;>try omega)|(refine Nn.mk (by omega) ?_))
 all_goals (conv=>whnf)
 all_goals exact VLe.rfl
structure Net where
 n:Int
 links:List Int
 weights:List Int
 ids:List Int
 apart:Bool
 back:Bool
def Net.v (x:Net):V:=.agg [.int .i64 x.n,.fz x.links.length 1 false (vI x.links),.fz x.weights.length 1 false (vI x.weights),.fz x.ids.length 1 false (vI x.ids),.bool x.apart,.bool x.back]
structure Net.Small (x:Net):Prop where
 links:x.links.length<=9223372036854775807
 weights:x.weights.length<=9223372036854775807
 ids:x.ids.length<=9223372036854775807
abbrev Ps:=List (List (Int×Int))
def lnk (p:Ps) (a:Nat) (b:Int):Bool:=(gR p a).any fun l=>decide (l.1=b)
theorem linked_ok (g:G) (hs:g.Small) (a:Nat) (b:Int) (ha:a<g.ports.length):Ret Tryz.prog 62 [g.v,.int .i64 a,.int .i64 b] (.bool (lnk g.ports a b)):=by
 have hrl:=gR_len hs.rows a;refine ret_frz rfl ?_;refine fn_rule mixed Tryz.func62 rfl hc62 hr62 rfl ?_
 repeat' ((conv=>whnf);first|fail)
 all_goals (conv=>whnf)
 refine loop_r mixed [1,2,3] (fun i:Nat=>[(7,.int .i64 i)]) (fun m i=>m=(gR g.ports a).length-i/\i<=(gR g.ports a).length/\((gR g.ports a).take i).any (fun l=>decide (l.1=b))=false) (gR g.ports a).length 0 ⟨rfl,Nat.zero_le _,rfl⟩ ?_ ?_
 . exact weak_b (fun _ _=>[(0,some 0)])
 rintro m i ⟨hm,hi,hall⟩
 repeat' ((conv=>whnf);first|(refine Br.dec ?_ ?_<;>intro _<;>try omega)|(refine Ar.i64 (by omega) (by omega) ?_)|(refine Ix.nat (by omega) ?_))
 all_goals (conv=>whnf)
 . refine VLe.bool ?_;symm;rw[lnk,List.any_eq_true];exact⟨_,gF_mem (show i<(gR g.ports a).length by omega),by simp;omega⟩
 . refine⟨(gR g.ports a).length-(i+1),i+1,by omega,⟨rfl,by omega,?_⟩,?_⟩
   . rw[gF_take _ _ (by omega),List.any_append,hall];simp;omega
   . exact weak_b (fun _ _=>[(0,some 0)])
 . refine VLe.bool ?_;rw[lnk,<- hall,List.take_of_length_le (by omega)]
def addP (bk:Bool) (r:List (Int×Int)) (l:Int×Int):List (Int×Int):=if bk then l::r else r++[l]
def linkP (bk:Bool) (p:Ps) (a b:Nat) (w:Int):Ps:=if a=b\/lnk p a b=true then p else (p.set a (addP bk (gR p a) ((b:Int),w))).set b (addP bk (gR p b) ((a:Int),w))
def lenP (p:Ps) (i:Nat):Nat:=(gR p i).length
def rowP (p:Ps) (i:Nat):Nat->Nat->V:=vF (gR p i)
abbrev famP (p:Ps):Blk:=.fam p.length 2 (lenP p) (rowP p) []
def KS4:List Nat:=[2,3,4,5,6,7,8,9,10,11,12,13,14,15,16,17,18,19,20,21,22,23,24,25,26,27,28,29]
def gOwn (g:G):Own:=[(0,.vec g.ids.length 1 (vI g.ids)),(1,famP g.ports)]
abbrev gV1 (i n:Nat):V:=.agg [.vec 0 1 0 i,.vec 1 1 0 n]
theorem lend_g (g:G):VLe (V.agg [.fz g.ids.length 1 false (shiftF 0 (vI g.ids)),.fz g.ports.length 1 false fun i _=>.fz (lenP g.ports i) 2 false (rowP g.ports i)]) g.v:=by
 refine VLe.agg ⟨VLe.fz rfl (fun h=>h) (fun i j hi hj=>VLe.of_eq ?_),VLe.rfl,True.intro⟩;simp[shiftF]
theorem lend_g2 (g:G) (a b:Nat):VLe (V.agg [.fz g.ids.length 1 false (shiftF 0 (vI g.ids)),.fz g.ports.length 1 false fun i _=>.fz (lenP g.ports i) 2 false (setF (setF (rowP g.ports) a (rowP g.ports a)) b (rowP g.ports b) i)]) g.v:=by
 have e:setF (setF (rowP g.ports) a (rowP g.ports a)) b (rowP g.ports b)=rowP g.ports:=by
  funext i;simp only[setF];split
  . rename_i h;rw[h]
  . split
    . rename_i h;rw[h]
    . rfl
 rw[e];exact lend_g g
theorem gR_set (p:Ps) (a:Nat) (A:List (Int×Int)) (ha:a<p.length) (i:Nat):gR (p.set a A) i=if i=a then A else gR p i:=by
 simp only[gR,List.getD,List.getElem?_set];by_cases h:a=i
 . subst h;simp[ha]
 . have:¬ i=a:=fun e=>h e.symm;simp[h,this]
theorem getD_snocF (l:List (Int×Int)) (x:Int×Int) (i:Nat):gF (l++[x]) i=if i<l.length then gF l i else if i=l.length then x else (0,0):=by
 by_cases h:i<l.length
 . simp only[gF,List.getD,List.getElem?_append_left h,if_pos h]
 . rw[if_neg h];by_cases h2:i=l.length
   . subst h2;simp[gF]
   . simp[gF,h2,List.getElem?_eq_none (by simp;omega:(l++[x]).length<=i)]
theorem vle_appF (l:List (Int×Int)) (a b:Int) (i j:Nat) (hi:i<l.length+1) (hj:j<2) :
 VLe (fapp (shiftF 0 (vF l)) l.length (shiftF 0 (tab [[.int .i64 a,.int .i64 b]])) i j) (vF (l++[(a,b)]) i j):=by
 apply VLe.of_eq;by_cases h:i<l.length
 . rw[fapp_lt h];obtain rfl|rfl:j=0\/j=1:=by omega
   . simp[shiftF,vF,getD_snocF,h]
   . simp[shiftF,vF,getD_snocF,h]
 . rw[fapp_ge h];have:i=l.length:=by omega
   subst this;obtain rfl|rfl:j=0\/j=1:=by omega
   . simp[shiftF,vF,getD_snocF,tab]
   . simp[shiftF,vF,getD_snocF,tab]
theorem vle_preF (l:List (Int×Int)) (a b:Int) (i j:Nat) (hi:i<1+l.length) (hj:j<2) :
 VLe (fapp (shiftF 0 (tab [[.int .i64 a,.int .i64 b]])) 1 (shiftF 0 (vF l)) i j) (vF ((a,b)::l) i j):=by
 apply VLe.of_eq;cases i with
 | zero =>
   rw[fapp_lt (by omega)];obtain rfl|rfl:j=0\/j=1:=by omega
   . simp[shiftF,vF,gF,tab]
   . simp[shiftF,vF,gF,tab]
 | succ i =>
   rw[fapp_ge (by omega)];obtain rfl|rfl:j=0\/j=1:=by omega
   . simp[shiftF,vF,gF]
   . simp[shiftF,vF,gF]
theorem rows2 {p:Ps} {a b:Nat} (ha:a<p.length) (hb:b<p.length) (hab:a≠b) {A B:List (Int×Int)} {fa fb:Nat->Nat->V} {la lb:Nat} (h1:A.length=la) (h2:B.length=lb)
 (h3:∀j t,j<la->t<2->VLe (fa j t) (vF A j t)) (h4:∀j t,j<lb->t<2->VLe (fb j t) (vF B j t)) (ρ:Rn) :
 BRen ρ (.fam p.length 2 (setN (setN (lenP p) a la) b lb) (setF (setF (rowP p) a fa) b fb) []) (famP ((p.set a A).set b B)):=by
 refine⟨by simp,rfl,True.intro,fun i hi=>?_,fun i j t hi hn hj ht=>?_⟩
 . show(gR ((p.set a A).set b B) i).length=_;rw[gR_set _ b B (by simpa using hb),gR_set p a A ha];simp only[setN];split
   . exact h2
   . split
     . exact h1
     . rfl
 . simp only[setN] at hj;show VLe _ (vF (gR ((p.set a A).set b B) i) j t);rw[gR_set _ b B (by simpa using hb),gR_set p a A ha];simp only[setF];split
   . rename_i e;rw[if_pos e] at hj;exact h4 j t hj ht
   . rename_i e;rw[if_neg e] at hj;split
     . rename_i e;rw[if_pos e] at hj;exact h3 j t hj ht
     . exact VLe.rfl
set_option maxHeartbeats 8000000 in
theorem link_ok (x:Net) (g:G) (hs:g.Small) (hr:∀v,(gR g.ports v).length<=1000) (a b:Nat) (ha:a<g.ports.length) (hb:b<g.ports.length) (w:Int) :
 CallF Tryz.prog 34 [x.v,gV1 g.ids.length g.ports.length,.int .i64 a,.int .i64 b,.int .i64 w] (gOwn g) KS4 fun v own' _=>v=.tup []/\own'=gOwn ⟨g.ids,linkP x.back g.ports a b w⟩:=by
 have hl:=linked_ok g hs a b ha;have ra:lenP g.ports a<=1000:=hr a;have rb:lenP g.ports b<=1000:=hr b;refine call_post (call_step ?_);by_cases hab:a=b
 . rw[linkP,if_pos (.inl hab)];refine fn_rule mixed Tryz.func34 rfl hc34 hr34 rfl ?_
   repeat' ((conv=>whnf);first|(refine Br.dec ?_ ?_<;>intro _<;>try omega))
   all_goals (conv=>whnf)
   exact⟨_,OwnStep.refl _,postR_by (fun _=>[(0,some 0),(1,some 1)]) _ _ ⟨rfl,rfl⟩ (VRen.kf rfl) (by repeat' (first|(refine⟨rfl,rfl,True.intro,fun i hi=>rfl,fun i j t hi hn hj ht=>VLe.rfl⟩)|exact True.intro|(refine⟨⟨_,rfl,?_⟩,?_⟩)|(refine⟨Nat.le_refl _,rfl,fun i j hi hj=>?_⟩)|exact VLe.rfl)) rfl⟩
 cases hk:lnk g.ports a b with
 | true =>
   rw[hk] at hl;rw[linkP,if_pos (.inr hk)];refine fn_rule mixed Tryz.func34 rfl hc34 hr34 rfl ?_
   repeat' ((conv=>whnf);first|(refine Br.tt ?_)|(refine Br.dec ?_ ?_<;>intro _<;>try omega)|(refine call_lend hl rfl ⟨by omega,by omega,lend_g g,VLe.rfl,VLe.rfl,True.intro⟩ ?_))
   all_goals (conv=>whnf)
   exact⟨_,OwnStep.refl _,postR_by (fun _=>[(0,some 0),(1,some 1)]) _ _ ⟨rfl,rfl⟩ (VRen.kf rfl) (by repeat' (first|(refine⟨rfl,rfl,True.intro,fun i hi=>rfl,fun i j t hi hn hj ht=>VLe.rfl⟩)|exact True.intro|(refine⟨⟨_,rfl,?_⟩,?_⟩)|(refine⟨Nat.le_refl _,rfl,fun i j hi hj=>?_⟩)|exact VLe.rfl)) rfl⟩
 | false =>
   rw[hk] at hl;rw[linkP,if_neg (fun h=>h.elim hab (fun h=>by rw[hk] at h;cases h))];refine call_open 28 1 a rfl rfl ha rfl ?_;refine call_open 29 1 b rfl rfl hb (look_there hab) ?_;show CallF Tryz.prog _ _ [(29,.vec (lenP g.ports b) 2 (rowP g.ports b)),(28,.vec (lenP g.ports a) 2 (rowP g.ports a)),(0,.vec g.ids.length 1 (vI g.ids)),(1,.fam g.ports.length 2 (lenP g.ports) (rowP g.ports) [(b,29),(a,28)])] [2,3,4,5,6,7,8,9,10,11,12,13,14,15,16,17,18,19,20,21,22,23,24,25,26,27] _;refine fn_rule mixed Tryz.func34 rfl hc34 hr34 rfl ?_;obtain⟨xn,xl,xw,xi,xa,xb⟩:=x;cases xb
   . repeat' ((conv=>whnf);first|(refine Br.ff ?_)|(refine Br.dec ?_ ?_<;>intro _<;>try omega)|(refine Br.nbeq ?_ ?_<;>intro _<;>try omega)|(refine Ix.nat (by omega) ?_)|(refine Len.mk (by omega) ?_)|(refine Ltn.mk (by omega) ?_)|(refine call_lend hl rfl ⟨by omega,by omega,Nat.le_refl _,Nat.le_refl _,lend_g2 g a b,VLe.rfl,VLe.rfl,True.intro⟩ ?_)|(refine Opn.hd (by omega) ?_)|(refine Opn.tl (by omega) (Opn.hd (by omega) ?_))|(refine And.intro rfl ?_)|(refine And.intro (Ltn.mk (by omega) (Opn.hd (by omega) rfl)) ?_)|(refine OpnSet.hd (by omega) ?_)|(refine OpnSet.tl (by omega) (OpnSet.hd (by omega) ?_)))
     all_goals (conv=>whnf)
     all_goals exact⟨_,close2 hab ha hb rfl rfl rfl rfl (by first|exact Nat.le_refl _|simp[setN,hab]) (by first|exact Nat.le_refl _|simp[setN]),postR_by (fun _=>[(0,some 0),(1,some 1)]) _ _ ⟨rfl,rfl⟩ (VRen.kf rfl) ⟨⟨_,rfl,Nat.le_refl _,rfl,fun _ _ _ _=>VLe.rfl⟩,⟨_,rfl,rows2 ha hb hab (by first|(simp;done)|simp[addP,lenP]) (by first|(simp;done)|simp[lenP]) (fun j t hj ht=>vle_appF _ _ _ _ _ hj ht) (fun j t hj ht=>vle_appF _ _ _ _ _ hj ht) _⟩,True.intro⟩ rfl⟩
   . repeat' ((conv=>whnf);first|(refine Br.tt ?_)|(refine Br.ff ?_)|(refine Br.dec ?_ ?_<;>intro _<;>try omega)|(refine Ix.nat (by omega) ?_)|(refine Len.mk (by omega) ?_)|(refine Ltn.mk (by omega) ?_)|(refine call_lend hl rfl ⟨by omega,by omega,Nat.le_refl _,Nat.le_refl _,lend_g2 g a b,VLe.rfl,VLe.rfl,True.intro⟩ ?_)|(refine Opn.hdl (by omega) (show setN _ _ _ _=lenP g.ports b from if_neg (by omega)) ?_)|(refine Opn.tl (by omega) (Opn.hd (by omega) ?_))|(refine And.intro rfl ?_)|(refine OpnSet.hd (by omega) ?_)|(refine OpnSet.tl (by omega) (OpnSet.hd (by omega) ?_)))
     all_goals (conv=>whnf)
     all_goals exact⟨_,close2 hab ha hb rfl rfl rfl rfl (by first|exact Nat.le_refl _|simp[setN,hab]) (by first|exact Nat.le_refl _|simp[setN]),postR_by (fun _=>[(0,some 0),(1,some 1)]) _ _ ⟨rfl,rfl⟩ (VRen.kf rfl) ⟨⟨_,rfl,Nat.le_refl _,rfl,fun _ _ _ _=>VLe.rfl⟩,⟨_,rfl,rows2 ha hb hab (by first|(simp;omega)|(simp[addP];omega)|(simp[addP,lenP];omega)) (by first|(simp;omega)|(simp[lenP];omega)) (fun j t hj ht=>vle_preF _ _ _ _ _ hj ht) (fun j t hj ht=>vle_preF _ _ _ _ _ hj ht) _⟩,True.intro⟩ rfl⟩
def dk (k:Int):Bool:=decide (1<=k/\k<=4)
theorem dvalid_ok (k:Int):Ret Tryz.prog 43 [.int .i64 k] (.bool (dk k)):=by
 refine ret_frz rfl ?_;refine fn_rule mixed Tryz.func43 rfl hc43 hr43 rfl ?_
 repeat' ((conv=>whnf);first|(refine Br.dec ?_ ?_<;>intro _<;>try omega))
 all_goals (conv=>whnf)
 all_goals exact VLe.bool (by symm;rw[dk];first|(rw[decide_eq_true_eq];omega)|(rw[decide_eq_false_iff_not];omega))
theorem dk_iff {k:Int}:dk k=true↔1<=k/\k<=4:=by rw[dk,decide_eq_true_eq]
def nm:List (Int×Int)->Nat
 | []=>0
 | l::r=>2 ^ l.1.toNat ||| nm r
theorem nm_snoc:∀(r:List (Int×Int)) (l:Int×Int),nm (r++[l])=nm r ||| 2 ^ l.1.toNat
 | [],l=>by simp[nm]
 | x::r,l=>by simp only[List.cons_append,nm,nm_snoc r l,Nat.or_assoc]
theorem nm_bit (u:Nat):∀r:List (Int×Int),(nm r).testBit u=r.any fun l=>decide (l.1.toNat=u)
 | []=>by simp[nm]
 | l::r=>by rw[nm,Nat.testBit_or,Nat.testBit_two_pow,nm_bit u r,List.any_cons]
theorem nm_lt:∀(r:List (Int×Int)),(∀l∈r,l.1.toNat<32)->nm r<4294967296
 | [],_=>by simp[nm]
 | l::r,h=>by
   rw[nm];exact Nat.or_lt_two_pow (n:=32) (pow_lt32 (h l (by simp))) (nm_lt r (fun x hx=>h x (by simp[hx])))
def vNet (g:G):Nat->Nat->V:=fun i _=>.int .u32 (nm (gR g.ports i))
def netF (g:G) (v i:Nat):Nat->Nat->V:=fun u _=>.int .u32 (if u<v then nm (gR g.ports u) else if u=v then nm ((gR g.ports v).take i) else 0)
theorem row_lt {g:G} (hg:g.valid=true) {v:Nat} (hv:v<g.ports.length):∀l∈gR g.ports v,l.1.toNat<32:=by
 obtain⟨f1,f2,f3,f4,f5,f6,f7⟩:=val_facts hg;intro l hl;obtain⟨i,hi,rfl⟩:=gF_get hl;have:=okR_to (f6 v hv) hi;omega
theorem netF_step {g:G} {v i u j:Nat} (hj:j<1) (hi:i<(gR g.ports v).length) (a:Int) (ha:a=(nm ((gR g.ports v).take (i+1)):Nat)):VLe (fset (netF g v i) v 0 [.int .u32 a] u j) (netF g v (i+1) u j):=by
 obtain rfl:j=0:=by omega
 apply VLe.of_eq;by_cases e:u=v
 . subst e;simp[fset,netF,ha]
 . simp[fset,netF,e]
theorem netF_row {g:G} {v i u j:Nat} (hi:(gR g.ports v).length<=i):VLe (netF g v i u j) (netF g (v+1) 0 u j):=by
 apply VLe.of_eq;simp only[netF];by_cases h1:u<v
 . rw[if_pos h1,if_pos (by omega)]
 . by_cases e:u=v
   . subst e;rw[if_neg h1,if_pos rfl,if_pos (by omega),List.take_of_length_le hi]
   . rw[if_neg h1,if_neg e,if_neg (by omega)];by_cases e2:u=v+1
     . rw[if_pos e2];simp[nm]
     . rw[if_neg e2]
theorem netF_zero {g:G} {u j:Nat} (hj:j<1):VLe ((fun(x:Nat) (j:Nat)=>[V.int .u32 0].getD j default) u j) (netF g 0 0 u j):=by
 obtain rfl:j=0:=by omega
 apply VLe.of_eq;simp[netF,nm]
theorem netF_end {g:G}:VLe (.fz g.ports.length 1 false (shiftF 0 (netF g g.ports.length 0))) (.fz g.ports.length 1 false (vNet g)):=by
 refine VLe.fz rfl (fun h=>h) (fun i j hi hj=>VLe.of_eq ?_);simp only[shiftF,netF,vNet];simp[hi]
theorem Ar.sh1I {t:Int} {K:Int->Prop} (h0:0<=t) (h:t<32) (hK:K ((2 ^ t.toNat:Nat):Int)):Ar .u32 (1*2 ^ (min t.toNat 32)) K:=by
 obtain⟨k,rfl⟩:∃k:Nat,t=k:=⟨t.toNat,by omega⟩;exact Ar.sh1 (by omega) hK
set_option maxHeartbeats 4000000 in
theorem newnet_ok (g:G) (hs:g.Small) (hg:g.valid=true):Ret Tryz.prog 45 [g.v] (.fz g.ports.length 1 false (vNet g)):=by
 obtain⟨f1,f2,f3,f4,f5,f6,f7⟩:=val_facts hg;refine ret_frz rfl ?_;refine fn_rule mixed Tryz.func45 rfl hc45 hr45 rfl ?_
 repeat' ((conv=>whnf);first|(refine Bd.nat (by omega) ?_)|(refine Len.mk (by omega) ?_)|(refine MkS.vec ?_))
 all_goals (conv=>whnf)
 refine loop_u mixed [3,13,14] [] [2,3,4,5,6,7,8,9,10,11,12,13,14,15,16,17,18,19,20,21,22,23,24,25,26,27,28,29] [1,0] (fun i:Nat=>[(15,.int .i64 i)]) (fun own v=>updO own 1 (.vec g.ports.length 1 (netF g v 0))) (fun m v=>m=g.ports.length-v/\v<=g.ports.length) g.ports.length 0 ⟨rfl,Nat.zero_le _⟩ rfl (fun _=>rfl) ?_ ?_
 . refine weak_by (fun _ _=>[(0,some 0),(1,some 1)]) ?_ ?_ rfl
   . repeat' (first|exact True.intro|(refine⟨⟨_,rfl,?_⟩,?_⟩)|exact VRen.kf rfl|exact VRen.vec rfl rfl rfl)
   . repeat' (first|exact netF_zero hj|exact True.intro|(refine⟨⟨_,rfl,?_⟩,?_⟩)|exact VRen.kf rfl|(refine⟨Nat.le_refl _,rfl,fun i j hi hj=>?_⟩)|(refine And.intro ?_ ?_))
 rintro m v ⟨hm,hv⟩;have hrl:=gR_len hs.rows v
 repeat' ((conv=>whnf);first|(refine Br.dec ?_ ?_<;>intro _<;>try omega)|(refine Ix.nat (by omega) ?_)|(refine Len.mk (by omega) ?_))
 all_goals (conv=>whnf)
 . refine loop_u mixed [3,4,13,14,15,20,21] [] [2,3,4,5,6,7,8,9,10,11,12,13,14,15,16,17,18,19,20,21,22,23,24,25,26,27,28,29] [1,0] (fun i:Nat=>[(22,.int .i64 i)]) (fun own i=>updO own 1 (.vec g.ports.length 1 (netF g v i))) (fun m i=>m=(gR g.ports v).length-i/\i<=(gR g.ports v).length) (gR g.ports v).length 0 ⟨rfl,Nat.zero_le _⟩ rfl (fun _=>rfl) ?_ ?_
   . exact weak_b (fun _ _=>[(0,some 0),(1,some 1)])
   rintro m i ⟨hm,hi⟩;have hto:=fun h=>okR_to (f6 v (by omega)) (i:=i) h
   repeat' ((conv=>whnf);first|(refine Ar.sh1I (by omega) (by omega) ?_)|(refine Br.dec ?_ ?_<;>intro _<;>try omega)|(refine Ar.i64 (by omega) (by omega) ?_)|(refine Sv.mk _ rfl ?_)|(refine Nn.mk (by omega) ?_)|(refine Ix.nat (by omega) ?_)|(refine Ltn.mk (by omega) ?_))
   all_goals (conv=>whnf)
   . have hr:=row_lt hg (v:=v) (by omega);have h1:=nm_lt ((gR g.ports v).take i) (fun l hl=>hr l (List.mem_of_mem_take hl));have h2:=pow_lt32 (hr _ (gF_mem (show i<(gR g.ports v).length by omega)));refine⟨(gR g.ports v).length-(i+1),i+1,by omega,⟨rfl,by omega⟩,?_⟩;refine weak_by (fun _ _=>[(0,some 0),(1,some 1)]) ?_ ?_ rfl
     . repeat' (first|exact True.intro|(refine⟨⟨_,rfl,?_⟩,?_⟩)|exact VRen.kf rfl|exact VRen.vec rfl rfl rfl)
     . repeat' (first|(rw[Nat.zero_add];exact netF_step hj (by omega) _ (by simp only[Nat.zero_add,Nat.lt_irrefl,if_false,if_true];rw[bit_or h1 h2,gF_take _ _ (by omega),nm_snoc]))|exact True.intro|(refine⟨⟨_,rfl,?_⟩,?_⟩)|exact VRen.kf rfl|(refine⟨Nat.le_refl _,rfl,fun i j hi hj=>?_⟩)|(refine And.intro ?_ ?_))
   . refine⟨g.ports.length-(v+1),v+1,by omega,⟨rfl,by omega⟩,?_⟩;refine weak_by (fun _ _=>[(0,some 0),(1,some 1)]) ?_ ?_ rfl
     . repeat' (first|exact True.intro|(refine⟨⟨_,rfl,?_⟩,?_⟩)|exact VRen.kf rfl|exact VRen.vec rfl rfl rfl)
     . repeat' (first|exact netF_row (by omega)|exact True.intro|(refine⟨⟨_,rfl,?_⟩,?_⟩)|exact VRen.kf rfl|(refine⟨Nat.le_refl _,rfl,fun i j hi hj=>?_⟩)|(refine And.intro ?_ ?_))
 . have e:v=g.ports.length:=by omega
   subst e;exact netF_end
def ind (g:G) (s:Nat):Bool:=decide (∀v,v<g.ports.length->s.testBit v=true->nm (gR g.ports v) &&& s=0)
theorem ind_no {g:G} {s v:Nat} (hv:v<g.ports.length) (hb:s.testBit v=true) (h:nm (gR g.ports v) &&& s≠0):VLe (.bool false) (.bool (ind g s)):=VLe.bool (by rw[ind,decide_eq_false (fun hh=>h (hh v hv hb))])
theorem full_bit {n i:Nat}:(full n).testBit i=decide (i<n):=by rw[full,nb_bit];simp
theorem part_full {s n:Nat} (h:Part s (full n)) {i:Nat} (hi:s.testBit i=true):i<n:=by
 have:=h i hi;rw[full_bit,decide_eq_true_eq] at this;exact this
set_option maxHeartbeats 8000000 in
theorem dindep_ok (g:G) (hg:g.valid=true) (s:Nat) (hs:s<4294967296) (hp:Part s (full g.ports.length)):RG 108 [.fz g.ports.length 1 false (vNet g),.int .u32 s] (.bool (ind g s)):=by
 obtain⟨f1,f2,f3,f4,f5,f6,f7⟩:=val_facts hg;refine ret_frzG rfl ?_;refine fn_rule mixed Tryz.func108 rfl hc108 hr108 rfl ?_
 repeat' ((conv=>whnf);first|(refine fn_rule mixed Tryz.func76 rfl hc76 hr76 rfl ?_)|(refine range_rule ?_)|(refine Chk.mk (by kernel_rfl) ?_)|(refine fn_rule mixed Tryz.func113 rfl hc113 hr113 rfl ?_))
 all_goals (conv=>whnf)
 refine loop_u mixed [0,1] [] [5,6,7,8,9,10,11,12,13,14,15,16,17,18,19,20,21,22,23,24,25,26,27,28,29] [4,3,2,1,0,999] (fun b:Nat=>[]) (fun own b=>updO own 3 (.cells [.int .u32 (upS s b)])) (fun m b=>m=32-b/\b<=32/\∀v,v<b->s.testBit v=true->nm (gR g.ports v) &&& s=0) 32 0 ⟨rfl,by omega,fun v hv=>by omega⟩ rfl (fun _=>rfl) ?_ ?_
 . have hx:=upS_zero hs;refine weak_by (fun _ _=>[(0,some 0),(1,some 1),(2,some 2),(3,some 3),(4,some 4),(999,some 999)]) ?_ ?_ rfl
   . repeat' (first|exact VRen.yld rfl|exact True.intro|(refine⟨⟨_,rfl,?_⟩,?_⟩)|exact VRen.loc rfl)
   . repeat' (first|exact VRen.int (by rw[hx])|(refine VRen.fn ?_)|(refine⟨rfl,rfl,rfl,rfl,rfl,?_⟩)|exact True.intro|exact⟨rfl,rfl,rfl⟩|(refine⟨⟨_,rfl,?_⟩,?_⟩)|exact VRen.kf rfl|exact VRen.loc rfl|(refine And.intro ?_ ?_))
 rintro m b ⟨hm,hb,hall⟩;have hul:=upS_lt s b;by_cases hu:upS s b=0
 . repeat' ((conv=>whnf);first|(refine Br.bne ?_ ?_<;>intro _<;>try omega))
   all_goals (conv=>whnf)
   exact VLe.bool (by
    rw[ind,decide_eq_true];intro v hv hbv;by_cases h:v<b
    . exact hall v h hbv
    . rw[upS_end hs hu v (by omega)] at hbv;cases hbv)
 . obtain⟨v1,v2,v3,v4,v5⟩:=upS_next hs hu;have htz:=tz_ok _ hu hul;have hr:bitI .and .u32 ((upS s b:Nat):Int) ((upS s b:Nat)-1:Int)=((upS s (ctz (upS s b)+1):Nat):Int):=by
    rw[<- v5,show((upS s b:Nat):Int)-1=((upS s b-1:Nat):Int) by omega,bit_and hul (by omega)]
   generalize ctz (upS s b)=v at *;have hvn:=part_full hp v3;have hnl:=nm_lt _ (row_lt hg hvn);have ha:=bit_and hnl hs
   repeat' ((conv=>whnf);first|(refine Br.tt ?_)|(refine Br.ff ?_)|(refine Br.bne ?_ ?_<;>intro _<;>try omega)|(refine Ar.u32 (by omega) (by omega) ?_)|(refine Sv.mk _ rfl ?_)|(refine Ix.nat (by omega) ?_)|(refine htz.gog ?_)|(refine yield_rule mixed rfl rfl ?_))
   all_goals (conv=>whnf)
   . rename_i hh;rw[ha] at hh;exact ind_no hvn v3 (fun e=>hh (by rw[e];rfl))
   . rename_i hh;rw[ha] at hh;refine⟨32-(v+1),v+1,by omega,⟨rfl,by omega,fun u hu2 hb2=>?_⟩,?_⟩
     . by_cases h:u<b
       . exact hall u h hb2
       . by_cases e:u=v
         . subst e;omega
         . rw[v4 u (by omega) (by omega)] at hb2;cases hb2
     . refine weak_by (fun _ _=>[(0,some 0),(1,some 1),(2,some 2),(3,some 3),(4,some 4),(999,some 999)]) ?_ ?_ rfl
       . repeat' (first|exact VRen.yld rfl|exact True.intro|(refine⟨⟨_,rfl,?_⟩,?_⟩)|exact VRen.loc rfl)
       . repeat' (first|exact VRen.int hr|(refine VRen.fn ?_)|(refine⟨rfl,rfl,rfl,rfl,rfl,?_⟩)|exact True.intro|exact⟨rfl,rfl,rfl⟩|(refine⟨⟨_,rfl,?_⟩,?_⟩)|exact VRen.kf rfl|exact VRen.loc rfl|(refine And.intro ?_ ?_))
def okC (g:G) (k:Int) (e c:Nat):Bool:=if k=1 then decide (c &&& (c-1)=0) else if k=2 then ind g c else if k=4 then decide (c=e) else true
def inner (g:G) (k:Int) (e c:Nat):Bool:=decide (c≠0/\ndiff c e=0)&&okC g k e c
theorem part_trans {a b c:Nat} (h1:Part a b) (h2:Part b c):Part a c:=fun i h=>h2 i (h1 i h)
set_option maxHeartbeats 4000000 in
theorem npermits_ok (g:G) (hg:g.valid=true) (k:Int) (e c:Nat) (he:e<4294967296) (hc:c<4294967296) (hp:Part e (full g.ports.length)):RG 73 [.fz g.ports.length 1 false (vNet g),.int .i64 k,.int .u32 e,.int .u32 c] (.bool (inner g k e c)):=by
 have hd:=bit_andNot hc he;refine ret_frzG rfl ?_;refine fn_rule mixed Tryz.func73 rfl hc73 hr73 rfl ?_;rw[inner];by_cases h:c≠0/\ndiff c e=0
 . rw[decide_eq_true h,Bool.true_and];have hpc:=part_trans ((part_iff hc).1 h.2) hp;have hi:=dindep_ok g hg c hc hpc;have h0:=h.1;have hd0:bitI .andNot .u32 (c:Int) (e:Int)=0:=by rw[hd,h.2];rfl
   have ha:bitI .and .u32 (c:Int) ((c:Int)-1)=((c &&& (c-1):Nat):Int):=by
    rw[show(c:Int)-1=((c-1:Nat):Int) by omega,bit_and hc (by omega)]
   repeat' ((conv=>whnf);first|(refine Sv.mk 0 hd0.symm ?_)|(refine Sv.mk _ ha.symm ?_)|(refine Br.ff ?_)|(refine Br.dec ?_ ?_<;>intro _<;>try omega)|(refine Ar.u32 (by omega) (by omega) ?_)|(refine hi.gog ?_))
   all_goals (conv=>whnf)
   all_goals first
    | (rw[okC,if_pos (by assumption)];first|exact VLe.bool (by symm;first|exact decide_eq_true (by omega)|exact decide_eq_false (by omega)))
    | (rw[okC,if_neg (by assumption),if_pos (by assumption)];first|exact VLe.bool (Eq.symm (by assumption))|exact VLe.bool (by rw[ind];symm;first|exact decide_eq_true (by assumption)|exact decide_eq_false (by assumption)))
    | (rw[okC,if_neg (by assumption),if_neg (by assumption),if_pos (by assumption)];exact VLe.bool (by symm;first|exact decide_eq_true (by omega)|exact decide_eq_false (by omega)))
    | (rw[okC,if_neg (by assumption),if_neg (by assumption),if_neg (by assumption)];exact VLe.rfl)
 . rw[decide_eq_false h,Bool.false_and];by_cases h0:c=0
   . subst h0
     repeat' ((conv=>whnf);first|(refine Br.tt ?_))
     all_goals (conv=>whnf)
     all_goals exact VLe.rfl
   . have h1:ndiff c e≠0:=fun x=>h ⟨h0,x⟩
     repeat' ((conv=>whnf);first|(refine Sv.mk _ hd.symm ?_)|(refine Br.dec ?_ ?_<;>intro _<;>try omega)|(refine Br.bne ?_ ?_<;>intro _<;>try omega))
     all_goals (conv=>whnf)
     all_goals exact VLe.rfl
def cleanE:Env->List Nat->Env
 | [],_=>[]
 | (t,v)::r,seen=>match memN t seen with
   | true=>cleanE r seen
   | false=>(t,v)::cleanE r (t::seen)
def cleanB:Blk->Blk
 | .loop st pe env N ps C=>.loop st pe (cleanE env []) N ps C
 | b=>b
def cleanO:Own->Own
 | []=>[]
 | (k,b)::r=>(k,cleanB b)::cleanO r
def gr (g:G) (W:Nat):Nat->Nat
 | 0=>0
 | b+1=>if W.testBit b=true/\nm (gR g.ports b) &&& gr g W b=0 then gr g W b ||| 2 ^ b else gr g W b
theorem gr_pow (g:G) (W:Nat):∀b,gr g W b<2 ^ b
 | 0=>by show 0<1;omega
 | b+1=>by
   have h:=gr_pow g W b;have h2:2 ^ b<2 ^ (b+1):=Nat.pow_lt_pow_right (by omega) (by omega);rw[gr];split
   . exact Nat.or_lt_two_pow (by omega) h2
   . omega
theorem gr_lt (g:G) (W:Nat) {b:Nat} (h:b<=32):gr g W b<4294967296:=Nat.lt_of_lt_of_le (gr_pow g W b) (Nat.pow_le_pow_right (n:=2) (by omega) h)
theorem gr_skip {g:G} {W b:Nat}:∀{v:Nat},b<=v->(∀j,b<=j->j<v->W.testBit j=false)->gr g W v=gr g W b
 | 0,h,_=>by rw[show b=0 by omega]
 | v+1,h,hz=>by
   by_cases e1:b=v+1
   . rw[e1]
   . rw[gr,if_neg (by rw[hz v (by omega) (by omega)];simp)];exact gr_skip (by omega) (fun j a c=>hz j a (by omega))
def wsh (e w:Nat):Nat:=if w &&& e=0 then lowb e else w &&& e
theorem wsh_lt {e w:Nat} (he:e<4294967296):wsh e w<4294967296:=by
 rw[wsh];split
 . exact lowb_lt e he
 . exact Nat.lt_of_le_of_lt Nat.and_le_right he
theorem wsh_part {e w:Nat} (he:e<4294967296):Part (wsh e w) e:=by
 rw[wsh];split
 . exact lowb_part he
 . exact part_and _ _
def rs (g:G) (k:Int) (e w:Nat):Nat:=if k=1 then lowb (wsh e w) else if k=2 then gr g (wsh e w) 32 else if k=4 then e else wsh e w
set_option maxHeartbeats 8000000 in
theorem nresolve_ok (g:G) (hg:g.valid=true) (k:Int) (e w:Nat) (he:e<4294967296) (hw:w<4294967296) (hp:Part e (full g.ports.length)):RG 49 [.fz g.ports.length 1 false (vNet g),.int .i64 k,.int .u32 e,.int .u32 w] (.int .u32 (rs g k e w)):=by
 obtain⟨f1,f2,f3,f4,f5,f6,f7⟩:=val_facts hg;have ha:=bit_and hw he;have hne:bitI .and .u32 (e:Int) (((4294967296-e) % 4294967296:Nat):Int)=(lowb e:Nat):=by rw[bit_and he (Nat.mod_lt _ (by omega)),lowb_neg he]
 have hW:=wsh_lt (w:=w) he;have hWp:=part_trans (wsh_part (w:=w) he) hp;have hnw:bitI .and .u32 (wsh e w:Nat) (((4294967296-wsh e w) % 4294967296:Nat):Int)=(lowb (wsh e w):Nat):=by rw[bit_and hW (Nat.mod_lt _ (by omega)),lowb_neg hW]
 refine ret_frzG rfl ?_;refine fn_rule mixed Tryz.func49 rfl hc49 hr49 rfl ?_;rw[rs];by_cases hz:w &&& e=0
 . have hww:wsh e w=lowb e:=by rw[wsh,if_pos hz]
   rw[hww] at hW hWp hnw ⊢;by_cases k2:k=2
   . have k1:¬ k=1:=by omega
     rw[if_neg k1,if_pos k2]
     repeat' ((conv=>whnf);first|(refine Sv.mk _ ha.symm ?_)|(refine Ar.neg32 he ?_)|(refine Sv.mk _ hne.symm ?_)|(refine Br.dec ?_ ?_<;>intro _<;>try omega)|(refine fn_rule mixed Tryz.func76 rfl hc76 hr76 rfl ?_)|(refine range_rule ?_)|(refine Chk.mk (by kernel_rfl) ?_)|(refine fn_rule mixed Tryz.func113 rfl hc113 hr113 rfl ?_))
     all_goals (conv=>whnf)
     generalize lowb e=W at *;refine loop_u mixed [0,1] [] [4,5,6,7,8,9,10,11,12,13,14,15,16,17,18,19,20,21,22,23,24,25,26,27,28,29] [3,2,1,0,999] (fun b:Nat=>[]) (fun own b=>cleanO (updO (updO own 1 (.cells [.int .u32 (gr g W b)])) 2 (.cells [.int .u32 (upS W b)]))) (fun m b=>m=32-b/\b<=32) 32 0 ⟨rfl,by omega⟩ rfl (fun _=>rfl) ?_ ?_
     . have hx:=upS_zero hW;refine weak_by (fun _ _=>[(0,some 0),(1,some 1),(2,some 2),(3,some 3),(999,some 999)]) ?_ ?_ rfl
       . repeat' (first|exact VRen.yld rfl|exact True.intro|(refine⟨⟨_,rfl,?_⟩,?_⟩)|exact VRen.loc rfl)
       . repeat' (first|exact VRen.int (by rw[hx])|(refine VRen.fn ?_)|(refine⟨rfl,rfl,rfl,rfl,rfl,?_⟩)|exact True.intro|exact⟨rfl,rfl,rfl⟩|(refine⟨⟨_,rfl,?_⟩,?_⟩)|exact VRen.kf rfl|exact VRen.loc rfl|(refine And.intro ?_ ?_))
     rintro m b ⟨hm,hb⟩;have hul:=upS_lt W b;by_cases hu:upS W b=0
     . repeat' ((conv=>whnf);first|(refine Br.bne ?_ ?_<;>intro _<;>try omega))
       all_goals (conv=>whnf)
       have hx:gr g W 32=gr g W b:=gr_skip hb (fun j hj _=>upS_end hW hu j hj);rw[hx];exact VLe.rfl
     . obtain⟨v1,v2,v3,v4,v5⟩:=upS_next hW hu;have htz:=tz_ok _ hu hul;have hr:bitI .and .u32 ((upS W b:Nat):Int) ((upS W b:Nat)-1:Int)=((upS W (ctz (upS W b)+1):Nat):Int):=by
        rw[<- v5,show((upS W b:Nat):Int)-1=((upS W b-1:Nat):Int) by omega,bit_and hul (by omega)]
       generalize ctz (upS W b)=v at *;have hvn:=part_full hWp v3;have hnl:=nm_lt _ (row_lt hg hvn);have hgl:=gr_lt g W hb;have hga:=bit_and hnl hgl;have hgo:=bit_or hgl (pow_lt32 v1);have hsk:=gr_skip (g:=g) v2 v4
       repeat' ((conv=>whnf);first|(refine Sv.mk _ hga.symm ?_)|(refine Br.tt ?_)|(refine Br.dec ?_ ?_<;>intro _<;>try omega)|(refine Br.bne ?_ ?_<;>intro _<;>try omega)|(refine Ar.u32 (by omega) (by omega) ?_)|(refine Ar.sh1 (by omega) ?_)|(refine Sv.mk _ rfl ?_)|(refine Nn.mk (by omega) ?_)|(refine Ix.nat (by omega) ?_)|(refine htz.gog ?_)|(refine yield_rule mixed rfl rfl ?_))
       all_goals (conv=>whnf)
       all_goals
        refine⟨32-(v+1),v+1,by omega,⟨rfl,by omega⟩,?_⟩
        first
        | (have hs:gr g W (v+1)=gr g W b ||| 2 ^ v:=by rw[gr,hsk,if_pos ⟨v3,by omega⟩]
           refine weak_by (fun _ _=>[(0,some 0),(1,some 1),(2,some 2),(3,some 3),(999,some 999)]) ?_ ?_ rfl
           . repeat' (first|exact VRen.yld rfl|exact True.intro|(refine⟨⟨_,rfl,?_⟩,?_⟩)|exact VRen.loc rfl)
           . repeat' (first|exact VRen.int hr|exact VRen.int (by rw[hs];exact hgo)|(refine VRen.fn ?_)|(refine⟨rfl,rfl,rfl,rfl,rfl,?_⟩)|exact True.intro|exact⟨rfl,rfl,rfl⟩|(refine⟨⟨_,rfl,?_⟩,?_⟩)|exact VRen.kf rfl|exact VRen.loc rfl|(refine And.intro ?_ ?_)))
        | (have hs:gr g W (v+1)=gr g W b:=by rw[gr,hsk,if_neg (fun h=>by have:=h.2;omega)]
           refine weak_by (fun _ _=>[(0,some 0),(1,some 1),(2,some 2),(3,some 3),(999,some 999)]) ?_ ?_ rfl
           . repeat' (first|exact VRen.yld rfl|exact True.intro|(refine⟨⟨_,rfl,?_⟩,?_⟩)|exact VRen.loc rfl)
           . repeat' (first|exact VRen.int hr|exact VRen.int (by rw[hs])|(refine VRen.fn ?_)|(refine⟨rfl,rfl,rfl,rfl,rfl,?_⟩)|exact True.intro|exact⟨rfl,rfl,rfl⟩|(refine⟨⟨_,rfl,?_⟩,?_⟩)|exact VRen.kf rfl|exact VRen.loc rfl|(refine And.intro ?_ ?_)))
   . repeat' ((conv=>whnf);first|(refine Sv.mk _ ha.symm ?_)|(refine Ar.neg32 he ?_)|(refine Sv.mk _ hne.symm ?_)|(refine Ar.neg32 hW ?_)|(refine Sv.mk _ hnw.symm ?_)|(refine Br.dec ?_ ?_<;>intro _<;>try omega))
     all_goals (conv=>whnf)
     all_goals first
      | (rw[if_pos (by assumption)];exact VLe.rfl)
      | (rw[if_neg (by assumption),if_neg k2,if_pos (by assumption)];exact VLe.rfl)
      | (rw[if_neg (by assumption),if_neg k2,if_neg (by assumption)];exact VLe.rfl)
 . have hww:wsh e w=w &&& e:=by rw[wsh,if_neg hz]
   rw[hww] at hW hWp hnw ⊢;by_cases k2:k=2
   . have k1:¬ k=1:=by omega
     rw[if_neg k1,if_pos k2]
     repeat' ((conv=>whnf);first|(refine Sv.mk _ ha.symm ?_)|(refine Br.dec ?_ ?_<;>intro _<;>try omega)|(refine fn_rule mixed Tryz.func76 rfl hc76 hr76 rfl ?_)|(refine range_rule ?_)|(refine Chk.mk (by kernel_rfl) ?_)|(refine fn_rule mixed Tryz.func113 rfl hc113 hr113 rfl ?_))
     all_goals (conv=>whnf)
     generalize w &&& e=W at *;refine loop_u mixed [0,1] [] [4,5,6,7,8,9,10,11,12,13,14,15,16,17,18,19,20,21,22,23,24,25,26,27,28,29] [3,2,1,0,999] (fun b:Nat=>[]) (fun own b=>cleanO (updO (updO own 1 (.cells [.int .u32 (gr g W b)])) 2 (.cells [.int .u32 (upS W b)]))) (fun m b=>m=32-b/\b<=32) 32 0 ⟨rfl,by omega⟩ rfl (fun _=>rfl) ?_ ?_
     . have hx:=upS_zero hW;refine weak_by (fun _ _=>[(0,some 0),(1,some 1),(2,some 2),(3,some 3),(999,some 999)]) ?_ ?_ rfl
       . repeat' (first|exact VRen.yld rfl|exact True.intro|(refine⟨⟨_,rfl,?_⟩,?_⟩)|exact VRen.loc rfl)
       . repeat' (first|exact VRen.int (by rw[hx])|(refine VRen.fn ?_)|(refine⟨rfl,rfl,rfl,rfl,rfl,?_⟩)|exact True.intro|exact⟨rfl,rfl,rfl⟩|(refine⟨⟨_,rfl,?_⟩,?_⟩)|exact VRen.kf rfl|exact VRen.loc rfl|(refine And.intro ?_ ?_))
     rintro m b ⟨hm,hb⟩;have hul:=upS_lt W b;by_cases hu:upS W b=0
     . repeat' ((conv=>whnf);first|(refine Br.bne ?_ ?_<;>intro _<;>try omega))
       all_goals (conv=>whnf)
       have hx:gr g W 32=gr g W b:=gr_skip hb (fun j hj _=>upS_end hW hu j hj);rw[hx];exact VLe.rfl
     . obtain⟨v1,v2,v3,v4,v5⟩:=upS_next hW hu;have htz:=tz_ok _ hu hul;have hr:bitI .and .u32 ((upS W b:Nat):Int) ((upS W b:Nat)-1:Int)=((upS W (ctz (upS W b)+1):Nat):Int):=by
        rw[<- v5,show((upS W b:Nat):Int)-1=((upS W b-1:Nat):Int) by omega,bit_and hul (by omega)]
       generalize ctz (upS W b)=v at *;have hvn:=part_full hWp v3;have hnl:=nm_lt _ (row_lt hg hvn);have hgl:=gr_lt g W hb;have hga:=bit_and hnl hgl;have hgo:=bit_or hgl (pow_lt32 v1);have hsk:=gr_skip (g:=g) v2 v4
       repeat' ((conv=>whnf);first|(refine Sv.mk _ hga.symm ?_)|(refine Br.tt ?_)|(refine Br.dec ?_ ?_<;>intro _<;>try omega)|(refine Br.bne ?_ ?_<;>intro _<;>try omega)|(refine Ar.u32 (by omega) (by omega) ?_)|(refine Ar.sh1 (by omega) ?_)|(refine Sv.mk _ rfl ?_)|(refine Nn.mk (by omega) ?_)|(refine Ix.nat (by omega) ?_)|(refine htz.gog ?_)|(refine yield_rule mixed rfl rfl ?_))
       all_goals (conv=>whnf)
       all_goals
        refine⟨32-(v+1),v+1,by omega,⟨rfl,by omega⟩,?_⟩
        first
        | (have hs:gr g W (v+1)=gr g W b ||| 2 ^ v:=by rw[gr,hsk,if_pos ⟨v3,by omega⟩]
           refine weak_by (fun _ _=>[(0,some 0),(1,some 1),(2,some 2),(3,some 3),(999,some 999)]) ?_ ?_ rfl
           . repeat' (first|exact VRen.yld rfl|exact True.intro|(refine⟨⟨_,rfl,?_⟩,?_⟩)|exact VRen.loc rfl)
           . repeat' (first|exact VRen.int hr|exact VRen.int (by rw[hs];exact hgo)|(refine VRen.fn ?_)|(refine⟨rfl,rfl,rfl,rfl,rfl,?_⟩)|exact True.intro|exact⟨rfl,rfl,rfl⟩|(refine⟨⟨_,rfl,?_⟩,?_⟩)|exact VRen.kf rfl|exact VRen.loc rfl|(refine And.intro ?_ ?_)))
        | (have hs:gr g W (v+1)=gr g W b:=by rw[gr,hsk,if_neg (fun h=>by have:=h.2;omega)]
           refine weak_by (fun _ _=>[(0,some 0),(1,some 1),(2,some 2),(3,some 3),(999,some 999)]) ?_ ?_ rfl
           . repeat' (first|exact VRen.yld rfl|exact True.intro|(refine⟨⟨_,rfl,?_⟩,?_⟩)|exact VRen.loc rfl)
           . repeat' (first|exact VRen.int hr|exact VRen.int (by rw[hs])|(refine VRen.fn ?_)|(refine⟨rfl,rfl,rfl,rfl,rfl,?_⟩)|exact True.intro|exact⟨rfl,rfl,rfl⟩|(refine⟨⟨_,rfl,?_⟩,?_⟩)|exact VRen.kf rfl|exact VRen.loc rfl|(refine And.intro ?_ ?_)))
   . repeat' ((conv=>whnf);first|(refine Sv.mk _ ha.symm ?_)|(refine Ar.neg32 hW ?_)|(refine Sv.mk _ hnw.symm ?_)|(refine Br.dec ?_ ?_<;>intro _<;>try omega))
     all_goals (conv=>whnf)
     all_goals first
      | (rw[if_pos (by assumption)];exact VLe.rfl)
      | (rw[if_neg (by assumption),if_neg k2,if_pos (by assumption)];exact VLe.rfl)
      | (rw[if_neg (by assumption),if_neg k2,if_neg (by assumption)];exact VLe.rfl)
theorem zero_bits {s:Nat}:s=0↔∀i,s.testBit i=false:=⟨fun h i=>by subst h;simp,fun h=>Nat.eq_of_testBit_eq fun i=>by rw[h,Nat.zero_testBit]⟩
theorem and_zero_iff {a b:Nat}:a &&& b=0↔∀i,a.testBit i=true->b.testBit i=false:=by
 rw[zero_bits];constructor
 . intro h i hi;have:=h i;rw[Nat.testBit_and,hi,Bool.true_and] at this;exact this
 . intro h i;rw[Nat.testBit_and];cases e:a.testBit i with
   | false=>rfl
   | true=>rw[h i e];rfl
def adj (g:G) (u v:Nat):Bool:=(nm (gR g.ports u)).testBit v
theorem adj_iff {g:G} {u v:Nat}:adj g u v=true↔∃l∈gR g.ports u,l.1.toNat=v:=by
 rw[adj,nm_bit,List.any_eq_true];simp
theorem adj_sym {g:G} (hg:g.valid=true) {u v:Nat} (hu:u<g.ports.length) (h:adj g u v=true):adj g v u=true:=by
 obtain⟨f1,f2,f3,f4,f5,f6,f7⟩:=val_facts hg;obtain⟨l,hl,rfl⟩:=adj_iff.1 h;exact adj_iff.2 ⟨_,f7 u hu l hl,by simp⟩
theorem adj_irr {g:G} (hg:g.valid=true) {u:Nat} (hu:u<g.ports.length):adj g u u=false:=by
 obtain⟨f1,f2,f3,f4,f5,f6,f7⟩:=val_facts hg;cases h:adj g u u with
 | false=>rfl
 | true =>
   obtain⟨l,hl,h2⟩:=adj_iff.1 h;have:=(okR_iff.1 (f6 u hu)).1 l hl;omega
theorem ind_iff {g:G} {s:Nat}:ind g s=true↔∀v u,v<g.ports.length->s.testBit v=true->adj g v u=true->s.testBit u=false:=by
 rw[ind,decide_eq_true_eq];constructor
 . intro h v u hv hb ha;exact and_zero_iff.1 (h v hv hb) u ha
 . intro h v hv hb;exact and_zero_iff.2 (fun u ha=>h v u hv hb ha)
theorem pow_single (k:Nat):2 ^ k &&& (2 ^ k-1)=0:=by rw[Nat.and_two_pow_sub_one_eq_mod,Nat.mod_self]
theorem low_one (s:Nat):lowb s &&& (lowb s-1)=0:=by
 rw[lowb];split
 . rfl
 . exact pow_single _
theorem inner_iff {g:G} {k:Int} {e c:Nat}:inner g k e c=true↔c≠0/\ndiff c e=0/\okC g k e c=true:=by
 rw[inner,Bool.and_eq_true,decide_eq_true_eq,and_assoc]
theorem okC1 {g:G} {e c:Nat}:okC g 1 e c=true↔c &&& (c-1)=0:=by rw[okC,if_pos rfl,decide_eq_true_eq]
theorem okC2 {g:G} {e c:Nat}:okC g 2 e c=true↔ind g c=true:=by rw[okC,if_neg (by decide),if_pos rfl]
theorem okC3 {g:G} {e c:Nat}:okC g 3 e c=true:=by rw[okC,if_neg (by decide),if_neg (by decide),if_neg (by decide)]
theorem okC4 {g:G} {e c:Nat}:okC g 4 e c=true↔c=e:=by rw[okC,if_neg (by decide),if_neg (by decide),if_pos rfl,decide_eq_true_eq]
theorem gr_high {g:G} {W b i:Nat} (h:b<=i):(gr g W b).testBit i=false :=
 Nat.testBit_lt_two_pow (Nat.lt_of_lt_of_le (gr_pow g W b) (Nat.pow_le_pow_right (n:=2) (by omega) h))
theorem gr_bit {g:G} {W i:Nat}:∀{b:Nat},i<b->((gr g W b).testBit i=true↔W.testBit i=true/\nm (gR g.ports i) &&& gr g W i=0)
 | b+1,h=>by
   by_cases e:i=b
   . subst e;rw[gr];split
     . rename_i hh;rw[Nat.testBit_or,Nat.testBit_two_pow_self,Bool.or_true];exact⟨fun _=>hh,fun _=>rfl⟩
     . rename_i hh;rw[gr_high (Nat.le_refl _)];exact⟨fun x=>Bool.noConfusion x,fun x=>(hh x).elim⟩
   . have ih:=gr_bit (g:=g) (W:=W) (i:=i) (b:=b) (by omega);rw[gr];split
     . rw[Nat.testBit_or,Nat.testBit_two_pow,decide_eq_false (by omega),Bool.or_false];exact ih
     . exact ih
theorem gr_part (g:G) (W b:Nat):Part (gr g W b) W:=fun i hi=>by
 by_cases h:i<b
 . exact((gr_bit h).1 hi).1
 . rw[gr_high (by omega)] at hi;cases hi
theorem gr_later {g:G} {W i b b':Nat} (h:i<b) (h':i<b'):(gr g W b).testBit i=(gr g W b').testBit i:=by
 rw[Bool.eq_iff_iff,gr_bit h,gr_bit h']
theorem gr_idx {g:G} {W b i:Nat} (h:(gr g W b).testBit i=true):i<b:=by
 rcases Nat.lt_or_ge i b with h'|h'
 . exact h'
 . rw[gr_high h'] at h;cases h
theorem gr_ind {g:G} (hg:g.valid=true) {W:Nat} (hp:Part W (full g.ports.length)) (b:Nat):ind g (gr g W b)=true:=by
 rw[ind_iff];intro v u hv hb ha;cases hu:(gr g W b).testBit u with
 | false=>rfl
 | true =>
   exfalso;have hub:=gr_idx hu;have hvb:=gr_idx hb;rcases Nat.lt_trichotomy u v with h|h|h
   . have h1:=((gr_bit hvb).1 hb).2;rw[gr_later hub h] at hu;rw[and_zero_iff.1 h1 u ha] at hu;cases hu
   . subst h;rw[adj_irr hg hv] at ha;cases ha
   . have h1:=((gr_bit hub).1 hu).2;rw[gr_later hvb h] at hb;rw[and_zero_iff.1 h1 v (adj_sym hg hv ha)] at hb;cases hb
theorem gr_ne {g:G} {W:Nat} (h0:W≠0) (hW:W<4294967296):gr g W 32≠0:=by
 obtain⟨k1,k2,k3⟩:=ctz_spec h0 hW;have h1:gr g W (ctz W)=0:=gr_skip (b:=0) (Nat.zero_le _) (fun j _ hj=>k3 j hj);have h2:=(gr_bit (g:=g) (W:=W) (i:=ctz W) (b:=32) k1).2 ⟨k2,by rw[h1,Nat.and_zero]⟩;intro h;rw[h,Nat.zero_testBit] at h2;cases h2
theorem wsh_ne {e w:Nat} (h0:e≠0):wsh e w≠0:=by
 rw[wsh];split
 . exact lowb_ne h0
 . assumption
theorem rs_part {g:G} {k:Int} {e w:Nat} (he:e<4294967296):k≠4->Part (rs g k e w) (wsh e w):=by
 intro hk;rw[rs];split
 . exact lowb_part (wsh_lt he)
 . split
   . exact gr_part _ _ _
   . exact fun i h=>h
theorem rs_inner {g:G} (hg:g.valid=true) {k:Int} {e w:Nat} (hk:dk k=true) (he:e<4294967296) (hp:Part e (full g.ports.length)) (h0:e≠0):inner g k e (rs g k e w)=true:=by
 have hW:=wsh_lt (w:=w) he;have hWe:=wsh_part (w:=w) he;have hWp:=part_trans hWe hp;have hW0:=wsh_ne (w:=w) h0;rw[dk_iff] at hk;rw[inner_iff];by_cases h4:k=4
 . subst h4;have e1:rs g 4 e w=e:=by rw[rs,if_neg (by decide),if_neg (by decide),if_pos rfl]
   rw[e1];exact⟨h0,(part_iff he).2 (fun i h=>h),okC4.2 rfl⟩
 . have hpt:=rs_part (g:=g) (w:=w) he h4;have hlt:rs g k e w<4294967296:=Nat.lt_of_le_of_lt hpt.le hW;refine⟨?_,(part_iff hlt).2 (part_trans hpt hWe),?_⟩
   . rw[rs];split
     . exact lowb_ne hW0
     . split
       . exact gr_ne hW0 hW
       . exact hW0
   . have hk':k=1\/k=2\/k=3:=by omega
     rcases hk' with rfl|rfl|rfl
     . rw[okC1,rs,if_pos rfl];exact low_one _
     . rw[okC2,rs,if_neg (by decide),if_pos rfl];exact gr_ind hg hWp 32
     . exact okC3
end Go.Proofs.YtpoplpohbpfbmaaGreatDoor
