import Derived.Test.YtbceaajfhcgnjaaGreatGR10
import Derived.Test.YtbceaajfhcgnjaaGreatEngZ
import Derived.Test.YtbceaajfhcgnjaaGreatGRCode
import Derived.IntWalk
namespace Go.Proofs.YtbceaajfhcgnjaaGreat
open Go.Eng
set_option maxRecDepth 100000
set_option linter.unusedVariables false
def rowB (p:Pr) (g:G) (v:Nat):Nat->Nat->V:=fun x j=>match j with
 | 0=>.int .i64 (bnd g (gV p.vars x) v).1
 | _=>.int .i64 (bnd g (gV p.vars x) v).2
def tbl (p:Pr) (g:G):Nat->Nat->V:=fun v _=>.fz p.vars.length 2 false (rowB p g v)
def tblV (p:Pr) (g:G):V:=.fz g.ids.length 1 false (tbl p g)
def opn (v n k:Nat):List (Nat×Nat):=if v<n then[(v,k)] else[]
def lenT (m v:Nat):Nat->Nat:=fun i=>if i<v then m else 0
def rowX (p:Pr) (g:G) (v x:Nat):Nat->Nat->V:=fun i j=>if i<x then rowB p g v i j else .int .i64 0
theorem rowX_succ (p:Pr) (g:G) (v x i j:Nat) (hj:j<2):VLe (fset (fset (rowX p g v x) x 0 [.int .i64 (bnd g (gV p.vars x) v).1]) x 1 [.int .i64 (bnd g (gV p.vars x) v).2] i j) (rowX p g v (x+1) i j):=by
 apply VLe.of_eq;by_cases h:i=x
 . subst h;obtain rfl|rfl:j=0\/j=1:=by omega
   . simp[fset,rowX,rowB]
   . simp[fset,rowX,rowB]
 . have h1:(i<x+1)=(i<x):=by simp;omega
   simp[fset,rowX,h,h1]
theorem ks_cons {c:List Nat} {q:Nat} {chg:List Nat} (h:memN q chg=true):∀k,k∈(q::c)->k∈c\/k∈chg:=fun k hk=>by
 rcases List.mem_cons.1 hk with e|e
 . exact .inr (by rw[e];exact memN_iff.1 h)
 . exact .inl e
theorem lenT_self (m v:Nat):lenT m v v=0:=if_neg (by omega)
theorem lenT_set (m v i:Nat):setN (lenT m v) v m i=lenT m (v+1) i:=by
 simp only[setN,lenT];by_cases h:i=v
 . rw[if_pos h,if_pos (by omega)]
 . rw[if_neg h];by_cases h2:i<v
   . rw[if_pos h2,if_pos (by omega)]
   . rw[if_neg h2,if_neg (by omega)]
theorem setF_row2 (p:Pr) (g:G) (v i j t:Nat) (hj:j<setN (lenT p.vars.length v) v p.vars.length i) (ht:t<2):VLe (setF (rowB p g) v (rowX p g v p.vars.length) i j t) (rowB p g i j t):=by
 apply VLe.of_eq;simp only[setF];split
 . rename_i e;subst e;rw[setN,if_pos rfl] at hj;rw[rowX,if_pos hj]
 . rfl
theorem ks_sub {a b chg:List Nat} (h:(a.all fun k=>memN k b)=true):∀k,k∈a->k∈b\/k∈chg:=fun k hk=>.inl (memN_iff.1 (List.all_eq_true.1 h k hk))
set_option maxHeartbeats 8000000 in
theorem table_ok (p:Pr) (hp:PrOk p) (g:G) (hg:g.valid=true):Ret Tryz.prog 65 [p.v,g.v] (tblV p g):=by
 obtain⟨f1,f2,f3,f4,f5,f6,f7⟩:=val_facts hg;have hvl:=hp.vlen;refine ret_frz rfl ?_;refine fn_rule mixed Tryz.func65 rfl hc65 hr65 rfl ?_
 repeat' ((conv=>whnf);first|(refine Bd.nat (by omega) ?_)|(refine Len.mk (by omega) ?_)|(refine MkS.vec ?_))
 all_goals (conv=>whnf)
 refine loop_u mixed [2,3,5,14] [3] [4,5,6,7,8,9,10,11,12,13,14,15,16,17,18,19,20,21,22,23,24,25,26,27,28,29] [3,2,1,0] (fun v:Nat=>[(15,.int .i64 v)])
  (fun own v=>(3,.vec (lenT p.vars.length v v) 2 (rowB p g v))::updO (updO own 2 (.fam g.ids.length 2 (lenT p.vars.length v) (rowB p g) [])) 2 (.fam g.ids.length 2 (lenT p.vars.length v) (rowB p g) (opn v g.ids.length 3))) (fun k v=>k=g.ids.length-v/\v<=g.ids.length) g.ids.length 0 ⟨rfl,Nat.zero_le _⟩ rfl (fun _=>rfl) ?_ ?_
 . have e:opn 0 g.ids.length 3=[(0,3)]:=if_pos (by omega);simp only[e];refine Weak.trans ?_ (weak_open (ks:=[3,4,5,6,7,8,9,10,11,12,13,14,15,16,17,18,19,20,21,22,23,24,25,26,27,28,29]) rfl rfl rfl (by omega) rfl) (ks_cons rfl);refine weak_by (fun _ _=>[(0,some 0),(1,some 1),(2,some 2)]) ?_ ?_ rfl
   . repeat' (first|exact True.intro|(refine⟨⟨_,rfl,?_⟩,?_⟩)|exact VRen.kf rfl|exact VRen.loc rfl|exact VRen.vec rfl rfl rfl)
   . repeat' (first|exact⟨rfl,rfl,rfl,fun i hi=>⟨rfl,if_neg (by omega)⟩⟩|exact True.intro|(refine⟨⟨_,rfl,?_⟩,?_⟩)|exact VRen.kf rfl|(refine And.intro ?_ ?_))
 rintro k v ⟨hk,hv⟩;by_cases hvn:v<g.ids.length
 . have e:opn v g.ids.length 3=[(v,3)]:=if_pos hvn;simp only[e]
   repeat' ((conv=>whnf);first|(refine Br.dec ?_ ?_<;>intro _<;>try omega)|(refine Ix.nat (by omega) ?_)|(refine Bd.nat (by omega) ?_)|(refine Len.mk (by omega) ?_)|(refine Ltn.mk (by omega) ?_)|(refine OpnSet.hd (by omega) ?_))
   all_goals (conv=>whnf)
   refine loop_u mixed [2,3,5,6,14,15,26,27] [4] [5,6,7,8,9,10,11,12,13,14,15,16,17,18,19,20,21,22,23,24,25,26,27,28,29] [4,3,2,1,0] (fun x:Nat=>[(28,.int .i64 x)])
    (fun own x=>updO own 4 (.vec p.vars.length 2 (rowX p g v x))) (fun k x=>k=p.vars.length-x/\x<=p.vars.length) p.vars.length 0 ⟨rfl,Nat.zero_le _⟩ rfl (fun _=>rfl) ?_ ?_
   . refine weak_by (fun _ _=>[(0,some 0),(1,some 1),(2,some 2),(3,some 3),(4,some 4)]) ?_ ?_ rfl
     . repeat' (first|exact True.intro|(refine⟨⟨_,rfl,?_⟩,?_⟩)|exact VRen.kf rfl|exact VRen.loc rfl|exact VRen.vec rfl rfl rfl)
     . repeat' (first|exact⟨rfl,rfl,⟨rfl,rfl,True.intro⟩,fun i hi=>rfl,fun i j t hi hn hj ht=>VLe.rfl⟩|(refine⟨Nat.le_refl _,rfl,fun i j hi hj=>VLe.of_eq ?_⟩;rw[rowX,if_neg (by omega)];(obtain rfl|rfl:j=0\/j=1:=by omega)<;>rfl)|exact True.intro|(refine⟨⟨_,rfl,?_⟩,?_⟩)|exact VRen.kf rfl|(refine⟨Nat.le_refl _,rfl,fun i j hi hj=>?_⟩)|exact VLe.rfl|(refine And.intro ?_ ?_))
   rintro k x ⟨hk2,hx⟩;by_cases hxn:x<p.vars.length
   . have hb:=bnd_ok g hg _ (hp.var x hxn) v (by omega)
     repeat' ((conv=>whnf);first|(refine Br.dec ?_ ?_<;>intro _<;>try omega)|(refine Ar.i64 (by omega) (by omega) ?_)|(refine Ix.nat (by omega) ?_)|(refine Ix.mk 0 rfl (by omega) ?_)|(refine Ix.mk 1 rfl (by omega) ?_)|(refine Ltn.mk (by omega) ?_)|(refine Opn.hdl (by omega) (show setN _ _ _ _=p.vars.length from if_pos rfl) ?_)|(refine hb.go ?_)|(refine And.intro (Ltn.mk (by omega) (Opn.hdl (by omega) (show setN _ _ _ _=p.vars.length from if_pos rfl) rfl)) ?_))
     all_goals (conv=>whnf)
     refine⟨p.vars.length-(x+1),x+1,by omega,⟨rfl,by omega⟩,?_⟩;refine weak_by (fun _ _=>[(0,some 0),(1,some 1),(2,some 2),(3,some 3),(4,some 4)]) ?_ ?_ rfl
     . repeat' (first|exact True.intro|(refine⟨⟨_,rfl,?_⟩,?_⟩)|exact VRen.kf rfl|exact VRen.loc rfl|exact VRen.vec rfl rfl rfl)
     . repeat' (first|exact⟨rfl,rfl,⟨rfl,rfl,True.intro⟩,fun i hi=>rfl,fun i j t hi hn hj ht=>VLe.rfl⟩|(simp only[Nat.zero_add,Nat.zero_mul,Nat.one_mul];exact rowX_succ p g v x _ _ hj)|exact True.intro|(refine⟨⟨_,rfl,?_⟩,?_⟩)|exact VRen.kf rfl|(refine⟨Nat.le_refl _,rfl,fun i j hi hj=>?_⟩)|exact VLe.rfl|(refine And.intro ?_ ?_))
   . have ex:x=p.vars.length:=by omega
     subst ex
     repeat' ((conv=>whnf);first|(refine Br.dec ?_ ?_<;>intro _<;>try omega)|(refine Ar.i64 (by omega) (by omega) ?_))
     all_goals (conv=>whnf)
     refine⟨g.ids.length-(v+1),v+1,by omega,⟨rfl,by omega⟩,?_⟩;refine Weak.trans (weak_step (own_close (q:=4) (k:=2) (i:=v) [] rfl rfl hvn (look_here rfl) (Nat.le_of_eq (if_pos rfl)) rfl (fun j hj=>(look_there (fun e=>hj e.symm)).symm))) ?_ (ks_sub rfl);by_cases h1:v+1<g.ids.length
     . have e1:opn (v+1) g.ids.length 3=[(v+1,3)]:=if_pos h1;simp only[e1];refine Weak.trans ?_ (weak_open (ks:=[3,4,5,6,7,8,9,10,11,12,13,14,15,16,17,18,19,20,21,22,23,24,25,26,27,28,29]) rfl rfl rfl h1 rfl) (ks_cons rfl);refine weak_by (fun _ _=>[(0,some 0),(1,some 1),(2,some 2)]) ?_ ?_ rfl
       . repeat' (first|exact True.intro|(refine⟨⟨_,rfl,?_⟩,?_⟩)|exact VRen.kf rfl|exact VRen.loc rfl|exact VRen.vec rfl rfl rfl)
       . repeat' (first|exact⟨rfl,rfl,True.intro,fun i hi=>(lenT_set _ _ _).symm,fun i j t hi hn hj ht=>setF_row2 p g v i j t hj ht⟩|exact True.intro|(refine⟨⟨_,rfl,?_⟩,?_⟩)|exact VRen.kf rfl|(refine And.intro ?_ ?_))
     . have e1:opn (v+1) g.ids.length 3=[]:=if_neg h1;simp only[e1];refine weak_by (fun _ _=>[(0,some 0),(1,some 1),(2,some 2),(3,none)]) ?_ ?_ rfl
       . repeat' (first|exact True.intro|(refine⟨⟨_,rfl,?_⟩,?_⟩)|exact VRen.kf rfl|exact VRen.loc rfl|exact VRen.vec rfl rfl rfl)
       . repeat' (first|exact⟨rfl,rfl,True.intro,fun i hi=>(lenT_set _ _ _).symm,fun i j t hi hn hj ht=>setF_row2 p g v i j t hj ht⟩|exact⟨2,rowB p g (v+1),by rw[lenT_self]⟩|exact True.intro|(refine⟨⟨_,rfl,?_⟩,?_⟩)|exact VRen.kf rfl|(refine And.intro ?_ ?_))
 . have e:opn v g.ids.length 3=[]:=if_neg hvn;have ev:v=g.ids.length:=by omega
   simp only[e]
   repeat' ((conv=>whnf);first|(refine Br.dec ?_ ?_<;>intro _<;>try omega)|(refine Len.mk (by omega) ?_))
   all_goals (conv=>whnf)
   refine VLe.fz rfl (fun h=>h) (fun i j hi hj=>?_);show VLe (.fz (lenT p.vars.length v i) 2 false (rowB p g i)) (.fz p.vars.length 2 false (rowB p g i));rw[show lenT p.vars.length v i=p.vars.length from if_pos (by omega)];exact VLe.rfl
theorem state_ok (p:Pr) (g:G) (v:Nat) (l:List Int) (h1:p.vars.length<=1000) (h:l.length=p.vars.length) (hb:∀x,x<p.vars.length->(bnd g (gV p.vars x) v).1<=gI l x/\gI l x<=(bnd g (gV p.vars x) v).2) :
 Ret Tryz.prog 121 [.fz p.vars.length 2 false (rowB p g v),.fz l.length 1 false (vI l)] (.bool true):=by
 refine ret_frz rfl ?_;refine fn_rule mixed Tryz.func121 rfl hc121 hr121 rfl ?_
 repeat' ((conv=>whnf);first|(refine Br.bne ?_ ?_<;>intro _<;>try omega))
 all_goals (conv=>whnf)
 refine loop_r mixed [0,12,13] (fun i:Nat=>[(14,.int .i64 i)]) (fun m i=>m=l.length-i/\i<=l.length) l.length 0 ⟨rfl,Nat.zero_le _⟩ ?_ ?_
 . exact weak_b (fun _ _=>[])
 rintro m i ⟨hm,hi⟩;by_cases hil:i<l.length
 . have hb:=hb i (by omega)
   repeat' ((conv=>whnf);first|(refine Br.dec ?_ ?_<;>intro _<;>try omega)|(refine Ar.i64 (by omega) (by omega) ?_)|(refine Ix.nat (by omega) ?_)|(refine Ix.mk 0 rfl (by omega) ?_)|(refine Ix.mk 1 rfl (by omega) ?_))
   all_goals (conv=>whnf)
   all_goals first
    | (exfalso;omega)
    | (refine⟨l.length-(i+1),i+1,by omega,⟨rfl,by omega⟩,?_⟩
       exact weak_b (fun _ _=>[]))
 . repeat' ((conv=>whnf);first|(refine Br.dec ?_ ?_<;>intro _<;>try omega))
   all_goals (conv=>whnf)
   exact VLe.rfl
structure Conf (p:Pr) (g:G) (c:Cf):Prop where
 len:c.length=g.ids.length
 row:∀v,v<c.length->(gC c v).length=p.vars.length
 val:∀v,v<c.length->∀x,x<p.vars.length->(bnd g (gV p.vars x) v).1<=gI (gC c v) x/\gI (gC c v) x<=(bnd g (gV p.vars x) v).2
theorem Conf.fit {p:Pr} (hp:PrOk p) {g:G} (hg:g.valid=true) {c:Cf} (h:Conf p g c):Fit g p.vars.length c:=by
 obtain⟨f1,f2,f3,f4,f5,f6,f7⟩:=val_facts hg;refine⟨h.len.trans f3.symm,h.row,fun v hv x hx=>?_⟩;have h1:=h.val v hv x hx;have h2:=bnd_in hg (hp.var x hx) (v:=v) (by rw[f3,<- h.len];exact hv);unfold inR;omega
theorem within_ok2 (p:Pr) (hp:PrOk p) (g:G) (hg:g.valid=true) (c:Cf) (hc:Conf p g c):Ret Tryz.prog 93 [tblV p g,cV c] (.bool true):=by
 obtain⟨f1,f2,f3,f4,f5,f6,f7⟩:=val_facts hg;have hcl:=hc.len;refine ret_frz rfl ?_;refine fn_rule mixed Tryz.func93 rfl hc93 hr93 rfl ?_
 repeat' ((conv=>whnf);first|(refine Br.bne ?_ ?_<;>intro _<;>try omega))
 all_goals (conv=>whnf)
 refine loop_r mixed [1,12,13] (fun i:Nat=>[(14,.int .i64 i)]) (fun m i=>m=g.ids.length-i/\i<=g.ids.length) g.ids.length 0 ⟨rfl,Nat.zero_le _⟩ ?_ ?_
 . exact weak_b (fun _ _=>[])
 rintro m i ⟨hm,hi⟩;by_cases hil:i<g.ids.length
 . have hs:=state_ok p g i (gC c i) hp.vlen (hc.row i (by omega)) (hc.val i (by omega))
   repeat' ((conv=>whnf);first|(refine Br.tt ?_)|(refine Br.dec ?_ ?_<;>intro _<;>try omega)|(refine Ar.i64 (by omega) (by omega) ?_)|(refine Ix.nat (by omega) ?_)|(refine hs.go ?_))
   all_goals (conv=>whnf)
   refine⟨g.ids.length-(i+1),i+1,by omega,⟨rfl,by omega⟩,?_⟩;exact weak_b (fun _ _=>[])
 . repeat' ((conv=>whnf);first|(refine Br.dec ?_ ?_<;>intro _<;>try omega))
   all_goals (conv=>whnf)
   exact VLe.rfl
theorem check_ok (p:Pr) (hp:PrOk p) (g:G) (hs:g.Small) (hg:g.valid=true) (c:Cf) (hc:Conf p g c):Ret Tryz.prog 63 [p.v,g.v,cV c] (.int .i64 0):=by
 have h1:=fits_ok p hp g hs hg;have h2:=table_ok p hp g hg;have h3:=within_ok2 p hp g hg c hc;refine ret_frz rfl ?_;refine fn_rule mixed Tryz.func63 rfl hc63 hr63 rfl ?_
 repeat' ((conv=>whnf);first|(refine Br.tt ?_)|(refine Br.ff ?_)|(refine h1.go ?_)|(refine h2.go ?_)|(refine h3.go ?_))
 all_goals (conv=>whnf)
 exact VLe.rfl
theorem mvalid_ok (p:Pr) (hp:PrOk p) (g:G) (hs:g.Small) (hg:g.valid=true) (c:Cf) (hc:Conf p g c):Ret Tryz.prog 41 [p.v,g.v,cV c] (.bool true):=by
 have h1:=check_ok p hp g hs hg c hc;refine ret_frz rfl ?_;refine fn_rule mixed Tryz.func41 rfl hc41 hr41 rfl ?_
 repeat' ((conv=>whnf);first|(refine Br.tt ?_)|(refine h1.go ?_))
 all_goals (conv=>whnf)
 exact VLe.rfl
def mvP (p:Pr) (g:G):V:=.fe 1 5 (tab [[.str p.nm,p.pg.vs,p.pg.rs,scP p.pg g,tblV p g]]) 0 0
theorem guard_ok (p:Pr) (hp:PrOk p) (g:G) (hg:g.valid=true) (c:Cf) (hc:Conf p g c) (v:Nat) (hv:v<g.ports.length) (i:Nat) (hi:i<p.rules.length) :
 Ret Tryz.prog 96 [scP p.pg g,cV c,.int .i64 v,.int .i64 i] (.bool (decide ((gRl p.rules i).gd.sem g c v (-1)≠0))):=by
 have hgd:=hp.gd i hi;simp only[Tm.okB,Bool.and_eq_true,decide_eq_true_eq] at hgd;have h1:=Value_ok p.pg g hg (hc.fit hp hg) v hv (gRl p.rules i).gd hgd.2 hgd.1;refine ret_frz rfl ?_;refine fn_rule mixed Tryz.func96 rfl hc96 hr96 rfl ?_
 repeat' ((conv=>whnf);first|(refine Br.bne ?_ ?_<;>intro _<;>try omega)|(refine Ix.nat (by omega) ?_)|(refine h1.go ?_))
 all_goals (conv=>whnf)
 . rename_i h;exact VLe.bool (decide_eq_true h).symm
 . rename_i h;exact VLe.bool (decide_eq_false (by simpa using h)).symm
def gds (p:Pr) (g:G) (c:Cf) (v:Nat):List Int:=p.rules.map fun r=>r.gd.sem g c v (-1)
def ruleI (p:Pr) (g:G) (c:Cf) (v:Nat):Int:=idxI 0 (gds p g c v)
theorem gds_get (p:Pr) (g:G) (c:Cf) (v i:Nat) (hi:i<p.rules.length):gI (gds p g c v) i=(gRl p.rules i).gd.sem g c v (-1):=by
 simp[gds,gI,gRl,hi]
theorem rule_ok (p:Pr) (hp:PrOk p) (g:G) (hg:g.valid=true) (c:Cf) (hc:Conf p g c) (v:Nat) (hv:v<g.ports.length) :
 Ret Tryz.prog 68 [mvP p g,cV c,.int .i64 v] (.int .i64 (ruleI p g c v)):=by
 have hrl:=hp.rlen;have hgl:(gds p g c v).length=p.rules.length:=by simp[gds]
 refine ret_frz rfl ?_;refine fn_rule mixed Tryz.func68 rfl hc68 hr68 rfl ?_
 repeat' ((conv=>whnf);first|fail)
 all_goals (conv=>whnf)
 refine loop_r mixed [0,1,2,13] (fun i:Nat=>[(14,.int .i64 i)]) (fun m i=>m=p.rules.length-i/\i<=p.rules.length/\∀a∈(gds p g c v).take i,a=0) p.rules.length 0 ⟨rfl,Nat.zero_le _,by simp⟩ ?_ ?_
 . exact weak_b (fun _ _=>[])
 rintro m i ⟨hm,hi,hall⟩;by_cases hil:i<p.rules.length
 . have hgu:=guard_ok p hp g hg c hc v hv i hil;have hge:=gds_get p g c v i hil;by_cases hz:(gRl p.rules i).gd.sem g c v (-1)=0
   . rw[decide_eq_false (by simpa using hz)] at hgu
     repeat' ((conv=>whnf);first|(refine Br.ff ?_)|(refine Br.dec ?_ ?_<;>intro _<;>try omega)|(refine Ar.i64 (by omega) (by omega) ?_)|(refine hgu.go ?_))
     all_goals (conv=>whnf)
     refine⟨p.rules.length-(i+1),i+1,by omega,⟨rfl,by omega,?_⟩,?_⟩
     . rw[gI_take _ i (by omega)];intro a ha;rcases List.mem_append.1 ha with h|h
       . exact hall a h
       . simp at h;rw[h,hge];exact hz
     . exact weak_b (fun _ _=>[])
   . rw[decide_eq_true hz] at hgu
     repeat' ((conv=>whnf);first|(refine Br.tt ?_)|(refine Br.dec ?_ ?_<;>intro _<;>try omega)|(refine hgu.go ?_))
     all_goals (conv=>whnf)
     refine VLe.int ?_;rw[ruleI,idxI_split _ 0 i (by omega) hall,gI_drop _ i (by omega)];simp only[idxI,hge];rw[if_pos hz];omega
 . repeat' ((conv=>whnf);first|(refine Br.dec ?_ ?_<;>intro _<;>try omega))
   all_goals (conv=>whnf)
   refine VLe.int ?_;rw[ruleI,idxI_split _ 0 i (by omega) hall,List.drop_of_length_le (by omega)];rfl
theorem en1_ok (p:Pr) (hp:PrOk p) (g:G) (hg:g.valid=true) (c:Cf) (hc:Conf p g c) (v:Nat) (hv:v<g.ports.length) :
 Ret Tryz.prog 67 [.int .i64 v,.fe 1 1 (tab [[mvP p g]]) 0 0,.fe 1 1 (tab [[cV c]]) 0 0] (.bool (decide (0<=ruleI p g c v))):=by
 have h1:=rule_ok p hp g hg c hc v hv;refine ret_frz rfl ?_;refine fn_rule mixed Tryz.func67 rfl hc67 hr67 rfl ?_
 repeat' ((conv=>whnf);first|(refine Br.dec ?_ ?_<;>intro _<;>try omega)|(refine h1.go ?_))
 all_goals (conv=>whnf)
 . rename_i h;exact VLe.bool (decide_eq_true (by omega)).symm
 . rename_i h;exact VLe.bool (decide_eq_false (by omega)).symm
def enN (p:Pr) (g:G) (c:Cf):Nat:=nb (fun v=>decide (0<=ruleI p g c v)) g.ids.length
theorem ptoI_split:∀(l:Lt2) (k i:Nat) (b:Int),i<=l.length->(∀a∈l.take i,a.1≠b)->ptoI k l b=ptoI (k+i) (l.drop i) b
 | _,k,0,_,_,_=>by simp
 | [],k,i+1,b,h,_=>by simp at h
 | a::r,k,i+1,b,h,h2=>by
   have ha:a.1≠b:=h2 a (by simp);simp only[ptoI,ha,if_false,List.drop_succ_cons];rw[ptoI_split r (k+1) i b (by simpa using h) (fun x hx=>h2 x (by simp[hx]))];congr 1;omega
theorem pto_ok (g:G) (hg:g.valid=true) (a:Nat) (b:Int) (ha:a<g.ports.length):Ret Tryz.prog 94 [g.v,.int .i64 a,.int .i64 b] (.int .i64 (ptoI 0 (gR g.ports a) b)):=by
 have hrl:=row_le hg a;refine ret_frz rfl ?_;refine fn_rule mixed Tryz.func94 rfl hc94 hr94 rfl ?_
 repeat' ((conv=>whnf);first|(refine Ix.nat (by omega) ?_))
 all_goals (conv=>whnf)
 refine loop_r mixed [2,13,14] (fun i:Nat=>[(15,.int .i64 i)]) (fun m i=>m=(gR g.ports a).length-i/\i<=(gR g.ports a).length/\∀l∈(gR g.ports a).take i,l.1≠b) (gR g.ports a).length 0 ⟨rfl,Nat.zero_le _,by simp⟩ ?_ ?_
 . exact weak_b (fun _ _=>[(0,some 0)])
 rintro m i ⟨hm,hi,hall⟩
 repeat' ((conv=>whnf);first|(refine Br.dec ?_ ?_<;>intro _<;>try omega)|(refine Ar.i64 (by omega) (by omega) ?_)|(refine Ix.nat (by omega) ?_))
 all_goals (conv=>whnf)
 . refine VLe.int ?_;rename_i h;rw[ptoI_split _ 0 i b hi hall,gF_drop _ i (by omega),ptoI,if_pos h];omega
 . rename_i h;refine⟨(gR g.ports a).length-(i+1),i+1,by omega,⟨rfl,by omega,?_⟩,?_⟩
   . rw[gF_take _ i (by omega)];intro l hl;rcases List.mem_append.1 hl with h1|h1
     . exact hall l h1
     . simp at h1;rw[h1];exact h
   . exact weak_b (fun _ _=>[(0,some 0)])
 . refine VLe.int ?_;rw[ptoI_split _ 0 i b hi hall,List.drop_of_length_le (by omega)];rfl
def rowK (g:G) (v:Nat):Nat->Nat->V:=fun i _=>.int .i64 (backI g v i)
def lenK (g:G) (v:Nat):Nat->Nat:=fun i=>if i<v then (gR g.ports i).length else 0
theorem lenK_self (g:G) (v:Nat):lenK g v v=0:=if_neg (by omega)
theorem lenK_set (g:G) (v i:Nat):setN (lenK g v) v (gR g.ports v).length i=lenK g (v+1) i:=by
 simp only[setN,lenK];by_cases h:i=v
 . rw[if_pos h,if_pos (by omega),h]
 . rw[if_neg h];by_cases h2:i<v
   . rw[if_pos h2,if_pos (by omega)]
   . rw[if_neg h2,if_neg (by omega)]
theorem lenK_set0 (g:G) (v i:Nat):setN (lenK g v) v 0 i=lenK g v i:=by
 simp only[setN];split
 . rename_i e;subst e;exact(lenK_self g i).symm
 . rfl
theorem setN_setN (f:Nat->Nat) (v a b i:Nat):setN f v b i=setN (setN f v a) v b i:=by
 simp only[setN];split<;>rfl
theorem setF_rowK (g:G) (v i j t:Nat):VLe (setF (rowK g) v (rowK g v) i j t) (rowK g i j t):=by
 apply VLe.of_eq;simp only[setF];split
 . rename_i e;rw[e]
 . rfl
theorem vle_appK (g:G) (v i a b:Nat) (ha:a<i+1) (hb:b<1):VLe (fapp (shiftF 0 (rowK g v)) i (shiftF 0 (tab [[.int .i64 (ptoI 0 (gR g.ports (gF (gR g.ports v) i).1.toNat) v)]])) a b) (rowK g v a b):=by
 obtain rfl:b=0:=by omega
 apply VLe.of_eq;by_cases h:a<i
 . rw[fapp_lt h];simp[shiftF]
 . rw[fapp_ge h];have:a=i:=by omega
   subst this;simp[shiftF,tab,rowK,backI]
theorem vle_fe {n s i j:Nat} {f f':Nat->Nat->V} (h:∀a b,a<n->b<s->VLe (f a b) (f' a b)):VLe (.fe n s f i j) (.fe n s f' i j) :=
 ⟨fun M w u hd=>by
   cases hd with
   | fe _ _ _ _ _ _ b off u hi hM hb hcell h1 hd=>exact .fe _ _ _ _ _ _ b off u hi hM hb hcell h1 (fun a b ha hb=>(h a b ha hb).out _ _ _ (hd a b ha hb))⟩
set_option maxHeartbeats 16000000 in
theorem scene_ok (p:Pr) (g:G) (hg:g.valid=true):Ret Tryz.prog 64 [p.v,g.v] (scP p.pg g):=by
 obtain⟨f1,f2,f3,f4,f5,f6,f7⟩:=val_facts hg;refine ret_frz rfl ?_;refine fn_rule mixed Tryz.func64 rfl hc64 hr64 rfl ?_
 repeat' ((conv=>whnf);first|(refine Bd.nat (by omega) ?_)|(refine Len.mk (by omega) ?_)|(refine MkS.vec ?_))
 all_goals (conv=>whnf)
 refine loop_u mixed [3,5,19,20] [4] [5,6,7,8,9,10,11,12,13,14,15,16,17,18,19,20,21,22,23,24,25,26,27,28,29] [4,3,2,1,0] (fun v:Nat=>[(21,.int .i64 v)])
  (fun own v=>(4,.vec (lenK g v v) 1 (rowK g v))::updO (updO (updO own 3 (.cells [.str p.nm,p.pg.vs,p.pg.rs,.fz g.ids.length 1 false (vI g.ids),.fz g.ports.length 1 false (vP g.ports),.int .i64 (maxL (g.ids.take v) 0),.vec 2 1 0 g.ports.length])) 2 (.fam g.ports.length 1 (lenK g v) (rowK g) [])) 2 (.fam g.ports.length 1 (lenK g v) (rowK g) (opn v g.ports.length 4))) (fun k v=>k=g.ports.length-v/\v<=g.ports.length) g.ports.length 0 ⟨rfl,Nat.zero_le _⟩ rfl (fun _=>rfl) ?_ ?_
 . have e:opn 0 g.ports.length 4=[(0,4)]:=if_pos (by omega);simp only[e];refine Weak.trans ?_ (weak_open (ks:=[4,5,6,7,8,9,10,11,12,13,14,15,16,17,18,19,20,21,22,23,24,25,26,27,28,29]) rfl rfl rfl (by omega) rfl) (ks_cons rfl);refine weak_by (fun _ _=>[(0,some 0),(1,some 1),(2,some 2),(3,some 3)]) ?_ ?_ rfl
   . repeat' (first|exact True.intro|(refine⟨⟨_,rfl,?_⟩,?_⟩)|exact VRen.kf rfl|exact VRen.loc rfl)
   . repeat' (first|exact⟨rfl,rfl,rfl,fun i hi=>⟨rfl,if_neg (by omega)⟩⟩|exact True.intro|(refine⟨⟨_,rfl,?_⟩,?_⟩)|exact VRen.kf rfl|exact VRen.vec rfl rfl rfl|(refine And.intro ?_ ?_))
 rintro k v ⟨hk,hv⟩;by_cases hvn:v<g.ports.length
 . have e:opn v g.ports.length 4=[(v,4)]:=if_pos hvn;simp only[e];have hrl:=row_le hg v
   repeat' ((conv=>whnf);first|(refine Br.dec ?_ ?_<;>intro _<;>try omega)|(refine Sv.mk _ rfl ?_)|(refine Ix.nat (by omega) ?_))
   all_goals (conv=>whnf)
   refine loop_u mixed [3,5,6,19,20,21,39,40] [4] [5,6,7,8,9,10,11,12,13,14,15,16,17,18,19,20,21,22,23,24,25,26,27,28,29] [4,3,2,1,0] (fun i:Nat=>[(41,.int .i64 i)])
    (fun own i=>updO (updO own 4 (.vec i 1 (rowK g v))) 2 (.fam g.ports.length 1 (setN (lenK g v) v i) (rowK g) [(v,4)])) (fun k i=>k=(gR g.ports v).length-i/\i<=(gR g.ports v).length) (gR g.ports v).length 0 ⟨rfl,Nat.zero_le _⟩ rfl (fun _=>rfl) ?_ ?_
   . refine weak_by (fun _ _=>[(0,some 0),(1,some 1),(2,some 2),(3,some 3),(4,some 4)]) ?_ ?_ rfl
     . repeat' (first|exact True.intro|(refine⟨⟨_,rfl,?_⟩,?_⟩)|exact VRen.kf rfl|exact VRen.loc rfl)
     . repeat' (first|exact⟨rfl,rfl,⟨rfl,rfl,True.intro⟩,fun i hi=>lenK_set0 _ _ _,fun i j t hi hn hj ht=>VLe.rfl⟩|exact True.intro|(refine⟨⟨_,rfl,?_⟩,?_⟩)|exact VRen.kf rfl|exact VRen.vec rfl rfl rfl|(refine⟨by omega,rfl,fun i j hi hj=>?_⟩)|exact VLe.rfl|(refine And.intro ?_ ?_))
   rintro k i ⟨hk2,hi⟩;by_cases hin:i<(gR g.ports v).length
   . have hr:=okR_nd (f6 v hvn) hin;have hp:=pto_ok g hg (gF (gR g.ports v) i).1.toNat v (by omega);rw[show(((gF (gR g.ports v) i).1.toNat:Nat):Int)=(gF (gR g.ports v) i).1 by omega] at hp
     repeat' ((conv=>whnf);first|(refine Br.dec ?_ ?_<;>intro _<;>try omega)|(refine Br.nbeq ?_ ?_<;>intro _<;>try omega)|(refine Ar.i64 (by omega) (by omega) ?_)|(refine Ix.nat (by omega) ?_)|(refine Len.mk (by omega) ?_)|(refine Ltn.mk (by omega) ?_)|(refine hp.go ?_)|(refine Opn.hdl (by omega) (show setN _ _ _ _=i from if_pos rfl) ?_)|(refine And.intro (Ltn.mk (by omega) (Opn.hdl (by omega) (show setN _ _ _ _=i from if_pos rfl) rfl)) ?_)|(refine OpnSet.hd (by omega) ?_)|(refine And.intro rfl ?_))
     all_goals (conv=>whnf)
     refine⟨(gR g.ports v).length-(i+1),i+1,by omega,⟨rfl,by omega⟩,?_⟩;refine weak_by (fun env own=>[(0,some 0),(1,some 1),(2,some 2),(3,some 3),(4,ekey env 63)]) ?_ ?_ rfl
     . repeat' (first|exact True.intro|(refine⟨⟨_,rfl,?_⟩,?_⟩)|exact VRen.kf rfl|exact VRen.loc rfl)
     . repeat' (first|exact⟨rfl,rfl,⟨rfl,rfl,True.intro⟩,fun i hi=>setN_setN _ _ _ _ _,fun i j t hi hn hj ht=>VLe.rfl⟩|exact⟨Nat.le_refl _,rfl,fun a b ha hb=>vle_appK g v i a b ha hb⟩|exact True.intro|(refine⟨⟨_,rfl,?_⟩,?_⟩)|exact VRen.kf rfl|exact VRen.vec rfl rfl rfl|(refine And.intro ?_ ?_))
   . have ei:i=(gR g.ports v).length:=by omega
     subst ei
     repeat' ((conv=>whnf);first|(refine Br.dec ?_ ?_<;>intro _<;>try omega)|(refine Ar.i64 (by omega) (by omega) ?_))
     all_goals (conv=>whnf)
     refine⟨g.ports.length-(v+1),v+1,by omega,⟨rfl,by omega⟩,?_⟩;refine Weak.trans (weak_step (own_close (q:=4) (k:=2) (i:=v) [] rfl rfl hvn (look_here rfl) (Nat.le_of_eq (if_pos rfl)) rfl (fun j hj=>(look_there (fun e=>hj e.symm)).symm))) ?_ (ks_sub rfl);have em:maxL (g.ids.take (v+1)) 0=if gI g.ids v > maxL (g.ids.take v) 0 then gI g.ids v else maxL (g.ids.take v) 0:=by rw[gI_take g.ids v (by omega),maxL_snoc]
     simp only[em];by_cases h1:v+1<g.ports.length
     . have e1:opn (v+1) g.ports.length 4=[(v+1,4)]:=if_pos h1;simp only[e1];refine Weak.trans ?_ (weak_open (ks:=[4,5,6,7,8,9,10,11,12,13,14,15,16,17,18,19,20,21,22,23,24,25,26,27,28,29]) rfl rfl rfl h1 rfl) (ks_cons rfl);refine weak_by (fun _ _=>[(0,some 0),(1,some 1),(2,some 2),(3,some 3)]) ?_ ?_ rfl
       . repeat' (first|exact True.intro|(refine⟨⟨_,rfl,?_⟩,?_⟩)|exact VRen.kf rfl|exact VRen.loc rfl)
       . repeat' (first|exact⟨rfl,rfl,True.intro,fun i hi=>(lenK_set _ _ _).symm,fun i j t hi hn hj ht=>setF_rowK g v i j t⟩|exact True.intro|(refine⟨⟨_,rfl,?_⟩,?_⟩)|exact VRen.kf rfl|exact VRen.vec rfl rfl rfl|(refine And.intro ?_ ?_))
     . have e1:opn (v+1) g.ports.length 4=[]:=if_neg h1;simp only[e1];refine weak_by (fun _ _=>[(0,some 0),(1,some 1),(2,some 2),(3,some 3),(4,none)]) ?_ ?_ rfl
       . repeat' (first|exact True.intro|(refine⟨⟨_,rfl,?_⟩,?_⟩)|exact VRen.kf rfl|exact VRen.loc rfl)
       . repeat' (first|exact⟨rfl,rfl,True.intro,fun i hi=>(lenK_set _ _ _).symm,fun i j t hi hn hj ht=>setF_rowK g v i j t⟩|exact⟨1,rowK g (v+1),by rw[lenK_self]⟩|exact True.intro|(refine⟨⟨_,rfl,?_⟩,?_⟩)|exact VRen.kf rfl|exact VRen.vec rfl rfl rfl|(refine And.intro ?_ ?_))
 . have e:opn v g.ports.length 4=[]:=if_neg hvn;have ev:v=g.ports.length:=by omega
   simp only[e]
   repeat' ((conv=>whnf);first|(refine Br.dec ?_ ?_<;>intro _<;>try omega)|(refine Len.mk (by omega) ?_))
   all_goals (conv=>whnf)
   refine vle_fe (fun a b ha hb=>?_);obtain rfl:a=0:=by omega
   have hb:b<7:=hb;have em:maxL (g.ids.take v) 0=topI g:=by rw[List.take_of_length_le (by omega)];rfl
   rcases (show b=0\/b=1\/b=2\/b=3\/b=4\/b=5\/b=6 by omega) with rfl|rfl|rfl|rfl|rfl|rfl|rfl
   . exact VLe.rfl
   . exact VLe.rfl
   . exact VLe.rfl
   . exact VLe.rfl
   . exact VLe.rfl
   . exact VLe.int em
   . refine VLe.fz rfl (fun h=>h) (fun i j hi hj=>?_);show VLe (.fz (lenK g v i) 1 false (rowK g i)) (.fz (gR g.ports i).length 1 false (rowK g i));rw[show lenK g v i=(gR g.ports i).length from if_pos (by omega)];exact VLe.rfl
theorem mover_ok (p:Pr) (hp:PrOk p) (g:G) (hg:g.valid=true):Ret Tryz.prog 42 [p.v,g.v] (mvP p g):=by
 have h1:=scene_ok p g hg;have h2:=table_ok p hp g hg;refine ret_frz rfl ?_;refine fn_rule mixed Tryz.func42 rfl hc42 hr42 rfl ?_
 repeat' ((conv=>whnf);first|(refine h1.go ?_)|(refine h2.go ?_)|(refine And.intro rfl ?_))
 all_goals (conv=>whnf)
 exact VLe.rfl
set_option maxHeartbeats 4000000 in
theorem snodes_ok (p:Pr) (hp:PrOk p) (g:G) (hg:g.valid=true) (c:Cf) (hc:Conf p g c) :
 CallF Tryz.prog 66 [.int .i64 g.ids.length,.fn (.func 67) false [.loc 0 0,.loc 1 0]] [(1,.cells [cV c]),(0,.cells [mvP p g])] [2,3,4,5,6,7,8,9,10,11,12,13,14,15,16,17,18,19,20,21,22,23,24,25,26,27,28,29] fun v own' _=>v=.int .u32 (enN p g c)/\own'=[(1,.cells [cV c]),(0,.cells [mvP p g])]:=by
 obtain⟨f1,f2,f3,f4,f5,f6,f7⟩:=val_facts hg;refine fn_rule mixed Tryz.func66 rfl hc66 hr66 rfl ?_
 repeat' ((conv=>whnf);first|fail)
 all_goals (conv=>whnf)
 refine loop_r mixed [1,7] (fun i:Nat=>[(5,.int .u32 (nb (fun v=>decide (0<=ruleI p g c v)) i)),(8,.int .i64 i)]) (fun m i=>m=g.ids.length-i/\i<=g.ids.length) g.ids.length 0 ⟨rfl,Nat.zero_le _⟩ ?_ ?_
 . exact weak_b (fun _ _=>[(0,some 0),(1,some 1)])
 rintro m i ⟨hm,hi⟩;by_cases hin:i<g.ids.length
 . have he:=en1_ok p hp g hg c hc i (by omega);cases hd:decide (0<=ruleI p g c i) with
   | true =>
     rw[hd] at he
     repeat' ((conv=>whnf);first|(refine Br.tt ?_)|(refine Br.dec ?_ ?_<;>intro _<;>try omega)|(refine Ar.i64 (by omega) (by omega) ?_)|(refine Ar.sh1 (by omega) ?_)|(refine Sv.mk _ rfl ?_)|(refine Nn.mk (by omega) ?_)|(refine Chk.mk (by kernel_rfl) ?_)|(refine call_lend he rfl ⟨VLe.rfl,VLe.rfl,VLe.rfl,True.intro⟩ ?_))
     all_goals (conv=>whnf)
     have hx:=nb_or (p:=fun v=>decide (0<=ruleI p g c v)) (k:=i) (by omega) hd;refine⟨g.ids.length-(i+1),i+1,by omega,⟨rfl,by omega⟩,?_⟩;refine weak_by (fun _ _=>[(0,some 0),(1,some 1)]) ?_ ?_ rfl
     . repeat' (first|exact VRen.int hx|exact True.intro|(refine VRen.fn ?_)|(refine⟨⟨_,rfl,?_⟩,?_⟩)|exact VRen.kf rfl|exact VRen.loc rfl|(refine And.intro ?_ ?_))
     . repeat' (first|exact True.intro|(refine⟨⟨_,rfl,?_⟩,?_⟩)|exact VRen.kf rfl|(refine And.intro ?_ ?_))
   | false =>
     rw[hd] at he
     repeat' ((conv=>whnf);first|(refine Br.ff ?_)|(refine Br.dec ?_ ?_<;>intro _<;>try omega)|(refine Ar.i64 (by omega) (by omega) ?_)|(refine Chk.mk (by kernel_rfl) ?_)|(refine call_lend he rfl ⟨VLe.rfl,VLe.rfl,VLe.rfl,True.intro⟩ ?_))
     all_goals (conv=>whnf)
     have hx:=nb_no (p:=fun v=>decide (0<=ruleI p g c v)) (k:=i) hd;refine⟨g.ids.length-(i+1),i+1,by omega,⟨rfl,by omega⟩,?_⟩;refine weak_by (fun _ _=>[(0,some 0),(1,some 1)]) ?_ ?_ rfl
     . repeat' (first|exact VRen.int (by rw[hx])|exact True.intro|(refine VRen.fn ?_)|(refine⟨⟨_,rfl,?_⟩,?_⟩)|exact VRen.kf rfl|exact VRen.loc rfl|(refine And.intro ?_ ?_))
     . repeat' (first|exact True.intro|(refine⟨⟨_,rfl,?_⟩,?_⟩)|exact VRen.kf rfl|(refine And.intro ?_ ?_))
 . repeat' ((conv=>whnf);first|(refine Br.dec ?_ ?_<;>intro _<;>try omega))
   all_goals (conv=>whnf)
   have e:i=g.ids.length:=by omega
   exact⟨by rw[enN,e],rfl⟩
theorem men_ok (p:Pr) (hp:PrOk p) (g:G) (hg:g.valid=true) (c:Cf) (hc:Conf p g c):Ret Tryz.prog 43 [mvP p g,cV c] (.int .u32 (enN p g c)):=by
 have hn:=snodes_ok p hp g hg c hc;refine ret_frz rfl ?_;refine fn_rule mixed Tryz.func43 rfl hc43 hr43 rfl ?_
 repeat' ((conv=>whnf);first|(refine call_by [(0,some 0),(1,some 1)] [] (hn.mono ?_) ⟨VRen.int rfl,VRen.fn ⟨VRen.loc rfl,VRen.loc rfl,True.intro⟩,True.intro⟩ (by repeat' (first|exact True.intro|(refine⟨⟨_,rfl,?_⟩,?_⟩)|exact VRen.kf rfl|(refine And.intro ?_ ?_))) rfl;rintro _ _ _ ⟨rfl,rfl⟩)|(refine Chk.mk rfl ?_))
 all_goals (conv=>whnf)
 exact VLe.rfl
theorem senabled_ok (p:Pr) (hp:PrOk p) (g:G) (hs:g.Small) (hg:g.valid=true) (c:Cf) (hc:Conf p g c):Ret Tryz.prog 15 [p.v,g.v,cV c] (.int .u32 (enN p g c)):=by
 have h1:=mvalid_ok p hp g hs hg c hc;have h2:=mover_ok p hp g hg;have h3:=men_ok p hp g hg c hc;refine ret_frz rfl ?_;refine fn_rule mixed Tryz.func15 rfl hc15 hr15 rfl ?_
 repeat' ((conv=>whnf);first|(refine Br.tt ?_)|(refine h1.go ?_)|(refine h2.go ?_)|(refine h3.go ?_))
 all_goals (conv=>whnf)
 exact VLe.rfl
theorem wrap_u8 {n:Int} (h1:0<=n) (h2:n<=255):IntKind.u8.wrap n=n:=by
 simp only[IntKind.wrap,IntKind.bits,IntKind.signed,Bool.false_and]
 first|(split<;>omega)|(simp;omega)
theorem Ar.u8 {n:Int} {K:Int->Prop} (h1:0<=n) (h2:n<=255) (hK:K n):Ar .u8 n K:=⟨n,(wrap_u8 h1 h2).symm,hK⟩
structure Cnt where
 steps:Nat
 moves:Nat
 rounds:Nat
 begun:Nat
 pend:Nat
def Cnt.v (k:Cnt):V:=.agg [.int .i64 k.steps,.int .i64 k.moves,.int .i64 k.rounds,.int .i64 k.begun,.int .u32 k.pend]
def lft (k:Cnt) (s e:Nat):Nat:=ndiff k.pend s &&& e
def Cnt.add (k:Cnt) (s e:Nat):Cnt:=if lft k s e=0 then⟨k.steps+1,k.moves+cnt s 32,k.rounds+1,k.rounds+1,e⟩ else⟨k.steps+1,k.moves+cnt s 32,k.rounds,k.rounds+1,lft k s e⟩
def one (c:Cf) (x v:Nat):Bool:=decide (gI (gC c v) x=1)
theorem Ar.sh01 {a:Int} {k:Nat} {K:Int->Prop} (h0:0<=a) (h1:a<=1) (hk:k<32) (hK:K ((if a=1 then 2 ^ k else 0:Nat):Int)):Ar .u32 (a*2 ^ (min (k:Int).toNat 32)) K:=by
 have:a=0\/a=1:=by omega
 rcases this with rfl|rfl
 . rw[if_neg (by omega)] at hK;rw[Int.zero_mul];exact Ar.u32 (by omega) (by omega) hK
 . rw[if_pos rfl] at hK;exact Ar.sh1 hk hK
theorem one_or {c:Cf} {x v:Nat} (hv:v<32):bitI .or .u32 (nb (one c x) v:Nat) ((if gI (gC c v) x=1 then 2 ^ v else 0:Nat):Int)=(nb (one c x) (v+1):Nat):=by
 by_cases h:gI (gC c v) x=1
 . rw[if_pos h];exact nb_or hv (by rw[one,decide_eq_true h])
 . rw[if_neg h,bit_or (nb_lt _ (by omega)) (by decide),Nat.or_zero,nb_no (by rw[one,decide_eq_false h])]
theorem true_ok (c:Cf) (x:Nat) (hl:c.length<=24) (hx:∀v,v<c.length->x<(gC c v).length/\0<=gI (gC c v) x/\gI (gC c v) x<=1):Ret Tryz.prog 58 [cV c,.int .i64 x] (.int .u32 (nb (one c x) c.length)):=by
 refine ret_frz rfl ?_;refine fn_rule mixed Tryz.func58 rfl hc58 hr58 rfl ?_
 repeat' ((conv=>whnf);first|fail)
 all_goals (conv=>whnf)
 refine loop_r mixed [1,8,9] (fun i:Nat=>[(5,.int .u32 (nb (one c x) i)),(10,.int .i64 i)]) (fun m v=>m=c.length-v/\v<=c.length) c.length 0 ⟨rfl,Nat.zero_le _⟩ ?_ ?_
 . exact weak_b (fun _ _=>[])
 rintro m v ⟨hm,hv⟩;have hxv:=hx v
 repeat' ((conv=>whnf);first|(refine Ar.sh01 (by omega) (by omega) (by omega) ?_)|(refine Br.dec ?_ ?_<;>intro _<;>try omega)|(refine Ar.i64 (by omega) (by omega) ?_)|(refine Ar.u32 (by omega) (by omega) ?_)|(refine Sv.mk _ rfl ?_)|(refine Nn.mk (by omega) ?_)|(refine Ix.nat (by omega) ?_))
 all_goals (conv=>whnf)
 . refine⟨c.length-(v+1),v+1,by omega,⟨rfl,by omega⟩,?_⟩;have hx:=one_or (c:=c) (x:=x) (v:=v) (by omega);refine weak_by (fun _ _=>[]) ?_ ?_ rfl
   . repeat' (first|exact VRen.int hx|exact True.intro|(refine⟨⟨_,rfl,?_⟩,?_⟩)|exact VRen.kf rfl)
   . repeat' (first|exact True.intro)
 . have e:v=c.length:=by omega
   rw[<- e];exact VLe.rfl
def mx (g:G) (p:Nat->Bool):Bool:=decide (∀v,v<g.ports.length->nbr g (nb p g.ports.length) v=!p v)
theorem nbrs_valid {g:G} (h:g.valid=true) (s:Nat):g.nbrs s=nb (nbr g s) g.ports.length:=by rw[G.nbrs,if_pos h]
theorem maximal_ok (g:G) (hs:g.Small) (hg:g.valid=true) (p:Nat->Bool):Ret Tryz.prog 57 [g.v,.int .u32 (nb p g.ports.length)] (.bool (mx g p)):=by
 obtain⟨f1,f2,f3,f4,f5,f6,f7⟩:=val_facts hg;have hlt:=nb_lt p (k:=g.ports.length) (by omega);have h1:=neighbours_ok g hs _ hlt;have h2:=all_ok g hg;rw[nbrs_valid hg] at h1;rw[<- f3] at h2;have hd:=bit_andNot (nb_lt (fun _=>true) (k:=g.ports.length) (by omega)) hlt;rw[nb_ndiff _ _ (by omega)] at hd;have hi:nb (nbr g (nb p g.ports.length)) g.ports.length=nb (fun i=>true&&!p i) g.ports.length↔∀v,v<g.ports.length->nbr g (nb p g.ports.length) v=!p v:=by
  rw[nb_inj];simp
 refine ret_frz rfl ?_;refine fn_rule mixed Tryz.func57 rfl hc57 hr57 rfl ?_
 repeat' ((conv=>whnf);first|(refine Br.dec ?_ ?_<;>intro _<;>try omega)|(refine Sv.mk _ rfl ?_)|(refine h1.go ?_)|(refine h2.go ?_)|(refine And.intro rfl ?_))
 all_goals (conv=>whnf)
 . rename_i hh;rw[hd] at hh;exact VLe.bool (by rw[mx,decide_eq_true (hi.1 (by omega))])
 . rename_i hh;rw[hd] at hh;exact VLe.bool (by rw[mx,decide_eq_false (fun h=>hh (by rw[hi.2 h]))])
def vM:List Vr:=[⟨ByteArray.mk #[109],2,0,0,0,0⟩]
theorem truth_ok (s:ByteArray):Ret Tryz.prog 22 [.str s] (.agg [.str s,.int .i64 2,.int .i64 0,.int .i64 0,.int .i64 0,.int .i64 0]):=by
 refine ret_frz rfl ?_;refine fn_rule mixed Tryz.func22 rfl hc22 hr22 rfl ?_
 repeat' ((conv=>whnf);first|fail)
 all_goals (conv=>whnf)
 all_goals exact VLe.rfl
def nm:List (Int×Int)->Nat
 | []=>0
 | l::r=>2 ^ l.1.toNat ||| nm r
theorem nm_bit (u:Nat):∀r:List (Int×Int),(nm r).testBit u=r.any fun l=>decide (l.1.toNat=u)
 | []=>by simp[nm]
 | l::r=>by rw[nm,Nat.testBit_or,Nat.testBit_two_pow,nm_bit u r,List.any_cons]
def ind (g:G) (s:Nat):Bool:=decide (∀v,v<g.ports.length->s.testBit v=true->nm (gR g.ports v) &&& s=0)
def gr (g:G) (W:Nat):Nat->Nat
 | 0=>0
 | b+1=>if W.testBit b=true/\nm (gR g.ports b) &&& gr g W b=0 then gr g W b ||| 2 ^ b else gr g W b
def wsh (e w:Nat):Nat:=if w &&& e=0 then lowb e else w &&& e
def rs (g:G) (k:Int) (e w:Nat):Nat:=if k=1 then lowb (wsh e w) else if k=2 then gr g (wsh e w) 32 else if k=4 then e else wsh e w
theorem zero_bits {s:Nat}:s=0↔∀i,s.testBit i=false:=⟨fun h i=>by subst h;simp,fun h=>Nat.eq_of_testBit_eq fun i=>by rw[h,Nat.zero_testBit]⟩
def adj (g:G) (u v:Nat):Bool:=(nm (gR g.ports u)).testBit v
theorem adj_iff {g:G} {u v:Nat}:adj g u v=true↔∃l∈gR g.ports u,l.1.toNat=v:=by
 rw[adj,nm_bit,List.any_eq_true];simp
instance:Inhabited Cnt:=⟨⟨0,0,0,0,0⟩⟩
theorem en_pow (p:Pr) (g:G) (c:Cf):enN p g c<2 ^ g.ids.length:=nb_pow _ _
theorem en_24 (p:Pr) {g:G} (hg:g.valid=true) (c:Cf):enN p g c<16777216:=by
 obtain⟨f1,f2,f3,f4,f5,f6,f7⟩:=val_facts hg;exact Nat.lt_of_lt_of_le (en_pow p g c) (Nat.pow_le_pow_right (n:=2) (by omega) f2)
theorem en_32 (p:Pr) {g:G} (hg:g.valid=true) (c:Cf):enN p g c<4294967296:=by have:=en_24 p hg c;omega
theorem en_bit (p:Pr) (g:G) (c:Cf) (v:Nat):(enN p g c).testBit v=(decide (v<g.ids.length)&&decide (0<=ruleI p g c v)):=nb_bit _ _ _
def lastC (l:List (Cf×Cnt)):Cf:=(l.getLast?.getD default).1
end Go.Proofs.YtbceaajfhcgnjaaGreat
namespace Go.Plain
abbrev St:=Nat->Bool
structure Adj (n:Nat) (a:Nat->Nat->Bool):Prop where
 sym:∀u v,u<n->v<n->a u v=true->a v u=true
 irr:∀v,v<n->a v v=false
 rng:∀u v,u<n->a u v=true->v<n
def nbM (n:Nat) (a:Nat->Nat->Bool) (m:St) (v:Nat):Bool:=(List.range n).any fun u=>a v u&&m u
theorem nbM_iff {n:Nat} {a:Nat->Nat->Bool} {m:St} {v:Nat}:nbM n a m v=true↔∃u,u<n/\a v u=true/\m u=true:=by
 simp only[nbM,List.any_eq_true,List.mem_range,Bool.and_eq_true]
def enI (n:Nat) (a:Nat->Nat->Bool) (m:St) (v:Nat):Bool:=match m v with|true=>nbM n a m v|false=>!nbM n a m v
def cfl (n:Nat) (a:Nat->Nat->Bool) (m:St) (v:Nat):Bool:=m v&&nbM n a m v
def stI (s m:St):St:=fun v=>match s v with|true=>!m v|false=>m v
structure Chs (n:Nat) (a:Nat->Nat->Bool) (m s:St):Prop where
 en:∀v,s v=true->v<n/\enI n a m v=true
 ind:∀u v,s u=true->s v=true->a u v=false
variable {n:Nat} {a:Nat->Nat->Bool} {m s:St}
theorem enter_free (_ha:Adj n a) (hc:Chs n a m s) {v:Nat} (hs:s v=true) (hm:m v=false):stI s m v=true/\nbM n a (stI s m) v=false:=by
 obtain⟨hv,he⟩:=hc.en v hs;refine⟨by simp[stI,hs,hm],?_⟩;rw[Bool.eq_false_iff];intro h;obtain⟨u,hu,h1,h2⟩:=nbM_iff.1 h;have hsu:s u=false:=by
  cases e:s u with
  | false=>rfl
  | true=>have:=hc.ind v u hs e;rw[h1] at this;cases this
 simp only[stI,hsu] at h2;simp only[enI,hm,Bool.not_eq_true'] at he;rw[nbM_iff.2 ⟨u,hu,h1,h2⟩] at he;cases he
theorem cfl_back (ha:Adj n a) (hc:Chs n a m s) {v:Nat} (hv:v<n) (h:cfl n a (stI s m) v=true):cfl n a m v=true/\s v=false:=by
 simp only[cfl,Bool.and_eq_true] at h;have hold:∀w,w<n->stI s m w=true->nbM n a (stI s m) w=true->m w=true/\s w=false:=fun w hw h1 h2=>by
  cases e:s w with
  | true =>
    cases em:m w with
    | false=>rw[(enter_free ha hc e em).2] at h2;cases h2
    | true=>simp[stI,e,em] at h1
  | false =>
    simp only[stI,e] at h1;exact⟨h1,rfl⟩
 obtain⟨h1,h2⟩:=h;obtain⟨u,hu,h3,h4⟩:=nbM_iff.1 h2;have hb:=hold v hv h1 h2;have hb2:=hold u hu h4 (nbM_iff.2 ⟨v,hv,ha.sym v u hv hu h3,h1⟩);exact⟨by simp only[cfl,Bool.and_eq_true];exact⟨hb.1,nbM_iff.2 ⟨u,hu,h3,hb2.1⟩⟩,hb.2⟩
theorem cfl_en {v:Nat} (h:cfl n a m v=true):enI n a m v=true:=by
 simp only[cfl,Bool.and_eq_true] at h;simp only[enI,h.1,h.2]
theorem stay (hn:∀v,v<n->cfl n a m v=false) (hc:Chs n a m s) {v:Nat} (hv:v<n) (hm:m v=true):stI s m v=true:=by
 cases e:s v with
 | false=>simp[stI,e,hm]
 | true =>
   obtain⟨_,he⟩:=hc.en v e;simp only[enI,hm] at he;have:=hn v hv;simp[cfl,hm,he] at this
theorem en_back (hn:∀v,v<n->cfl n a m v=false) (hn2:∀v,v<n->cfl n a (stI s m) v=false) (hc:Chs n a m s) {v:Nat} (hv:v<n) (h:enI n a (stI s m) v=true):enI n a m v=true/\s v=false:=by
 have hm':stI s m v=false:=by
  cases e:stI s m v with
  | false=>rfl
  | true =>
    simp only[enI,e] at h;have:=hn2 v hv;simp[cfl,e,h] at this
 have hm:m v=false:=by
  cases e:m v with
  | false=>rfl
  | true=>rw[stay hn hc hv e] at hm';cases hm'
 have hs:s v=false:=by
  cases e:s v with
  | false=>rfl
  | true=>simp[stI,e,hm] at hm'
 refine⟨?_,hs⟩;simp only[enI,hm',Bool.not_eq_true'] at h;simp only[enI,hm,Bool.not_eq_true'];rw[Bool.eq_false_iff] at h ⊢;intro hb;obtain⟨u,hu,h3,h4⟩:=nbM_iff.1 hb;exact h (nbM_iff.2 ⟨u,hu,h3,stay hn hc hu h4⟩)
structure IInv (n:Nat) (a:Nat->Nat->Bool) (m p:St) (r:Nat):Prop where
 r0:r=0->∀v,v<n->cfl n a m v=true->p v=true
 r1:1<=r->∀v,v<n->cfl n a m v=false
 r2:r=1->∀v,v<n->enI n a m v=true->p v=true
 r3:2<=r->∀v,v<n->enI n a m v=false
def left (n:Nat) (a:Nat->Nat->Bool) (m p s:St):St:=fun v=>p v&&!s v&&enI n a (stI s m) v
theorem IInv.same (ha:Adj n a) (hc:Chs n a m s) {p:St} {r:Nat} (h:IInv n a m p r) (hr:r<=1):IInv n a (stI s m) (left n a m p s) r:=by
 refine⟨fun e v hv hf=>?_,fun e v hv=>?_,fun e v hv he=>?_,fun e=>by omega⟩
 . obtain⟨h1,h2⟩:=cfl_back ha hc hv hf;simp[left,h.r0 e v hv h1,h2,cfl_en hf]
 . cases hf:cfl n a (stI s m) v with
   | false=>rfl
   | true=>have:=h.r1 e v hv;rw[(cfl_back ha hc hv hf).1] at this;cases this
 . have hn2:∀v,v<n->cfl n a (stI s m) v=false:=fun v hv=>by
    cases hf:cfl n a (stI s m) v with
    | false=>rfl
    | true=>have:=h.r1 (by omega) v hv;rw[(cfl_back ha hc hv hf).1] at this;cases this
   obtain⟨h1,h2⟩:=en_back (h.r1 (by omega)) hn2 hc hv he;simp[left,h.r2 e v hv h1,h2,he]
theorem IInv.next (ha:Adj n a) (hc:Chs n a m s) {p:St} {r:Nat} (h:IInv n a m p r) (hr:r<=1) (h0:∀v,v<n->left n a m p s v=false):IInv n a (stI s m) (enI n a (stI s m)) (r+1):=by
 have hs:=h.same ha hc hr;refine⟨fun e=>by omega,fun _ v hv=>?_,fun _ v hv he=>he,fun e v hv=>?_⟩
 . cases hf:cfl n a (stI s m) v with
   | false=>rfl
   | true =>
     rcases (show r=0\/1<=r by omega) with e|e
     . have:=hs.r0 e v hv hf;rw[h0 v hv] at this;cases this
     . rw[hs.r1 e v hv] at hf;cases hf
 . cases he:enI n a (stI s m) v with
   | false=>rfl
   | true=>have:=hs.r2 (by omega) v hv he;rw[h0 v hv] at this;cases this
end Go.Plain
namespace Go.Proofs.YtbceaajfhcgnjaaGreat
open Go.Eng
set_option maxRecDepth 100000
set_option linter.unusedVariables false
def mT:Tm:=.leaf 5 0
def smT:Tm:=.agg 21 (.leaf 12 0)
def pInd:Pr:=⟨ByteArray.mk #[105,110,100,101,112,101,110,100,101,110,116],vM,[⟨ByteArray.mk #[108,101,97,118,101],.bin 41 mT smT,[(0,.leaf 3 0)]⟩,
 ⟨ByteArray.mk #[101,110,116,101,114],.bin 41 (.un 19 mT) (.un 19 smT),[(0,.leaf 2 0)]⟩]⟩
theorem itru_ne (b:Bool):(truI b≠0)↔b=true:=by cases b<;>simp[truI]
theorem itru_eq0 (b:Bool):(truI b=0)↔b=false:=by cases b<;>simp[truI]
abbrev adN (g:G):Nat->Nat->Bool:=adj g
def isBool (c:Cf) (n x:Nat):Prop:=∀v,v<n->gI (gC c v) x=0\/gI (gC c v) x=1
theorem one_tru {c:Cf} {n x:Nat} (h:isBool c n x) {v:Nat} (hv:v<n):gI (gC c v) x=truI (one c x v):=by
 rcases h v hv with e|e<;>simp[one,e,truI]
theorem cnt_pos_iff (l:List Int):0<cntI l↔∃a∈l,a≠0:=by
 rw[cntI,List.countP_pos_iff];simp only[decide_eq_true_eq]
theorem gF_of_mem {l:List (Int×Int)} {a:Int×Int} (h:a∈l):∃i,i<l.length/\gF l i=a:=by
 obtain⟨i,hi,e⟩:=List.mem_iff_getElem.1 h;exact⟨i,hi,by simp[gF,List.getD,hi,e]⟩
theorem some_sem {g:G} (hg:g.valid=true) {c:Cf} (x:Nat) (hb:isBool c g.ids.length x) {v:Nat} (hv:v<g.ids.length) (port:Int) :
 (Tm.agg 21 (.leaf 12 x)).sem g c v port=truI (Go.Plain.nbM g.ids.length (adN g) (one c x) v):=by
 obtain⟨f1,f2,f3,f4,f5,f6,f7⟩:=val_facts hg;have hok:=(okR_iff.1 (f6 v (by omega))).1;show truI (decide (0<cntI ((List.range (gR g.ports v).length).map fun(i:Nat)=>gI (gC c (nbV g v i)) x)))=_;congr 1;rw[Bool.eq_iff_iff,decide_eq_true_eq,cnt_pos_iff,Go.Plain.nbM_iff];constructor
 . rintro⟨a,ha,h0⟩;obtain⟨i,hi,rfl⟩:=List.mem_map.1 ha;rw[List.mem_range] at hi;have hm:=gF_mem hi;have:=hok _ hm;refine⟨nbV g v i,by simp only[nbV,Int.toNat_natCast];omega,adj_iff.2 ⟨_,hm,by simp[nbV]⟩,?_⟩;rw[one,decide_eq_true_eq];rcases hb (nbV g v i) (by simp only[nbV,Int.toNat_natCast];omega) with e|e
   . exact(h0 e).elim
   . exact e
 . rintro⟨u,hu,h1,h2⟩;obtain⟨l,hl,e⟩:=adj_iff.1 h1;obtain⟨i,hi,e2⟩:=gF_of_mem hl;refine⟨_,List.mem_map.2 ⟨i,List.mem_range.2 hi,rfl⟩,?_⟩;rw[one,decide_eq_true_eq] at h2;have:nbV g v i=u:=by simp only[nbV,Int.toNat_natCast];rw[e2];exact e
   rw[this,h2];decide
theorem ind_gds {g:G} (hg:g.valid=true) {c:Cf} (hb:isBool c g.ids.length 0) {v:Nat} (hv:v<g.ids.length) :
 gds pInd g c v=[truI (one c 0 v&&Go.Plain.nbM g.ids.length (adN g) (one c 0) v),truI (!one c 0 v&&!Go.Plain.nbM g.ids.length (adN g) (one c 0) v)]:=by
 have e0:mT.sem g c v (-1)=truI (one c 0 v):=one_tru hb hv;have es:smT.sem g c v (-1)=truI (Go.Plain.nbM g.ids.length (adN g) (one c 0) v):=some_sem hg 0 hb hv (-1);have e1:(Tm.bin 41 mT smT).sem g c v (-1)=truI (one c 0 v&&Go.Plain.nbM g.ids.length (adN g) (one c 0) v):=by
  show truI (decide (mT.sem g c v (-1)≠0/\smT.sem g c v (-1)≠0))=_;rw[e0,es];congr 1;simp only[itru_ne,Bool.decide_and,Bool.decide_eq_true]
 have e2:(Tm.bin 41 (.un 19 mT) (.un 19 smT)).sem g c v (-1)=truI (!one c 0 v&&!Go.Plain.nbM g.ids.length (adN g) (one c 0) v):=by
  show truI (decide (truI (decide (mT.sem g c v (-1)=0))≠0/\truI (decide (smT.sem g c v (-1)=0))≠0))=_;rw[e0,es];congr 1;simp only[itru_ne,itru_eq0,decide_eq_true_eq];cases one c 0 v<;>cases Go.Plain.nbM g.ids.length (adN g) (one c 0) v<;>rfl
 exact congr (congrArg List.cons e1) (congrArg (fun x=>[x]) e2)
theorem ind_rule {g:G} (hg:g.valid=true) {c:Cf} (hb:isBool c g.ids.length 0) {v:Nat} (hv:v<g.ids.length) :
 ruleI pInd g c v=if one c 0 v=true/\Go.Plain.nbM g.ids.length (adN g) (one c 0) v=true then 0 else if one c 0 v=false/\Go.Plain.nbM g.ids.length (adN g) (one c 0) v=false then 1 else -1:=by
 rw[ruleI,ind_gds hg hb hv];cases one c 0 v<;>cases Go.Plain.nbM g.ids.length (adN g) (one c 0) v<;>rfl
theorem ind_en {g:G} (hg:g.valid=true) {c:Cf} (hb:isBool c g.ids.length 0) {v:Nat} (hv:v<g.ids.length):(enN pInd g c).testBit v=Go.Plain.enI g.ids.length (adN g) (one c 0) v:=by
 rw[en_bit,decide_eq_true hv,Bool.true_and,ind_rule hg hb hv,Go.Plain.enI];cases one c 0 v<;>cases Go.Plain.nbM g.ids.length (adN g) (one c 0) v<;>rfl
theorem ind_bool {g:G} {c:Cf} (h:Conf pInd g c):isBool c g.ids.length 0:=fun v hv=>by
 have:=h.val v (by rw[h.len];exact hv) 0 (by decide);have e:bnd g (gV pInd.vars 0) v=(0,1):=rfl;rw[e] at this;have h1:=this.1;have h2:=this.2;simp only at h1 h2;omega
end Go.Proofs.YtbceaajfhcgnjaaGreat
namespace Go.Proofs.YtbceaajfhcgnjaaGreat
open Go.Eng
set_option maxRecDepth 100000
set_option linter.unusedVariables false
def l01:List Int:=[0,1]
def netL (n:Int) (l:List Int):V:=.agg [.int .i64 n,.fz l.length 1 false (vI l),.nilslice,.nilslice,.bool false,.bool false]
def t3:G:=⟨[0,1,2],[[(1,1)],[(0,1),(2,1)],[(1,1)]]⟩
theorem at01_0:Ret Tryz.prog 21 [.fz 2 1 false (vI l01),.int .i64 0] (.int .i64 0):=at_ok l01 (by decide) 0
theorem at01_1:Ret Tryz.prog 21 [.fz 2 1 false (vI l01),.int .i64 1] (.int .i64 1):=at_ok l01 (by decide) 1
theorem w_0_1:Ret Tryz.prog 20 [.int .i64 0,.int .i64 1] (.int .i64 0):=within_ok 0 1 (by decide)
theorem w_1_2:Ret Tryz.prog 20 [.int .i64 1,.int .i64 2] (.int .i64 1):=within_ok 1 2 (by decide)
set_option maxHeartbeats 4000000 in
theorem tree3:Ret Tryz.prog 35 [netL 3 l01,.int .i64 3] t3.v:=by
 refine ret_frz2 rfl ?_;refine fn_rule mixed Tryz.func35 rfl hc35 hr35 rfl ?_
 repeat' ((conv=>whnf);first|(refine MkS.cells ?_)|(refine Bd.mk 3 (by decide) (by omega) ?_)|(refine Sv.mk 1 (by decide) ?_)|(refine Sv.mk 2 (by decide) ?_)|(refine Br.tt ?_)|(refine Br.ff ?_)|(refine Ar.i64 (by omega) (by omega) ?_)|(refine Nz.mk (by omega) ?_)|(refine Ix.mk 0 rfl (by omega) ?_)|(refine Ix.mk 1 rfl (by omega) ?_)|(refine Ix.int (by omega) (by omega) ?_)|(refine Len.mk (by omega) ?_)|(refine Ltn.mk (by omega) ?_)|(refine And.intro rfl ?_)|(refine fn_rule mixed Tryz.func19 rfl hc19 hr19 rfl ?_)|(refine fn_rule mixed Tryz.func44 rfl hc44 hr44 rfl ?_)|(refine fn_rule mixed Tryz.func69 rfl hc69 hr69 rfl ?_)|(refine w_2_3.go ?_)|(refine w_0_256.go ?_)|(refine w_0_15.go ?_)|(refine w_0_1.go ?_)|(refine w_1_2.go ?_)|(refine at01_0.go ?_)|(refine at01_1.go ?_)|(refine loop_fuel mixed 20 ?_)|(refine call_frz [] (at_nil 0) ⟨VLe.nilfz rfl,VLe.int (by omega),True.intro⟩ ?_)|(refine call_frz [] (at_nil 1) ⟨VLe.nilfz rfl,VLe.int (by omega),True.intro⟩ ?_)|(refine call_frz [] (at_nil 2) ⟨VLe.nilfz rfl,VLe.int (by omega),True.intro⟩ ?_))
 all_goals (conv=>whnf)
 refine VLe.agg ⟨VLe.fz rfl (fun h=>h) (fun i j hi hj=>?_),VLe.fz rfl (fun h=>h) (fun i j hi hj=>?_),True.intro⟩
 . rcases i with _|_|_|i
   all_goals first|(exfalso;omega)|(rcases j with _|j;exact VLe.rfl;exfalso;omega)
 . rcases i with _|_|_|i
   all_goals first|(exfalso;omega)|skip
   all_goals
    obtain rfl:j=0:=by omega
    conv=>arg 1;whnf
    conv=>arg 2;whnf
    refine VLe.fz rfl (fun h=>h) (fun i j hi hj=>?_);rcases i with _|_|i
    all_goals first|(exfalso;omega)|(rcases j with _|_|j;exact VLe.rfl;exact VLe.rfl;exfalso;omega)
theorem t3_small:t3.Small:=⟨by decide,by decide,by decide⟩
theorem two_le (a b:Int) (f:Nat->Nat->V) (h0:f 0 0=.int .i64 a) (h1:f 1 0=.int .i64 b):∀i j:Nat,i<2->j<1->VLe (f i j) (vI [a,b] i j):=by
 intro i j hi hj;have e':j=0:=by omega
 subst e';rcases i with _|_|i
 . rw[h0];exact VLe.rfl
 . rw[h1];exact VLe.rfl
 . exfalso;omega
end Go.Proofs.YtbceaajfhcgnjaaGreat
namespace Go.Proofs.YtbceaajfhcgnjaaGreat
open Go.Eng
set_option maxRecDepth 100000
set_option linter.unusedVariables false
theorem kfit_ok (g:G) (hs:g.Small):Ret Tryz.prog 88 [g.v] (.bool g.valid):=by
 have h:=valid_ok g hs;refine ret_frz rfl ?_;refine fn_rule mixed Tryz.func88 rfl hc88 hr88 rfl ?_
 repeat' ((conv=>whnf);first|(refine h.go ?_)|(refine Br.any (fun _=>?_) (fun _=>?_)))
 all_goals (conv=>whnf)
 all_goals exact VLe.bool (Eq.symm (by assumption))
def vK:List Vr:=[⟨ByteArray.mk #[109],2,0,0,0,0⟩,⟨ByteArray.mk #[104],3,0,0,0,0⟩]
theorem pointer_ok (s:ByteArray):Ret Tryz.prog 23 [.str s] (.agg [.str s,.int .i64 3,.int .i64 0,.int .i64 0,.int .i64 0,.int .i64 0]):=by
 refine ret_frz rfl ?_;refine fn_rule mixed Tryz.func23 rfl hc23 hr23 rfl ?_
 repeat' ((conv=>whnf);first|fail)
 all_goals (conv=>whnf)
 all_goals exact VLe.rfl
theorem kvars_ok:Ret Tryz.prog 6 [] (.fz vK.length 6 false (vV vK)):=by
 refine ret_frz rfl ?_;refine fn_rule mixed Tryz.func6 rfl hc6 hr6 rfl ?_
 repeat' ((conv=>whnf);first|(refine Len.mk (by omega) ?_)|(refine(truth_ok _).go ?_)|(refine(pointer_ok _).go ?_))
 all_goals (conv=>whnf)
 refine VLe.fz rfl (fun h=>h) (fun i j hi hj=>?_);rcases i with _|_|i
 all_goals try (exfalso;omega)
 all_goals
  rcases j with _|_|_|_|_|_|j
  all_goals first|(exfalso;omega)|exact VLe.rfl
theorem vK_ok:VOk vK:=⟨by decide,fun x=>by
 rcases x with _|_|x
 . exact⟨by decide,by decide,by decide,by decide,by decide,by decide⟩
 . exact⟨by decide,by decide,by decide,by decide,by decide,by decide⟩
 . exact⟨by simp[gV,vK,default],by simp[gV,vK,default],by simp[gV,vK,default],by simp[gV,vK,default],by simp[gV,vK,default],by simp[gV,vK,default]⟩⟩
def bK (g:G) (v x:Nat):Int×Int:=if x=0 then (0,1) else (-1,((gR g.ports v).length:Int)-1)
def G.kconf (g:G) (c:Cf):Bool:=conf g.ids.length 2 (bK g) c
theorem kconf_g (g:G) (c:Cf):conf g.ids.length [(1:Int),-1].length (bG g [1,-1]) c=g.kconf c:=conf_ext (fun v x hv hx=>by
 have e:x=0\/x=1:=by simp at hx;omega
 rcases e with rfl|rfl<;>rfl)
theorem kconf_facts {g:G} {c:Cf} (h:g.kconf c=true):c.length=g.ids.length/\∀v,v<c.length->(gC c v).length=2/\0<=gI (gC c v) 0/\gI (gC c v) 0<=1/\-1<=gI (gC c v) 1/\gI (gC c v) 1<(gR g.ports v).length:=by
 have:=conf_iff.1 h;refine⟨this.1,fun v hv=>?_⟩;have h2:=this.2 v (by omega);have h3:=h2.2 0 (by omega);have h4:=h2.2 1 (by omega);simp only[bK,if_true,Nat.one_ne_zero,if_false] at h3 h4;omega
theorem kconfiguration_ok (g:G) (hs:g.Small) (c:Cf) (hc:CSmall c):Ret Tryz.prog 56 [g.v,cV c] (.bool (g.valid&&g.kconf c)):=by
 have hval:=kfit_ok g hs;refine ret_frz rfl ?_;refine fn_rule mixed Tryz.func56 rfl hc56 hr56 rfl ?_;by_cases hg:g.valid=true
 . rw[hg] at hval ⊢;rw[Bool.true_and];obtain⟨f1,f2,f3,f4,f5,f6,f7⟩:=val_facts hg;have hb:=bconf_ok g hs f3 c hc [1,-1] (by decide);rw[kconf_g] at hb
   repeat' ((conv=>whnf);first|(refine Br.tt ?_)|(refine hval.go ?_)|(refine call_frz [1] hb ⟨by decide,VLe.rfl,VLe.rfl,VLe.fz rfl (fun h=>h) (two_le _ _ _ rfl rfl),True.intro⟩ ?_)|(refine Br.any (fun _=>?_) (fun _=>?_)))
   all_goals (conv=>whnf)
   all_goals exact VLe.bool (Eq.symm (by assumption))
 . simp only[Bool.not_eq_true] at hg;rw[hg] at hval ⊢;rw[Bool.false_and]
   repeat' ((conv=>whnf);first|(refine Br.ff ?_)|(refine hval.go ?_))
   all_goals (conv=>whnf)
   all_goals exact VLe.rfl
def sumR (p:List (List (Int×Int))):Nat->Nat
 | 0=>0
 | v+1=>sumR p v+(gR p v).length
def G.size (g:G):V:=if g.valid then .tup [.int .i64 g.ids.length,.int .i64 ((sumR g.ports g.ports.length:Int).tdiv 2)] else .tup [.int .i64 0,.int .i64 0]
theorem same34_ok (a b:List Int) (ha:a.length<=1000000) (hb:b.length<=1000000):Ret Tryz.prog 37 [.fz a.length 1 false (vI a),.fz b.length 1 false (vI b)] (.bool (decide (a=b))):=by
 refine ret_frz rfl ?_;refine fn_rule mixed Tryz.func37 rfl hc37 hr37 rfl ?_
 repeat' ((conv=>whnf);first|(refine Br.bne ?_ ?_<;>intro _<;>try omega))
 all_goals (conv=>whnf)
 . exact VLe.bool (by rw[decide_eq_false (fun h=>by subst h;omega)])
 refine loop_r mixed [0,1] (fun i:Nat=>[(5,.int .i64 i)]) (fun m i=>m=a.length-i/\i<=a.length/\∀j,j<i->gI a j=gI b j) a.length 0 ⟨rfl,Nat.zero_le _,fun j hj=>by omega⟩ ?_ ?_
 . exact weak_b (fun _ _=>[])
 rintro m i ⟨hm,hi,hall⟩
 repeat' ((conv=>whnf);first|(refine Br.dec ?_ ?_<;>intro _<;>try omega)|(refine Br.bne ?_ ?_<;>intro _<;>try omega)|(refine Ar.i64 (by omega) (by omega) ?_)|(refine Ix.nat (by omega) ?_))
 all_goals (conv=>whnf)
 . rename_i hne;exact VLe.bool (by rw[decide_eq_false (fun h=>by subst h;exact hne rfl)])
 . refine⟨a.length-(i+1),i+1,by omega,⟨rfl,by omega,fun j hj=>?_⟩,?_⟩
   . by_cases e:j=i
     . subst e;assumption
     . exact hall j (by omega)
   . exact weak_b (fun _ _=>[])
 . have e:a=b:=List.ext_getElem (by omega) (fun j h1 h2=>by
    have:=hall j (by omega);simpa[gI,List.getD,List.getElem?_eq_getElem h1,List.getElem?_eq_getElem h2] using this)
   exact VLe.bool (by rw[decide_eq_true e])
end Go.Proofs.YtbceaajfhcgnjaaGreat
namespace Go.Proofs.YtbceaajfhcgnjaaGreat
open Go.Eng
set_option maxRecDepth 100000
set_option linter.unusedVariables false
def fpL (p:Int×Int->Bool):List (Int×Int)->Nat->Int
 | [],_=>-1
 | l::r,k=>if p l then k else fpL p r (k+1)
def pd (c:Cf) (l:Int×Int):Bool:=decide (gI (gC c l.1.toNat) 0=1)
def kport (g:G) (c:Cf) (v:Nat):Int:=if gI (gC c v) 0=0 then fpL (pd c) (gR g.ports v) 0 else -1
def kgood (g:G) (c:Cf):Bool:=decide (∀v,v<c.length->gI (gC c v) 1=kport g c v)
def G.klegit (g:G) (c:Cf):Bool:=g.valid&&g.kconf c&&mx g (one c 0)&&kgood g c
theorem kgood_no {g:G} {c:Cf} {v:Nat} (hv:v<c.length) (h:gI (gC c v) 1≠kport g c v):kgood g c=false:=by
 rw[kgood,decide_eq_false_iff_not];exact fun hh=>h (hh v hv)
theorem kF_drop {r:List (Int×Int)} {i:Nat} (h:i<r.length):r.drop i=gF r i::r.drop (i+1):=by
 rw[List.drop_eq_getElem_cons h];simp only[gF,List.getD,List.getElem?_eq_getElem h,Option.getD_some]
theorem fpL_yes {p:Int×Int->Bool} {r:List (Int×Int)} {i:Nat} (h:i<r.length) (hp:p (gF r i)=true):fpL p (r.drop i) i=i:=by
 rw[kF_drop h,fpL,if_pos hp]
theorem fpL_no {p:Int×Int->Bool} {r:List (Int×Int)} {i:Nat} (h:i<r.length) (hp:p (gF r i)=false):fpL p (r.drop i) i=fpL p (r.drop (i+1)) (i+1):=by
 rw[kF_drop h,fpL,if_neg (by simp[hp])]
theorem fpL_end {p:Int×Int->Bool} {r:List (Int×Int)} {i:Nat} (h:r.length<=i):fpL p (r.drop i) i=-1:=by
 rw[List.drop_eq_nil_of_le h];rfl
set_option maxHeartbeats 8000000 in
theorem klegit_ok (g:G) (hs:g.Small) (c:Cf) (hc:CSmall c):Ret Tryz.prog 36 [g.v,cV c] (.bool (g.klegit c)):=by
 have h1:=kconfiguration_ok g hs c hc;refine ret_frz rfl ?_;refine fn_rule mixed Tryz.func36 rfl hc36 hr36 rfl ?_;rw[G.klegit];by_cases hg:(g.valid&&g.kconf c)=true
 . rw[hg] at h1 ⊢;rw[Bool.true_and];rw[Bool.and_eq_true] at hg;obtain⟨f1,f2,f3,f4,f5,f6,f7⟩:=val_facts hg.1;obtain⟨e1,e2⟩:=kconf_facts hg.2;have h2:=true_ok c 0 (by omega) (fun v hv=>by have:=e2 v hv;omega);have h3:=maximal_ok g hs hg.1 (one c 0);rw[show c.length=g.ports.length by omega] at h2;cases hmx:mx g (one c 0) with
   | false =>
     rw[hmx] at h3;rw[Bool.false_and]
     repeat' ((conv=>whnf);first|(refine Br.tt ?_)|(refine Br.ff ?_)|(refine h1.go ?_)|(refine h2.go ?_)|(refine h3.go ?_)|(refine And.intro rfl ?_))
     all_goals (conv=>whnf)
     all_goals exact VLe.rfl
   | true =>
     rw[hmx] at h3;rw[Bool.true_and]
     repeat' ((conv=>whnf);first|(refine Br.tt ?_)|(refine h1.go ?_)|(refine h2.go ?_)|(refine h3.go ?_)|(refine And.intro rfl ?_))
     all_goals (conv=>whnf)
     refine loop_r mixed [2,3,19,20] (fun i:Nat=>[(21,.int .i64 i)]) (fun m v=>m=c.length-v/\v<=c.length/\∀u,u<v->gI (gC c u) 1=kport g c u) c.length 0 ⟨rfl,Nat.zero_le _,fun u hu=>by omega⟩ ?_ ?_
     . exact weak_b (fun _ _=>[(0,some 0),(1,some 1)])
     rintro m v ⟨hm,hv,hall⟩;have e2v:=e2 v;have hrl:=gR_len hs.rows v
     repeat' ((conv=>whnf);first|(refine Br.dec ?_ ?_<;>intro _<;>try omega)|(refine Br.bne ?_ ?_<;>intro _<;>try omega)|(refine Ar.i64 (by omega) (by omega) ?_)|(refine Ix.nat (by omega) ?_)|(refine Ix.mk 0 rfl (by omega) ?_)|(refine Ix.mk 1 rfl (by omega) ?_)|(refine fn_rule mixed Tryz.func59 rfl hc59 hr59 rfl ?_))
     all_goals (conv=>whnf)
     . refine loop_r mixed [2,13,14] (fun i:Nat=>[(15,.int .i64 i)]) (fun m i=>m=(gR g.ports v).length-i/\i<=(gR g.ports v).length/\fpL (pd c) (gR g.ports v) 0=fpL (pd c) ((gR g.ports v).drop i) i) (gR g.ports v).length 0 ⟨rfl,Nat.zero_le _,rfl⟩ ?_ ?_
       . exact weak_b (fun _ _=>[(0,some 0),(1,some 1),(2,some 2)])
       rintro m i ⟨hm,hi,hfp⟩;have hto:=fun h=>okR_to (f6 v (by omega)) (i:=i) h;have e2t:=e2 (gF (gR g.ports v) i).1.toNat
       repeat' ((conv=>whnf);first|(refine Br.tt ?_)|(refine Br.ff ?_)|(refine Br.dec ?_ ?_<;>intro _<;>try omega)|(refine Br.bne ?_ ?_<;>intro _<;>try omega)|(refine Ar.i64 (by omega) (by omega) ?_)|(refine Ix.nat (by omega) ?_)|(refine Ix.mk 0 rfl (by omega) ?_)|(refine Ix.mk 1 rfl (by omega) ?_)|(refine Ix.int (by omega) (by omega) ?_)|(refine Chk.mk (by kernel_rfl) ?_)|(refine fn_rule mixed Tryz.func60 rfl hc60 hr60 rfl ?_))
       all_goals (conv=>whnf)
       . have hk:kport g c v=i:=by rw[kport,if_pos (by assumption),hfp];exact fpL_yes (by omega) (by rw[pd,decide_eq_true_eq];assumption)
         exact VLe.bool (kgood_no (v:=v) (by omega) (by rw[hk];assumption)).symm
       . have hk:kport g c v=i:=by rw[kport,if_pos (by assumption),hfp];exact fpL_yes (by omega) (by rw[pd,decide_eq_true_eq];assumption)
         refine⟨c.length-(v+1),v+1,by omega,⟨rfl,by omega,fun u hu=>?_⟩,?_⟩
         . by_cases e:u=v
           . subst e;rw[hk];assumption
           . exact hall u (by omega)
         . exact weak_b (fun _ _=>[(0,some 0),(1,some 1)])
       . refine⟨(gR g.ports v).length-(i+1),i+1,by omega,⟨rfl,by omega,?_⟩,?_⟩
         . rw[hfp];exact fpL_no (by omega) (by rw[pd,decide_eq_false_iff_not];assumption)
         . exact weak_b (fun _ _=>[(0,some 0),(1,some 1),(2,some 2)])
       . have hk:kport g c v=-1:=by rw[kport,if_pos (by assumption),hfp];exact fpL_end (by omega)
         exact VLe.bool (kgood_no (v:=v) (by omega) (by rw[hk];assumption)).symm
       . have hk:kport g c v=-1:=by rw[kport,if_pos (by assumption),hfp];exact fpL_end (by omega)
         refine⟨c.length-(v+1),v+1,by omega,⟨rfl,by omega,fun u hu=>?_⟩,?_⟩
         . by_cases e:u=v
           . subst e;rw[hk];assumption
           . exact hall u (by omega)
         . exact weak_b (fun _ _=>[(0,some 0),(1,some 1)])
     . have hk:kport g c v=-1:=by rw[kport,if_neg (by assumption)]
       exact VLe.bool (kgood_no (v:=v) (by omega) (by rw[hk];assumption)).symm
     . have hk:kport g c v=-1:=by rw[kport,if_neg (by assumption)]
       refine⟨c.length-(v+1),v+1,by omega,⟨rfl,by omega,fun u hu=>?_⟩,?_⟩
       . by_cases e:u=v
         . subst e;rw[hk];assumption
         . exact hall u (by omega)
       . exact weak_b (fun _ _=>[(0,some 0),(1,some 1)])
     . exact VLe.bool (by rw[kgood,decide_eq_true (fun u hu=>hall u (by omega))])
 . simp only[Bool.not_eq_true] at hg;rw[hg] at h1 ⊢;rw[Bool.false_and,Bool.false_and]
   repeat' ((conv=>whnf);first|(refine Br.ff ?_)|(refine h1.go ?_))
   all_goals (conv=>whnf)
   all_goals exact VLe.rfl
end Go.Proofs.YtbceaajfhcgnjaaGreat
namespace Go.Plain
structure Tgt (n:Nat) (a:Nat->Nat->Bool) (T:St->Nat->Int):Prop where
 loc:∀m m' v,v<n->m v=m' v->(∀u,u<n->a v u=true->m u=m' u)->T m v=T m' v
def ptE (T:St->Nat->Int) (m:St) (h:Nat->Int) (v:Nat):Bool:=decide (h v≠T m v)
def enC (n:Nat) (a:Nat->Nat->Bool) (T:St->Nat->Int) (m:St) (h:Nat->Int) (v:Nat):Bool:=enI n a m v || ptE T m h v
def mS (n:Nat) (a:Nat->Nat->Bool) (m s:St):St:=fun v=>s v&&enI n a m v
def stM (n:Nat) (a:Nat->Nat->Bool) (m s:St):St:=stI (mS n a m s) m
def stH (n:Nat) (a:Nat->Nat->Bool) (T:St->Nat->Int) (m s:St) (h:Nat->Int):Nat->Int:=fun v=>if s v=true/\enI n a m v=false then T m v else h v
structure ChsC (n:Nat) (a:Nat->Nat->Bool) (T:St->Nat->Int) (m s:St) (h:Nat->Int):Prop where
 en:∀v,s v=true->v<n/\enC n a T m h v=true
 ind:∀u v,s u=true->s v=true->a u v=false
variable {n:Nat} {a:Nat->Nat->Bool} {T:St->Nat->Int} {m s:St} {h:Nat->Int}
theorem ChsC.low (hc:ChsC n a T m s h):Chs n a m (mS n a m s) :=
 ⟨fun v hv=>by simp only[mS,Bool.and_eq_true] at hv;exact⟨(hc.en v hv.1).1,hv.2⟩,fun u v hu hv=>by simp only[mS,Bool.and_eq_true] at hu hv;exact hc.ind u v hu.1 hv.1⟩
theorem mS_false {v:Nat} (he:enI n a m v=true) (hs:mS n a m s v=false):s v=false:=by
 simpa[mS,he] using hs
def leftC (n:Nat) (a:Nat->Nat->Bool) (T:St->Nat->Int) (m p s:St) (h:Nat->Int):St:=fun v=>p v&&!s v&&enC n a T (stM n a m s) (stH n a T m s h) v
structure CInv (n:Nat) (a:Nat->Nat->Bool) (T:St->Nat->Int) (m p:St) (h:Nat->Int) (r:Nat):Prop where
 r0:r=0->∀v,v<n->cfl n a m v=true->p v=true
 r1:1<=r->∀v,v<n->cfl n a m v=false
 r2:r=1->∀v,v<n->enI n a m v=true->p v=true
 r3:2<=r->∀v,v<n->enI n a m v=false
 r4:r=2->∀v,v<n->ptE T m h v=true->p v=true
 r5:3<=r->∀v,v<n->ptE T m h v=false
theorem enC_low {v:Nat} (he:enI n a m v=true):enC n a T m h v=true:=by simp[enC,he]
theorem stM_same (hn:∀v,v<n->enI n a m v=false) (hc:ChsC n a T m s h) (v:Nat):stM n a m s v=m v:=by
 have:mS n a m s v=false:=by
  cases e:mS n a m s v with
  | false=>rfl
  | true=>obtain⟨h1,h2⟩:=hc.low.en v e;rw[hn v h1] at h2;cases h2
 simp[stM,stI,this]
theorem nbM_same {m':St} (hm:∀v,v<n->m v=m' v) (v:Nat):nbM n a m v=nbM n a m' v:=by
 rw[Bool.eq_iff_iff,nbM_iff,nbM_iff];constructor<;>rintro⟨u,hu,h1,h2⟩
 . exact⟨u,hu,h1,by rw[<- hm u hu];exact h2⟩
 . exact⟨u,hu,h1,by rw[hm u hu];exact h2⟩
theorem CInv.same (ha:Adj n a) (hT:Tgt n a T) (hc:ChsC n a T m s h) {p:St} {r:Nat} (hi:CInv n a T m p h r) (hr:r<=2):CInv n a T (stM n a m s) (leftC n a T m p s h) (stH n a T m s h) r:=by
 have hl:=hc.low;have noc:1<=r->∀v,v<n->cfl n a (stM n a m s) v=false:=fun e v hv=>by
  cases hf:cfl n a (stM n a m s) v with
  | false=>rfl
  | true=>have:=hi.r1 e v hv;rw[(cfl_back ha hl hv hf).1] at this;cases this
 have noe:2<=r->∀v,v<n->enI n a (stM n a m s) v=false:=fun e v hv=>by
  have hs:=fun v=>stM_same (hi.r3 e) hc v;rw[enI,hs v,nbM_same (fun v _=>hs v)];exact hi.r3 e v hv
 refine⟨fun e v hv hf=>?_,noc,fun e v hv he=>?_,noe,fun e v hv hp=>?_,fun e=>by omega⟩
 . obtain⟨h1,h2⟩:=cfl_back ha hl hv hf;simp[leftC,hi.r0 e v hv h1,mS_false (cfl_en h1) h2,enC_low (cfl_en hf)]
 . obtain⟨h1,h2⟩:=en_back (hi.r1 (by omega)) (noc (by omega)) hl hv he;simp[leftC,hi.r2 e v hv h1,mS_false h1 h2,enC_low he]
 . have hn:=hi.r3 (by omega);have hs:=fun v=>stM_same hn hc v;have hTs:T (stM n a m s) v=T m v:=hT.loc _ _ v hv (hs v) (fun u _ _=>hs u);have hsv:s v=false:=by
    cases e2:s v with
    | false=>rfl
    | true=>simp[ptE,stH,e2,hn v hv,hTs] at hp
   have hp2:ptE T m h v=true:=by
    have:stH n a T m s h v=h v:=by simp[stH,hsv]
    rw[ptE,this,hTs] at hp;exact hp
   simp[leftC,hi.r4 e v hv hp2,hsv,enC,hp]
theorem CInv.next (ha:Adj n a) (hT:Tgt n a T) (hc:ChsC n a T m s h) {p:St} {r:Nat} (hi:CInv n a T m p h r) (hr:r<=2) (h0:∀v,v<n->leftC n a T m p s h v=false):CInv n a T (stM n a m s) (enC n a T (stM n a m s) (stH n a T m s h)) (stH n a T m s h) (r+1):=by
 have hs:=hi.same ha hT hc hr;refine⟨fun e=>by omega,fun _ v hv=>?_,fun _ v hv he=>enC_low he,fun e v hv=>?_,fun _ v hv hp=>by simp[enC,hp],fun e v hv=>?_⟩
 . cases hf:cfl n a (stM n a m s) v with
   | false=>rfl
   | true =>
     rcases (show r=0\/1<=r by omega) with e|e
     . have:=hs.r0 e v hv hf;rw[h0 v hv] at this;cases this
     . rw[hs.r1 e v hv] at hf;cases hf
 . cases he:enI n a (stM n a m s) v with
   | false=>rfl
   | true =>
     rcases (show r=1\/2<=r by omega) with e|e
     . have:=hs.r2 e v hv he;rw[h0 v hv] at this;cases this
     . rw[hs.r3 e v hv] at he;cases he
 . cases hp:ptE T (stM n a m s) (stH n a T m s h) v with
   | false=>rfl
   | true=>have:=hs.r4 (by omega) v hv hp;rw[h0 v hv] at this;cases this
def b1 (b:Bool):Nat:=if b then 1 else 0
end Go.Plain
namespace Go.Proofs.YtbceaajfhcgnjaaGreat
open Go.Eng
set_option maxRecDepth 100000
set_option linter.unusedVariables false
def tgT:Tm:=.ite mT (.leaf 4 0) (.agg 23 (.leaf 12 0))
def pClu:Pr:=⟨ByteArray.mk #[99,108,117,115,116,101,114],vK,[⟨ByteArray.mk #[108,101,97,118,101],.bin 41 mT smT,[(0,.leaf 3 0)]⟩,
 ⟨ByteArray.mk #[101,110,116,101,114],.bin 41 (.un 19 mT) (.un 19 smT),[(0,.leaf 2 0)]⟩,
 ⟨ByteArray.mk #[112,111,105,110,116],.bin 36 (.leaf 5 1) tgT,[(1,tgT)]⟩]⟩
def tgV (g:G) (m:Nat->Bool) (v:Nat):Int:=if m v=true then -1 else fpL (fun l=>m l.1.toNat) (gR g.ports v) 0
abbrev hh (c:Cf) (v:Nat):Int:=gI (gC c v) 1
theorem idx_fp {f:Int×Int->Int} {p:Int×Int->Bool}:∀{r:List (Int×Int)} {k:Nat},(∀l∈r,f l≠0↔p l=true)->idxI k (r.map f)=fpL p r k
 | [],_,_=>rfl
 | l::r,k,h=>by
   have h1:=h l (by simp);rw[List.map_cons,idxI,fpL,idx_fp (fun x hx=>h x (by simp[hx]))];by_cases e:p l=true
   . rw[if_pos (h1.2 e),if_pos e]
   . rw[if_neg (fun q=>e (h1.1 q)),if_neg e]
theorem range_row (r:List (Int×Int)) (f:Int->Int):((List.range r.length).map fun i=>f (gF r i).1)=r.map fun l=>f l.1:=by
 refine List.ext_getElem (by simp) fun i h1 h2=>?_;simp at h1;simp[gF,List.getD,h1]
theorem tg_sem {g:G} (hg:g.valid=true) {c:Cf} (hb:isBool c g.ids.length 0) {v:Nat} (hv:v<g.ids.length):tgT.sem g c v (-1)=tgV g (one c 0) v:=by
 obtain⟨f1,f2,f3,f4,f5,f6,f7⟩:=val_facts hg;have hok:=(okR_iff.1 (f6 v (by omega))).1;have e0:mT.sem g c v (-1)=truI (one c 0 v):=one_tru hb hv;show(if mT.sem g c v (-1)≠0 then (-1:Int) else idxI 0 ((List.range (gR g.ports v).length).map fun(i:Nat)=>gI (gC c (nbV g v i)) 0))=_;rw[e0,tgV];cases em:one c 0 v with
 | true=>rw[if_pos (by decide),if_pos rfl]
 | false =>
   rw[if_neg (by decide),if_neg (by simp)];have e:((List.range (gR g.ports v).length).map fun(i:Nat)=>gI (gC c (nbV g v i)) 0)=(gR g.ports v).map fun l=>gI (gC c l.1.toNat) 0:=by
    rw[<- range_row (gR g.ports v) (fun a=>gI (gC c a.toNat) 0)];simp only[nbV,Int.toNat_natCast]
   rw[e];refine idx_fp fun l hl=>?_;have:=hok l hl;rw[one,decide_eq_true_eq];rcases hb l.1.toNat (by omega) with q|q<;>simp[q]
theorem clu_bool {g:G} {c:Cf} (h:Conf pClu g c):isBool c g.ids.length 0:=fun v hv=>by
 have:=h.val v (by rw[h.len];exact hv) 0 (by decide);have e:bnd g (gV pClu.vars 0) v=(0,1):=rfl;rw[e] at this;have h1:=this.1;have h2:=this.2;simp only at h1 h2;omega
theorem clu_gds {g:G} (hg:g.valid=true) {c:Cf} (hb:isBool c g.ids.length 0) {v:Nat} (hv:v<g.ids.length) :
 gds pClu g c v=[truI (one c 0 v&&Go.Plain.nbM g.ids.length (adN g) (one c 0) v),truI (!one c 0 v&&!Go.Plain.nbM g.ids.length (adN g) (one c 0) v),truI (Go.Plain.ptE (tgV g) (one c 0) (hh c) v)]:=by
 have h2:=ind_gds hg hb hv;have e3:(Tm.bin 36 (.leaf 5 1) tgT).sem g c v (-1)=truI (Go.Plain.ptE (tgV g) (one c 0) (hh c) v):=by
  show truI (decide (hh c v≠tgT.sem g c v (-1)))=_;rw[tg_sem hg hb hv,Go.Plain.ptE]
 have e:gds pClu g c v=gds pInd g c v++[(Tm.bin 36 (.leaf 5 1) tgT).sem g c v (-1)]:=rfl;rw[e,h2,e3];rfl
theorem clu_rule {g:G} (hg:g.valid=true) {c:Cf} (hb:isBool c g.ids.length 0) {v:Nat} (hv:v<g.ids.length) :
 ruleI pClu g c v=if Go.Plain.enI g.ids.length (adN g) (one c 0) v=true then (if one c 0 v=true then 0 else 1) else if Go.Plain.ptE (tgV g) (one c 0) (hh c) v=true then 2 else -1:=by
 rw[ruleI,clu_gds hg hb hv,Go.Plain.enI];cases one c 0 v<;>cases Go.Plain.nbM g.ids.length (adN g) (one c 0) v<;>cases Go.Plain.ptE (tgV g) (one c 0) (hh c) v<;>rfl
theorem clu_en {g:G} (hg:g.valid=true) {c:Cf} (hb:isBool c g.ids.length 0) {v:Nat} (hv:v<g.ids.length):(enN pClu g c).testBit v=Go.Plain.enC g.ids.length (adN g) (tgV g) (one c 0) (hh c) v:=by
 rw[en_bit,decide_eq_true hv,Bool.true_and,clu_rule hg hb hv,Go.Plain.enC];cases Go.Plain.enI g.ids.length (adN g) (one c 0) v<;>cases Go.Plain.ptE (tgV g) (one c 0) (hh c) v<;>cases one c 0 v<;>rfl
end Go.Proofs.YtbceaajfhcgnjaaGreat
namespace Go.Eng
open Go.MapKept (bytes_beq)
noncomputable def fN {β:Type} (n:Nat) (K:Nat->β):β:=@Nat.rec (fun _=>β) (K 0) (fun m _=>K (Nat.succ m)) n
theorem fN_eq {β:Type} (n:Nat) (K:Nat->β):fN n K=K n:=by cases n<;>rfl
noncomputable def fI {β:Type} (n:Int) (K:Int->β):β:=@Int.rec (fun _=>β) (fun a=>fN a fun a=>K (.ofNat a)) (fun a=>fN a fun a=>K (.negSucc a)) n
theorem fI_eq {β:Type} (n:Int) (K:Int->β):fI n K=K n:=by cases n<;>simp[fI,fN_eq]
noncomputable def fB {β:Type} (b:Bool) (K:Bool->β):β:=@Bool.rec (fun _=>β) (K false) (K true) b
theorem fB_eq {β:Type} (b:Bool) (K:Bool->β):fB b K=K b:=by cases b<;>rfl
noncomputable def lk {α:Type} (l:List (Nat×α)) (t:Nat):Option α :=
 @List.rec (Nat×α) (fun _=>Option α) none (fun p _ ih=>@Prod.rec Nat α (fun _=>Option α) (fun k v=>@Bool.rec (fun _=>Option α) ih (some v) (Nat.beq k t)) p) l
theorem lk_eq {α:Type} (l:List (Nat×α)) (t:Nat):lk l t=look l t:=by
 induction l with
 | nil=>rfl
 | cons p r ih =>
   obtain⟨k,v⟩:=p;unfold look;show @Bool.rec (fun _=>Option α) (lk r t) (some v) (Nat.beq k t)=_;cases Nat.beq k t<;>simp[ih]
noncomputable def nt {α:Type} (l:List α) (n:Nat):Option α :=
 @List.rec α (fun _=>Nat->Option α) (fun _=>none) (fun x _ ih n=>@Nat.rec (fun _=>Option α) (some x) (fun m _=>ih m) n) l n
theorem nt_eq {α:Type} (l:List α) (n:Nat):nt l n=nth l n:=by
 induction l generalizing n with
 | nil=>rfl
 | cons x r ih=>cases n with
   | zero=>rfl
   | succ n=>exact ih n
theorem nth_get {α:Type}:∀(l:List α) (n:Nat),nth l n=l[n]?
 | [],n=>by simp[nth]
 | x::r,0=>by simp[nth]
 | x::r,n+1=>by simp[nth,nth_get r n]
noncomputable def dr {α:Type} (l:List α) (n:Nat):List α :=
 @List.rec α (fun _=>Nat->List α) (fun _=>[]) (fun x r ih n=>@Nat.rec (fun _=>List α) (x::r) (fun m _=>ih m) n) l n
theorem dr_eq {α:Type} (l:List α) (n:Nat):dr l n=l.drop n:=by
 induction l generalizing n with
 | nil=>simp[dr]
 | cons x r ih=>cases n with
   | zero=>rfl
   | succ n=>exact ih n
noncomputable def fH {α β:Type} (l:List α) (K:List α->β):β:=@List.rec α (fun _=>β) (K []) (fun x r _=>K (x::r)) l
theorem fH_eq {α β:Type} (l:List α) (K:List α->β):fH l K=K l:=by cases l<;>rfl
noncomputable def tk {α β:Type} (n:Nat):List α->(List α->Option β)->Option β :=
 @Nat.rec (fun _=>List α->(List α->Option β)->Option β) (fun _ K=>K []) (fun _ ih l K=>@List.rec α (fun _=>Option β) none (fun x r _=>ih r fun q=>K (x::q)) l) n
theorem tk_eq {α β:Type} (n:Nat) (l:List α) (K:List α->Option β):tk n l K=if n<=l.length then K (l.take n) else none:=by
 induction n generalizing l K with
 | zero=>simp only[Nat.zero_le,if_true,List.take_zero];rfl
 | succ n ih=>cases l with
   | nil=>rfl
   | cons x r =>
     show tk n r (fun q=>K (x::q))=_;rw[ih];simp
def bl:Nat->Nat->List UInt8
 | 0,_=>[]
 | l+1,c=>UInt8.ofNat (c % 256)::bl l (c / 256)
def bytesOf (l c:Nat):ByteArray:=⟨⟨bl l c⟩⟩
def encL:List UInt8->Nat
 | []=>0
 | b::r=>b.toNat+256*encL r
theorem bl_length:∀(l c:Nat),(bl l c).length=l
 | 0,_=>rfl
 | l+1,c=>by simp[bl,bl_length]
theorem bl_enc:∀(l:List UInt8),bl l.length (encL l)=l
 | []=>rfl
 | b::r=>by
   have hb:=b.toNat_lt;simp only[List.length_cons,bl,encL];rw[show(b.toNat+256*encL r) % 256=b.toNat by omega,show(b.toNat+256*encL r) / 256=encL r by omega,bl_enc r];simp
theorem bl_get:∀(l c m:Nat),m<l->(bl l c)[m]?=some (UInt8.ofNat (c / 256 ^ m % 256))
 | 0,c,m,h=>by omega
 | l+1,c,0,h=>by simp[bl]
 | l+1,c,m+1,h=>by
   simp only[bl,List.getElem?_cons_succ];rw[bl_get l _ m (by omega),Nat.div_div_eq_div_mul,Nat.pow_succ,Nat.mul_comm 256]
theorem bl_drop:∀(l c m:Nat),(bl l c).drop m=bl (l-m) (c / 256 ^ m)
 | 0,c,m=>by simp[bl]
 | l+1,c,0=>by simp
 | l+1,c,m+1=>by
   simp only[bl,List.drop_succ_cons];rw[bl_drop l _ m,Nat.div_div_eq_div_mul,Nat.pow_succ,Nat.mul_comm 256,show l+1-(m+1)=l-m by omega]
theorem bl_take:∀(l c m:Nat),m<=l->(bl l c).take m=bl m c
 | l,c,0,h=>by simp[bl]
 | 0,c,m+1,h=>by omega
 | l+1,c,m+1,h=>by simp[bl,bl_take l _ m (by omega)]
theorem bl_mod:∀(l c:Nat),bl l (c % 256 ^ l)=bl l c
 | 0,c=>rfl
 | l+1,c=>by
   simp only[bl];have h1:c % 256 ^ (l+1) % 256=c % 256:=by
    rw[Nat.pow_succ,Nat.mul_comm];exact Nat.mod_mul_right_mod _ _ _
   have h2:c % 256 ^ (l+1) / 256=c / 256 % 256 ^ l:=by
    rw[Nat.pow_succ,Nat.mul_comm,Nat.mod_mul_right_div_self]
   rw[h1,h2,bl_mod]
theorem bl_inj:∀(l c d:Nat),bl l c=bl l d->c % 256 ^ l=d % 256 ^ l
 | 0,c,d,_=>by simp[Nat.mod_one]
 | l+1,c,d,h=>by
   simp only[bl,List.cons.injEq] at h;have h1:c % 256=d % 256:=by
    have:=congrArg UInt8.toNat h.1;simpa using this
   have h2:=bl_inj l _ _ h.2;rw[Nat.pow_succ,Nat.mul_comm,Nat.mod_mul,Nat.mod_mul,h1,h2]
theorem bl_app:∀(l c l' c':Nat),bl l c++bl l' c'=bl (l+l') (c % 256 ^ l+256 ^ l*c')
 | 0,c,l',c'=>by simp[bl,Nat.mod_one]
 | l+1,c,l',c'=>by
   rw[show l+1+l'=(l+l')+1 by omega];simp only[bl,List.cons_append];rw[bl_app l _ l' c'];have e:c % 256 ^ (l+1)=c % 256+256*(c / 256 % 256 ^ l):=by
    rw[Nat.pow_succ,Nat.mul_comm (256 ^ l),Nat.mod_mul]
   have e2:256 ^ (l+1)*c'=256*(256 ^ l*c'):=by rw[Nat.pow_succ,Nat.mul_comm (256 ^ l),Nat.mul_assoc]
   rw[e,e2];have hlt:c % 256<256:=Nat.mod_lt _ (by omega);rw[show(c % 256+256*(c / 256 % 256 ^ l)+256*(256 ^ l*c')) % 256=c % 256 by omega,show(c % 256+256*(c / 256 % 256 ^ l)+256*(256 ^ l*c')) / 256=c / 256 % 256 ^ l+256 ^ l*c' by omega]
theorem bytesOf_size (l c:Nat):(bytesOf l c).size=l:=by
 show(bl l c).length=l;exact bl_length l c
theorem bytesOf_enc (b:ByteArray):bytesOf b.size (encL b.data.toList)=b:=by
 obtain⟨⟨l⟩⟩:=b;show ByteArray.mk ⟨bl l.length (encL l)⟩=_;rw[bl_enc]
theorem bytesOf_get (l c m:Nat) (h:m<l):((bytesOf l c).get! m).toNat=c / 256 ^ m % 256:=by
 have h1:=bl_get l c m h;show((bytesOf l c).data[m]!).toNat=_;have:(bytesOf l c).data[m]! = UInt8.ofNat (c / 256 ^ m % 256):=by
  rw[getElem!_def,show(bytesOf l c).data[m]?=some (UInt8.ofNat (c / 256 ^ m % 256)) from by simpa[bytesOf] using h1]
 rw[this];simp
theorem bytesOf_extract (l c lo hi:Nat) (h:hi<=l):(bytesOf l c).extract lo hi=bytesOf (hi-lo) (c / 256 ^ lo):=by
 apply ByteArray.ext;rw[ByteArray.data_extract];show(Array.mk (bl l c)).extract lo hi=Array.mk (bl (hi-lo) (c / 256 ^ lo));apply Array.ext';simp only[Array.toList_extract,List.extract_eq_take_drop];rw[bl_drop,bl_take _ _ _ (by omega)]
theorem bytesOf_mod (l c:Nat):bytesOf l (c % 256 ^ l)=bytesOf l c:=by unfold bytesOf;rw[bl_mod]
theorem bytesOf_app (l c l' c':Nat):bytesOf l c++bytesOf l' c'=bytesOf (l+l') (c % 256 ^ l+256 ^ l*c'):=by
 apply ByteArray.ext;rw[ByteArray.data_append];show Array.mk (bl l c)++Array.mk (bl l' c')=Array.mk _;simp[bl_app]
def eqS (l c l' c':Nat):Bool:=match Nat.beq l l' with
 | true=>Nat.beq (Nat.mod c (Nat.pow 256 l)) (Nat.mod c' (Nat.pow 256 l))
 | false=>false
theorem eqS_eq (l c l' c':Nat):eqS l c l' c'=(bytesOf l c == bytesOf l' c'):=by
 unfold eqS;have hb:(bytesOf l c == bytesOf l' c')=decide (bytesOf l c=bytesOf l' c'):=by
  rw[Bool.eq_iff_iff,bytes_beq];simp
 rw[hb];split
 . rename_i h;have h:=Nat.eq_of_beq_eq_true h;subst h;rw[Bool.eq_iff_iff,Nat.beq_eq,decide_eq_true_eq];constructor
   . intro h;have h:c % 256 ^ l=c' % 256 ^ l:=h;rw[<- bytesOf_mod l c,h,bytesOf_mod]
   . intro h;exact bl_inj l c c' (by simpa[bytesOf] using h)
 . rename_i h;symm;rw[decide_eq_false_iff_not];intro e;have:=congrArg ByteArray.size e;rw[bytesOf_size,bytesOf_size] at this;subst this;simp at h
inductive C where
 | nilptr|nilmap|nilfunc|niliface
 | unit
 | map (k:Nat)
 | fn (f:Fn) (b:Bool) (cap:List C)
 | iface (t:TypeId) (v:C)
 | fe (n s:Nat) (z:List C) (rows:List (List C)) (i j:Nat)
 | oel (k s i j:Nat)
 | fz (n s:Nat) (full:Bool) (z:List C) (rows:List (List C))
 | tup (vs:List C)
 | agg (cs:List C)
 | nilslice
 | vec (k s lo len:Nat)
 | loc (k off:Nat)
 | str (l c:Nat)
 | bool (b:Bool)
 | int (k:IntKind) (n:Int)
 deriving Inhabited
def lastV:List V->V
 | []=>default
 | [v]=>v
 | _::r=>lastV r
def tabz (z:List V) (rows:List (List V)):Nat->Nat->V:=fun i j=>(rows.getD i z).getD j (lastV z)
mutual
def C.v:C->V
 | .bool b=>.bool b
 | .int k n=>.int k n
 | .str l c=>.str (bytesOf l c)
 | .nilptr=>.nilptr | .nilslice=>.nilslice | .nilmap=>.nilmap | .nilfunc=>.nilfunc | .niliface=>.niliface
 | .loc k off=>.loc k off
 | .oel k s i j=>.oel k s i j
 | .vec k s lo len=>.vec k s lo len
 | .fz n s full z rows=>.fz n s full (tabz (C.vs z) (C.vss rows))
 | .fe n s z rows i j=>.fe n s (tabz (C.vs z) (C.vss rows)) i j
 | .map k=>.map k
 | .fn f b cap=>.fn f b (C.vs cap)
 | .iface t v=>.iface t v.v
 | .agg cs=>.agg (C.vs cs)
 | .tup cs=>.tup (C.vs cs)
 | .unit=>.raw (.tuple #[])
def C.vs:List C->List V
 | []=>[]
 | c::r=>c.v::C.vs r
def C.vss:List (List C)->List (List V)
 | []=>[]
 | c::r=>C.vs c::C.vss r
end
theorem C.vs_map:∀(l:List C),C.vs l=l.map C.v
 | []=>by simp[C.vs]
 | c::r=>by simp[C.vs,C.vs_map r]
theorem C.vss_map:∀(l:List (List C)),C.vss l=l.map C.vs
 | []=>by simp[C.vss]
 | c::r=>by simp[C.vss,C.vss_map r]
theorem C.vs_length (l:List C):(C.vs l).length=l.length:=by simp[C.vs_map]
theorem C.vs_get (l:List C) (i:Nat):(C.vs l)[i]?=(l[i]?).map C.v:=by simp[C.vs_map]
theorem C.vss_get (l:List (List C)) (i:Nat):(C.vss l)[i]?=(l[i]?).map C.vs:=by simp[C.vss_map]
abbrev CEnv:=List (Nat×C)
inductive CB where
 | cells (cs:List C)
 | vec (n s:Nat) (z:List C) (rows:List (List C))
 | map (ik:IntKind) (es:List (Int×C))
 | mapS (es:List ((Nat×Nat)×C))
 deriving Inhabited
abbrev COwn:=List (Nat×CB)
def CB.b:CB->Blk
 | .cells cs=>.cells (C.vs cs)
 | .vec n s z rows=>.vec n s (tabz (C.vs z) (C.vss rows))
 | .map ik es=>.map (.one ik) (es.map fun p=>(p.1,p.2.v))
 | .mapS es=>.map .str (es.map fun p=>(bytesOf p.1.1 p.1.2,p.2.v))
def envV (e:CEnv):Env:=e.map fun p=>(p.1,p.2.v)
def ownV (o:COwn):Own:=o.map fun p=>(p.1,p.2.b)
theorem look_map {α β:Type} (f:α->β) (l:List (Nat×α)) (t:Nat):look (l.map fun p=>(p.1,f p.2)) t=(look l t).map f:=by
 induction l with
 | nil=>rfl
 | cons p r ih =>
   simp only[List.map_cons,look];cases Nat.beq p.1 t<;>simp[ih]
theorem look_envV {e:CEnv} {t:Nat} {c:C} (h:lk e t=some c):look (envV e) t=some c.v:=by
 rw[lk_eq] at h;rw[envV,look_map,h];rfl
theorem look_ownV {o:COwn} {t:Nat} {c:CB} (h:lk o t=some c):look (ownV o) t=some c.b:=by
 rw[lk_eq] at h;rw[ownV,look_map,h];rfl
def ofV0 (v:V):Option C:=match v with
 | .bool b=>some (.bool b)
 | .int k n=>some (.int k n)
 | .str s=>some (.str s.size (encL s.data.toList))
 | .nilptr=>some .nilptr | .nilslice=>some .nilslice | .nilmap=>some .nilmap | .nilfunc=>some .nilfunc | .niliface=>some .niliface
 | .fn f b []=>some (.fn f b [])
 | _=>none
theorem ofV0_ok {v:V} {c:C} (h:ofV0 v=some c):c.v=v:=by
 unfold ofV0 at h;split at h<;>first
  | (cases h;done)
  | (cases h;simp[C.v,C.vs,bytesOf_enc])
noncomputable def ofVs (l:List V):Option (List C):=@List.rec V (fun _=>Option (List C)) (some []) (fun v _ ih=>match ofV0 v with
 | some c=>match ih with
   | some l=>some (c::l)
   | none=>none
 | none=>none) l
theorem ofVs_ok:∀(l:List V) {cs:List C},ofVs l=some cs->C.vs cs=l
 | [],cs,h=>by have h:some []=some cs:=h;cases h;simp[C.vs]
 | v::r,cs,h=>by
   have h:(match ofV0 v with
    | some c=>match ofVs r with
      | some l=>some (c::l)
      | none=>none
    | none=>none)=some cs:=h
   split at h
   . rename_i c hc;split at h
     . rename_i l hl;cases h;simp[C.vs,ofV0_ok hc,ofVs_ok r hl]
     . cases h
   . cases h
noncomputable def ofV (v:V):Option C:=match v with
 | .agg cs=>match ofVs cs with|some l=>some (.agg l)|none=>none
 | v=>ofV0 v
theorem ofV_ok (v:V) {c:C} (h:ofV v=some c):c.v=v:=by
 unfold ofV at h;split at h
 . split at h
   . rename_i l hl;cases h;simp[C.v,ofVs_ok _ hl]
   . cases h
 . exact ofV0_ok h
end Go.Eng
