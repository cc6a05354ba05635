import Derived.Test.YtefdkgkojlflaaaGreatDoorWXU
namespace Go.Proofs.YtefdkgkojlflaaaGreatDoor
open Go.Eng
set_option maxRecDepth 100000
set_option linter.unusedVariables false
noncomputable def vlV (g:G):V:=.fz (vals g).length 1 false (vI (vals g))
def gCs (g:G):List V:=[.fz g.ids.length 1 false (vI g.ids),.fz g.ports.length 1 false (vP g.ports)]
noncomputable def attP (g:G) (v:Nat) (l:Int×Int):Bool:=decide (exI g (gI (vals g) l.1.toNat) l.2=gI (vals g) v)
theorem upW_att {g:G} (h:g.conn=true) {v:Nat} (hv:v<g.ids.length) (h0:v≠0):upW g v=fpI (attP g v) 0 (gR g.ports v):=by
 obtain⟨f1,f2,f3,f4,f5,f6,f7⟩:=val_facts (conn_facts h).1;rw[upW,if_neg h0];refine fpI_ext fun l hl=>?_;have hok:=(okR_iff.1 (f6 v (by omega))).1 l hl;rw[attP,vals_get hv,vals_get (show l.1.toNat<g.ids.length by omega)]
theorem vals_rng {g:G} (h:g.conn=true) (v:Nat):0<=gI (vals g) v/\gI (vals g) v<=400:=by
 obtain⟨f1,f2,f3,f4,f5,f6,f7⟩:=val_facts (conn_facts h).1;by_cases hv:v<g.ids.length
 . rw[vals_get hv];have:=tv_top h hv;omega
 . have hl:=vals_len g;have:gI (vals g) v=0:=by simp[gI,List.getD,List.getElem?_eq_none (show(vals g).length<=v by omega)]
   omega
theorem legit1_ok (g:G) (hgc:g.conn=true) (v:Nat) (hv:v<g.ports.length) (i:Nat) (hi:i<(gR g.ports v).length) :
 Ret Tryz.prog 42 [.agg [.int .i64 (gF (gR g.ports v) i).1,.int .i64 (gF (gR g.ports v) i).2],.fe 1 2 (tab [gCs g]) 0 0,.fe 1 1 (tab [[vlV g]]) 0 0,.fe 1 1 (tab [[.int .i64 v]]) 0 0] (.bool (attP g v (gF (gR g.ports v) i))):=by
 obtain⟨hg,_⟩:=conn_facts hgc;obtain⟨f1,f2,f3,f4,f5,f6,f7⟩:=val_facts hg;have hok:=(okR_iff.1 (f6 v (by omega))).1 _ (gF_mem hi);have hr:=okR_to' (f6 v hv) hi;have hl:=vals_len g;have hy:=vals_rng hgc (0+(gF (gR g.ports v) i).1.toNat);have hext:=extended_ok g hg (gI (vals g) (0+(gF (gR g.ports v) i).1.toNat)) ⟨by omega,by omega⟩ (gF (gR g.ports v) i) ⟨by omega,by omega⟩;have hext2:=extended_ok g hg (gI (vals g) (gF (gR g.ports v) i).1.toNat) ⟨by rw[Nat.zero_add] at hy;omega,by rw[Nat.zero_add] at hy;omega⟩ (gF (gR g.ports v) i) ⟨by omega,by omega⟩;refine ret_frz rfl ?_;refine fn_rule mixed Tryz.func42 rfl hc42 hr42 rfl ?_
 repeat' ((conv=>whnf);first|(refine Br.dec ?_ ?_<;>intro _<;>try omega)|(refine Ix.nat (by omega) ?_)|(refine Ix.int (by omega) (by omega) ?_)|(refine hext2.go ?_)|(refine And.intro rfl ?_))
 all_goals (conv=>whnf)
 . rename_i h;exact VLe.bool (decide_eq_true (by simpa using h)).symm
 . rename_i h;exact VLe.bool (decide_eq_false (by simpa using h)).symm
theorem wfp_ok (g:G) (hgc:g.conn=true) (v:Nat) (hv:v<g.ports.length) (h0:v≠0) :
 CallF Tryz.prog 41 [g.v,.int .i64 v,.fn (.func 42) false [.loc 2 0,.loc 1 0,.loc 0 0]] [(2,.cells (gCs g)),(1,.cells [vlV g]),(0,.cells [.int .i64 v])] [3,4,5,6,7,8,9,10,11,12,13,14,15,16,17,18,19,20,21,22,23,24,25,26,27,28,29] fun X own' _=>X=.int .i64 (upW g v)/\own'=[(2,.cells (gCs g)),(1,.cells [vlV g]),(0,.cells [.int .i64 v])]:=by
 obtain⟨hg,_⟩:=conn_facts hgc;obtain⟨f1,f2,f3,f4,f5,f6,f7⟩:=val_facts hg;have hup:=upW_att hgc (show v<g.ids.length by omega) h0;have hrl:=row_le' hg v;refine call_post ?_;refine fn_rule mixed Tryz.func41 rfl hc41 hr41 rfl ?_
 repeat' ((conv=>whnf);first|(refine Ix.nat (by omega) ?_))
 all_goals (conv=>whnf)
 refine loop_r mixed [2,13,14] (fun i:Nat=>[(15,.int .i64 i)]) (fun m i=>m=(gR g.ports v).length-i/\i<=(gR g.ports v).length/\∀l∈(gR g.ports v).take i,attP g v l=false) (gR g.ports v).length 0 ⟨rfl,Nat.zero_le _,by simp⟩ ?_ ?_
 . exact weak_b (fun _ _=>[(0,some 0),(1,some 1),(2,some 2),(3,some 3)])
 rintro m i ⟨hm,hi,hall⟩;by_cases hil:i<(gR g.ports v).length
 . have h1:=legit1_ok g hgc v hv i hil;cases hb:attP g v (gF (gR g.ports v) i) with
   | true =>
     rw[hb] at h1
     repeat' ((conv=>whnf);first|(refine Br.tt ?_)|(refine Br.dec ?_ ?_<;>intro _<;>try omega)|(refine Ix.nat (by omega) ?_)|(refine Chk.mk (by kernel_rfl) ?_)|(refine call_lend h1 rfl ⟨VLe.rfl,VLe.rfl,VLe.rfl,VLe.rfl,True.intro⟩ ?_))
     all_goals (conv=>whnf)
     have e:upW g v=i:=by rw[hup,fpI_split _ _ 0 i hi hall,gF_drop' hil,fpI,if_pos hb];omega
     exact postR_by (fun _=>[(0,some 0),(1,some 1),(2,some 2)]) _ _ ⟨by rw[e],rfl⟩ (VRen.kf rfl) (by repeat' (first|exact True.intro|(refine⟨⟨_,rfl,?_⟩,?_⟩)|exact VRen.kf rfl|(refine And.intro ?_ ?_))) rfl
   | false =>
     rw[hb] at h1
     repeat' ((conv=>whnf);first|(refine Br.ff ?_)|(refine Br.dec ?_ ?_<;>intro _<;>try omega)|(refine Ar.i64 (by omega) (by omega) ?_)|(refine Ix.nat (by omega) ?_)|(refine Chk.mk (by kernel_rfl) ?_)|(refine call_lend h1 rfl ⟨VLe.rfl,VLe.rfl,VLe.rfl,VLe.rfl,True.intro⟩ ?_))
     all_goals (conv=>whnf)
     refine⟨(gR g.ports v).length-(i+1),i+1,by omega,⟨rfl,by omega,fun l hl=>?_⟩,?_⟩
     . rw[gF_take _ i hil] at hl;rcases List.mem_append.1 hl with h|h
       . exact hall l h
       . simp at h;rw[h];exact hb
     . exact weak_b (fun _ _=>[(0,some 0),(1,some 1),(2,some 2),(3,some 3)])
 . repeat' ((conv=>whnf);first|(refine Br.dec ?_ ?_<;>intro _<;>try omega))
   all_goals (conv=>whnf)
   have e:upW g v=-1:=by rw[hup,fpI_split _ _ 0 i hi hall,List.drop_of_length_le (by omega)];rfl
   exact postR_by (fun _=>[(0,some 0),(1,some 1),(2,some 2)]) _ _ ⟨by rw[e],rfl⟩ (VRen.kf rfl) (by repeat' (first|exact True.intro|(refine⟨⟨_,rfl,?_⟩,?_⟩)|exact VRen.kf rfl|(refine And.intro ?_ ?_))) rfl
set_option maxHeartbeats 4000000 in
theorem wdlegit_ok (g:G) (hs:g.Small) (c:Cf) (hc:CSmall c):Ret Tryz.prog 17 [g.v,cV c] (.bool (g.xleg c)):=by
 have h0:=wdconfiguration_ok g hs c hc;have hcl:=hc.len;refine ret_frz rfl ?_;refine fn_rule mixed Tryz.func17 rfl hc17 hr17 rfl ?_;rw[G.xleg];cases hgc:g.conn&&g.xconf c with
 | false =>
   rw[hgc] at h0
   repeat' ((conv=>whnf);first|(refine Br.ff ?_)|(refine h0.go ?_))
   all_goals (conv=>whnf)
   exact VLe.rfl
 | true =>
   rw[hgc] at h0;rw[Bool.true_and];rw[Bool.and_eq_true] at hgc;obtain⟨h1,_⟩:=conn_facts hgc.1;obtain⟨f1,f2,f3,f4,f5,f6,f7⟩:=val_facts h1;obtain⟨e1,e2⟩:=xconf_facts hgc.2;have hv:=values_ok g hs hgc.1;have hvl:=vals_len g
   repeat' ((conv=>whnf);first|(refine Br.tt ?_)|(refine h0.go ?_)|(refine hv.go ?_))
   all_goals (conv=>whnf)
   refine loop_r mixed [1,2,5,15,16] (fun i:Nat=>[(17,.int .i64 i)]) (fun m i=>m=c.length-i/\i<=c.length/\∀v,v<i->gI (gC c v) 0=gI (vals g) v/\gI (gC c v) 1=upW g v) c.length 0 ⟨rfl,Nat.zero_le _,fun v hv=>by omega⟩ ?_ ?_
   . exact weak_b (fun _ _=>[(0,some 0),(1,some 1)])
   rintro m i ⟨hm,hi,hall⟩;by_cases hil:i<c.length
   . have hrow:=e2 i hil;have hno:∀a:Prop,(gI (gC c i) 0≠gI (vals g) i\/gI (gC c i) 1≠upW g i)->VLe (V.bool false) (.bool (trXB g c)):=fun _ q=>VLe.bool (by
      cases e:trXB g c with
      | false=>rfl
      | true =>
        obtain⟨q1,q2⟩:=trXB_iff.1 e i hil;rcases q with q|q
        . exact(q q1).elim
        . exact(q q2).elim)
     by_cases hz:i=0
     . have hup:upW g i=-1:=if_pos hz
       repeat' ((conv=>whnf);first|(refine Ix.mk 1 rfl (by omega) ?_)|(refine Br.dec ?_ ?_<;>intro _<;>try omega)|(refine Br.bne ?_ ?_<;>intro _<;>try omega)|(refine Ar.i64 (by omega) (by omega) ?_)|(refine Ix.nat (by omega) ?_)|(refine Ix.mk 0 rfl (by omega) ?_))
       all_goals (conv=>whnf)
       . rename_i h;exact hno True (.inl h)
       . rename_i h;exact hno True (.inr (by rw[hup];exact h))
       . rename_i q1 q2;refine⟨c.length-(i+1),i+1,by omega,⟨rfl,by omega,fun v hv=>?_⟩,?_⟩
         . by_cases e:v=i
           . subst e;exact⟨q1,by rw[hup];exact q2⟩
           . exact hall v (by omega)
         . exact weak_b (fun _ _=>[(0,some 0),(1,some 1)])
     . have hfp:=wfp_ok g hgc.1 i (by omega) hz
       repeat' ((conv=>whnf);first|(refine Ix.mk 1 rfl (by omega) ?_)|(refine Br.dec ?_ ?_<;>intro _<;>try omega)|(refine Br.bne ?_ ?_<;>intro _<;>try omega)|(refine Ar.i64 (by omega) (by omega) ?_)|(refine Ix.nat (by omega) ?_)|(refine Ix.mk 0 rfl (by omega) ?_)|(refine call_by [(0,some 2),(1,some 1),(2,some 0)] [] (hfp.mono ?_) ⟨VRen.kf rfl,VRen.int rfl,VRen.fn ⟨VRen.loc rfl,VRen.loc rfl,VRen.loc rfl,True.intro⟩,True.intro⟩ (by repeat' (first|exact True.intro|(refine⟨⟨_,rfl,?_⟩,?_⟩)|exact VRen.kf rfl|(refine And.intro ?_ ?_))) rfl;rintro _ _ _ ⟨rfl,rfl⟩)|(refine Chk.mk rfl ?_))
       all_goals (conv=>whnf)
       . rename_i h;exact hno True (.inl h)
       . rename_i h;exact hno True (.inr h)
       . rename_i q1 q2;refine⟨c.length-(i+1),i+1,by omega,⟨rfl,by omega,fun v hv=>?_⟩,?_⟩
         . by_cases e:v=i
           . subst e;exact⟨q1,q2⟩
           . exact hall v (by omega)
         . exact weak_b (fun _ _=>[(0,some 0),(1,some 1)])
   . repeat' ((conv=>whnf);first|(refine Br.dec ?_ ?_<;>intro _<;>try omega))
     all_goals (conv=>whnf)
     exact VLe.bool (trXB_iff.2 (fun v hv=>hall v (by omega))).symm
def cpI (a b:Int):Int:=if a<b then -1 else if a > b then 1 else 0
def edC (e:Ed):List V:=[.int .i64 e.a,.int .i64 e.b,.int .i64 e.w]
def edV (e:Ed):V:=.agg (edC e)
theorem isnan_ok (a:Int):Ret Tryz.prog 50 [.int .i64 a] (.bool false):=by
 refine ret_frz rfl ?_;refine fn_rule mixed Tryz.func50 rfl hc50 hr50 rfl ?_
 repeat' ((conv=>whnf);first|(refine Br.bne ?_ ?_<;>intro _<;>try omega))
 all_goals (conv=>whnf)
 all_goals first
  | exact VLe.rfl
  | (exfalso;rename_i h;exact h rfl)
theorem compare_ok (a b:Int):Ret Tryz.prog 23 [.int .i64 a,.int .i64 b] (.int .i64 (cpI a b)):=by
 have h1:=isnan_ok a;have h2:=isnan_ok b;refine ret_frz rfl ?_;refine fn_rule mixed Tryz.func23 rfl hc23 hr23 rfl ?_
 repeat' ((conv=>whnf);first|(refine Br.ff ?_)|(refine Br.dec ?_ ?_<;>intro _<;>try omega)|(refine h1.go ?_)|(refine h2.go ?_))
 all_goals (conv=>whnf)
 all_goals exact VLe.int (by rw[cpI];repeat' split;all_goals first|rfl|omega)
theorem or_ok (a b:Int):Ret Tryz.prog 48 [.fz 2 1 false (vI [a,b])] (.int .i64 (if a=0 then b else a)):=by
 refine ret_frz rfl ?_;refine fn_rule mixed Tryz.func48 rfl hc48 hr48 rfl ?_;have e0:vI [a,b] 0 0=.int .i64 a:=rfl;have e1:vI [a,b] 1 0=.int .i64 b:=rfl
 repeat' ((conv=>whnf);first|fail)
 all_goals (conv=>whnf)
 refine loop_fuel mixed 3 ?_
 repeat' ((conv=>whnf);first|(refine Br.tt ?_)|(refine Br.ff ?_)|(refine Br.bne ?_ ?_<;>intro _<;>try omega)|(refine Ar.i64 (by omega) (by omega) ?_)|(refine Ix.mk 0 rfl (by omega) ?_)|(refine Ix.mk 1 rfl (by omega) ?_))
 all_goals (conv=>whnf)
 all_goals first
  | (rename_i h;have h:a≠0:=h;rw[if_neg h];exact VLe.rfl)
  | (rename_i h _;have h:a=0:=h;rw[if_pos h];exact VLe.rfl)
  | (rename_i h h2;have h:a=0:=h;have h2:b=0:=h2;rw[if_pos h,h2];exact VLe.rfl)
def cfE (x y:Ed):Int:=if cpI x.a y.a=0 then cpI x.b y.b else cpI x.a y.a
theorem cfE_lt (x y:Ed):cfE x y<0↔x.lt y:=by
 simp only[cfE,cpI,Ed.lt]
 repeat' split
 all_goals omega
theorem cpW_lt (x y:Ed):cpI x.w y.w<0↔ltW x y:=by
 simp only[cpI,ltW]
 repeat' split
 all_goals omega
theorem span1_ok (x y:Ed):Ret Tryz.prog 22 [edV x,edV y] (.int .i64 (cpI x.w y.w)):=by
 have h:=compare_ok x.w y.w;refine ret_frz rfl ?_;refine fn_rule mixed Tryz.func22 rfl hc22 hr22 rfl ?_
 repeat' ((conv=>whnf);first|(refine h.go ?_))
 all_goals (conv=>whnf)
 exact VLe.rfl
theorem edges1_ok (x y:Ed):Ret Tryz.prog 47 [edV x,edV y] (.int .i64 (cfE x y)):=by
 have h1:=compare_ok x.a y.a;have h2:=compare_ok x.b y.b;have h3:=or_ok (cpI x.a y.a) (cpI x.b y.b);refine ret_frz rfl ?_;refine fn_rule mixed Tryz.func47 rfl hc47 hr47 rfl ?_
 repeat' ((conv=>whnf);first|(refine h1.go ?_)|(refine h2.go ?_)|(refine And.intro rfl ?_)|(refine call_lend h3 rfl ⟨by decide,VLe.fz rfl (fun h=>h) (two_le' _ _ _ rfl rfl),True.intro⟩ ?_))
 all_goals (conv=>whnf)
 exact VLe.rfl
theorem edC_get (e:Ed) (j:Nat) (hj:j<3) (L:List Ed) (i:Nat) (he:gE L i=e):eF L i j=(edC e).getD j default:=by
 subst he;rcases (show j=0\/j=1\/j=2 by omega) with rfl|rfl|rfl<;>rfl
theorem swap_le (L:List Ed) (q:Nat) (hq:q+1<L.length) (i t:Nat) (ht:t<3):VLe (fset (fset (eF L) (q+1) 0 (edC (gE L q))) q 0 (edC (gE L (q+1))) i t) (eF (swE L (q+1) q) i t):=by
 apply VLe.of_eq;have hg:=swE_get (L:=L) (i:=q+1) (j:=q) hq (by omega) i;have hl:∀e:Ed,(edC e).length=3:=fun e=>rfl;simp only[fset,hl,Nat.sub_zero,Nat.zero_le,true_and,Nat.zero_add];by_cases e1:i=q
 . rw[if_pos e1] at hg;rw[if_pos ⟨e1,ht⟩,edC_get _ t ht _ i hg]
 . rw[if_neg e1] at hg;rw[if_neg (fun h=>e1 h.1)];by_cases e2:i=q+1
   . rw[if_pos e2] at hg;rw[if_pos ⟨e2,ht⟩,edC_get _ t ht _ i hg]
   . rw[if_neg e2] at hg;rw[if_neg (fun h=>e2 h.1),edC_get _ t ht _ i hg,edC_get _ t ht _ i rfl]
set_option maxHeartbeats 8000000 in
theorem ins_ok (cl:FuncId) (hcl:callable Tryz.prog cl=true) (cf:Ed->Ed->Int) (hcf:∀x y,Ret Tryz.prog cl [edV x,edV y] (.int .i64 (cf x y))) (lt:Ed->Ed->Prop) (hw:Wo lt) (hlt:∀x y,cf x y<0↔lt x y) (L0:List Ed) (hL:L0.length<=1000) :
 CallF Tryz.prog 66 [.vec 0 3 0 L0.length,.int .i64 0,.int .i64 L0.length,.fn (.func cl) false []] [(0,.vec L0.length 3 (eF L0))] [1,2,3,4,5,6,7,8,9,10,11,12,13,14,15,16,17,18,19,20,21,22,23,24,25,26,27,28,29]
  fun v own' _=>∃L:List Ed,(L.Perm L0/\SoI lt L L.length)/\v=.tup []/\own'=[(0,.vec L0.length 3 (eF L))]:=by
 refine fn_rule mixed Tryz.func66 rfl hc66 hr66 rfl ?_
 repeat' ((conv=>whnf);first|(refine Ar.i64 (by omega) (by omega) ?_))
 all_goals (conv=>whnf)
 refine loop_u mixed [0,1,2,3] [] [1,2,3,4,5,6,7,8,9,10,11,12,13,14,15,16,17,18,19,20,21,22,23,24,25,26,27,28,29] [0] (fun p:Nat×List Ed=>[(8,.int .i64 ((p.1:Int)+1))]) (fun own p=>updO own 0 (.vec L0.length 3 (eF p.2))) (fun m p=>m=L0.length-p.1/\(p.1=0\/p.1+1<=L0.length)/\p.2.Perm L0/\SoI lt p.2 (p.1+1)) L0.length (0,L0) ⟨rfl,.inl rfl,.refl _,SoI.one (by omega)⟩ rfl (fun _=>rfl) ?_ ?_
 . exact weak_b (fun _ _=>[(0,some 0)])
 rintro m ⟨k,L1⟩ ⟨hm,hk,hp1,hs1⟩;simp only at hm hk hp1 hs1;have hl1:=hp1.length_eq;by_cases hkn:k+1<L0.length
 . dsimp only
   repeat' ((conv=>whnf);first|(refine Br.dec ?_ ?_<;>intro _<;>try omega))
   all_goals (conv=>whnf)
   refine loop_u mixed [0,1,2,3,8] [] [1,2,3,4,5,6,7,8,9,10,11,12,13,14,15,16,17,18,19,20,21,22,23,24,25,26,27,28,29] [0] (fun p:Nat×List Ed=>[(9,.int .i64 p.1)]) (fun own p=>updO own 0 (.vec L0.length 3 (eF p.2))) (fun m p=>m=p.1/\SoJ lt p.2 (k+1) p.1/\p.2.Perm L0) (k+1) (k+1,L1) ⟨rfl,SoJ.start hs1,hp1⟩ rfl (fun _=>rfl) ?_ ?_
   . exact weak_b (fun _ _=>[(0,some 0)])
   rintro m ⟨j,L⟩ ⟨hm2,hj,hp⟩;simp only at hm2 hj hp;have hl:=hp.length_eq;have hle:=hj.le;subst hm2;rcases m with _|q
   . dsimp only
     repeat' ((conv=>whnf);first|(refine Br.ff ?_)|(refine Ar.i64 (by omega) (by omega) ?_))
     all_goals (conv=>whnf)
     refine⟨L0.length-(k+1),(k+1,L),by omega,⟨rfl,.inr (by omega),hp,hj.done hw (.inl rfl)⟩,?_⟩;exact weak_b (fun _ _=>[(0,some 0)])
   . dsimp only;have h1:=hcf (gE L (0+(q+1))) (gE L (0+q));have z1:0+(q+1)=q+1:=Nat.zero_add _;have z2:0+q=q:=Nat.zero_add _;by_cases hc:cf (gE L (0+(q+1))) (gE L (0+q))<0
     . repeat' ((conv=>whnf);first|(refine Ix.mk (q+1) (by omega) (by omega) ?_)|(refine Ix.mk q (by omega) (by omega) ?_)|(refine Br.dec ?_ ?_<;>intro _<;>try omega)|(refine Ar.i64 (by omega) (by omega) ?_)|(refine Ltn.mk (by omega) ?_)|(refine Chk.mk hcl ?_)|(refine h1.go ?_))
       all_goals (conv=>whnf)
       rw[z1,z2] at hc;refine⟨q,(q,swE L (q+1) q),by omega,⟨rfl,hj.step hw (by omega) ((hlt _ _).1 hc),(swE_perm (by omega)).trans hp⟩,?_⟩;refine weak_by (fun _ _=>[(0,some 0)]) ?_ ?_ rfl
       . repeat' (first|exact True.intro|(refine VRen.fn ?_)|(refine⟨⟨_,rfl,?_⟩,?_⟩)|exact VRen.kf rfl|exact VRen.int (by omega)|exact VRen.vec rfl rfl rfl)
       . repeat' (first|exact⟨Nat.le_refl _,rfl,fun i t hi ht=>by simp only[Nat.zero_add];exact swap_le L q (by omega) i t ht⟩|exact True.intro|(refine⟨⟨_,rfl,?_⟩,?_⟩))
     . repeat' ((conv=>whnf);first|(refine Ix.mk (q+1) (by omega) (by omega) ?_)|(refine Ix.mk q (by omega) (by omega) ?_)|(refine Br.dec ?_ ?_<;>intro _<;>try omega)|(refine Ar.i64 (by omega) (by omega) ?_)|(refine Ltn.mk (by omega) ?_)|(refine Chk.mk hcl ?_)|(refine h1.go ?_))
       all_goals (conv=>whnf)
       rw[z1,z2] at hc;refine⟨L0.length-(k+1),(k+1,L),by omega,⟨rfl,.inr (by omega),hp,hj.done hw (.inr (fun h=>hc ((hlt _ _).2 h)))⟩,?_⟩;exact weak_b (fun _ _=>[(0,some 0)])
 . dsimp only
   repeat' ((conv=>whnf);first|(refine Br.dec ?_ ?_<;>intro _<;>try omega))
   all_goals (conv=>whnf)
   refine⟨L1,⟨hp1,?_⟩,rfl,rfl⟩;intro p q h1 h2;exact hs1 p q h1 (by omega)
def lnTb (n:Nat):Int:=if n=0 then 0 else if n=1 then 1 else if n<=3 then 2 else if n<=7 then 3 else 4
theorem ar_u8 {n:Int} {K:Int->Prop} (h1:0<=n) (h2:n<=255) (hK:K n):Ar .u8 n K:=⟨n,by simp[IntKind.wrap,IntKind.bits,IntKind.signed];omega,hK⟩
theorem blen64_ok (n:Nat) (h:n<=12):Ret Tryz.prog 84 [.int .u64 n] (.int .i64 (lnTb n)):=by
 rcases (show n=0\/n=1\/n=2\/n=3\/n=4\/n=5\/n=6\/n=7\/n=8\/n=9\/n=10\/n=11\/n=12 by omega) with rfl|rfl|rfl|rfl|rfl|rfl|rfl|rfl|rfl|rfl|rfl|rfl|rfl
 all_goals
  refine ret_frz rfl ?_;refine fn_rule mixed Tryz.func84 rfl hc84 hr84 rfl ?_
  repeat' ((conv=>whnf);first|(refine Br.ff ?_)|(refine ar_u8 (by omega) (by omega) ?_)|(refine Ix.nat (by decide) ?_)|(refine Ar.i64 (by decide) (by decide) ?_))
  all_goals (conv=>whnf)
  first
   | (refine VLe.int ?_;decide)
   | (refine VLe.int ?_;rfl)
   | exact VLe.of_eq rfl
theorem blen_ok (n:Nat) (h:n<=12):Ret Tryz.prog 65 [.int .u64 n] (.int .i64 (lnTb n)):=by
 have h1:=blen64_ok n h;refine ret_frz rfl ?_;refine fn_rule mixed Tryz.func65 rfl hc65 hr65 rfl ?_
 repeat' ((conv=>whnf);first|(refine h1.go ?_))
 all_goals (conv=>whnf)
 exact VLe.rfl
abbrev ks29:List Nat:=[1,2,3,4,5,6,7,8,9,10,11,12,13,14,15,16,17,18,19,20,21,22,23,24,25,26,27,28,29]
theorem pdq_ok (cl:FuncId) (hcl:callable Tryz.prog cl=true) (cf:Ed->Ed->Int) (hcf:∀x y,Ret Tryz.prog cl [edV x,edV y] (.int .i64 (cf x y))) (lt:Ed->Ed->Prop) (hw:Wo lt) (hlt:∀x y,cf x y<0↔lt x y) (L0:List Ed) (hL:L0.length<=12) (lim:Int) :
 CallF Tryz.prog 64 [.vec 0 3 0 L0.length,.int .i64 0,.int .i64 L0.length,.int .i64 lim,.fn (.func cl) false []] [(0,.vec L0.length 3 (eF L0))] ks29
  fun v own' _=>∃L:List Ed,(L.Perm L0/\SoI lt L L.length)/\v=.tup []/\own'=[(0,.vec L0.length 3 (eF L))]:=by
 have hi:=ins_ok cl hcl cf hcf lt hw hlt L0 (by omega);refine fn_rule mixed Tryz.func64 rfl hc64 hr64 rfl ?_
 repeat' ((conv=>whnf);first|fail)
 all_goals (conv=>whnf)
 refine loop_fuel mixed 1 ?_
 repeat' ((conv=>whnf);first|(refine Br.dec ?_ ?_<;>intro _<;>try omega)|(refine Ar.i64 (by omega) (by omega) ?_)|(refine hi.mono ?_;rintro _ _ _ ⟨L,hp,rfl,rfl⟩))
 all_goals (conv=>whnf)
 exact⟨L,hp,rfl,rfl⟩
theorem sortf_ok (cl:FuncId) (hcl:callable Tryz.prog cl=true) (cf:Ed->Ed->Int) (hcf:∀x y,Ret Tryz.prog cl [edV x,edV y] (.int .i64 (cf x y))) (lt:Ed->Ed->Prop) (hw:Wo lt) (hlt:∀x y,cf x y<0↔lt x y) (L0:List Ed) (hL:L0.length<=12) :
 CallF Tryz.prog 46 [.vec 0 3 0 L0.length,.fn (.func cl) false []] [(0,.vec L0.length 3 (eF L0))] ks29
  fun v own' _=>∃L:List Ed,(L.Perm L0/\SoI lt L L.length)/\v=.tup []/\own'=[(0,.vec L0.length 3 (eF L))]:=by
 have hb:=blen_ok L0.length hL;have hi:=pdq_ok cl hcl cf hcf lt hw hlt L0 hL (lnTb L0.length);refine fn_rule mixed Tryz.func46 rfl hc46 hr46 rfl ?_
 repeat' ((conv=>whnf);first|(refine Ar.u64 (by omega) (by omega) ?_)|(refine hb.go ?_)|(refine hi.mono ?_;rintro _ _ _ ⟨L,hp,rfl,rfl⟩))
 all_goals (conv=>whnf)
 exact⟨L,hp,rfl,rfl⟩
theorem stable_ok (cl:FuncId) (hcl:callable Tryz.prog cl=true) (cf:Ed->Ed->Int) (hcf:∀x y,Ret Tryz.prog cl [edV x,edV y] (.int .i64 (cf x y))) (lt:Ed->Ed->Prop) (hw:Wo lt) (hlt:∀x y,cf x y<0↔lt x y) (L0:List Ed) (hL:L0.length<=12) :
 CallF Tryz.prog 49 [.vec 0 3 0 L0.length,.int .i64 L0.length,.fn (.func cl) false []] [(0,.vec L0.length 3 (eF L0))] ks29
  fun v own' _=>∃L:List Ed,(L.Perm L0/\SoI lt L L.length)/\v=.tup []/\own'=[(0,.vec L0.length 3 (eF L))]:=by
 have hi:=ins_ok cl hcl cf hcf lt hw hlt L0 (by omega);refine fn_rule mixed Tryz.func49 rfl hc49 hr49 rfl ?_
 repeat' ((conv=>whnf);first|fail)
 all_goals (conv=>whnf)
 refine loop_fuel mixed 1 ?_
 repeat' ((conv=>whnf);first|(refine Br.dec ?_ ?_<;>intro _<;>try omega)|(refine hi.mono ?_;rintro _ _ _ ⟨L,hp,rfl,rfl⟩))
 all_goals (conv=>whnf)
 refine loop_fuel mixed 1 ?_
 repeat' ((conv=>whnf);first|(refine Br.dec ?_ ?_<;>intro _<;>try omega))
 all_goals (conv=>whnf)
 exact⟨L,hp,rfl,rfl⟩
theorem sorts_ok (cl:FuncId) (hcl:callable Tryz.prog cl=true) (cf:Ed->Ed->Int) (hcf:∀x y,Ret Tryz.prog cl [edV x,edV y] (.int .i64 (cf x y))) (lt:Ed->Ed->Prop) (hw:Wo lt) (hlt:∀x y,cf x y<0↔lt x y) (L0:List Ed) (hL:L0.length<=12) :
 CallF Tryz.prog 21 [.vec 0 3 0 L0.length,.fn (.func cl) false []] [(0,.vec L0.length 3 (eF L0))] ks29
  fun v own' _=>∃L:List Ed,(L.Perm L0/\SoI lt L L.length)/\v=.tup []/\own'=[(0,.vec L0.length 3 (eF L))]:=by
 have hi:=stable_ok cl hcl cf hcf lt hw hlt L0 hL;refine fn_rule mixed Tryz.func21 rfl hc21 hr21 rfl ?_
 repeat' ((conv=>whnf);first|(refine hi.mono ?_;rintro _ _ _ ⟨L,hp,rfl,rfl⟩))
 all_goals (conv=>whnf)
 exact⟨L,hp,rfl,rfl⟩
def rawP (g:G) (v i:Nat):List Ed:=((List.range v).flatMap fun v=>(gR g.ports v).filterMap (rawE v))++((gR g.ports v).take i).filterMap (rawE v)
theorem rawP_row (g:G) (v:Nat):rawP g v (gR g.ports v).length=rawP g (v+1) 0:=by
 rw[rawP,rawP,List.take_length,List.range_succ,List.flatMap_append];simp
theorem rawP_end (g:G):rawP g g.ids.length 0=rawL g:=by simp[rawP,rawL]
theorem rawP_zero (g:G):rawP g 0 0=[]:=by simp[rawP]
theorem rawP_next (g:G) (v:Nat) {i:Nat} (hi:i<(gR g.ports v).length):rawP g v (i+1)=rawP g v i++(rawE v (gF (gR g.ports v) i)).toList:=by
 rw[rawP,rawP,gF_take _ i hi,List.filterMap_append,<- List.append_assoc];congr 1
theorem flat_len {α β:Type} (f:α->List β):∀{l m:List α},l.Sublist m->(l.flatMap f).length<=(m.flatMap f).length:=fun h=>by
 induction h with
 | slnil=>simp
 | cons a _ ih=>simp only[List.flatMap_cons,List.length_append];omega
 | cons_cons a _ ih=>simp only[List.flatMap_cons,List.length_append];omega
theorem rawP_le (g:G) {v i:Nat} (hv:v<g.ids.length):(rawP g v i).length<=(rawL g).length:=by
 have h1:(rawP g v i).length<=(rawP g (v+1) 0).length:=by
  rw[<- rawP_row,rawP,rawP,List.take_length];simp only[List.length_append];have:=(List.Sublist.filterMap (rawE v) (List.take_sublist i (gR g.ports v))).length_le;omega
 have h2:(rawP g (v+1) 0).length<=(rawL g).length:=by
  simp only[rawP,rawL,List.take_zero,List.filterMap_nil,List.append_nil];exact flat_len _ (List.range_sublist.2 (by omega))
 omega
theorem vle_appE (L:List Ed) (e:Ed) (n i j:Nat) (hn:L.length=n) (f:Nat->Nat->V) (h0:f 0 0=.int .i64 e.a) (h1:f 0 1=.int .i64 e.b) (h2:f 0 2=.int .i64 e.w) (hi:i<n+1) (hj:j<3) :
 VLe (fapp (shiftF 0 (eF L)) n (shiftF 0 f) i j) (eF (L++[e]) i j):=by
 subst hn;apply VLe.of_eq;by_cases h:i<L.length
 . rw[fapp_lt h,sh_at,Nat.zero_add];have:gE (L++[e]) i=gE L i:=by simp[gE,List.getD,List.getElem?_append_left h]
   rw[edC_get _ j hj _ i this,edC_get _ j hj _ i rfl]
 . rw[fapp_ge h,sh_at,Nat.zero_add];have hil:i=L.length:=by omega
   subst hil;have:gE (L++[e]) L.length=e:=by simp[gE,List.getD]
   rw[edC_get _ j hj _ _ this,Nat.sub_self];rcases (show j=0\/j=1\/j=2 by omega) with rfl|rfl|rfl
   . rw[h0];rfl
   . rw[h1];rfl
   . rw[h2];rfl
set_option maxHeartbeats 16000000 in
theorem edges_ok (g:G) (hs:g.Small) (hg:g.valid=true) (h12:(rawL g).length<=12):Ret Tryz.prog 19 [g.v] (.fz (edgesL g).length 3 false (eF (edgesL g))):=by
 obtain⟨f1,f2,f3,f4,f5,f6,f7⟩:=val_facts hg;refine ret_frz rfl ?_;refine fn_rule mixed Tryz.func19 rfl hc19 hr19 rfl ?_
 repeat' ((conv=>whnf);first|(refine fn_rule mixed Tryz.func45 rfl hc45 hr45 rfl ?_)|(refine range_rule ?_)|(refine Chk.mk (by kernel_rfl) ?_)|(refine fn_rule mixed Tryz.func63 rfl hc63 hr63 rfl ?_))
 all_goals (conv=>whnf)
 refine loop_u mixed [0,8,9] [4] [5,6,7,8,9,10,11,12,13,14,15,16,17,18,19,20,21,22,23,24,25,26,27,28,29] [4,3,2,1,0] (fun v:Nat=>[(10,.int .i64 v)]) (fun own v=>clO ((4,.vec (rawP g v 0).length 3 (eF (rawP g v 0)))::updO own 1 (.cells [.vec 4 3 0 (rawP g v 0).length]))) (fun m v=>m=g.ids.length-v/\v<=g.ids.length) g.ids.length 0 ⟨rfl,Nat.zero_le _⟩ rfl (fun _=>rfl) ?_ ?_
 . simp only[rawP_zero];refine weak_by (fun _ _=>[(0,some 0),(1,some 1),(2,some 2),(3,some 3),(4,none)]) ?_ ?_ rfl
   . repeat' (first|exact VRen.yld rfl|exact True.intro|(refine⟨⟨_,rfl,?_⟩,?_⟩)|exact VRen.kf rfl)
   . repeat' (first|(refine VRen.fn ?_)|(refine⟨rfl,rfl,rfl,rfl,rfl,?_⟩)|exact True.intro|(refine⟨⟨_,rfl,?_⟩,?_⟩)|exact VRen.kf rfl|exact VRen.loc rfl|exact VRen.nil rfl rfl|(refine⟨⟨_,_,rfl⟩,?_⟩)|(refine And.intro ?_ ?_))
 rintro m v ⟨hm,hv⟩;by_cases hvn:v<g.ids.length
 . have hrl:=row_le' hg v
   repeat' ((conv=>whnf);first|(refine Br.dec ?_ ?_<;>intro _<;>try omega)|(refine Ix.nat (by omega) ?_))
   all_goals (conv=>whnf)
   refine loop_u mixed [0,3,8,9,10,15,16] [4] [5,6,7,8,9,10,11,12,13,14,15,16,17,18,19,20,21,22,23,24,25,26,27,28,29] [4,3,2,1,0] (fun i:Nat=>[(17,.int .i64 i)]) (fun own i=>clO (updO (updO own 4 (.vec (rawP g v i).length 3 (eF (rawP g v i)))) 1 (.cells [.vec 4 3 0 (rawP g v i).length]))) (fun m i=>m=(gR g.ports v).length-i/\i<=(gR g.ports v).length) (gR g.ports v).length 0 ⟨rfl,Nat.zero_le _⟩ rfl (fun _=>rfl) ?_ ?_
   . refine weak_by (fun _ _=>[(0,some 0),(1,some 1),(2,some 2),(3,some 3),(4,some 4)]) ?_ ?_ rfl
     . repeat' (first|exact VRen.yld rfl|exact True.intro|(refine⟨⟨_,rfl,?_⟩,?_⟩)|exact VRen.kf rfl)
     . repeat' (first|(refine VRen.fn ?_)|(refine⟨rfl,rfl,rfl,rfl,rfl,?_⟩)|exact True.intro|(refine⟨⟨_,rfl,?_⟩,?_⟩)|exact VRen.kf rfl|exact VRen.loc rfl|exact VRen.vec rfl rfl rfl|(refine⟨Nat.le_refl _,rfl,fun i j hi hj=>?_⟩)|exact VLe.rfl|(refine And.intro ?_ ?_))
   rintro m i ⟨hm2,hi⟩;by_cases hin:i<(gR g.ports v).length
   . have hok:=(okR_iff.1 (f6 v (by omega))).1 _ (gF_mem hin);have hnx:=rawP_next g v hin;have hle:=rawP_le g (v:=v) (i:=i) hvn;by_cases hlt:(v:Int)<(gF (gR g.ports v) i).1
     . have hre:rawE v (gF (gR g.ports v) i)=some ⟨v,(gF (gR g.ports v) i).1.toNat,(gF (gR g.ports v) i).2⟩:=if_pos hlt;rw[hre,Option.toList_some] at hnx
       repeat' ((conv=>whnf);first|(refine Br.tt ?_)|(refine Br.dec ?_ ?_<;>intro _<;>try omega)|(refine Br.nbeq ?_ ?_<;>intro _<;>try omega)|(refine Ar.i64 (by omega) (by omega) ?_)|(refine Ix.nat (by omega) ?_)|(refine Len.mk (by omega) ?_)|(refine yield_rule mixed rfl rfl ?_))
       all_goals (conv=>whnf)
       refine⟨(gR g.ports v).length-(i+1),i+1,by omega,⟨rfl,by omega⟩,?_⟩;simp only[hnx,List.length_append,List.length_singleton];refine weak_by (fun _ own=>[(0,some 0),(1,some 1),(2,some 2),(3,some 3),(4,ckeyo own 1 0)]) ?_ ?_ rfl
       . repeat' (first|exact VRen.yld rfl|exact True.intro|(refine⟨⟨_,rfl,?_⟩,?_⟩)|exact VRen.kf rfl)
       . repeat' (first|(refine VRen.fn ?_)|(refine⟨rfl,rfl,rfl,rfl,rfl,?_⟩)|(refine⟨Nat.le_refl _,rfl,fun i j hi hj=>?_⟩)|exact vle_appE _ _ _ _ _ rfl _ rfl (by show V.int .i64 _=V.int .i64 _;rw[Int.toNat_of_nonneg (by omega)]) rfl hi hj|exact True.intro|(refine⟨⟨_,rfl,?_⟩,?_⟩)|exact VRen.kf rfl|exact VRen.loc rfl|exact VRen.vec rfl rfl rfl|(refine And.intro ?_ ?_))
     . have hre:rawE v (gF (gR g.ports v) i)=none:=if_neg hlt;rw[hre,Option.toList_none,List.append_nil] at hnx
       repeat' ((conv=>whnf);first|(refine Br.tt ?_)|(refine Br.dec ?_ ?_<;>intro _<;>try omega)|(refine Ar.i64 (by omega) (by omega) ?_)|(refine Ix.nat (by omega) ?_)|(refine yield_rule mixed rfl rfl ?_))
       all_goals (conv=>whnf)
       refine⟨(gR g.ports v).length-(i+1),i+1,by omega,⟨rfl,by omega⟩,?_⟩;simp only[hnx];refine weak_by (fun _ _=>[(0,some 0),(1,some 1),(2,some 2),(3,some 3),(4,some 4)]) ?_ ?_ rfl
       . repeat' (first|exact VRen.yld rfl|exact True.intro|(refine⟨⟨_,rfl,?_⟩,?_⟩)|exact VRen.kf rfl)
       . repeat' (first|(refine VRen.fn ?_)|(refine⟨rfl,rfl,rfl,rfl,rfl,?_⟩)|exact True.intro|(refine⟨⟨_,rfl,?_⟩,?_⟩)|exact VRen.kf rfl|exact VRen.loc rfl|exact VRen.vec rfl rfl rfl|(refine⟨Nat.le_refl _,rfl,fun i j hi hj=>?_⟩)|exact VLe.rfl|(refine And.intro ?_ ?_))
   . repeat' ((conv=>whnf);first|(refine Br.dec ?_ ?_<;>intro _<;>try omega)|(refine Ar.i64 (by omega) (by omega) ?_))
     all_goals (conv=>whnf)
     refine⟨g.ids.length-(v+1),v+1,by omega,⟨rfl,by omega⟩,?_⟩;have e:i=(gR g.ports v).length:=by omega
     subst e;simp only[<- rawP_row];refine weak_by (fun _ _=>[(0,some 0),(1,some 1),(2,some 2),(3,some 3),(4,some 4)]) ?_ ?_ rfl
     . repeat' (first|exact VRen.yld rfl|exact True.intro|(refine⟨⟨_,rfl,?_⟩,?_⟩)|exact VRen.kf rfl)
     . repeat' (first|(refine VRen.fn ?_)|(refine⟨rfl,rfl,rfl,rfl,rfl,?_⟩)|exact True.intro|(refine⟨⟨_,rfl,?_⟩,?_⟩)|exact VRen.kf rfl|exact VRen.loc rfl|exact VRen.vec rfl rfl rfl|(refine⟨Nat.le_refl _,rfl,fun i j hi hj=>?_⟩)|exact VLe.rfl|(refine And.intro ?_ ?_))
 . have ev:v=g.ids.length:=by omega
   subst ev;simp only[rawP_end];have hso:=sortf_ok 47 (by kernel_rfl) cfE edges1_ok Ed.lt wo_lt cfE_lt (rawL g) h12
   repeat' ((conv=>whnf);first|(refine Br.dec ?_ ?_<;>intro _<;>try omega)|(refine Len.mk (by omega) ?_)|(refine call_by [(0,some 4)] [] (hso.mono ?_) ⟨VRen.vec rfl rfl rfl,VRen.fn True.intro,True.intro⟩ (by repeat' (first|exact True.intro|(refine⟨⟨_,rfl,?_⟩,?_⟩)|(refine⟨Nat.le_refl _,rfl,fun i j hi hj=>?_⟩)|exact VLe.rfl)) rfl;rintro _ _ _ ⟨L,⟨hp,hsl⟩,rfl,rfl⟩)|(refine Chk.mk rfl ?_))
   all_goals (conv=>whnf)
   have hE:=sorted_edges hg hp hsl.pairwise;subst hE;exact VLe.fz hp.length_eq.symm (fun h=>h) (fun i j hi hj=>VLe.of_eq (by rw[sh_at,Nat.zero_add]))
def pF (p:Nat->Int):Nat->Nat->V:=fun i _=>.int .i64 (p i)
theorem pf_set (p:Nat->Int) (v:Nat) (x:Int) (n i j:Nat) (hi:i<n) (hj:j<1):VLe (fset (pF p) v 0 [.int .i64 x] i j) (pF (fun u=>if u=v then x else p u) i j):=by
 apply VLe.of_eq;obtain rfl:j=0:=by omega
 simp only[pF,fset];by_cases h:i=v
 . subst h;simp
 . simp[h]
structure JoS (p:Nat->Int) (a b v:Nat) (q:Nat->Int):Prop where
 lo:∀u,u<v->q u=joP p a b u
 hi:∀u,v<=u->q u=p u
theorem JoS.start {p:Nat->Int} {a b:Nat}:JoS p a b 0 p:=⟨fun u h=>by omega,fun _ _=>rfl⟩
theorem JoS.yes {p:Nat->Int} {a b v:Nat} {q:Nat->Int} (h:JoS p a b v q) (he:p v=max (p a) (p b)):JoS p a b (v+1) (fun u=>if u=v then min (p a) (p b) else q u):=by
 refine⟨fun u hu=>?_,fun u hu=>?_⟩
 . show(if u=v then _ else q u)=_;by_cases e:u=v
   . subst e;rw[if_pos rfl,joP,if_pos he]
   . rw[if_neg e];exact h.lo u (by omega)
 . show(if u=v then _ else q u)=_;rw[if_neg (by omega)];exact h.hi u (by omega)
theorem JoS.no {p:Nat->Int} {a b v:Nat} {q:Nat->Int} (h:JoS p a b v q) (he:¬ p v=max (p a) (p b)):JoS p a b (v+1) q:=by
 refine⟨fun u hu=>?_,fun u hu=>h.hi u (by omega)⟩;by_cases e:u=v
 . subst e;rw[joP,if_neg he];exact h.hi u (Nat.le_refl _)
 . exact h.lo u (by omega)
theorem mxR (x y:Int):(if y > x then y else x)=max x y:=by
 rw[Int.max_def];split<;>split<;>omega
theorem mnR (x y:Int):(if y<x then y else x)=min x y:=by
 rw[Int.min_def];split<;>split<;>omega
set_option maxHeartbeats 8000000 in
theorem join_ok (n:Nat) (hn:n<=1000000) (p:Nat->Int) (a b:Nat) (ha:a<n) (hb:b<n) :
 CallF Tryz.prog 24 [.vec 0 1 0 n,.int .i64 a,.int .i64 b] [(0,.vec n 1 (pF p))] ks29
  fun v own' _=>∃q:Nat->Int,(∀u,u<n->q u=joP p a b u)/\v=.tup []/\own'=[(0,.vec n 1 (pF q))]:=by
 refine fn_rule mixed Tryz.func24 rfl hc24 hr24 rfl ?_
 repeat' ((conv=>whnf);first|(refine Ix.mk a (by omega) (by omega) ?_)|(refine Ix.mk b (by omega) (by omega) ?_)|(refine Sv.mk _ rfl ?_)|(refine Ltn.mk (by omega) ?_)|(refine And.intro (Ltn.mk (by omega) rfl) ?_))
 all_goals (conv=>whnf)
 refine loop_u mixed [0,6,7,28] [] ks29 [0] (fun s:Nat×(Nat->Int)=>[(29,.int .i64 s.1)]) (fun own s=>updO own 0 (.vec n 1 (pF s.2))) (fun m s=>m=n-s.1/\s.1<=n/\JoS p a b s.1 s.2) n (0,p) ⟨rfl,Nat.zero_le _,JoS.start⟩ rfl (fun _=>rfl) ?_ ?_
 . exact weak_b (fun _ _=>[(0,some 0)])
 rintro m ⟨v,q⟩ ⟨hm,hv,hJ⟩;simp only at hm hv hJ;by_cases hvn:v<n
 . dsimp only;have hqv:=hJ.hi v (Nat.le_refl _);have z0:0+a=a:=Nat.zero_add _;have z1:0+b=b:=Nat.zero_add _;have z2:0+v=v:=Nat.zero_add _;by_cases hc:q (0+v)=(if p (0+b) > p (0+a) then p (0+b) else p (0+a))
   . repeat' ((conv=>whnf);first|(refine Br.dec ?_ ?_<;>intro _<;>try omega)|(refine Ar.i64 (by omega) (by omega) ?_)|(refine Ix.nat (by omega) ?_)|(refine Ltn.mk (by omega) ?_))
     all_goals (conv=>whnf)
     rw[mxR,z0,z1,z2,hqv] at hc;refine⟨n-(v+1),(v+1,fun u=>if u=v then (if p (0+b)<p (0+a) then p (0+b) else p (0+a)) else q u),by omega,⟨rfl,by omega,?_⟩,?_⟩
     . rw[mnR,z0,z1];exact hJ.yes hc
     . refine weak_by (fun _ _=>[(0,some 0)]) ?_ ?_ rfl
       . repeat' (first|exact True.intro|(refine⟨⟨_,rfl,?_⟩,?_⟩)|exact VRen.kf rfl|exact VRen.vec rfl rfl rfl)
       . repeat' (first|exact⟨Nat.le_refl _,rfl,fun i t hi ht=>by simp only[Nat.zero_add];exact pf_set q v _ n i t (by omega) ht⟩|exact True.intro|(refine⟨⟨_,rfl,?_⟩,?_⟩))
   . repeat' ((conv=>whnf);first|(refine Br.dec ?_ ?_<;>intro _<;>try omega)|(refine Ar.i64 (by omega) (by omega) ?_)|(refine Ix.nat (by omega) ?_)|(refine Ltn.mk (by omega) ?_))
     all_goals (conv=>whnf)
     rw[mxR,z0,z1,z2,hqv] at hc;refine⟨n-(v+1),(v+1,q),by omega,⟨rfl,by omega,hJ.no hc⟩,?_⟩;exact weak_b (fun _ _=>[(0,some 0)])
 . dsimp only
   repeat' ((conv=>whnf);first|(refine Br.dec ?_ ?_<;>intro _<;>try omega))
   all_goals (conv=>whnf)
   exact⟨q,fun u hu=>hJ.lo u (by omega),rfl,rfl⟩
def sF (L:List (Nat×Nat)):Nat->Nat->V:=fun i j=>match j with
 | 0=>.int .i64 (L.getD i (0,0)).1
 | _+1=>.int .i64 (L.getD i (0,0)).2
theorem edges_len {g:G} (hg:g.valid=true):(edgesL g).length=(rawL g).length:=by
 refine List.Perm.length_eq ?_;refine(List.perm_ext_iff_of_nodup ?_ (raw_nodup hg)).2 fun e=>by rw[edges_mem hg,raw_mem hg]
 rw[List.nodup_iff_pairwise_ne];exact(edges_sorted g).imp fun {e f} hl q=>by subst q;exact lt_as _ _ hl hl
theorem pf_next (n v i j:Nat) (hj:j<1):VLe (fset (pF fun u=>if u<v then (u:Int) else 0) v 0 [.int .i64 v] i j) (pF (fun u=>if u<v+1 then (u:Int) else 0) i j):=by
 refine(pf_set _ v (v:Int) (i+1) i j (by omega) hj).trans (VLe.of_eq ?_);show V.int .i64 _=V.int .i64 _;congr 1;show(if i=v then (v:Int) else if i<v then (i:Int) else 0)=if i<v+1 then (i:Int) else 0
 by_cases h:i=v
 . subst h;simp
 . rw[if_neg h];by_cases q:i<v
   . rw[if_pos q,if_pos (by omega)]
   . rw[if_neg q,if_neg (by omega)]
theorem PtI.congr {n:Nat} {D:List (Nat×Nat)} {p q:Nat->Int} (h:PtI n D p) (he:∀u,u<n->q u=p u):PtI n D q:=fun u v hu hv=>by rw[he u hu,he v hv];exact h u v hu hv
noncomputable def selT (g:G) (i:Nat):List (Nat×Nat):=(((edgesL g).take i).filter (chE g)).map fun e=>(e.a,e.b)
theorem selT_len (g:G) (i:Nat):(selT g i).length<=i:=by
 rw[selT,List.length_map];exact Nat.le_trans (List.length_filter_le _ _) (by simp;omega)
theorem selT_yes {g:G} {i:Nat} (hi:i<(edgesL g).length) (h:chE g (gE (edgesL g) i)=true):selT g (i+1)=selT g i++[((gE (edgesL g) i).a,(gE (edgesL g) i).b)]:=by
 rw[selT,take_gE hi,List.filter_append,List.map_append,List.filter_cons,if_pos h];rfl
theorem selT_no {g:G} {i:Nat} (hi:i<(edgesL g).length) (h:chE g (gE (edgesL g) i)=false):selT g (i+1)=selT g i:=by
 rw[selT,take_gE hi,List.filter_append,List.map_append,List.filter_cons,if_neg (by rw[h];decide)];simp[selT]
theorem selT_end (g:G):selT g (edgesL g).length=spanL g:=by rw[selT,List.take_length,span_edges]
theorem vle_appS (L:List (Nat×Nat)) (a b:Nat) (n i j:Nat) (hn:L.length=n) (f:Nat->Nat->V) (h0:f 0 0=.int .i64 a) (h1:f 0 1=.int .i64 b) (hi:i<n+1) (hj:j<2):VLe (fapp (shiftF 0 (sF L)) n (shiftF 0 f) i j) (sF (L++[(a,b)]) i j):=by
 subst hn;apply VLe.of_eq;by_cases h:i<L.length
 . rw[fapp_lt h,shiftF_eq,Nat.zero_add];have e:(L++[(a,b)]).getD i (0,0)=L.getD i (0,0):=by simp[List.getD,List.getElem?_append_left h]
   rcases j with _|j
   . show V.int .i64 _=V.int .i64 _;rw[e]
   . show V.int .i64 _=V.int .i64 _;rw[e]
 . rw[fapp_ge h];obtain rfl:i=L.length:=by omega
   have e:(L++[(a,b)]).getD L.length (0,0)=(a,b):=by simp[List.getD]
   rw[Nat.sub_self,shiftF_eq];rcases j with _|_|j
   . show f 0 0=V.int .i64 _;rw[e,h0]
   . show f 0 1=V.int .i64 _;rw[e,h1]
   . omega
theorem MGet.of {o:Option V} {v:V} {A:V->Prop} {B:Prop} (h:o=some v) (hA:A v):MGet o A B:=⟨fun w hw=>by rw[h] at hw;cases hw;exact hA,fun hn=>by rw[h] at hn;cases hn⟩
set_option maxHeartbeats 16000000 in
theorem spanning_ok (g:G) (hs:g.Small) (hgc:g.conn=true) (h12:(rawL g).length<=12) (h0:0<(edgesL g).length):Ret Tryz.prog 8 [g.v] (.tup [.fz (spanL g).length 2 false (sF (spanL g)),.int .i64 0]):=by
 obtain⟨hg,_⟩:=conn_facts hgc;obtain⟨f1,f2,f3,f4,f5,f6,f7⟩:=val_facts hg;have hcn:=conn_ok g hs;rw[hgc] at hcn;have hed:=edges_ok g hs hg h12;refine ret_frz rfl ?_;refine fn_rule mixed Tryz.func8 rfl hc8 hr8 rfl ?_;have hle:=edges_len hg;have hso:=sorts_ok 22 (by kernel_rfl) (fun x y=>cpI x.w y.w) span1_ok ltW wo_w cpW_lt (edgesL g) (by omega)
 repeat' ((conv=>whnf);first|(refine Br.tt ?_)|(refine Br.nbeq ?_ ?_<;>intro _<;>try omega)|(refine Bd.nat (by omega) ?_)|(refine Len.mk (by omega) ?_)|(refine MkS.vec ?_)|(refine hcn.go ?_)|(refine hed.go ?_)|(refine Chk.mk (by kernel_rfl) ?_)|(refine fn_rule mixed Tryz.func20 rfl hc20 hr20 rfl ?_)|(refine call_by [(0,some 2)] [] (hso.mono ?_) ⟨VRen.vec rfl rfl (Nat.zero_add _),VRen.fn True.intro,True.intro⟩ (by repeat' (first|exact True.intro|(refine⟨⟨_,rfl,?_⟩,?_⟩)|(refine⟨by omega,rfl,fun i j hi hj=>?_⟩)|exact VLe.rfl)) rfl;rintro _ _ _ ⟨B,⟨hp,hsl⟩,rfl,rfl⟩))
 all_goals (conv=>whnf)
 have hBl:=hp.length_eq;have hB:ByW g B:=⟨hp,hsl⟩;refine loop_u mixed [2,3,4,5,6,31] [] [4,5,6,7,8,9,10,11,12,13,14,15,16,17,18,19,20,21,22,23,24,25,26,27,28,29] [3,2,0] (fun v:Nat=>[(32,.int .i64 v)]) (fun own v=>updO own 3 (.vec g.ids.length 1 (pF fun u=>if u<v then (u:Int) else 0))) (fun m v=>m=g.ids.length-v/\v<=g.ids.length) g.ids.length 0 ⟨rfl,Nat.zero_le _⟩ rfl (fun _=>rfl) ?_ ?_
 . refine weak_by (fun _ _=>[(0,some 0),(2,some 2),(3,some 3)]) ?_ ?_ rfl
   . repeat' (first|exact True.intro|(refine⟨⟨_,rfl,?_⟩,?_⟩)|exact VRen.kf rfl|exact VRen.vec rfl rfl rfl)
   . repeat' (first|exact⟨Nat.le_refl _,rfl,fun i j hi hj=>VLe.of_eq (by obtain rfl:j=0:=(by omega);rfl)⟩|exact True.intro|(refine⟨⟨_,rfl,?_⟩,?_⟩)|exact VRen.kf rfl|(refine⟨Nat.le_refl _,rfl,fun i j hi hj=>?_⟩)|exact VLe.rfl|(refine And.intro ?_ ?_))
 rintro m v ⟨hm,hv⟩;by_cases hvn:v<g.ids.length
 . repeat' ((conv=>whnf);first|(refine Ix.mk v (by omega) (by omega) ?_)|(refine Br.dec ?_ ?_<;>intro _<;>try omega)|(refine Ar.i64 (by omega) (by omega) ?_)|(refine Ltn.mk (by omega) ?_))
   all_goals (conv=>whnf)
   refine⟨g.ids.length-(v+1),v+1,by omega,⟨rfl,by omega⟩,?_⟩;refine weak_by (fun _ _=>[(0,some 0),(2,some 2),(3,some 3)]) ?_ ?_ rfl
   . repeat' (first|exact True.intro|(refine⟨⟨_,rfl,?_⟩,?_⟩)|exact VRen.kf rfl|exact VRen.vec rfl rfl rfl)
   . repeat' (first|exact⟨Nat.le_refl _,rfl,fun i t hi ht=>by simp only[Nat.zero_add];exact pf_next g.ids.length v i t ht⟩|exact True.intro|(refine⟨⟨_,rfl,?_⟩,?_⟩)|exact VRen.kf rfl|(refine⟨Nat.le_refl _,rfl,fun i j hi hj=>?_⟩)|exact VLe.rfl|(refine And.intro ?_ ?_))
 have ev:v=g.ids.length:=by omega
 subst ev
 repeat' ((conv=>whnf);first|(refine Br.dec ?_ ?_<;>intro _<;>try omega))
 all_goals (conv=>whnf)
 refine loop_u mixed [2,3,4,5,6,8] [] [5,6,7,8,9,10,11,12,13,14,15,16,17,18,19,20,21,22,23,24,25,26,27,28,29] [4,3,2,0] (fun s:Nat×(Nat->Int)=>[(9,.int .i64 s.1)]) (fun own s=>updO (updO own 3 (.vec g.ids.length 1 (pF s.2))) 4 (.map (.st KE) (enX g (B.take s.1)))) (fun m s=>m=B.length-s.1/\Cls g B s.1 s.2) B.length (0,fun v=>(v:Int)) ⟨rfl,Cls.start B⟩ rfl (fun _=>rfl) ?_ ?_
 . refine weak_by (fun _ _=>[(0,some 0),(2,some 2),(3,some 3),(4,some 4)]) ?_ ?_ rfl
   . repeat' (first|exact True.intro|exact VRen.map rfl|(refine⟨⟨_,rfl,?_⟩,?_⟩)|exact VRen.kf rfl|exact VRen.vec rfl rfl rfl)
   . repeat' (first|exact⟨Nat.le_refl _,rfl,fun i j hi hj=>VLe.of_eq (by obtain rfl:j=0:=(by omega);show V.int .i64 (if i<g.ids.length then (i:Int) else 0)=V.int .i64 _;rw[if_pos hi])⟩|exact⟨rfl,enX_nil _ _⟩|exact True.intro|(refine⟨⟨_,rfl,?_⟩,?_⟩)|exact VRen.kf rfl|(refine⟨Nat.le_refl _,rfl,fun i j hi hj=>?_⟩)|exact VLe.rfl|(refine And.intro ?_ ?_))
 rintro m ⟨a,p⟩ ⟨hm,hC⟩;simp only at hm hC;have hal:=hC.le;by_cases hab:a<B.length
 . dsimp only
   repeat' ((conv=>whnf);first|(refine Br.dec ?_ ?_<;>intro _<;>try omega))
   all_goals (conv=>whnf)
   refine loop_u mixed [2,3,4,5,6,8,9] [] [5,6,7,8,9,10,11,12,13,14,15,16,17,18,19,20,21,22,23,24,25,26,27,28,29] [4,3,2,0] (fun k:Nat=>[(10,.int .i64 k)]) (fun own k=>updO own 4 (.map (.st KE) (enX g (B.take k)))) (fun m k=>m=B.length-k/\a<=k/\k<=B.length/\∀j,a<=j->j<k->(gE B j).w=(gE B a).w) (B.length-a) a ⟨rfl,Nat.le_refl _,hal,fun j h1 h2=>by omega⟩ rfl (fun _=>rfl) ?_ ?_
   . exact weak_b (fun _ _=>[(0,some 0),(2,some 2),(3,some 3),(4,some 4)])
   rintro m k ⟨hm2,hak,hk,hw⟩;have z1:0+k=k:=Nat.zero_add _;have z2:0+a=a:=Nat.zero_add _;by_cases hgo:k<B.length/\(gE B (0+k)).w=(gE B (0+a)).w
   . obtain⟨hkn,hwk⟩:=hgo;have he:=(hB.edge hg hkn).2;have h1:(gE B (0+k)).a<g.ids.length:=by rw[z1];exact he.lu
     have h2:(gE B (0+k)).b<g.ids.length:=by rw[z1];exact he.lv
     have hch:=hC.ch hg hB hak hkn (by rw[z1,z2] at hwk;exact hwk);have hput:∀b:Bool,b=chE g (gE B k)->mput (enX g (B.take k)) (keyE (gE B (0+k))) (.bool b)=enX g (B.take (k+1)):=fun b hb=>by
      rw[z1];exact enX_put g (hB.nodup hg) hkn (by rw[hb])
     have hw':∀j,a<=j->j<k+1->(gE B j).w=(gE B a).w:=fun j h3 h4=>by
      by_cases e:j=k
      . subst e;rw[z1,z2] at hwk;exact hwk
      . exact hw j h3 (by omega)
     by_cases hpp:p (0+(gE B (0+k)).a)=p (0+(gE B (0+k)).b)
     . have hb:false=chE g (gE B k):=by
        rw[<- hch,decide_eq_true (by simpa only[Nat.zero_add] using hpp)];rfl
       repeat' ((conv=>whnf);first|(refine Ix.mk k (by omega) (by omega) ?_)|(refine Ix.mk a (by omega) (by omega) ?_)|(refine Ix.mk (gE B (0+k)).a rfl h1 ?_)|(refine Ix.mk (gE B (0+k)).b rfl h2 ?_)|(refine Br.dec ?_ ?_<;>intro _<;>try omega)|(refine Br.bne ?_ ?_<;>intro _<;>try omega)|(refine Ar.i64 (by omega) (by omega) ?_)|(refine Ltn.mk (by omega) ?_))
       all_goals (conv=>whnf)
       refine⟨B.length-(k+1),k+1,by omega,⟨rfl,by omega,by omega,hw'⟩,?_⟩;refine weak_by (fun _ _=>[(0,some 0),(2,some 2),(3,some 3),(4,some 4)]) ?_ ?_ rfl
       . repeat' (first|exact True.intro|exact VRen.map rfl|(refine⟨⟨_,rfl,?_⟩,?_⟩)|exact VRen.kf rfl|exact VRen.vec rfl rfl rfl)
       . repeat' (first|exact⟨rfl,(hput _ hb).symm⟩|exact True.intro|(refine⟨⟨_,rfl,?_⟩,?_⟩)|exact VRen.kf rfl|(refine⟨Nat.le_refl _,rfl,fun i j hi hj=>?_⟩)|exact VLe.rfl|(refine And.intro ?_ ?_))
     . have hb:true=chE g (gE B k):=by
        rw[<- hch,decide_eq_false (by simpa only[Nat.zero_add] using hpp)];rfl
       repeat' ((conv=>whnf);first|(refine Ix.mk k (by omega) (by omega) ?_)|(refine Ix.mk a (by omega) (by omega) ?_)|(refine Ix.mk (gE B (0+k)).a rfl h1 ?_)|(refine Ix.mk (gE B (0+k)).b rfl h2 ?_)|(refine Br.dec ?_ ?_<;>intro _<;>try omega)|(refine Br.bne ?_ ?_<;>intro _<;>try omega)|(refine Ar.i64 (by omega) (by omega) ?_)|(refine Ltn.mk (by omega) ?_))
       all_goals (conv=>whnf)
       refine⟨B.length-(k+1),k+1,by omega,⟨rfl,by omega,by omega,hw'⟩,?_⟩;refine weak_by (fun _ _=>[(0,some 0),(2,some 2),(3,some 3),(4,some 4)]) ?_ ?_ rfl
       . repeat' (first|exact True.intro|exact VRen.map rfl|(refine⟨⟨_,rfl,?_⟩,?_⟩)|exact VRen.kf rfl|exact VRen.vec rfl rfl rfl)
       . repeat' (first|exact⟨rfl,(hput _ hb).symm⟩|exact True.intro|(refine⟨⟨_,rfl,?_⟩,?_⟩)|exact VRen.kf rfl|(refine⟨Nat.le_refl _,rfl,fun i j hi hj=>?_⟩)|exact VLe.rfl|(refine And.intro ?_ ?_))
   . have hkn':k<B.length->(gE B k).w≠(gE B a).w:=fun h q=>hgo ⟨h,by rw[z1,z2];exact q⟩;have hka:a<k:=by
      by_cases e:a=k
      . subst e;exact(hkn' hab rfl).elim
      . omega
     repeat' ((conv=>whnf);first|(refine Ix.mk k (by omega) (by omega) ?_)|(refine Ix.mk a (by omega) (by omega) ?_)|(refine Br.dec ?_ ?_<;>intro _<;>try omega)|(refine Br.nble ?_ ?_<;>intro _<;>try omega)|(refine Bd.nat (by omega) ?_)|(refine Ltn.mk (by omega) ?_))
     all_goals (conv=>whnf)
     all_goals
      refine loop_u mixed [2,3,4,5,6,8,10,85,86] [] [5,6,7,8,9,10,11,12,13,14,15,16,17,18,19,20,21,22,23,24,25,26,27,28,29] [4,3,2,0] (fun s:Nat×(Nat->Int)=>[(87,.int .i64 s.1)]) (fun own s=>updO own 3 (.vec g.ids.length 1 (pF s.2))) (fun m s=>m=(k-a)-s.1/\s.1<=k-a/\Jng g B a k (a+s.1) s.2) (k-a) (0,p) ⟨rfl,Nat.zero_le _,⟨⟨Nat.le_refl _,hak,hk⟩,hC.pt⟩⟩ rfl (fun _=>rfl) ?_ ?_
      . exact weak_b (fun _ _=>[(0,some 0),(2,some 2),(3,some 3),(4,some 4)])
      rintro m3 ⟨i,q⟩ ⟨hm3,hi,hJ⟩;simp only at hm3 hi hJ;by_cases hik:i<k-a
      . dsimp only;have e0:0+a+i=a+i:=by omega
        have he:=(hB.edge hg (i:=a+i) (by omega)).2;have h1:(gE B (0+a+i)).a<g.ids.length:=by rw[e0];exact he.lu
        have h2:(gE B (0+a+i)).b<g.ids.length:=by rw[e0];exact he.lv
        have hjo:=join_ok g.ids.length (by omega) q (gE B (0+a+i)).a (gE B (0+a+i)).b h1 h2
        repeat' ((conv=>whnf);first|(refine Ix.mk i (by omega) (by omega) ?_)|(refine Br.dec ?_ ?_<;>intro _<;>try omega)|(refine Ar.i64 (by omega) (by omega) ?_)|(refine Ltn.mk (by omega) ?_)|(refine Chk.mk (by kernel_rfl) ?_)|(refine call_by [(0,some 3)] [] (hjo.mono ?_) ⟨VRen.vec rfl rfl rfl,VRen.int rfl,VRen.int rfl,True.intro⟩ (by repeat' (first|exact True.intro|(refine⟨⟨_,rfl,?_⟩,?_⟩)|(refine⟨Nat.le_refl _,rfl,fun i j hi hj=>?_⟩)|exact VLe.rfl)) rfl;rintro _ _ _ ⟨q',hq',rfl,rfl⟩))
        all_goals (conv=>whnf)
        rename_i q' hq';refine⟨(k-a)-(i+1),(i+1,q'),by omega,⟨rfl,by omega,⟨⟨by omega,by omega,hk⟩,?_⟩⟩,?_⟩
        . have:=(hJ.step hg hB (by omega)).pt;rw[e0] at hq';exact this.congr hq'
        . exact weak_b (fun _ _=>[(0,some 0),(2,some 2),(3,some 3),(4,some 4)])
      . have ei:i=k-a:=by omega
        subst ei;have hJ':Jng g B a k k q:=by have:=hJ;rwa[show a+(k-a)=k by omega] at this
        dsimp only
        repeat' ((conv=>whnf);first|(refine Br.dec ?_ ?_<;>intro _<;>try omega))
        all_goals (conv=>whnf)
        refine⟨B.length-k,(k,q),by omega,⟨rfl,hJ'.next hB hka hw hkn'⟩,?_⟩;exact weak_b (fun _ _=>[(0,some 0),(2,some 2),(3,some 3),(4,some 4)])
 . have ea:a=B.length:=by omega
   subst ea;dsimp only;simp only[List.take_length]
   repeat' ((conv=>whnf);first|(refine Br.dec ?_ ?_<;>intro _<;>try omega))
   all_goals (conv=>whnf)
   refine loop_u mixed [2,3,8,99,100] [5] [6,7,8,9,10,11,12,13,14,15,16,17,18,19,20,21,22,23,24,25,26,27,28,29] [5,4,3,2,0] (fun i:Nat=>[(14,.vec 5 2 0 (selT g i).length),(101,.int .i64 i)]) (fun own i=>(5,.vec (selT g i).length 2 (sF (selT g i)))::own) (fun m i=>m=(edgesL g).length-i/\i<=(edgesL g).length) (edgesL g).length 0 ⟨rfl,Nat.zero_le _⟩ rfl (fun _=>rfl) ?_ ?_
   . exact weak_b (fun _ _=>[(0,some 0),(2,some 2),(3,some 3),(4,some 4),(5,none)])
   rintro m i ⟨hm,hi⟩;by_cases hin:i<(edgesL g).length
   . have hmem:gE (edgesL g) i∈B:=by rw[hp.mem_iff,<- gE_of hin];exact List.getElem_mem hin
     have hfi:=enX_find g hmem;have hln:=selT_len g i;cases hch:chE g (gE (edgesL g) i) with
     | true =>
       rw[hch] at hfi;have hse:=selT_yes hin hch;have hsl:=selT_len g (i+1);have hsl2:(selT g (i+1)).length=(selT g i).length+1:=by rw[hse,List.length_append];rfl
       repeat' ((conv=>whnf);first|(refine Ix.mk i (by omega) (by omega) ?_)|(refine Br.dec ?_ ?_<;>intro _<;>try omega)|(refine Br.nbeq ?_ ?_<;>intro _<;>try omega)|(refine Ar.i64 (by omega) (by omega) ?_)|(refine Len.mk (by omega) ?_)|(refine MGet.of hfi ?_))
       all_goals (conv=>whnf)
       refine⟨(edgesL g).length-(i+1),i+1,by omega,⟨rfl,by omega⟩,?_⟩;dsimp only;rw[hsl2,hse];refine weak_by (fun env own=>[(0,some 0),(2,some 2),(3,some 3),(4,some 4),(5,ekey env 14)]) ?_ ?_ rfl
       . repeat' (first|exact True.intro|exact VRen.map rfl|(refine⟨⟨_,rfl,?_⟩,?_⟩)|exact VRen.kf rfl|exact VRen.vec rfl rfl rfl)
       . repeat' (first|exact⟨Nat.le_refl _,rfl,fun a b ha hb=>vle_appS (selT g i) _ _ _ a b rfl _ rfl rfl ha hb⟩|exact True.intro|exact⟨rfl,rfl⟩|(refine⟨⟨_,rfl,?_⟩,?_⟩)|exact VRen.kf rfl|(refine⟨Nat.le_refl _,rfl,fun i j hi hj=>?_⟩)|exact VLe.rfl|(refine And.intro ?_ ?_))
     | false =>
       rw[hch] at hfi;have hse:=selT_no hin hch
       repeat' ((conv=>whnf);first|(refine Ix.mk i (by omega) (by omega) ?_)|(refine Br.dec ?_ ?_<;>intro _<;>try omega)|(refine Ar.i64 (by omega) (by omega) ?_)|(refine MGet.of hfi ?_))
       all_goals (conv=>whnf)
       refine⟨(edgesL g).length-(i+1),i+1,by omega,⟨rfl,by omega⟩,?_⟩;dsimp only;rw[hse];exact weak_b (fun _ _=>[(0,some 0),(2,some 2),(3,some 3),(4,some 4),(5,some 5)])
   . have ei:i=(edgesL g).length:=by omega
     subst ei
     repeat' ((conv=>whnf);first|(refine Br.dec ?_ ?_<;>intro _<;>try omega)|(refine Len.mk (by omega) ?_))
     all_goals (conv=>whnf)
     rw[selT_end];exact VLe.tup ⟨VLe.fz rfl (fun h=>h) (fun i j hi hj=>VLe.of_eq (by rw[shiftF_eq,Nat.zero_add])),VLe.rfl,True.intro⟩
end Go.Proofs.YtefdkgkojlflaaaGreatDoor
