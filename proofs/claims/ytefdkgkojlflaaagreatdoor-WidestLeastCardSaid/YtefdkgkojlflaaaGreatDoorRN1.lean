import Derived.Test.YtefdkgkojlflaaaGreatDoorGR10
import Derived.Test.YtefdkgkojlflaaaGreatDoorEngZ
namespace Go.Proofs.YtefdkgkojlflaaaGreatDoor
open Go.Eng
set_option maxRecDepth 100000
set_option linter.unusedVariables false
def Q4C (p:Pr) (g:G) (v:Nat):Nat->Nat->V:=fun x j=>match j with
 | 0=>.int .i64 (bnd g (gV p.vars x) v).1
 | _=>.int .i64 (bnd g (gV p.vars x) v).2
def tbl (p:Pr) (g:G):Nat->Nat->V:=fun v _=>.fz p.vars.length 2 false (Q4C p g v)
def X8e (p:Pr) (g:G):V:=.fz g.ids.length 1 false (tbl p g)
def opn (v n k:Nat):List (Nat×Nat):=if v<n then[(v,k)] else[]
def Q8W (m v:Nat):Nat->Nat:=fun i=>if i<v then m else 0
def Q9S (p:Pr) (g:G) (v x:Nat):Nat->Nat->V:=fun i j=>if i<x then Q4C p g v i j else .int .i64 0
theorem Q6d (p:Pr) (g:G) (v x i j:Nat) (hj:j<2):VLe (J1R (J1R (Q9S p g v x) x 0 [.int .i64 (bnd g (gV p.vars x) v).1]) x 1 [.int .i64 (bnd g (gV p.vars x) v).2] i j) (Q9S p g v (x+1) i j):=by
 apply VLe.of_eq;by_cases h:i=x
 . subst h;obtain rfl|rfl:j=0\/j=1:=by omega
   . simp[J1R,Q9S,Q4C]
   . simp[J1R,Q9S,Q4C]
 . have h1:(i<x+1)=(i<x):=by simp;omega
   simp[J1R,Q9S,h,h1]
theorem J9g {c:List Nat} {q:Nat} {chg:List Nat} (h:J09 q chg=true):∀k,k∈(q::c)->k∈c\/k∈chg:=fun k hk=>by
 rcases List.mem_cons.1 hk with e|e
 . exact .inr (by rw[e];exact J0o.1 h)
 . exact .inl e
theorem Q68 (m v:Nat):Q8W m v v=0:=if_neg (by omega)
theorem Q3n (m v i:Nat):J3r (Q8W m v) v m i=Q8W m (v+1) i:=by
 simp only[J3r,Q8W];by_cases h:i=v
 . rw[if_pos h,if_pos (by omega)]
 . rw[if_neg h];by_cases h2:i<v
   . rw[if_pos h2,if_pos (by omega)]
   . rw[if_neg h2,if_neg (by omega)]
theorem J97 (p:Pr) (g:G) (v i j t:Nat) (hj:j<J3r (Q8W p.vars.length v) v p.vars.length i) (ht:t<2):VLe (J2j (Q4C p g) v (Q9S p g v p.vars.length) i j t) (Q4C p g i j t):=by
 apply VLe.of_eq;simp only[J2j];split
 . rename_i e;subst e;rw[J3r,if_pos rfl] at hj;rw[Q9S,if_pos hj]
 . rfl
theorem X2h {a b chg:List Nat} (h:(a.all fun k=>J09 k b)=true):∀k,k∈a->k∈b\/k∈chg:=fun k hk=>.inl (J0o.1 (List.all_eq_true.1 h k hk))
set_option maxHeartbeats 8000000 in
theorem Q2L (p:Pr) (hp:J6o p) (g:G) (hg:g.valid=true):Ret Tryz.prog 106 [p.v,g.v] (X8e p g):=by
 obtain⟨f1,f2,f3,f4,f5,f6,f7⟩:=J0a hg;have hvl:=hp.vlen;refine J0f rfl ?_;refine J0b mixed Tryz.func106 rfl Y1u Y0M rfl ?_
 repeat' ((conv=>whnf);first|(refine Bd.q ?_)|(refine Len.q ?_)|(refine MkS.vec ?_))
 all_goals (conv=>whnf)
 refine J0N mixed [2,3,5,14] [3] [4,5,6,7,8,9,10,11,12,13,14,15,16,17,18,19,20,21,22,23,24,25,26,27,28,29] [3,2,1,0] (fun v:Nat=>[(15,.int .i64 v)])
  (fun own v=>(3,.vec (Q8W p.vars.length v v) 2 (Q4C p g v))::J2i (J2i own 2 (.fam g.ids.length 2 (Q8W p.vars.length v) (Q4C p g) [])) 2 (.fam g.ids.length 2 (Q8W p.vars.length v) (Q4C p g) (opn v g.ids.length 3))) (fun k v=>k=g.ids.length-v/\v<=g.ids.length) g.ids.length 0 ⟨rfl,Nat.zero_le _⟩ rfl (fun _=>rfl) ?_ ?_
 . have e:opn 0 g.ids.length 3=[(0,3)]:=if_pos (by omega);simp only[e];refine J3C.trans ?_ (J1e (ks:=[3,4,5,6,7,8,9,10,11,12,13,14,15,16,17,18,19,20,21,22,23,24,25,26,27,28,29]) rfl rfl rfl (by omega) rfl) (J9g rfl);refine J0e (fun _ _=>[(0,some 0),(1,some 1),(2,some 2)]) ?_ ?_ rfl
   . repeat' (first|exact tI|(refine⟨⟨_,rfl,?_⟩,?_⟩)|exact J0c.kf rfl|exact J0c.loc rfl|exact J0c.q)
   . repeat' (first|exact⟨rfl,rfl,rfl,fun i hi=>⟨rfl,if_neg (by omega)⟩⟩|exact tI|(refine⟨⟨_,rfl,?_⟩,?_⟩)|exact J0c.kf rfl|apply And.intro)
 rintro k v ⟨hk,hv⟩;by_cases hvn:v<g.ids.length
 . have e:opn v g.ids.length 3=[(v,3)]:=if_pos hvn;simp only[e]
   repeat' ((conv=>whnf);first|(refine Br.dec ?_ ?_<;>intro _<;>try omega)|(refine Ix.q ?_)|(refine Bd.q ?_)|(refine Len.q ?_)|(refine Ltn.q ?_)|(refine J17.hd (by omega) ?_))
   all_goals (conv=>whnf)
   refine J0N mixed [2,3,5,6,14,15,26,27] [4] [5,6,7,8,9,10,11,12,13,14,15,16,17,18,19,20,21,22,23,24,25,26,27,28,29] [4,3,2,1,0] (fun x:Nat=>[(28,.int .i64 x)])
    (fun own x=>J2i own 4 (.vec p.vars.length 2 (Q9S p g v x))) (fun k x=>k=p.vars.length-x/\x<=p.vars.length) p.vars.length 0 ⟨rfl,Nat.zero_le _⟩ rfl (fun _=>rfl) ?_ ?_
   . refine J0e (fun _ _=>[(0,some 0),(1,some 1),(2,some 2),(3,some 3),(4,some 4)]) ?_ ?_ rfl
     . repeat' (first|exact tI|(refine⟨⟨_,rfl,?_⟩,?_⟩)|exact J0c.kf rfl|exact J0c.loc rfl|exact J0c.q)
     . repeat' (first|exact⟨rfl,rfl,⟨rfl,rfl,True.intro⟩,fun i hi=>rfl,fun i j t hi hn hj ht=>VLe.rfl⟩|(refine⟨Nat.le_refl _,rfl,fun i j hi hj=>VLe.of_eq ?_⟩;rw[Q9S,if_neg (by omega)];(obtain rfl|rfl:j=0\/j=1:=by omega)<;>rfl)|exact tI|(refine⟨⟨_,rfl,?_⟩,?_⟩)|exact J0c.kf rfl|(refine⟨Nat.le_refl _,rfl,fun i j hi hj=>?_⟩)|exact VLe.rfl|apply And.intro)
   rintro k x ⟨hk2,hx⟩;by_cases hxn:x<p.vars.length
   . have hb:=X2M g hg _ (hp.var x hxn) v (by omega)
     repeat' ((conv=>whnf);first|(refine Br.dec ?_ ?_<;>intro _<;>try omega)|(refine Ar.q ?_)|(refine Ix.q ?_)|(refine Ix.mk 0 rfl (by omega) ?_)|(refine Ix.mk 1 rfl (by omega) ?_)|(refine Ltn.q ?_)|(refine Opn.hdl (by omega) (show J3r _ _ _ _=p.vars.length from if_pos rfl) ?_)|(refine hb.go ?_)|(refine And.intro (Ltn.mk (by omega) (Opn.hdl (by omega) (show J3r _ _ _ _=p.vars.length from if_pos rfl) rfl)) ?_))
     all_goals (conv=>whnf)
     refine⟨p.vars.length-(x+1),x+1,by omega,⟨rfl,by omega⟩,?_⟩;refine J0e (fun _ _=>[(0,some 0),(1,some 1),(2,some 2),(3,some 3),(4,some 4)]) ?_ ?_ rfl
     . repeat' (first|exact tI|(refine⟨⟨_,rfl,?_⟩,?_⟩)|exact J0c.kf rfl|exact J0c.loc rfl|exact J0c.q)
     . repeat' (first|exact⟨rfl,rfl,⟨rfl,rfl,True.intro⟩,fun i hi=>rfl,fun i j t hi hn hj ht=>VLe.rfl⟩|(simp only[Nat.zero_add,Nat.zero_mul,Nat.one_mul];exact Q6d p g v x _ _ hj)|exact tI|(refine⟨⟨_,rfl,?_⟩,?_⟩)|exact J0c.kf rfl|(refine⟨Nat.le_refl _,rfl,fun i j hi hj=>?_⟩)|exact VLe.rfl|apply And.intro)
   . have ex:x=p.vars.length:=by omega
     subst ex
     repeat' ((conv=>whnf);first|(refine Br.dec ?_ ?_<;>intro _<;>try omega)|(refine Ar.q ?_))
     all_goals (conv=>whnf)
     refine⟨g.ids.length-(v+1),v+1,by omega,⟨rfl,by omega⟩,?_⟩;refine J3C.trans (J27 (J1V (q:=4) (k:=2) (i:=v) [] rfl rfl hvn (J0m rfl) (Nat.le_of_eq (if_pos rfl)) rfl (fun j hj=>(J0k (fun e=>hj e.symm)).symm))) ?_ (X2h rfl);by_cases h1:v+1<g.ids.length
     . have e1:opn (v+1) g.ids.length 3=[(v+1,3)]:=if_pos h1;simp only[e1];refine J3C.trans ?_ (J1e (ks:=[3,4,5,6,7,8,9,10,11,12,13,14,15,16,17,18,19,20,21,22,23,24,25,26,27,28,29]) rfl rfl rfl h1 rfl) (J9g rfl);refine J0e (fun _ _=>[(0,some 0),(1,some 1),(2,some 2)]) ?_ ?_ rfl
       . repeat' (first|exact tI|(refine⟨⟨_,rfl,?_⟩,?_⟩)|exact J0c.kf rfl|exact J0c.loc rfl|exact J0c.q)
       . repeat' (first|exact⟨rfl,rfl,True.intro,fun i hi=>(Q3n _ _ _).symm,fun i j t hi hn hj ht=>J97 p g v i j t hj ht⟩|exact tI|(refine⟨⟨_,rfl,?_⟩,?_⟩)|exact J0c.kf rfl|apply And.intro)
     . have e1:opn (v+1) g.ids.length 3=[]:=if_neg h1;simp only[e1];refine J0e (fun _ _=>[(0,some 0),(1,some 1),(2,some 2),(3,none)]) ?_ ?_ rfl
       . repeat' (first|exact tI|(refine⟨⟨_,rfl,?_⟩,?_⟩)|exact J0c.kf rfl|exact J0c.loc rfl|exact J0c.q)
       . repeat' (first|exact⟨rfl,rfl,True.intro,fun i hi=>(Q3n _ _ _).symm,fun i j t hi hn hj ht=>J97 p g v i j t hj ht⟩|exact⟨2,Q4C p g (v+1),by rw[Q68]⟩|exact tI|(refine⟨⟨_,rfl,?_⟩,?_⟩)|exact J0c.kf rfl|apply And.intro)
 . have e:opn v g.ids.length 3=[]:=if_neg hvn;have ev:v=g.ids.length:=by omega
   simp only[e]
   repeat' ((conv=>whnf);first|(refine Br.dec ?_ ?_<;>intro _<;>try omega)|(refine Len.q ?_))
   all_goals (conv=>whnf)
   refine VLe.fz rfl (fun h=>h) (fun i j hi hj=>?_);show VLe (.fz (Q8W p.vars.length v i) 2 false (Q4C p g i)) (.fz p.vars.length 2 false (Q4C p g i));rw[show Q8W p.vars.length v i=p.vars.length from if_pos (by omega)];exact VLe.rfl
theorem Q9E (p:Pr) (g:G) (v:Nat) (l:List Int) (h1:p.vars.length<=1000) (h:l.length=p.vars.length) (hb:∀x,x<p.vars.length->(bnd g (gV p.vars x) v).1<=gI l x/\gI l x<=(bnd g (gV p.vars x) v).2) :
 Ret Tryz.prog 133 [.fz p.vars.length 2 false (Q4C p g v),.fz l.length 1 false (vI l)] (.bool true):=by
 refine J0f rfl ?_;refine J0b mixed Tryz.func133 rfl Y1l Y0D rfl ?_
 repeat' ((conv=>whnf);first|(refine Br.bne ?_ ?_<;>intro _<;>try omega))
 all_goals (conv=>whnf)
 refine J0V mixed [0,12,13] (fun i:Nat=>[(14,.int .i64 i)]) (fun m i=>m=l.length-i/\i<=l.length) l.length 0 ⟨rfl,Nat.zero_le _⟩ ?_ ?_
 . exact J0l (fun _ _=>[])
 rintro m i ⟨hm,hi⟩;by_cases hil:i<l.length
 . have hb:=hb i (by omega)
   repeat' ((conv=>whnf);first|(refine Br.dec ?_ ?_<;>intro _<;>try omega)|(refine Ar.q ?_)|(refine Ix.q ?_)|(refine Ix.mk 0 rfl (by omega) ?_)|(refine Ix.mk 1 rfl (by omega) ?_))
   all_goals (conv=>whnf)
   all_goals first
    | (exfalso;omega)
    | (refine⟨l.length-(i+1),i+1,by omega,⟨rfl,by omega⟩,?_⟩
       exact J0l (fun _ _=>[]))
 . repeat' ((conv=>whnf);first|(refine Br.dec ?_ ?_<;>intro _<;>try omega))
   all_goals (conv=>whnf)
   exact VLe.rfl
structure J2o (p:Pr) (g:G) (c:Cf):Prop where
 len:c.length=g.ids.length
 row:∀v,v<c.length->(gC c v).length=p.vars.length
 val:∀v,v<c.length->∀x,x<p.vars.length->(bnd g (gV p.vars x) v).1<=gI (gC c v) x/\gI (gC c v) x<=(bnd g (gV p.vars x) v).2
theorem J2o.fit {p:Pr} (hp:J6o p) {g:G} (hg:g.valid=true) {c:Cf} (h:J2o p g c):Fit g p.vars.length c:=by
 obtain⟨f1,f2,f3,f4,f5,f6,f7⟩:=J0a hg;refine⟨h.len.trans f3.symm,h.row,fun v hv x hx=>?_⟩;have h1:=h.val v hv x hx;have h2:=Q38 hg (hp.var x hx) (v:=v) (by rw[f3,<- h.len];exact hv);unfold inR;omega
theorem Q4i (p:Pr) (hp:J6o p) (g:G) (hg:g.valid=true) (c:Cf) (hc:J2o p g c):Ret Tryz.prog 105 [X8e p g,cV c] (.bool true):=by
 obtain⟨f1,f2,f3,f4,f5,f6,f7⟩:=J0a hg;have hcl:=hc.len;refine J0f rfl ?_;refine J0b mixed Tryz.func105 rfl Y1v Y0N rfl ?_
 repeat' ((conv=>whnf);first|(refine Br.bne ?_ ?_<;>intro _<;>try omega))
 all_goals (conv=>whnf)
 refine J0V mixed [1,12,13] (fun i:Nat=>[(14,.int .i64 i)]) (fun m i=>m=g.ids.length-i/\i<=g.ids.length) g.ids.length 0 ⟨rfl,Nat.zero_le _⟩ ?_ ?_
 . exact J0l (fun _ _=>[])
 rintro m i ⟨hm,hi⟩;by_cases hil:i<g.ids.length
 . have hs:=Q9E p g i (gC c i) hp.vlen (hc.row i (by omega)) (hc.val i (by omega))
   repeat' ((conv=>whnf);first|(refine Br.tt ?_)|(refine Br.dec ?_ ?_<;>intro _<;>try omega)|(refine Ar.q ?_)|(refine Ix.q ?_)|(refine hs.go ?_))
   all_goals (conv=>whnf)
   refine⟨g.ids.length-(i+1),i+1,by omega,⟨rfl,by omega⟩,?_⟩;exact J0l (fun _ _=>[])
 . repeat' ((conv=>whnf);first|(refine Br.dec ?_ ?_<;>intro _<;>try omega))
   all_goals (conv=>whnf)
   exact VLe.rfl
theorem X1i (p:Pr) (hp:J6o p) (g:G) (hs:g.Small) (hg:g.valid=true) (c:Cf) (hc:J2o p g c):Ret Tryz.prog 86 [p.v,g.v,cV c] (.int .i64 0):=by
 have h1:=X4G p hp g hs hg;have h2:=Q2L p hp g hg;have h3:=Q4i p hp g hg c hc;refine J0f rfl ?_;refine J0b mixed Tryz.func86 rfl hc86 hr86 rfl ?_
 repeat' ((conv=>whnf);first|(refine Br.tt ?_)|(refine Br.ff ?_)|(refine h1.go ?_)|(refine h2.go ?_)|(refine h3.go ?_))
 all_goals (conv=>whnf)
 exact VLe.rfl
def mvP (p:Pr) (g:G):V:=.fe 1 5 (tab [[.str p.nm,p.pg.vs,p.pg.rs,scP p.pg g,X8e p g]]) 0 0
theorem X0O (p:Pr) (hp:J6o p) (g:G) (hg:g.valid=true) (c:Cf) (hc:J2o p g c) (v:Nat) (hv:v<g.ports.length) (i:Nat) (hi:i<p.rules.length) :
 Ret Tryz.prog 168 [scP p.pg g,cV c,.int .i64 v,.int .i64 i] (.bool (decide ((gRl p.rules i).gd.sem g c v (-1)≠0))):=by
 have hgd:=hp.gd i hi;simp only[Tm.okB,Bool.and_eq_true,decide_eq_true_eq] at hgd;have h1:=Q4d p.pg g hg (hc.fit hp hg) v hv (gRl p.rules i).gd hgd.2 hgd.1;refine J0f rfl ?_;refine J0b mixed Tryz.func168 rfl Y06 Y0o rfl ?_
 repeat' ((conv=>whnf);first|(refine Br.bne ?_ ?_<;>intro _<;>try omega)|(refine Ix.q ?_)|(refine h1.go ?_))
 all_goals (conv=>whnf)
 . rename_i h;exact VLe.bool (decide_eq_true h).symm
 . rename_i h;exact VLe.bool (decide_eq_false (by simpa using h)).symm
def gds (p:Pr) (g:G) (c:Cf) (v:Nat):List Int:=p.rules.map fun r=>r.gd.sem g c v (-1)
def J1U (p:Pr) (g:G) (c:Cf) (v:Nat):Int:=Q0H 0 (gds p g c v)
theorem X4w (p:Pr) (g:G) (c:Cf) (v i:Nat) (hi:i<p.rules.length):gI (gds p g c v) i=(gRl p.rules i).gd.sem g c v (-1):=by
 simp[gds,gI,gRl,hi]
theorem Q6a (p:Pr) (hp:J6o p) (g:G) (hg:g.valid=true) (c:Cf) (hc:J2o p g c) (v:Nat) (hv:v<g.ports.length) :
 Ret Tryz.prog 137 [mvP p g,cV c,.int .i64 v] (.int .i64 (J1U p g c v)):=by
 have hrl:=hp.rlen;have hgl:(gds p g c v).length=p.rules.length:=by simp[gds]
 refine J0f rfl ?_;refine J0b mixed Tryz.func137 rfl Y1h Y0z rfl ?_
 repeat' ((conv=>whnf);first|fail)
 all_goals (conv=>whnf)
 refine J0V mixed [0,1,2,13] (fun i:Nat=>[(14,.int .i64 i)]) (fun m i=>m=p.rules.length-i/\i<=p.rules.length/\∀a∈(gds p g c v).take i,a=0) p.rules.length 0 ⟨rfl,Nat.zero_le _,by simp⟩ ?_ ?_
 . exact J0l (fun _ _=>[])
 rintro m i ⟨hm,hi,hall⟩;by_cases hil:i<p.rules.length
 . have hgu:=X0O p hp g hg c hc v hv i hil;have hge:=X4w p g c v i hil;by_cases hz:(gRl p.rules i).gd.sem g c v (-1)=0
   . rw[decide_eq_false (by simpa using hz)] at hgu
     repeat' ((conv=>whnf);first|(refine Br.ff ?_)|(refine Br.dec ?_ ?_<;>intro _<;>try omega)|(refine Ar.q ?_)|(refine hgu.go ?_))
     all_goals (conv=>whnf)
     refine⟨p.rules.length-(i+1),i+1,by omega,⟨rfl,by omega,?_⟩,?_⟩
     . rw[J01 _ i (by omega)];intro a ha;rcases List.mem_append.1 ha with h|h
       . exact hall a h
       . simp at h;rw[h,hge];exact hz
     . exact J0l (fun _ _=>[])
   . rw[decide_eq_true hz] at hgu
     repeat' ((conv=>whnf);first|(refine Br.tt ?_)|(refine Br.dec ?_ ?_<;>intro _<;>try omega)|(refine hgu.go ?_))
     all_goals (conv=>whnf)
     refine VLe.int ?_;rw[J1U,J2B _ 0 i (by omega) hall,Q7A _ i (by omega)];simp only[Q0H,hge];rw[if_pos hz];omega
 . repeat' ((conv=>whnf);first|(refine Br.dec ?_ ?_<;>intro _<;>try omega))
   all_goals (conv=>whnf)
   refine VLe.int ?_;rw[J1U,J2B _ 0 i (by omega) hall,List.drop_of_length_le (by omega)];rfl
theorem X67 (p:Pr) (hp:J6o p) (g:G) (hg:g.valid=true) (c:Cf) (hc:J2o p g c) (v:Nat) (hv:v<g.ports.length) :
 Ret Tryz.prog 136 [.int .i64 v,.fe 1 1 (tab [[mvP p g]]) 0 0,.fe 1 1 (tab [[cV c]]) 0 0] (.bool (decide (0<=J1U p g c v))):=by
 have h1:=Q6a p hp g hg c hc v hv;refine J0f rfl ?_;refine J0b mixed Tryz.func136 rfl Y1i Y0A rfl ?_
 repeat' ((conv=>whnf);first|(refine Br.dec ?_ ?_<;>intro _<;>try omega)|(refine h1.go ?_))
 all_goals (conv=>whnf)
 . rename_i h;exact VLe.bool (decide_eq_true (by omega)).symm
 . rename_i h;exact VLe.bool (decide_eq_false (by omega)).symm
def enN (p:Pr) (g:G) (c:Cf):Nat:=nb (fun v=>decide (0<=J1U p g c v)) g.ids.length
theorem J5j:∀(l:Lt2) (k i:Nat) (b:Int),i<=l.length->(∀a∈l.take i,a.1≠b)->J9J k l b=J9J (k+i) (l.drop i) b
 | _,k,0,_,_,_=>by simp
 | [],k,i+1,b,h,_=>by simp at h
 | a::r,k,i+1,b,h,h2=>by
   have ha:a.1≠b:=h2 a (by simp);simp only[J9J,ha,if_false,List.drop_succ_cons];rw[J5j r (k+1) i b (by simpa using h) (fun x hx=>h2 x (by simp[hx]))];congr 1;omega
theorem X6g (g:G) (hg:g.valid=true) (a:Nat) (b:Int) (ha:a<g.ports.length):Ret Tryz.prog 134 [g.v,.int .i64 a,.int .i64 b] (.int .i64 (J9J 0 (gR g.ports a) b)):=by
 have hrl:=J6P hg a;refine J0f rfl ?_;refine J0b mixed Tryz.func134 rfl Y1k Y0C rfl ?_
 repeat' ((conv=>whnf);first|(refine Ix.q ?_))
 all_goals (conv=>whnf)
 refine J0V mixed [2,13,14] (fun i:Nat=>[(15,.int .i64 i)]) (fun m i=>m=(gR g.ports a).length-i/\i<=(gR g.ports a).length/\∀l∈(gR g.ports a).take i,l.1≠b) (gR g.ports a).length 0 ⟨rfl,Nat.zero_le _,by simp⟩ ?_ ?_
 . exact J0l (fun _ _=>[(0,some 0)])
 rintro m i ⟨hm,hi,hall⟩
 repeat' ((conv=>whnf);first|(refine Br.dec ?_ ?_<;>intro _<;>try omega)|(refine Ar.q ?_)|(refine Ix.q ?_))
 all_goals (conv=>whnf)
 . refine VLe.int ?_;rename_i h;rw[J5j _ 0 i b hi hall,Q1V _ i (by omega),J9J,if_pos h];omega
 . rename_i h;refine⟨(gR g.ports a).length-(i+1),i+1,by omega,⟨rfl,by omega,?_⟩,?_⟩
   . rw[J1D _ i (by omega)];intro l hl;rcases List.mem_append.1 hl with h1|h1
     . exact hall l h1
     . simp at h1;rw[h1];exact h
   . exact J0l (fun _ _=>[(0,some 0)])
 . refine VLe.int ?_;rw[J5j _ 0 i b hi hall,List.drop_of_length_le (by omega)];rfl
def Q0c (g:G) (v:Nat):Nat->Nat->V:=fun i _=>.int .i64 (X1E g v i)
def Q5k (g:G) (v:Nat):Nat->Nat:=fun i=>if i<v then (gR g.ports i).length else 0
theorem Q0A (g:G) (v:Nat):Q5k g v v=0:=if_neg (by omega)
theorem Q3o (g:G) (v i:Nat):J3r (Q5k g v) v (gR g.ports v).length i=Q5k g (v+1) i:=by
 simp only[J3r,Q5k];by_cases h:i=v
 . rw[if_pos h,if_pos (by omega),h]
 . rw[if_neg h];by_cases h2:i<v
   . rw[if_pos h2,if_pos (by omega)]
   . rw[if_neg h2,if_neg (by omega)]
theorem Q7a (g:G) (v i:Nat):J3r (Q5k g v) v 0 i=Q5k g v i:=by
 simp only[J3r];split
 . rename_i e;subst e;exact(Q0A g i).symm
 . rfl
theorem Q55 (f:Nat->Nat) (v a b i:Nat):J3r f v b i=J3r (J3r f v a) v b i:=by
 simp only[J3r];split<;>rfl
theorem J96 (g:G) (v i j t:Nat):VLe (J2j (Q0c g) v (Q0c g v) i j t) (Q0c g i j t):=by
 apply VLe.of_eq;simp only[J2j];split
 . rename_i e;rw[e]
 . rfl
theorem Q9k (g:G) (v i a b:Nat) (ha:a<i+1) (hb:b<1):VLe (J4o (J0h 0 (Q0c g v)) i (J0h 0 (tab [[.int .i64 (J9J 0 (gR g.ports (gF (gR g.ports v) i).1.toNat) v)]])) a b) (Q0c g v a b):=by
 obtain rfl:b=0:=by omega
 apply VLe.of_eq;by_cases h:a<i
 . rw[J1E h];simp[J0h]
 . rw[J1F h];have:a=i:=by omega
   subst this;simp[J0h,tab,Q0c,X1E]
theorem X5O {n s i j:Nat} {f f':Nat->Nat->V} (h:∀a b,a<n->b<s->VLe (f a b) (f' a b)):VLe (.fe n s f i j) (.fe n s f' i j) :=
 ⟨fun M w u hd=>by
   cases hd with
   | fe _ _ _ _ _ _ b off u hi hM hb hcell h1 hd=>exact .fe _ _ _ _ _ _ b off u hi hM hb hcell h1 (fun a b ha hb=>(h a b ha hb).out _ _ _ (hd a b ha hb))⟩
set_option maxHeartbeats 16000000 in
theorem Q9N (p:Pr) (g:G) (hg:g.valid=true):Ret Tryz.prog 107 [p.v,g.v] (scP p.pg g):=by
 obtain⟨f1,f2,f3,f4,f5,f6,f7⟩:=J0a hg;refine J0f rfl ?_;refine J0b mixed Tryz.func107 rfl Y1t Y0L rfl ?_
 repeat' ((conv=>whnf);first|(refine Bd.q ?_)|(refine Len.q ?_)|(refine MkS.vec ?_))
 all_goals (conv=>whnf)
 refine J0N mixed [3,5,19,20] [4] [5,6,7,8,9,10,11,12,13,14,15,16,17,18,19,20,21,22,23,24,25,26,27,28,29] [4,3,2,1,0] (fun v:Nat=>[(21,.int .i64 v)])
  (fun own v=>(4,.vec (Q5k g v v) 1 (Q0c g v))::J2i (J2i (J2i own 3 (.cells [.str p.nm,p.pg.vs,p.pg.rs,.fz g.ids.length 1 false (vI g.ids),.fz g.ports.length 1 false (vP g.ports),.int .i64 (J4i (g.ids.take v) 0),.vec 2 1 0 g.ports.length])) 2 (.fam g.ports.length 1 (Q5k g v) (Q0c g) [])) 2 (.fam g.ports.length 1 (Q5k g v) (Q0c g) (opn v g.ports.length 4))) (fun k v=>k=g.ports.length-v/\v<=g.ports.length) g.ports.length 0 ⟨rfl,Nat.zero_le _⟩ rfl (fun _=>rfl) ?_ ?_
 . have e:opn 0 g.ports.length 4=[(0,4)]:=if_pos (by omega);simp only[e];refine J3C.trans ?_ (J1e (ks:=[4,5,6,7,8,9,10,11,12,13,14,15,16,17,18,19,20,21,22,23,24,25,26,27,28,29]) rfl rfl rfl (by omega) rfl) (J9g rfl);refine J0e (fun _ _=>[(0,some 0),(1,some 1),(2,some 2),(3,some 3)]) ?_ ?_ rfl
   . repeat' (first|exact tI|(refine⟨⟨_,rfl,?_⟩,?_⟩)|exact J0c.kf rfl|exact J0c.loc rfl)
   . repeat' (first|exact⟨rfl,rfl,rfl,fun i hi=>⟨rfl,if_neg (by omega)⟩⟩|exact tI|(refine⟨⟨_,rfl,?_⟩,?_⟩)|exact J0c.kf rfl|exact J0c.q|apply And.intro)
 rintro k v ⟨hk,hv⟩;by_cases hvn:v<g.ports.length
 . have e:opn v g.ports.length 4=[(v,4)]:=if_pos hvn;simp only[e];have hrl:=J6P hg v
   repeat' ((conv=>whnf);first|(refine Br.dec ?_ ?_<;>intro _<;>try omega)|(refine Sv.mk _ rfl ?_)|(refine Ix.q ?_))
   all_goals (conv=>whnf)
   refine J0N mixed [3,5,6,19,20,21,39,40] [4] [5,6,7,8,9,10,11,12,13,14,15,16,17,18,19,20,21,22,23,24,25,26,27,28,29] [4,3,2,1,0] (fun i:Nat=>[(41,.int .i64 i)])
    (fun own i=>J2i (J2i own 4 (.vec i 1 (Q0c g v))) 2 (.fam g.ports.length 1 (J3r (Q5k g v) v i) (Q0c g) [(v,4)])) (fun k i=>k=(gR g.ports v).length-i/\i<=(gR g.ports v).length) (gR g.ports v).length 0 ⟨rfl,Nat.zero_le _⟩ rfl (fun _=>rfl) ?_ ?_
   . refine J0e (fun _ _=>[(0,some 0),(1,some 1),(2,some 2),(3,some 3),(4,some 4)]) ?_ ?_ rfl
     . repeat' (first|exact tI|(refine⟨⟨_,rfl,?_⟩,?_⟩)|exact J0c.kf rfl|exact J0c.loc rfl)
     . repeat' (first|exact⟨rfl,rfl,⟨rfl,rfl,True.intro⟩,fun i hi=>Q7a _ _ _,fun i j t hi hn hj ht=>VLe.rfl⟩|exact tI|(refine⟨⟨_,rfl,?_⟩,?_⟩)|exact J0c.kf rfl|exact J0c.q|(refine⟨by omega,rfl,fun i j hi hj=>?_⟩)|exact VLe.rfl|apply And.intro)
   rintro k i ⟨hk2,hi⟩;by_cases hin:i<(gR g.ports v).length
   . have hr:=Q0m (f6 v hvn) hin;have hp:=X6g g hg (gF (gR g.ports v) i).1.toNat v (by omega);rw[show(((gF (gR g.ports v) i).1.toNat:Nat):Int)=(gF (gR g.ports v) i).1 by omega] at hp
     repeat' ((conv=>whnf);first|(refine Br.dec ?_ ?_<;>intro _<;>try omega)|(refine Br.nbeq ?_ ?_<;>intro _<;>try omega)|(refine Ar.q ?_)|(refine Ix.q ?_)|(refine Len.q ?_)|(refine Ltn.q ?_)|(refine hp.go ?_)|(refine Opn.hdl (by omega) (show J3r _ _ _ _=i from if_pos rfl) ?_)|(refine And.intro (Ltn.mk (by omega) (Opn.hdl (by omega) (show J3r _ _ _ _=i from if_pos rfl) rfl)) ?_)|(refine J17.hd (by omega) ?_)|(refine And.intro rfl ?_))
     all_goals (conv=>whnf)
     refine⟨(gR g.ports v).length-(i+1),i+1,by omega,⟨rfl,by omega⟩,?_⟩;refine J0e (fun env own=>[(0,some 0),(1,some 1),(2,some 2),(3,some 3),(4,Q8Z env 63)]) ?_ ?_ rfl
     . repeat' (first|exact tI|(refine⟨⟨_,rfl,?_⟩,?_⟩)|exact J0c.kf rfl|exact J0c.loc rfl)
     . repeat' (first|exact⟨rfl,rfl,⟨rfl,rfl,True.intro⟩,fun i hi=>Q55 _ _ _ _ _,fun i j t hi hn hj ht=>VLe.rfl⟩|exact⟨Nat.le_refl _,rfl,fun a b ha hb=>Q9k g v i a b ha hb⟩|exact tI|(refine⟨⟨_,rfl,?_⟩,?_⟩)|exact J0c.kf rfl|exact J0c.q|apply And.intro)
   . have ei:i=(gR g.ports v).length:=by omega
     subst ei
     repeat' ((conv=>whnf);first|(refine Br.dec ?_ ?_<;>intro _<;>try omega)|(refine Ar.q ?_))
     all_goals (conv=>whnf)
     refine⟨g.ports.length-(v+1),v+1,by omega,⟨rfl,by omega⟩,?_⟩;refine J3C.trans (J27 (J1V (q:=4) (k:=2) (i:=v) [] rfl rfl hvn (J0m rfl) (Nat.le_of_eq (if_pos rfl)) rfl (fun j hj=>(J0k (fun e=>hj e.symm)).symm))) ?_ (X2h rfl);have em:J4i (g.ids.take (v+1)) 0=if gI g.ids v > J4i (g.ids.take v) 0 then gI g.ids v else J4i (g.ids.take v) 0:=by rw[J01 g.ids v (by omega),J3O]
     simp only[em];by_cases h1:v+1<g.ports.length
     . have e1:opn (v+1) g.ports.length 4=[(v+1,4)]:=if_pos h1;simp only[e1];refine J3C.trans ?_ (J1e (ks:=[4,5,6,7,8,9,10,11,12,13,14,15,16,17,18,19,20,21,22,23,24,25,26,27,28,29]) rfl rfl rfl h1 rfl) (J9g rfl);refine J0e (fun _ _=>[(0,some 0),(1,some 1),(2,some 2),(3,some 3)]) ?_ ?_ rfl
       . repeat' (first|exact tI|(refine⟨⟨_,rfl,?_⟩,?_⟩)|exact J0c.kf rfl|exact J0c.loc rfl)
       . repeat' (first|exact⟨rfl,rfl,True.intro,fun i hi=>(Q3o _ _ _).symm,fun i j t hi hn hj ht=>J96 g v i j t⟩|exact tI|(refine⟨⟨_,rfl,?_⟩,?_⟩)|exact J0c.kf rfl|exact J0c.q|apply And.intro)
     . have e1:opn (v+1) g.ports.length 4=[]:=if_neg h1;simp only[e1];refine J0e (fun _ _=>[(0,some 0),(1,some 1),(2,some 2),(3,some 3),(4,none)]) ?_ ?_ rfl
       . repeat' (first|exact tI|(refine⟨⟨_,rfl,?_⟩,?_⟩)|exact J0c.kf rfl|exact J0c.loc rfl)
       . repeat' (first|exact⟨rfl,rfl,True.intro,fun i hi=>(Q3o _ _ _).symm,fun i j t hi hn hj ht=>J96 g v i j t⟩|exact⟨1,Q0c g (v+1),by rw[Q0A]⟩|exact tI|(refine⟨⟨_,rfl,?_⟩,?_⟩)|exact J0c.kf rfl|exact J0c.q|apply And.intro)
 . have e:opn v g.ports.length 4=[]:=if_neg hvn;have ev:v=g.ports.length:=by omega
   simp only[e]
   repeat' ((conv=>whnf);first|(refine Br.dec ?_ ?_<;>intro _<;>try omega)|(refine Len.q ?_))
   all_goals (conv=>whnf)
   refine X5O (fun a b ha hb=>?_);obtain rfl:a=0:=by omega
   have hb:b<7:=hb;have em:J4i (g.ids.take v) 0=Q4s g:=by rw[List.take_of_length_le (by omega)];rfl
   rcases (show b=0\/b=1\/b=2\/b=3\/b=4\/b=5\/b=6 by omega) with rfl|rfl|rfl|rfl|rfl|rfl|rfl
   . exact VLe.rfl
   . exact VLe.rfl
   . exact VLe.rfl
   . exact VLe.rfl
   . exact VLe.rfl
   . exact VLe.int em
   . refine VLe.fz rfl (fun h=>h) (fun i j hi hj=>?_);show VLe (.fz (Q5k g v i) 1 false (Q0c g i)) (.fz (gR g.ports i).length 1 false (Q0c g i));rw[show Q5k g v i=(gR g.ports i).length from if_pos (by omega)];exact VLe.rfl
theorem X0k (p:Pr) (hp:J6o p) (g:G) (hg:g.valid=true):Ret Tryz.prog 88 [p.v,g.v] (mvP p g):=by
 have h1:=Q9N p g hg;have h2:=Q2L p hp g hg;refine J0f rfl ?_;refine J0b mixed Tryz.func88 rfl hc88 hr88 rfl ?_
 repeat' ((conv=>whnf);first|(refine h1.go ?_)|(refine h2.go ?_)|(refine And.intro rfl ?_))
 all_goals (conv=>whnf)
 exact VLe.rfl
set_option maxHeartbeats 4000000 in
theorem Q54 (p:Pr) (hp:J6o p) (g:G) (hg:g.valid=true) (c:Cf) (hc:J2o p g c) :
 J0K Tryz.prog 135 [.int .i64 g.ids.length,.fn (.func 136) false [.loc 0 0,.loc 1 0]] [(1,.cells [cV c]),(0,.cells [mvP p g])] [2,3,4,5,6,7,8,9,10,11,12,13,14,15,16,17,18,19,20,21,22,23,24,25,26,27,28,29] fun v own' _=>v=.int .u32 (enN p g c)/\own'=[(1,.cells [cV c]),(0,.cells [mvP p g])]:=by
 obtain⟨f1,f2,f3,f4,f5,f6,f7⟩:=J0a hg;refine J0b mixed Tryz.func135 rfl Y1j Y0B rfl ?_
 repeat' ((conv=>whnf);first|fail)
 all_goals (conv=>whnf)
 refine J0V mixed [1,7] (fun i:Nat=>[(5,.int .u32 (nb (fun v=>decide (0<=J1U p g c v)) i)),(8,.int .i64 i)]) (fun m i=>m=g.ids.length-i/\i<=g.ids.length) g.ids.length 0 ⟨rfl,Nat.zero_le _⟩ ?_ ?_
 . exact J0l (fun _ _=>[(0,some 0),(1,some 1)])
 rintro m i ⟨hm,hi⟩;by_cases hin:i<g.ids.length
 . have he:=X67 p hp g hg c hc i (by omega);cases hd:decide (0<=J1U p g c i) with
   | true =>
     rw[hd] at he
     repeat' ((conv=>whnf);first|(refine Br.tt ?_)|(refine Br.dec ?_ ?_<;>intro _<;>try omega)|(refine Ar.q ?_)|(refine Ar.sh1 (by omega) ?_)|(refine Sv.mk _ rfl ?_)|(refine Nn.mk (by omega) ?_)|(refine Chk.q ?_)|(refine J1n he rfl ⟨VLe.rfl,VLe.rfl,VLe.rfl,True.intro⟩ ?_))
     all_goals (conv=>whnf)
     have hx:=X9X (p:=fun v=>decide (0<=J1U p g c v)) (k:=i) (by omega) hd;refine⟨g.ids.length-(i+1),i+1,by omega,⟨rfl,by omega⟩,?_⟩;refine J0e (fun _ _=>[(0,some 0),(1,some 1)]) ?_ ?_ rfl
     . repeat' (first|exact J0c.int hx|exact tI|(refine J0c.fn ?_)|(refine⟨⟨_,rfl,?_⟩,?_⟩)|exact J0c.kf rfl|exact J0c.loc rfl|apply And.intro)
     . repeat' (first|exact tI|(refine⟨⟨_,rfl,?_⟩,?_⟩)|exact J0c.kf rfl|apply And.intro)
   | false =>
     rw[hd] at he
     repeat' ((conv=>whnf);first|(refine Br.ff ?_)|(refine Br.dec ?_ ?_<;>intro _<;>try omega)|(refine Ar.q ?_)|(refine Chk.q ?_)|(refine J1n he rfl ⟨VLe.rfl,VLe.rfl,VLe.rfl,True.intro⟩ ?_))
     all_goals (conv=>whnf)
     have hx:=X9Y (p:=fun v=>decide (0<=J1U p g c v)) (k:=i) hd;refine⟨g.ids.length-(i+1),i+1,by omega,⟨rfl,by omega⟩,?_⟩;refine J0e (fun _ _=>[(0,some 0),(1,some 1)]) ?_ ?_ rfl
     . repeat' (first|exact J0c.int (by rw[hx])|exact tI|(refine J0c.fn ?_)|(refine⟨⟨_,rfl,?_⟩,?_⟩)|exact J0c.kf rfl|exact J0c.loc rfl|apply And.intro)
     . repeat' (first|exact tI|(refine⟨⟨_,rfl,?_⟩,?_⟩)|exact J0c.kf rfl|apply And.intro)
 . repeat' ((conv=>whnf);first|(refine Br.dec ?_ ?_<;>intro _<;>try omega))
   all_goals (conv=>whnf)
   have e:i=g.ids.length:=by omega
   exact⟨by rw[enN,e],rfl⟩
theorem X2e (p:Pr) (hp:J6o p) (g:G) (hg:g.valid=true) (c:Cf) (hc:J2o p g c):Ret Tryz.prog 108 [mvP p g,cV c] (.int .u32 (enN p g c)):=by
 have hn:=Q54 p hp g hg c hc;refine J0f rfl ?_;refine J0b mixed Tryz.func108 rfl Y1s Y0K rfl ?_
 repeat' ((conv=>whnf);first|(refine J2b [(0,some 0),(1,some 1)] [] (hn.mono ?_) ⟨J0c.int rfl,J0c.fn ⟨J0c.loc rfl,J0c.loc rfl,True.intro⟩,True.intro⟩ (by repeat' (first|exact tI|(refine⟨⟨_,rfl,?_⟩,?_⟩)|exact J0c.kf rfl|apply And.intro)) rfl;rintro _ _ _ ⟨rfl,rfl⟩)|(refine Chk.mk rfl ?_))
 all_goals (conv=>whnf)
 exact VLe.rfl
def brI (kind lo hi v:Int):Int:=if lo<=v/\v<=hi then v else if kind=3 then -1 else if v<lo then lo else hi
theorem X1y (kind lo hi v:Int):Ret Tryz.prog 170 [.int .i64 kind,.agg [.int .i64 lo,.int .i64 hi],.int .i64 v] (.int .i64 (brI kind lo hi v)):=by
 refine J0f rfl ?_;refine J0b mixed Tryz.func170 rfl Y04 Y0m rfl ?_;rw[brI]
 repeat' ((conv=>whnf);first|(refine Br.dec ?_ ?_<;>intro _<;>try omega)|(refine Ix.mk 0 rfl (by omega) ?_)|(refine Ix.mk 1 rfl (by omega) ?_))
 all_goals (conv=>whnf)
 all_goals refine VLe.int ?_
 all_goals repeat' split
 all_goals omega
def X3S (p:Pr) (g:G) (c:Cf) (v:Nat) (st:List Int) (s:Int×Tm):List Int :=
 st.set s.1.toNat (brI (gV p.vars s.1.toNat).kind (bnd g (gV p.vars s.1.toNat) v).1 (bnd g (gV p.vars s.1.toNat) v).2 (s.2.sem g c v (-1)))
def X1U (p:Pr) (g:G) (c:Cf) (v:Nat) (l:List (Int×Tm)):List Int:=l.foldl (X3S p g c v) (gC c v)
def J4x (p:Pr) (g:G) (c:Cf) (v r:Nat):List Int:=X1U p g c v (gRl p.rules r).sets
theorem J84 (p:Pr) (g:G) (c:Cf) (v:Nat):∀(l:List (Int×Tm)),(X1U p g c v l).length=(gC c v).length:=by
 intro l;rw[X1U];generalize gC c v=st
 induction l generalizing st with
 | nil=>rfl
 | cons s r ih=>rw[List.foldl_cons,ih];simp[X3S]
theorem X4y (l:List (Int×Tm)) (i:Nat) (h:i<l.length):l.take (i+1)=l.take i++[gS l i]:=by
 rw[List.take_succ_eq_append_getElem h];simp only[gS,List.getD,List.getElem?_eq_getElem h,Option.getD_some]
theorem Q6s (p:Pr) (g:G) (c:Cf) (v:Nat) (l:List (Int×Tm)) (s:Int×Tm):X1U p g c v (l++[s])=X3S p g c v (X1U p g c v l) s:=by
 simp[X1U,List.foldl_append]
theorem Q9f (r:List Int) (u i t:Nat) (d:Int) (hu:u<r.length) (ht:t<1):VLe (J1R (vI r) u 0 [.int .i64 d] i t) (vI (r.set u d) i t):=by
 obtain rfl:t=0:=by omega
 apply VLe.of_eq;simp only[J1R,vI,gI,List.getD,List.getElem?_set];by_cases h:i=u
 . subst h;simp[hu]
 . have:¬ u=i:=fun e=>h e.symm;simp[h,this]
set_option maxHeartbeats 8000000 in
theorem X30 (p:Pr) (hp:J6o p) (g:G) (hg:g.valid=true) (c:Cf) (hc:J2o p g c) (v:Nat) (hv:v<g.ports.length) (r:Nat) (hr:r<p.rules.length) :
 Ret Tryz.prog 139 [mvP p g,cV c,.int .i64 v,.int .i64 r] (.fz (J4x p g c v r).length 1 false (vI (J4x p g c v r))):=by
 obtain⟨f1,f2,f3,f4,f5,f6,f7⟩:=J0a hg;have hcl:=hc.len;have hrow:=hc.row v (by omega);have hvl:=hp.vlen;have hsl:=hp.slen r hr;refine J0f rfl ?_;refine J0b mixed Tryz.func139 rfl Y1f Y0x rfl ?_
 repeat' ((conv=>whnf);first|(refine Ix.q ?_)|(refine Len.q ?_))
 all_goals (conv=>whnf)
 refine J16 mixed [0,1,2,9,26,27] [] [1,2,3,4,5,6,7,8,9,10,11,12,13,14,15,16,17,18,19,20,21,22,23,24,25,26,27,28,29] [0] (fun j:Nat=>[(28,.int .i64 j)]) (fun j=>[(0,.vec (gC c v).length 1 (vI (X1U p g c v ((gRl p.rules r).sets.take j))))]) (fun m j=>m=(gRl p.rules r).sets.length-j/\j<=(gRl p.rules r).sets.length) (gRl p.rules r).sets.length 0 ⟨rfl,Nat.zero_le _⟩ rfl (fun _=>rfl) ?_ ?_
 . exact J0l (fun _ _=>[(0,some 0)])
 rintro m j ⟨hm,hj⟩;by_cases hjl:j<(gRl p.rules r).sets.length
 . obtain⟨s1,s2,s3⟩:=hp.set r hr j hjl;simp only[Tm.okB,Bool.and_eq_true,decide_eq_true_eq] at s3;have hval:=Q4d p.pg g hg (hc.fit hp hg) v hv (gS (gRl p.rules r).sets j).2 s3.2 s3.1;have hbr:=X1y (gV p.vars (gS (gRl p.rules r).sets j).1.toNat).kind (bnd g (gV p.vars (gS (gRl p.rules r).sets j).1.toNat) v).1 (bnd g (gV p.vars (gS (gRl p.rules r).sets j).1.toNat) v).2 ((gS (gRl p.rules r).sets j).2.sem g c v (-1))
   repeat' ((conv=>whnf);first|(refine Br.dec ?_ ?_<;>intro _<;>try omega)|(refine Ar.q ?_)|(refine Ix.q ?_)|(refine Ix.int (by omega) (by omega) ?_)|(refine Ltn.q ?_)|(refine hval.go ?_)|(refine hbr.go ?_)|(refine And.intro rfl ?_))
   all_goals (conv=>whnf)
   refine⟨(gRl p.rules r).sets.length-(j+1),j+1,by omega,⟨rfl,by omega⟩,?_⟩;simp only[X4y _ j hjl,Q6s];refine J0e (fun _ _=>[(0,some 0)]) ?_ ?_ rfl
   . repeat' (first|exact tI|(refine⟨⟨_,rfl,?_⟩,?_⟩)|exact J0c.kf rfl|exact J0c.q)
   . repeat' (first|exact⟨Nat.le_refl _,rfl,fun i t hi ht=>by simp only[Nat.zero_add];exact Q9f _ _ _ _ _ (by rw[J84];omega) ht⟩|exact tI|(refine⟨⟨_,rfl,?_⟩,?_⟩))
 . repeat' ((conv=>whnf);first|(refine Br.dec ?_ ?_<;>intro _<;>try omega)|(refine Len.q ?_))
   all_goals (conv=>whnf)
   rw[List.take_of_length_le (by omega)];exact VLe.fz (J84 _ _ _ _ _).symm (fun h=>h) (fun i t hi ht=>VLe.of_eq (by simp[J0h,J4x]))
theorem J74 (c:Cf) (F:Nat->Nat->V) (n v i t:Nat) (ht:t<1) (G':Nat->Nat->V) (hG:∀i,i≠v->G' i 0=F i 0) (X:V) (hX:VLe X (G' v 0)):VLe (J1R F v 0 [X] i t) (G' i t):=by
 obtain rfl:t=0:=by omega
 by_cases h:i=v
 . subst h;have e:J1R F i 0 [X] i 0=X:=by simp[J1R]
   rw[e];exact hX
 . apply VLe.of_eq;simp only[J1R];rw[if_neg (by simp[h]),hG i h]
def cpF (c:Cf) (j:Nat):Nat->Nat->V:=fun i _=>if i<j then .fz (gC c i).length 1 false (vI (gC c i)) else .nilslice
theorem Q73 (c:Cf) (hc:c.length<=1000) (hr:∀v,v<c.length->(gC c v).length<=1000):J0K Tryz.prog 73 [cV c] [] KS fun X own' _=>X=.vec 0 1 0 c.length/\own'=[(0,.vec c.length 1 (vC c))]:=by
 refine J2H ?_;refine J0b mixed Tryz.func73 rfl hc73 hr73 rfl ?_
 repeat' ((conv=>whnf);first|(refine Bd.q ?_)|(refine Len.q ?_)|(refine MkS.vec ?_))
 all_goals (conv=>whnf)
 refine J16 mixed [3,9,10] [] [1,2,3,4,5,6,7,8,9,10,11,12,13,14,15,16,17,18,19,20,21,22,23,24,25,26,27,28,29] [0] (fun j:Nat=>[(11,.int .i64 j)]) (fun j=>[(0,.vec c.length 1 (cpF c j))]) (fun m j=>m=c.length-j/\j<=c.length) c.length 0 ⟨rfl,Nat.zero_le _⟩ rfl (fun _=>rfl) ?_ ?_
 . refine J0e (fun _ _=>[(0,some 0)]) ?_ ?_ rfl
   . repeat' (first|exact tI|(refine⟨⟨_,rfl,?_⟩,?_⟩)|exact J0c.kf rfl|exact J0c.q)
   . repeat' (first|exact⟨Nat.le_refl _,rfl,fun i j hi hj=>VLe.of_eq (by obtain rfl:j=0:=(by omega);rfl)⟩|exact tI|(refine⟨⟨_,rfl,?_⟩,?_⟩))
 rintro m j ⟨hm,hj⟩;by_cases hjl:j<c.length
 . have hrj:=hr j hjl
   repeat' ((conv=>whnf);first|(refine Br.dec ?_ ?_<;>intro _<;>try omega)|(refine Ar.q ?_)|(refine Ix.q ?_)|(refine Len.q ?_)|(refine Ltn.q ?_))
   all_goals (conv=>whnf)
   refine⟨c.length-(j+1),j+1,by omega,⟨rfl,by omega⟩,?_⟩;refine J0e (fun _ _=>[(0,some 0)]) ?_ ?_ rfl
   . repeat' (first|exact tI|(refine⟨⟨_,rfl,?_⟩,?_⟩)|exact J0c.kf rfl|exact J0c.q)
   . repeat' (first|exact⟨Nat.le_refl _,rfl,fun i t hi ht=>by simp only[Nat.zero_add];exact J74 c _ c.length j i t ht _ (fun i hne=>by simp only[cpF];by_cases h:i<j<;>simp[h]<;>omega) _ (by simp only[cpF];rw[if_pos (by omega)];exact VLe.fz rfl (fun h=>h) (fun a b ha hb=>VLe.of_eq (by simp[J0h])))⟩|exact tI|(refine⟨⟨_,rfl,?_⟩,?_⟩))
 . have e:j=c.length:=by omega
   subst e
   repeat' ((conv=>whnf);first|(refine Br.dec ?_ ?_<;>intro _<;>try omega))
   all_goals (conv=>whnf)
   exact J3v (fun _=>[(0,some 0)]) _ _ ⟨rfl,rfl⟩ (J0c.vec rfl rfl rfl) ⟨⟨_,rfl,Nat.le_refl _,rfl,fun i t hi ht=>VLe.of_eq (by simp only[cpF,vC];rw[if_pos hi])⟩,True.intro⟩ rfl
def J2q (p:Pr) (g:G) (c:Cf) (s:Nat):Cf:=(List.range c.length).map fun v=>if s.testBit v then J4x p g c v (J1U p g c v).toNat else gC c v
def stF (p:Pr) (g:G) (c:Cf) (s j:Nat):Nat->Nat->V:=fun i _=>if i<j/\s.testBit i=true then .fz (J4x p g c i (J1U p g c i).toNat).length 1 false (vI (J4x p g c i (J1U p g c i).toNat)) else .fz (gC c i).length 1 false (vI (gC c i))
theorem Q9G (p:Pr) (g:G) (c:Cf) (s j i t:Nat) (hb:s.testBit j=true) (ht:t<1) (F:V) (hF:VLe F (.fz (J4x p g c j (J1U p g c j).toNat).length 1 false (vI (J4x p g c j (J1U p g c j).toNat)))) :
 VLe (J1R (stF p g c s j) j 0 [F] i t) (stF p g c s (j+1) i t) :=
 J74 c _ 0 j i t ht _ (fun i hne=>by
  simp only[stF];by_cases h:i<j
  . simp[h,Nat.lt_succ_of_lt h]
  . have h2:¬ i<j+1:=by omega
    simp[h,h2]) _ (by simp only[stF];rw[if_pos ⟨by omega,hb⟩];exact hF)
theorem Q9F (p:Pr) (g:G) (c:Cf) (s j i t:Nat) (hb:s.testBit j=false):VLe (stF p g c s j i t) (stF p g c s (j+1) i t):=by
 apply VLe.of_eq;simp only[stF];by_cases h:i=j
 . subst h;simp[hb]
 . by_cases h2:i<j
   . simp[h2,Nat.lt_succ_of_lt h2]
   . have h3:¬ i<j+1:=by omega
     simp[h2,h3]
theorem J4Q (p:Pr) (g:G) (c:Cf) (s:Nat):(J2q p g c s).length=c.length:=by simp[J2q]
theorem J4P (p:Pr) (g:G) (c:Cf) (s:Nat) {v:Nat} (hv:v<c.length):gC (J2q p g c s) v=if s.testBit v then J4x p g c v (J1U p g c v).toNat else gC c v:=by
 simp[J2q,gC,hv]
theorem Q2X (p:Pr) (g:G) (c:Cf) (v:Nat):J1U p g c v<p.rules.length:=by
 have:=J5u (gds p g c v) 0;have hl:(gds p g c v).length=p.rules.length:=by simp[gds]
 rw[J1U];omega
theorem Q9K {s k:Nat} (hs:s<4294967296) (hk:k<32):(J3m .and .u32 ((s:Int).fdiv (2 ^ (min (k:Int).toNat IntKind.u32.bits))) 1=1)↔s.testBit k=true:=X3w hs hk
set_option maxHeartbeats 8000000 in
theorem X0j (p:Pr) (hp:J6o p) (g:G) (hg:g.valid=true) (c:Cf) (hc:J2o p g c) (s:Nat) (hs:s<4294967296) (hen:∀v,v<c.length->s.testBit v=true->0<=J1U p g c v) :
 Ret Tryz.prog 111 [mvP p g,cV c,.int .u32 s] (cV (J2q p g c s)):=by
 obtain⟨f1,f2,f3,f4,f5,f6,f7⟩:=J0a hg;have hcl:=hc.len;have hvl:=hp.vlen;have hcp:=Q73 c (by omega) (fun v hv=>by have:=hc.row v hv;omega);refine J0f rfl ?_;refine J0b mixed Tryz.func111 rfl Y1p Y0H rfl ?_
 repeat' ((conv=>whnf);first|(refine J2b [] [0] (hcp.mono ?_) ⟨J0c.kf rfl,True.intro⟩ True.intro rfl;rintro _ _ _ ⟨rfl,rfl⟩)|(refine Chk.mk rfl ?_))
 all_goals (conv=>whnf)
 refine J16 mixed [0,1,2,7,12] [] [1,2,3,4,5,6,7,8,9,10,11,12,13,14,15,16,17,18,19,20,21,22,23,24,25,26,27,28,29] [0] (fun j:Nat=>[(13,.int .i64 j)]) (fun j=>[(0,.vec c.length 1 (stF p g c s j))]) (fun m j=>m=c.length-j/\j<=c.length) c.length 0 ⟨rfl,Nat.zero_le _⟩ rfl (fun _=>rfl) ?_ ?_
 . exact J0l (fun _ _=>[(0,some 0)])
 rintro m j ⟨hm,hj⟩;by_cases hjl:j<c.length
 . have h1:=Q9K (s:=s) (k:=j) hs (by omega);cases hb:s.testBit j with
   | true =>
     have h2:=h1.2 hb;obtain⟨r,hr⟩:∃r:Nat,J1U p g c j=r:=⟨(J1U p g c j).toNat,by have:=hen j hjl hb;omega⟩;have hrl:=Q2X p g c j;have hru:=Q6a p hp g hg c hc j (by omega);have hmv:=X30 p hp g hg c hc j (by omega) r (by omega);rw[hr] at hru
     repeat' ((conv=>whnf);first|(refine Br.dec ?_ ?_<;>intro _<;>try omega)|(refine Ar.q ?_)|(refine Sv.mk _ rfl ?_)|(refine Nn.mk (by omega) ?_)|(refine Ix.q ?_)|(refine Ltn.q ?_)|(refine hru.go ?_)|(refine hmv.go ?_))
     all_goals (conv=>whnf)
     refine⟨c.length-(j+1),j+1,by omega,⟨rfl,by omega⟩,?_⟩;refine J0e (fun _ _=>[(0,some 0)]) ?_ ?_ rfl
     . repeat' (first|exact tI|(refine⟨⟨_,rfl,?_⟩,?_⟩)|exact J0c.kf rfl|exact J0c.q)
     . repeat' (first|exact⟨Nat.le_refl _,rfl,fun i t hi ht=>by simp only[Nat.zero_add];exact Q9G p g c s j i t hb ht _ (by rw[hr];exact VLe.rfl)⟩|exact tI|(refine⟨⟨_,rfl,?_⟩,?_⟩))
   | false =>
     have h2:¬ (J3m .and .u32 ((s:Int).fdiv (2 ^ (min (j:Int).toNat IntKind.u32.bits))) 1=1):=fun e=>by rw[h1.1 e] at hb;cases hb
     repeat' ((conv=>whnf);first|(refine Br.dec ?_ ?_<;>intro _<;>try omega)|(refine Ar.q ?_)|(refine Sv.mk _ rfl ?_)|(refine Nn.mk (by omega) ?_))
     all_goals (conv=>whnf)
     refine⟨c.length-(j+1),j+1,by omega,⟨rfl,by omega⟩,?_⟩;refine J0e (fun _ _=>[(0,some 0)]) ?_ ?_ rfl
     . repeat' (first|exact tI|(refine⟨⟨_,rfl,?_⟩,?_⟩)|exact J0c.kf rfl|exact J0c.q)
     . repeat' (first|exact⟨Nat.le_refl _,rfl,fun i t hi ht=>Q9F p g c s j i t hb⟩|exact tI|(refine⟨⟨_,rfl,?_⟩,?_⟩))
 . repeat' ((conv=>whnf);first|(refine Br.dec ?_ ?_<;>intro _<;>try omega)|(refine Len.q ?_))
   all_goals (conv=>whnf)
   refine VLe.fz (J4Q p g c s).symm (fun h=>h) (fun i t hi ht=>VLe.of_eq ?_);show J0h 0 (stF p g c s j) i t=.fz (gC (J2q p g c s) i).length 1 false (vI (gC (J2q p g c s) i));rw[J4P p g c s hi,J0D,Nat.zero_add];simp only[stF];by_cases hb:s.testBit i=true
   . rw[if_pos ⟨by omega,hb⟩,if_pos hb]
   . rw[if_neg (fun h=>hb h.2),if_neg hb]
abbrev P8:ByteArray:=ByteArray.mk (Array.mk [0,1,1,2,1,2,2,3,1,2,2,3,2,3,3,4,1,2,2,3,2,3,3,4,2,3,3,4,3,4,4,5,1,2,2,3,2,3,3,4,2,3,3,4,3,4,4,5,2,3,3,4,3,4,4,5,3,4,4,5,4,5,5,6,1,2,2,3,2,3,3,4,2,3,3,4,3,4,4,5,2,3,3,4,3,4,4,5,3,4,4,5,4,5,5,6,2,3,3,4,3,4,4,5,3,4,4,5,4,5,5,6,3,4,4,5,4,5,5,6,4,5,5,6,5,6,6,7,1,2,2,3,2,3,3,4,2,3,3,4,3,4,4,5,2,3,3,4,3,4,4,5,3,4,4,5,4,5,5,6,2,3,3,4,3,4,4,5,3,4,4,5,4,5,5,6,3,4,4,5,4,5,5,6,4,5,5,6,5,6,6,7,2,3,3,4,3,4,4,5,3,4,4,5,4,5,5,6,3,4,4,5,4,5,5,6,4,5,5,6,5,6,6,7,3,4,4,5,4,5,5,6,4,5,5,6,5,6,6,7,4,5,5,6,5,6,6,7,5,6,6,7,6,7,7,8])
theorem X7M:∀x:Nat,x<256->(P8.get! x).toNat=cnt x 8:=by decide +kernel
theorem J9o (s k:Nat):(s:Int).fdiv (2 ^ k)=((s >>> k:Nat):Int):=by
 rw[Int.fdiv_eq_ediv_of_nonneg _ (Int.pow_nonneg (by omega)),Nat.shiftRight_eq_div_pow];simp
theorem Q8K (x:Nat):x &&& 255<256:=Nat.lt_of_le_of_lt Nat.and_le_right (by omega)
theorem Q8e (x:Nat):cnt (x &&& 255) 8=cnt x 8:=Q8b fun i hi=>by
 rw[Nat.testBit_and,show(255:Nat)=2 ^ 8-1 from rfl,Nat.testBit_two_pow_sub_one];simp[hi]
theorem Q8c (s:Nat) (hs:s<4294967296):cnt (s >>> 24) 8+cnt (s >>> 16 &&& 255) 8+cnt (s >>> 8 &&& 255) 8+cnt (s &&& 255) 8=cnt s 32:=by
 rw[Q8e,Q8e,Q8e,show(32:Nat)=8+24 from rfl,J7B 8 24,show(24:Nat)=8+16 from rfl,J7B 8 16,show(16:Nat)=8+8 from rfl,J7B 8 8];rw[<- Nat.shiftRight_add,<- Nat.shiftRight_add];show cnt (s >>> 24) 8+cnt (s >>> 16) 8+cnt (s >>> 8) 8+cnt s 8=cnt s 8+(cnt (s >>> 8) 8+(cnt (s >>> 16) 8+cnt (s >>> 24) 8));omega
theorem X26 {n:Int} (h1:0<=n) (h2:n<=255):IntKind.u8.wrap n=n:=by
 simp only[IntKind.wrap,IntKind.bits,IntKind.signed,Bool.false_and]
 first|(split<;>omega)|(simp;omega)
theorem Ar.u8 {n:Int} {K:Int->Prop} (h1:0<=n) (h2:n<=255) (hK:K n):Ar .u8 n K:=⟨n,(X26 h1 h2).symm,hK⟩
theorem Ar.u8e {n:Int} {K:Int->Prop} (a:Nat) (h:n=(a:Int)) (ha:a<=255) (hK:K (a:Int)):Ar .u8 n K:=by subst h;exact Ar.u8 (by omega) (by omega) hK
theorem X9R (s:Nat) (hs:s<4294967296):Ret Tryz.prog 142 [.int .u32 s] (.int .i64 (cnt s 32)):=by
 have hsum:=Q8c s hs;have f24:(s:Int).fdiv (2 ^ (min (24:Int).toNat 32))=((s >>> 24:Nat):Int):=J9o s 24;have f16:(s:Int).fdiv (2 ^ (min (16:Int).toNat 32))=((s >>> 16:Nat):Int):=J9o s 16;have f8:(s:Int).fdiv (2 ^ (min (8:Int).toNat 32))=((s >>> 8:Nat):Int):=J9o s 8;have l24:s >>> 24<256:=by rw[Nat.shiftRight_eq_div_pow];omega
 have l16:s >>> 16<4294967296:=Nat.lt_of_le_of_lt (Nat.shiftRight_le s 16) hs;have l8:s >>> 8<4294967296:=Nat.lt_of_le_of_lt (Nat.shiftRight_le s 8) hs;have a16:J3m .and .u32 ((s >>> 16:Nat):Int) 255=((s >>> 16 &&& 255:Nat):Int):=J1t (b:=255) l16 (by omega);have a8:J3m .and .u32 ((s >>> 8:Nat):Int) 255=((s >>> 8 &&& 255:Nat):Int):=J1t (b:=255) l8 (by omega);have a0:J3m .and .u32 (s:Int) 255=((s &&& 255:Nat):Int):=J1t (b:=255) hs (by omega);have m16:=Q8K (s >>> 16);have m8:=Q8K (s >>> 8);have m0:=Q8K s;generalize s >>> 24=x24 at *;generalize s >>> 16 &&& 255=x16 at *;generalize s >>> 8 &&& 255=x8 at *;generalize s &&& 255=x0 at *;have p24:=X7M x24 l24;have p16:=X7M x16 m16;have p8:=X7M x8 m8;have p0:=X7M x0 m0;have c24:=J7A x24 8;have c16:=J7A x16 8;have c8:=J7A x8 8;have c0:=J7A x0 8;rw[<- hsum];rw[<- p24] at c24 ⊢;rw[<- p16] at c16 ⊢;rw[<- p8] at c8 ⊢;rw[<- p0] at c0 ⊢;clear p24 p16 p8 p0 hsum;refine J0f rfl ?_;refine J0b mixed Tryz.func142 rfl Y1c Y0u rfl ?_
 repeat' ((conv=>whnf);first|(refine Sv.mk _ f24.symm ?_)|(refine Sv.mk _ f16.symm ?_)|(refine Sv.mk _ f8.symm ?_)|(refine Sv.mk _ a16.symm ?_)|(refine Sv.mk _ a8.symm ?_)|(refine Sv.mk _ a0.symm ?_)|(refine Ix.mk x24 rfl l24 ?_)|(refine Ix.mk x16 rfl m16 ?_)|(refine Ix.mk x8 rfl m8 ?_)|(refine Ix.mk x0 rfl m0 ?_)|(refine Ar.u8e ((P8.get! x24).toNat+(P8.get! x16).toNat) rfl (by omega) ?_)|(refine Ar.u8e ((P8.get! x24).toNat+(P8.get! x16).toNat+(P8.get! x8).toNat) rfl (by omega) ?_)|(refine Ar.u8e ((P8.get! x24).toNat+(P8.get! x16).toNat+(P8.get! x8).toNat+(P8.get! x0).toNat) rfl (by omega) ?_)|(refine Ar.q ?_)|(refine Nn.mk (by omega) ?_))
 all_goals (conv=>whnf)
 all_goals exact VLe.rfl
structure Cnt where
 steps:Nat
 moves:Nat
 rounds:Nat
 begun:Nat
 pend:Nat
def Cnt.v (k:Cnt):V:=.agg [.int .i64 k.steps,.int .i64 k.moves,.int .i64 k.rounds,.int .i64 k.begun,.int .u32 k.pend]
structure Cnt.Ok (k:Cnt):Prop where
 steps:k.steps<=4096
 rb:k.rounds<=k.begun
 bs:k.begun<=k.steps
 br:k.begun<=k.rounds+1
 sm:k.steps<=k.moves
 ms:k.moves<=24*k.steps
 pend:k.pend<16777216
def vU7 (l:List Nat):Nat->Nat->V:=fun i _=>.int .u32 (l.getD i 0:Nat)
theorem nd24 {a:Nat} (h:a<16777216):J3c a 16777215=0:=by
 refine Nat.eq_of_testBit_eq fun i=>?_;rw[J3c,Nat.testBit_and,Nat.zero_testBit];by_cases hi:i<24
 . have h1:(4294967295 ^^^ 16777215:Nat).testBit i=false:=by
    rw[Nat.testBit_xor,show(4294967295:Nat)=2 ^ 32-1 from rfl,show(16777215:Nat)=2 ^ 24-1 from rfl,Nat.testBit_two_pow_sub_one,Nat.testBit_two_pow_sub_one];simp[hi];omega
   rw[h1,Bool.and_false]
 . have:a.testBit i=false:=Nat.testBit_lt_two_pow (Nat.lt_of_lt_of_le (show a<2 ^ 24 from h) (Nat.pow_le_pow_right (by omega) (by omega)));rw[this,Bool.false_and]
theorem J6T (l:List Nat) (hl:l.length<=10) (h:∀a∈l,a<16777216):Ret Tryz.prog 141 [.fz l.length 1 false (vU7 l)] (.bool true):=by
 refine J0f rfl ?_;refine J0b mixed Tryz.func141 rfl Y1d Y0v rfl ?_
 repeat' ((conv=>whnf);first|fail)
 all_goals (conv=>whnf)
 refine J0V mixed [5,6] (fun i:Nat=>[(7,.int .i64 i)]) (fun m i=>m=l.length-i/\i<=l.length) l.length 0 ⟨rfl,Nat.zero_le _⟩ ?_ ?_
 . exact J0l (fun _ _=>[])
 rintro m i ⟨hm,hi⟩;by_cases hil:i<l.length
 . have ha:l.getD i 0<16777216:=h _ (by rw[List.getD_eq_getElem?_getD,List.getElem?_eq_getElem hil];exact List.getElem_mem hil);have hb:J3m .andNot .u32 ((l.getD i 0:Nat):Int) 16777215=0:=by
    have:=J5B (a:=l.getD i 0) (b:=16777215) (by omega) (by omega);rw[nd24 ha] at this;exact this
   repeat' ((conv=>whnf);first|(refine Sv.mk 0 hb.symm ?_)|(refine Br.ff ?_)|(refine Br.dec ?_ ?_<;>intro _<;>try omega)|(refine Ar.q ?_)|(refine Ix.q ?_))
   all_goals (conv=>whnf)
   refine⟨l.length-(i+1),i+1,by omega,⟨rfl,by omega⟩,?_⟩;exact J0l (fun _ _=>[])
 . repeat' ((conv=>whnf);first|(refine Br.dec ?_ ?_<;>intro _<;>try omega))
   all_goals (conv=>whnf)
   exact VLe.rfl
theorem X9Q (a:Nat) (f:Nat->Nat->V) (h0:f 0 0=.int .u32 a):∀i j:Nat,i<1->j<1->VLe (f i j) (vU7 [a] i j):=by
 intro i j hi hj;obtain rfl:j=0:=by omega
 obtain rfl:i=0:=by omega
 rw[h0];exact VLe.rfl
theorem X8b (a b:Nat) (f:Nat->Nat->V) (h0:f 0 0=.int .u32 a) (h1:f 1 0=.int .u32 b):∀i j:Nat,i<2->j<1->VLe (f i j) (vU7 [a,b] i j):=by
 intro i j hi hj;obtain rfl:j=0:=by omega
 rcases (show i=0\/i=1 by omega) with rfl|rfl
 . rw[h0];exact VLe.rfl
 . rw[h1];exact VLe.rfl
theorem Q8G (k:Cnt) (hk:k.Ok):Ret Tryz.prog 140 [k.v] (.bool true):=by
 have hp:=J6T [k.pend] (by simp) (by simpa using hk.pend);obtain⟨h1,h2,h3,h4,h5,h6,h7⟩:=hk;refine J0f rfl ?_;refine J0b mixed Tryz.func140 rfl Y1e Y0w rfl ?_
 repeat' ((conv=>whnf);first|(refine Br.tt ?_)|(refine Br.ff ?_)|(refine Br.dec ?_ ?_<;>intro _<;>try omega)|(refine Ar.q ?_)|(refine J11 [1] hp ⟨by decide,VLe.fz rfl (fun h=>h) (X9Q _ _ rfl),True.intro⟩ ?_))
 all_goals (conv=>whnf)
 all_goals exact VLe.rfl
theorem X1C (e:Nat) (he:e<16777216):Ret Tryz.prog 109 [.int .u32 e] (Cnt.v ⟨0,0,0,0,e⟩):=by
 have hb:J3m .and .u32 (e:Int) 16777215=(e:Int):=by
  have:=J1t (a:=e) (b:=16777215) (by omega) (by omega);rw[show e &&& 16777215=e by rw[show(16777215:Nat)=2 ^ 24-1 from rfl,Nat.and_two_pow_sub_one_eq_mod];omega] at this;exact this
 refine J0f rfl ?_;refine J0b mixed Tryz.func109 rfl Y1r Y0J rfl ?_
 repeat' ((conv=>whnf);first|(refine Sv.mk (e:Int) hb.symm ?_))
 all_goals (conv=>whnf)
 exact VLe.rfl
def lft (k:Cnt) (s e:Nat):Nat:=J3c k.pend s &&& e
def Cnt.add (k:Cnt) (s e:Nat):Cnt:=if lft k s e=0 then⟨k.steps+1,k.moves+cnt s 32,k.rounds+1,k.rounds+1,e⟩ else⟨k.steps+1,k.moves+cnt s 32,k.rounds,k.rounds+1,lft k s e⟩
theorem X0g (a b:Nat):J3c a b<=a:=Nat.and_le_left
set_option maxHeartbeats 4000000 in
theorem X7E (k:Cnt) (hk:k.Ok) (h0:k.steps<4096) (s e:Nat) (hs0:s≠0) (hs:s<16777216) (he:e<16777216):Ret Tryz.prog 112 [k.v,.int .u32 s,.int .u32 e] (.tup [(k.add s e).v,.int .i64 0]):=by
 have hv:=Q8G k hk;have hp:=J6T [s,e] (by simp) (by simp;omega);have hoc:=X9R s (by omega);have hcl:=J7A s 32;obtain⟨h1,h2,h3,h4,h5,h6,h7⟩:=hk;have hb1:=J5B (a:=k.pend) (b:=s) (by omega) (by omega);have hnl:=X0g k.pend s;have hb2:=J1t (a:=J3c k.pend s) (b:=e) (by omega) (by omega);have hlf:lft k s e=J3c k.pend s &&& e:=rfl;rw[<- hlf] at hb2;refine J0f rfl ?_;refine J0b mixed Tryz.func112 rfl Y1o Y0G rfl ?_
 repeat' ((conv=>whnf);first|(refine Sv.mk _ hb1.symm ?_)|(refine Sv.mk _ hb2.symm ?_)|(refine Br.tt ?_)|(refine Br.dec ?_ ?_<;>intro _<;>try omega)|(refine Ar.q ?_)|(refine hv.go ?_)|(refine hoc.go ?_)|(refine J11 [2] hp ⟨by decide,VLe.fz rfl (fun h=>h) (X8b _ _ _ rfl rfl),True.intro⟩ ?_)|(refine And.intro rfl ?_))
 all_goals (conv=>whnf)
 . rename_i hz;rw[Cnt.add,if_pos (by omega),Cnt.v]
   repeat' (first|exact VLe.rfl)
 . rename_i hz;rw[Cnt.add,if_neg (by omega),Cnt.v]
   repeat' (first|exact VLe.rfl)
theorem X5m (k:Cnt) (hk:k.Ok) (h0:k.steps<4096) (s e:Nat) (hs0:1<=cnt s 32) (hs:cnt s 32<=24) (he:e<16777216):(k.add s e).Ok:=by
 obtain⟨h1,h2,h3,h4,h5,h6,h7⟩:=hk;have hle:lft k s e<=e:=Nat.and_le_right;rw[Cnt.add];split
 . exact⟨by simp only;omega,by simp only;omega,by simp only;omega,by simp only;omega,by simp only;omega,by simp only;omega,he⟩
 . exact⟨by simp only;omega,by simp only;omega,by simp only;omega,by simp only;omega,by simp only;omega,by simp only;omega,by simp only;omega⟩
def one (c:Cf) (x v:Nat):Bool:=decide (gI (gC c v) x=1)
def mx (g:G) (p:Nat->Bool):Bool:=decide (∀v,v<g.ports.length->nbr g (nb p g.ports.length) v=!p v)
def tzL:List Int:=[0,1,28,2,29,14,24,3,30,22,20,15,25,17,4,8,31,27,13,23,21,19,16,7,26,12,18,6,11,5,10,9]
def tzF (i j:Nat):V:=.int .u8 (tzL.getD i 0)
abbrev GB:Blk:=.glob 0 32 tzF
abbrev RG (f:FuncId) (args:List V) (X:V):Prop:=X20 Tryz.prog GB f args X
theorem X3g:∀k:Nat,k<32->IntKind.u32.wrap (((2 ^ k:Nat):Int)*125613361)=((2 ^ k*125613361 % 4294967296:Nat):Int)/\((2 ^ k*125613361 % 4294967296:Nat):Int).fdiv (2 ^ (min (27:Int).toNat 32))=((2 ^ k*125613361 % 4294967296 / 134217728:Nat):Int)/\2 ^ k*125613361 % 4294967296 / 134217728<32/\tzL.getD (2 ^ k*125613361 % 4294967296 / 134217728) 0=(k:Int):=by
 decide +kernel
theorem X5R (k:Nat) (hk:k<32):∃a b:Nat,IntKind.u32.wrap (((2 ^ k:Nat):Int)*125613361)=(a:Int)/\(a:Int).fdiv (2 ^ (min (27:Int).toNat 32))=(b:Int)/\b<32/\tzL.getD b 0=(k:Int):=⟨_,_,X3g k hk⟩
theorem X3f (s:Nat) (h0:s≠0) (hs:s<4294967296):RG 144 [.int .u32 s] (.int .i64 (ctz s)):=by
 obtain⟨k1,k2,k3⟩:=J46 h0 hs;obtain⟨a,b,t1,t2,t3,t4⟩:=X5R (ctz s) k1;have hand:J3m .and .u32 (s:Int) (((4294967296-s) % 4294967296:Nat):Int)=((2 ^ ctz s:Nat):Int):=by
  rw[J1t hs (Nat.mod_lt _ (by omega)),J6a hs,Q0x,if_neg h0]
 have t5:(ctz s:Int)=IntKind.i64.wrap (tzL.getD b 0):=by rw[t4];exact(J04 (by omega) (by omega)).symm
 generalize ((2 ^ ctz s:Nat):Int)=p at hand t1;refine J3s rfl ?_;refine J0b mixed Tryz.func144 rfl Y1b Y0t rfl ?_
 repeat' ((conv=>whnf);first|(refine Ar.neg32 hs ?_)|(refine Sv.mk _ hand.symm ?_)|(refine Ar.mk _ t1.symm ?_)|(refine Sv.mk _ t2.symm ?_)|(refine Ix.mk _ rfl t3 ?_)|(refine Ar.mk _ t5 ?_)|(refine Br.dec ?_ ?_<;>intro _<;>try omega)|(refine Nn.mk (by omega) ?_))
 all_goals (conv=>whnf)
 all_goals exact VLe.rfl
structure Net where
 n:Int
 links:List Int
 weights:List Int
 ids:List Int
 apart:Bool
 back:Bool
def Net.v (x:Net):V:=.agg [.int .i64 x.n,.fz x.links.length 1 false (vI x.links),.fz x.weights.length 1 false (vI x.weights),.fz x.ids.length 1 false (vI x.ids),.bool x.apart,.bool x.back]
structure Net.Small (x:Net):Prop where
 links:x.links.length<=9223372036854775807
 weights:x.weights.length<=9223372036854775807
 ids:x.ids.length<=9223372036854775807
abbrev Ps:=List (List (Int×Int))
def lnk (p:Ps) (a:Nat) (b:Int):Bool:=(gR p a).any fun l=>decide (l.1=b)
theorem Q63 (g:G) (hs:g.Small) (a:Nat) (b:Int) (ha:a<g.ports.length):Ret Tryz.prog 62 [g.v,.int .i64 a,.int .i64 b] (.bool (lnk g.ports a b)):=by
 have hrl:=J5T hs.rows a;refine J0f rfl ?_;refine J0b mixed Tryz.func62 rfl hc62 hr62 rfl ?_
 repeat' ((conv=>whnf);first|fail)
 all_goals (conv=>whnf)
 refine J0V mixed [1,2,3] (fun i:Nat=>[(7,.int .i64 i)]) (fun m i=>m=(gR g.ports a).length-i/\i<=(gR g.ports a).length/\((gR g.ports a).take i).any (fun l=>decide (l.1=b))=false) (gR g.ports a).length 0 ⟨rfl,Nat.zero_le _,rfl⟩ ?_ ?_
 . exact J0l (fun _ _=>[(0,some 0)])
 rintro m i ⟨hm,hi,hall⟩
 repeat' ((conv=>whnf);first|(refine Br.dec ?_ ?_<;>intro _<;>try omega)|(refine Ar.q ?_)|(refine Ix.q ?_))
 all_goals (conv=>whnf)
 . refine VLe.bool ?_;symm;rw[lnk,List.any_eq_true];exact⟨_,J02 (show i<(gR g.ports a).length by omega),by simp;omega⟩
 . refine⟨(gR g.ports a).length-(i+1),i+1,by omega,⟨rfl,by omega,?_⟩,?_⟩
   . rw[J1D _ _ (by omega),List.any_append,hall];simp;omega
   . exact J0l (fun _ _=>[(0,some 0)])
 . refine VLe.bool ?_;rw[lnk,<- hall,List.take_of_length_le (by omega)]
def J9E (bk:Bool) (r:List (Int×Int)) (l:Int×Int):List (Int×Int):=if bk then l::r else r++[l]
def J3e (bk:Bool) (p:Ps) (a b:Nat) (w:Int):Ps:=if a=b\/lnk p a b=true then p else (p.set a (J9E bk (gR p a) ((b:Int),w))).set b (J9E bk (gR p b) ((a:Int),w))
def J1g (p:Ps) (i:Nat):Nat:=(gR p i).length
def J1p (p:Ps) (i:Nat):Nat->Nat->V:=vF (gR p i)
abbrev X2s (p:Ps):Blk:=.fam p.length 2 (J1g p) (J1p p) []
def KS4:List Nat:=[2,3,4,5,6,7,8,9,10,11,12,13,14,15,16,17,18,19,20,21,22,23,24,25,26,27,28,29]
def X6Z (g:G):Own:=[(0,.vec g.ids.length 1 (vI g.ids)),(1,X2s g.ports)]
abbrev gV1 (i n:Nat):V:=.agg [.vec 0 1 0 i,.vec 1 1 0 n]
theorem X2f (g:G):VLe (V.agg [.fz g.ids.length 1 false (J0h 0 (vI g.ids)),.fz g.ports.length 1 false fun i _=>.fz (J1g g.ports i) 2 false (J1p g.ports i)]) g.v:=by
 refine VLe.agg ⟨VLe.fz rfl (fun h=>h) (fun i j hi hj=>VLe.of_eq ?_),VLe.rfl,True.intro⟩;simp[J0h]
theorem Q67 (g:G) (a b:Nat):VLe (V.agg [.fz g.ids.length 1 false (J0h 0 (vI g.ids)),.fz g.ports.length 1 false fun i _=>.fz (J1g g.ports i) 2 false (J2j (J2j (J1p g.ports) a (J1p g.ports a)) b (J1p g.ports b) i)]) g.v:=by
 have e:J2j (J2j (J1p g.ports) a (J1p g.ports a)) b (J1p g.ports b)=J1p g.ports:=by
  funext i;simp only[J2j];split
  . rename_i h;rw[h]
  . split
    . rename_i h;rw[h]
    . rfl
 rw[e];exact X2f g
theorem J2F (p:Ps) (a:Nat) (A:List (Int×Int)) (ha:a<p.length) (i:Nat):gR (p.set a A) i=if i=a then A else gR p i:=by
 simp only[gR,List.getD,List.getElem?_set];by_cases h:a=i
 . subst h;simp[ha]
 . have:¬ i=a:=fun e=>h e.symm;simp[h,this]
theorem J39 (l:List (Int×Int)) (x:Int×Int) (i:Nat):gF (l++[x]) i=if i<l.length then gF l i else if i=l.length then x else (0,0):=by
 by_cases h:i<l.length
 . simp only[gF,List.getD,List.getElem?_append_left h,if_pos h]
 . rw[if_neg h];by_cases h2:i=l.length
   . subst h2;simp[gF]
   . simp[gF,h2,List.getElem?_eq_none (by simp;omega:(l++[x]).length<=i)]
theorem J54 (l:List (Int×Int)) (a b:Int) (i j:Nat) (hi:i<l.length+1) (hj:j<2) :
 VLe (J4o (J0h 0 (vF l)) l.length (J0h 0 (tab [[.int .i64 a,.int .i64 b]])) i j) (vF (l++[(a,b)]) i j):=by
 apply VLe.of_eq;by_cases h:i<l.length
 . rw[J1E h];obtain rfl|rfl:j=0\/j=1:=by omega
   . simp[J0h,vF,J39,h]
   . simp[J0h,vF,J39,h]
 . rw[J1F h];have:i=l.length:=by omega
   subst this;obtain rfl|rfl:j=0\/j=1:=by omega
   . simp[J0h,vF,J39,tab]
   . simp[J0h,vF,J39,tab]
theorem Q2C (l:List (Int×Int)) (a b:Int) (i j:Nat) (hi:i<1+l.length) (hj:j<2) :
 VLe (J4o (J0h 0 (tab [[.int .i64 a,.int .i64 b]])) 1 (J0h 0 (vF l)) i j) (vF ((a,b)::l) i j):=by
 apply VLe.of_eq;cases i with
 | zero =>
   rw[J1E (by omega)];obtain rfl|rfl:j=0\/j=1:=by omega
   . simp[J0h,vF,gF,tab]
   . simp[J0h,vF,gF,tab]
 | succ i =>
   rw[J1F (by omega)];obtain rfl|rfl:j=0\/j=1:=by omega
   . simp[J0h,vF,gF]
   . simp[J0h,vF,gF]
theorem J8Z {p:Ps} {a b:Nat} (ha:a<p.length) (hb:b<p.length) (hab:a≠b) {A B:List (Int×Int)} {fa fb:Nat->Nat->V} {la lb:Nat} (h1:A.length=la) (h2:B.length=lb)
 (h3:∀j t,j<la->t<2->VLe (fa j t) (vF A j t)) (h4:∀j t,j<lb->t<2->VLe (fb j t) (vF B j t)) (ρ:Rn) :
 X21 ρ (.fam p.length 2 (J3r (J3r (J1g p) a la) b lb) (J2j (J2j (J1p p) a fa) b fb) []) (X2s ((p.set a A).set b B)):=by
 refine⟨by simp,rfl,True.intro,fun i hi=>?_,fun i j t hi hn hj ht=>?_⟩
 . show(gR ((p.set a A).set b B) i).length=_;rw[J2F _ b B (by simpa using hb),J2F p a A ha];simp only[J3r];split
   . exact h2
   . split
     . exact h1
     . rfl
 . simp only[J3r] at hj;show VLe _ (vF (gR ((p.set a A).set b B) i) j t);rw[J2F _ b B (by simpa using hb),J2F p a A ha];simp only[J2j];split
   . rename_i e;rw[if_pos e] at hj;exact h4 j t hj ht
   . rename_i e;rw[if_neg e] at hj;split
     . rename_i e;rw[if_pos e] at hj;exact h3 j t hj ht
     . exact VLe.rfl
set_option maxHeartbeats 8000000 in
theorem Q64 (x:Net) (g:G) (hs:g.Small) (hr:∀v,(gR g.ports v).length<=1000) (a b:Nat) (ha:a<g.ports.length) (hb:b<g.ports.length) (w:Int) :
 J0K Tryz.prog 36 [x.v,gV1 g.ids.length g.ports.length,.int .i64 a,.int .i64 b,.int .i64 w] (X6Z g) KS4 fun v own' _=>v=.tup []/\own'=X6Z ⟨g.ids,J3e x.back g.ports a b w⟩:=by
 have hl:=Q63 g hs a b ha;have ra:J1g g.ports a<=1000:=hr a;have rb:J1g g.ports b<=1000:=hr b;refine J2H (Q8s ?_);by_cases hab:a=b
 . rw[J3e,if_pos (.inl hab)];refine J0b mixed Tryz.func36 rfl Y0P X97 rfl ?_
   repeat' ((conv=>whnf);first|(refine Br.dec ?_ ?_<;>intro _<;>try omega))
   all_goals (conv=>whnf)
   exact⟨_,J2e.refl _,J3v (fun _=>[(0,some 0),(1,some 1)]) _ _ ⟨rfl,rfl⟩ (J0c.kf rfl) (by repeat' (first|(refine⟨rfl,rfl,True.intro,fun i hi=>rfl,fun i j t hi hn hj ht=>VLe.rfl⟩)|exact tI|(refine⟨⟨_,rfl,?_⟩,?_⟩)|(refine⟨Nat.le_refl _,rfl,fun i j hi hj=>?_⟩)|exact VLe.rfl)) rfl⟩
 cases hk:lnk g.ports a b with
 | true =>
   rw[hk] at hl;rw[J3e,if_pos (.inr hk)];refine J0b mixed Tryz.func36 rfl Y0P X97 rfl ?_
   repeat' ((conv=>whnf);first|(refine Br.tt ?_)|(refine Br.dec ?_ ?_<;>intro _<;>try omega)|(refine J1n hl rfl ⟨by omega,by omega,X2f g,VLe.rfl,VLe.rfl,True.intro⟩ ?_))
   all_goals (conv=>whnf)
   exact⟨_,J2e.refl _,J3v (fun _=>[(0,some 0),(1,some 1)]) _ _ ⟨rfl,rfl⟩ (J0c.kf rfl) (by repeat' (first|(refine⟨rfl,rfl,True.intro,fun i hi=>rfl,fun i j t hi hn hj ht=>VLe.rfl⟩)|exact tI|(refine⟨⟨_,rfl,?_⟩,?_⟩)|(refine⟨Nat.le_refl _,rfl,fun i j hi hj=>?_⟩)|exact VLe.rfl)) rfl⟩
 | false =>
   rw[hk] at hl;rw[J3e,if_neg (fun h=>h.elim hab (fun h=>by rw[hk] at h;cases h))];refine Q1d 28 1 a rfl rfl ha rfl ?_;refine Q1d 29 1 b rfl rfl hb (J0k hab) ?_;show J0K Tryz.prog _ _ [(29,.vec (J1g g.ports b) 2 (J1p g.ports b)),(28,.vec (J1g g.ports a) 2 (J1p g.ports a)),(0,.vec g.ids.length 1 (vI g.ids)),(1,.fam g.ports.length 2 (J1g g.ports) (J1p g.ports) [(b,29),(a,28)])] [2,3,4,5,6,7,8,9,10,11,12,13,14,15,16,17,18,19,20,21,22,23,24,25,26,27] _;refine J0b mixed Tryz.func36 rfl Y0P X97 rfl ?_;obtain⟨xn,xl,xw,xi,xa,xb⟩:=x;cases xb
   . repeat' ((conv=>whnf);first|(refine Br.ff ?_)|(refine Br.dec ?_ ?_<;>intro _<;>try omega)|(refine Br.nbeq ?_ ?_<;>intro _<;>try omega)|(refine Ix.q ?_)|(refine Len.q ?_)|(refine Ltn.q ?_)|(refine J1n hl rfl ⟨by omega,by omega,Nat.le_refl _,Nat.le_refl _,Q67 g a b,VLe.rfl,VLe.rfl,True.intro⟩ ?_)|(refine Opn.hd (by omega) ?_)|(refine Opn.tl (by omega) (Opn.hd (by omega) ?_))|(refine And.intro rfl ?_)|(refine And.intro (Ltn.mk (by omega) (Opn.hd (by omega) rfl)) ?_)|(refine J17.hd (by omega) ?_)|(refine J17.tl (by omega) (J17.hd (by omega) ?_)))
     all_goals (conv=>whnf)
     all_goals exact⟨_,X2B hab ha hb rfl rfl rfl rfl (by first|exact Nat.le_refl _|simp[J3r,hab]) (by first|exact Nat.le_refl _|simp[J3r]),J3v (fun _=>[(0,some 0),(1,some 1)]) _ _ ⟨rfl,rfl⟩ (J0c.kf rfl) ⟨⟨_,rfl,Nat.le_refl _,rfl,fun _ _ _ _=>VLe.rfl⟩,⟨_,rfl,J8Z ha hb hab (by first|(simp;done)|simp[J9E,J1g]) (by first|(simp;done)|simp[J1g]) (fun j t hj ht=>J54 _ _ _ _ _ hj ht) (fun j t hj ht=>J54 _ _ _ _ _ hj ht) _⟩,True.intro⟩ rfl⟩
   . repeat' ((conv=>whnf);first|(refine Br.tt ?_)|(refine Br.ff ?_)|(refine Br.dec ?_ ?_<;>intro _<;>try omega)|(refine Ix.q ?_)|(refine Len.q ?_)|(refine Ltn.q ?_)|(refine J1n hl rfl ⟨by omega,by omega,Nat.le_refl _,Nat.le_refl _,Q67 g a b,VLe.rfl,VLe.rfl,True.intro⟩ ?_)|(refine Opn.hdl (by omega) (show J3r _ _ _ _=J1g g.ports b from if_neg (by omega)) ?_)|(refine Opn.tl (by omega) (Opn.hd (by omega) ?_))|(refine And.intro rfl ?_)|(refine J17.hd (by omega) ?_)|(refine J17.tl (by omega) (J17.hd (by omega) ?_)))
     all_goals (conv=>whnf)
     all_goals exact⟨_,X2B hab ha hb rfl rfl rfl rfl (by first|exact Nat.le_refl _|simp[J3r,hab]) (by first|exact Nat.le_refl _|simp[J3r]),J3v (fun _=>[(0,some 0),(1,some 1)]) _ _ ⟨rfl,rfl⟩ (J0c.kf rfl) ⟨⟨_,rfl,Nat.le_refl _,rfl,fun _ _ _ _=>VLe.rfl⟩,⟨_,rfl,J8Z ha hb hab (by first|(simp;omega)|(simp[J9E];omega)|(simp[J9E,J1g];omega)) (by first|(simp;omega)|(simp[J1g];omega)) (fun j t hj ht=>Q2C _ _ _ _ _ hj ht) (fun j t hj ht=>Q2C _ _ _ _ _ hj ht) _⟩,True.intro⟩ rfl⟩
def dk (k:Int):Bool:=decide (1<=k/\k<=4)
theorem Q7U (k:Int):Ret Tryz.prog 87 [.int .i64 k] (.bool (dk k)):=by
 refine J0f rfl ?_;refine J0b mixed Tryz.func87 rfl hc87 hr87 rfl ?_
 repeat' ((conv=>whnf);first|(refine Br.dec ?_ ?_<;>intro _<;>try omega))
 all_goals (conv=>whnf)
 all_goals exact VLe.bool (by symm;rw[dk];first|(rw[decide_eq_true_eq];omega)|(rw[decide_eq_false_iff_not];omega))
theorem X7b {k:Int}:dk k=true↔1<=k/\k<=4:=by rw[dk,decide_eq_true_eq]
def nm:List (Int×Int)->Nat
 | []=>0
 | l::r=>2 ^ l.1.toNat ||| nm r
theorem Q6H:∀(r:List (Int×Int)) (l:Int×Int),nm (r++[l])=nm r ||| 2 ^ l.1.toNat
 | [],l=>by simp[nm]
 | x::r,l=>by simp only[List.cons_append,nm,Q6H r l,Nat.or_assoc]
theorem X16 (u:Nat):∀r:List (Int×Int),(nm r).testBit u=r.any fun l=>decide (l.1.toNat=u)
 | []=>by simp[nm]
 | l::r=>by rw[nm,Nat.testBit_or,Nat.testBit_two_pow,X16 u r,List.any_cons]
theorem Q6I:∀(r:List (Int×Int)),(∀l∈r,l.1.toNat<32)->nm r<4294967296
 | [],_=>by simp[nm]
 | l::r,h=>by
   rw[nm];exact Nat.or_lt_two_pow (n:=32) (J3u (h l (by simp))) (Q6I r (fun x hx=>h x (by simp[hx])))
def X1K (g:G):Nat->Nat->V:=fun i _=>.int .u32 (nm (gR g.ports i))
def Q4K (g:G) (v i:Nat):Nat->Nat->V:=fun u _=>.int .u32 (if u<v then nm (gR g.ports u) else if u=v then nm ((gR g.ports v).take i) else 0)
theorem Q20 {g:G} (hg:g.valid=true) {v:Nat} (hv:v<g.ports.length):∀l∈gR g.ports v,l.1.toNat<32:=by
 obtain⟨f1,f2,f3,f4,f5,f6,f7⟩:=J0a hg;intro l hl;obtain⟨i,hi,rfl⟩:=X2q hl;have:=X12 (f6 v hv) hi;omega
theorem Q6N {g:G} {v i u j:Nat} (hj:j<1) (hi:i<(gR g.ports v).length) (a:Int) (ha:a=(nm ((gR g.ports v).take (i+1)):Nat)):VLe (J1R (Q4K g v i) v 0 [.int .u32 a] u j) (Q4K g v (i+1) u j):=by
 obtain rfl:j=0:=by omega
 apply VLe.of_eq;by_cases e:u=v
 . subst e;simp[J1R,Q4K,ha]
 . simp[J1R,Q4K,e]
theorem X0e {g:G} {v i u j:Nat} (hi:(gR g.ports v).length<=i):VLe (Q4K g v i u j) (Q4K g (v+1) 0 u j):=by
 apply VLe.of_eq;simp only[Q4K];by_cases h1:u<v
 . rw[if_pos h1,if_pos (by omega)]
 . by_cases e:u=v
   . subst e;rw[if_neg h1,if_pos rfl,if_pos (by omega),List.take_of_length_le hi]
   . rw[if_neg h1,if_neg e,if_neg (by omega)];by_cases e2:u=v+1
     . rw[if_pos e2];simp[nm]
     . rw[if_neg e2]
theorem Q6M {g:G} {u j:Nat} (hj:j<1):VLe ((fun(x:Nat) (j:Nat)=>[V.int .u32 0].getD j default) u j) (Q4K g 0 0 u j):=by
 obtain rfl:j=0:=by omega
 apply VLe.of_eq;simp[Q4K,nm]
theorem X0f {g:G}:VLe (.fz g.ports.length 1 false (J0h 0 (Q4K g g.ports.length 0))) (.fz g.ports.length 1 false (X1K g)):=by
 refine VLe.fz rfl (fun h=>h) (fun i j hi hj=>VLe.of_eq ?_);simp only[J0h,Q4K,X1K];simp[hi]
theorem Ar.sh1I {t:Int} {K:Int->Prop} (h0:0<=t) (h:t<32) (hK:K ((2 ^ t.toNat:Nat):Int)):Ar .u32 (1*2 ^ (min t.toNat 32)) K:=by
 obtain⟨k,rfl⟩:∃k:Nat,t=k:=⟨t.toNat,by omega⟩;exact Ar.sh1 (by omega) hK
set_option maxHeartbeats 4000000 in
theorem Q6J (g:G) (hs:g.Small) (hg:g.valid=true):Ret Tryz.prog 89 [g.v] (.fz g.ports.length 1 false (X1K g)):=by
 obtain⟨f1,f2,f3,f4,f5,f6,f7⟩:=J0a hg;refine J0f rfl ?_;refine J0b mixed Tryz.func89 rfl hc89 hr89 rfl ?_
 repeat' ((conv=>whnf);first|(refine Bd.q ?_)|(refine Len.q ?_)|(refine MkS.vec ?_))
 all_goals (conv=>whnf)
 refine J0N mixed [3,13,14] [] [2,3,4,5,6,7,8,9,10,11,12,13,14,15,16,17,18,19,20,21,22,23,24,25,26,27,28,29] [1,0] (fun i:Nat=>[(15,.int .i64 i)]) (fun own v=>J2i own 1 (.vec g.ports.length 1 (Q4K g v 0))) (fun m v=>m=g.ports.length-v/\v<=g.ports.length) g.ports.length 0 ⟨rfl,Nat.zero_le _⟩ rfl (fun _=>rfl) ?_ ?_
 . refine J0e (fun _ _=>[(0,some 0),(1,some 1)]) ?_ ?_ rfl
   . repeat' (first|exact tI|(refine⟨⟨_,rfl,?_⟩,?_⟩)|exact J0c.kf rfl|exact J0c.q)
   . repeat' (first|exact Q6M hj|exact tI|(refine⟨⟨_,rfl,?_⟩,?_⟩)|exact J0c.kf rfl|(refine⟨Nat.le_refl _,rfl,fun i j hi hj=>?_⟩)|apply And.intro)
 rintro m v ⟨hm,hv⟩;have hrl:=J5T hs.rows v
 repeat' ((conv=>whnf);first|(refine Br.dec ?_ ?_<;>intro _<;>try omega)|(refine Ix.q ?_)|(refine Len.q ?_))
 all_goals (conv=>whnf)
 . refine J0N mixed [3,4,13,14,15,20,21] [] [2,3,4,5,6,7,8,9,10,11,12,13,14,15,16,17,18,19,20,21,22,23,24,25,26,27,28,29] [1,0] (fun i:Nat=>[(22,.int .i64 i)]) (fun own i=>J2i own 1 (.vec g.ports.length 1 (Q4K g v i))) (fun m i=>m=(gR g.ports v).length-i/\i<=(gR g.ports v).length) (gR g.ports v).length 0 ⟨rfl,Nat.zero_le _⟩ rfl (fun _=>rfl) ?_ ?_
   . exact J0l (fun _ _=>[(0,some 0),(1,some 1)])
   rintro m i ⟨hm,hi⟩;have hto:=fun h=>X12 (f6 v (by omega)) (i:=i) h
   repeat' ((conv=>whnf);first|(refine Ar.sh1I (by omega) (by omega) ?_)|(refine Br.dec ?_ ?_<;>intro _<;>try omega)|(refine Ar.q ?_)|(refine Sv.mk _ rfl ?_)|(refine Nn.mk (by omega) ?_)|(refine Ix.q ?_)|(refine Ltn.q ?_))
   all_goals (conv=>whnf)
   . have hr:=Q20 hg (v:=v) (by omega);have h1:=Q6I ((gR g.ports v).take i) (fun l hl=>hr l (List.mem_of_mem_take hl));have h2:=J3u (hr _ (J02 (show i<(gR g.ports v).length by omega)));refine⟨(gR g.ports v).length-(i+1),i+1,by omega,⟨rfl,by omega⟩,?_⟩;refine J0e (fun _ _=>[(0,some 0),(1,some 1)]) ?_ ?_ rfl
     . repeat' (first|exact tI|(refine⟨⟨_,rfl,?_⟩,?_⟩)|exact J0c.kf rfl|exact J0c.q)
     . repeat' (first|(rw[Nat.zero_add];exact Q6N hj (by omega) _ (by simp only[Nat.lt_irrefl,if_false,if_true];rw[Q39 h1 h2,J1D _ _ (by omega),Q6H]))|exact tI|(refine⟨⟨_,rfl,?_⟩,?_⟩)|exact J0c.kf rfl|(refine⟨Nat.le_refl _,rfl,fun i j hi hj=>?_⟩)|apply And.intro)
   . refine⟨g.ports.length-(v+1),v+1,by omega,⟨rfl,by omega⟩,?_⟩;refine J0e (fun _ _=>[(0,some 0),(1,some 1)]) ?_ ?_ rfl
     . repeat' (first|exact tI|(refine⟨⟨_,rfl,?_⟩,?_⟩)|exact J0c.kf rfl|exact J0c.q)
     . repeat' (first|exact X0e (by omega)|exact tI|(refine⟨⟨_,rfl,?_⟩,?_⟩)|exact J0c.kf rfl|(refine⟨Nat.le_refl _,rfl,fun i j hi hj=>?_⟩)|apply And.intro)
 . have e:v=g.ports.length:=by omega
   subst e;exact X0f
def ind (g:G) (s:Nat):Bool:=decide (∀v,v<g.ports.length->s.testBit v=true->nm (gR g.ports v) &&& s=0)
theorem X6S {g:G} {s v:Nat} (hv:v<g.ports.length) (hb:s.testBit v=true) (h:nm (gR g.ports v) &&& s≠0):VLe (.bool false) (.bool (ind g s)):=VLe.bool (by rw[ind,decide_eq_false (fun hh=>h (hh v hv hb))])
theorem Q3B {n i:Nat}:(J2a n).testBit i=decide (i<n):=by rw[J2a,J8l];simp
theorem J6U {s n:Nat} (h:J6p s (J2a n)) {i:Nat} (hi:s.testBit i=true):i<n:=by
 have:=h i hi;rw[Q3B,decide_eq_true_eq] at this;exact this
set_option maxHeartbeats 8000000 in
theorem Q7W (g:G) (hg:g.valid=true) (s:Nat) (hs:s<4294967296) (hp:J6p s (J2a g.ports.length)):RG 138 [.fz g.ports.length 1 false (X1K g),.int .u32 s] (.bool (ind g s)):=by
 obtain⟨f1,f2,f3,f4,f5,f6,f7⟩:=J0a hg;refine J3s rfl ?_;refine J0b mixed Tryz.func138 rfl Y1g Y0y rfl ?_
 repeat' ((conv=>whnf);first|(refine J0b mixed Tryz.func113 rfl X4s X4o rfl ?_)|(refine J3a ?_)|(refine Chk.q ?_)|(refine J0b mixed Tryz.func143 rfl X4r X4n rfl ?_))
 all_goals (conv=>whnf)
 refine J0N mixed [0,1] [] [5,6,7,8,9,10,11,12,13,14,15,16,17,18,19,20,21,22,23,24,25,26,27,28,29] [4,3,2,1,0,999] (fun b:Nat=>[]) (fun own b=>J2i own 3 (.cells [.int .u32 (upS s b)])) (fun m b=>m=32-b/\b<=32/\∀v,v<b->s.testBit v=true->nm (gR g.ports v) &&& s=0) 32 0 ⟨rfl,by omega,fun v hv=>by omega⟩ rfl (fun _=>rfl) ?_ ?_
 . have hx:=J8P hs;refine J0e (fun _ _=>[(0,some 0),(1,some 1),(2,some 2),(3,some 3),(4,some 4),(999,some 999)]) ?_ ?_ rfl
   . repeat' (first|exact J0c.yld rfl|exact tI|(refine⟨⟨_,rfl,?_⟩,?_⟩)|exact J0c.loc rfl)
   . repeat' (first|exact J0c.int (by rw[hx])|(refine J0c.fn ?_)|(refine⟨rfl,rfl,rfl,rfl,rfl,?_⟩)|exact tI|exact⟨rfl,rfl,rfl⟩|(refine⟨⟨_,rfl,?_⟩,?_⟩)|exact J0c.kf rfl|exact J0c.loc rfl|apply And.intro)
 rintro m b ⟨hm,hb,hall⟩;have hul:=Q2G s b;by_cases hu:upS s b=0
 . repeat' ((conv=>whnf);first|(refine Br.bne ?_ ?_<;>intro _<;>try omega))
   all_goals (conv=>whnf)
   exact VLe.bool (by
    rw[ind,decide_eq_true];intro v hv hbv;by_cases h:v<b
    . exact hall v h hbv
    . rw[Q1y hs hu v (by omega)] at hbv;cases hbv)
 . obtain⟨v1,v2,v3,v4,v5⟩:=J8Q hs hu;have htz:=X3f _ hu hul;have hr:J3m .and .u32 ((upS s b:Nat):Int) ((upS s b:Nat)-1:Int)=((upS s (ctz (upS s b)+1):Nat):Int):=by
    rw[<- v5,show((upS s b:Nat):Int)-1=((upS s b-1:Nat):Int) by omega,J1t hul (by omega)]
   generalize ctz (upS s b)=v at *;have hvn:=J6U hp v3;have hnl:=Q6I _ (Q20 hg hvn);have ha:=J1t hnl hs
   repeat' ((conv=>whnf);first|(refine Br.tt ?_)|(refine Br.ff ?_)|(refine Br.bne ?_ ?_<;>intro _<;>try omega)|(refine Ar.u32 (by omega) (by omega) ?_)|(refine Sv.mk _ rfl ?_)|(refine Ix.q ?_)|(refine htz.gog ?_)|(refine J2w mixed rfl rfl ?_))
   all_goals (conv=>whnf)
   . rename_i hh;rw[ha] at hh;exact X6S hvn v3 (fun e=>hh (by rw[e];rfl))
   . rename_i hh;rw[ha] at hh;refine⟨32-(v+1),v+1,by omega,⟨rfl,by omega,fun u hu2 hb2=>?_⟩,?_⟩
     . by_cases h:u<b
       . exact hall u h hb2
       . by_cases e:u=v
         . subst e;omega
         . rw[v4 u (by omega) (by omega)] at hb2;cases hb2
     . refine J0e (fun _ _=>[(0,some 0),(1,some 1),(2,some 2),(3,some 3),(4,some 4),(999,some 999)]) ?_ ?_ rfl
       . repeat' (first|exact J0c.yld rfl|exact tI|(refine⟨⟨_,rfl,?_⟩,?_⟩)|exact J0c.loc rfl)
       . repeat' (first|exact J0c.int hr|(refine J0c.fn ?_)|(refine⟨rfl,rfl,rfl,rfl,rfl,?_⟩)|exact tI|exact⟨rfl,rfl,rfl⟩|(refine⟨⟨_,rfl,?_⟩,?_⟩)|exact J0c.kf rfl|exact J0c.loc rfl|apply And.intro)
def okC (g:G) (k:Int) (e c:Nat):Bool:=if k=1 then decide (c &&& (c-1)=0) else if k=2 then ind g c else if k=4 then decide (c=e) else true
def Q4X (g:G) (k:Int) (e c:Nat):Bool:=decide (c≠0/\J3c c e=0)&&okC g k e c
theorem J32 {a b c:Nat} (h1:J6p a b) (h2:J6p b c):J6p a c:=fun i h=>h2 i (h1 i h)
set_option maxHeartbeats 4000000 in
theorem Q1O (g:G) (hg:g.valid=true) (k:Int) (e c:Nat) (he:e<4294967296) (hc:c<4294967296) (hp:J6p e (J2a g.ports.length)):RG 110 [.fz g.ports.length 1 false (X1K g),.int .i64 k,.int .u32 e,.int .u32 c] (.bool (Q4X g k e c)):=by
 have hd:=J5B hc he;refine J3s rfl ?_;refine J0b mixed Tryz.func110 rfl Y1q Y0I rfl ?_;rw[Q4X];by_cases h:c≠0/\J3c c e=0
 . rw[decide_eq_true h,Bool.true_and];have hpc:=J32 ((J88 hc).1 h.2) hp;have hi:=Q7W g hg c hc hpc;have h0:=h.1;have hd0:J3m .andNot .u32 (c:Int) (e:Int)=0:=by rw[hd,h.2];rfl
   have ha:J3m .and .u32 (c:Int) ((c:Int)-1)=((c &&& (c-1):Nat):Int):=by
    rw[show(c:Int)-1=((c-1:Nat):Int) by omega,J1t hc (by omega)]
   repeat' ((conv=>whnf);first|(refine Sv.mk 0 hd0.symm ?_)|(refine Sv.mk _ ha.symm ?_)|(refine Br.ff ?_)|(refine Br.dec ?_ ?_<;>intro _<;>try omega)|(refine Ar.u32 (by omega) (by omega) ?_)|(refine hi.gog ?_))
   all_goals (conv=>whnf)
   all_goals first
    | (rw[okC,if_pos (by assumption)];first|exact VLe.bool (by symm;first|exact decide_eq_true (by omega)|exact decide_eq_false (by omega)))
    | (rw[okC,if_neg (by assumption),if_pos (by assumption)];first|exact VLe.bool (Eq.symm (by assumption))|exact VLe.bool (by rw[ind];symm;first|exact decide_eq_true (by assumption)|exact decide_eq_false (by assumption)))
    | (rw[okC,if_neg (by assumption),if_neg (by assumption),if_pos (by assumption)];exact VLe.bool (by symm;first|exact decide_eq_true (by omega)|exact decide_eq_false (by omega)))
    | (rw[okC,if_neg (by assumption),if_neg (by assumption),if_neg (by assumption)];exact VLe.rfl)
 . rw[decide_eq_false h,Bool.false_and];by_cases h0:c=0
   . subst h0
     repeat' ((conv=>whnf);first|(refine Br.tt ?_))
     all_goals (conv=>whnf)
     all_goals exact VLe.rfl
   . have h1:J3c c e≠0:=fun x=>h ⟨h0,x⟩
     repeat' ((conv=>whnf);first|(refine Sv.mk _ hd.symm ?_)|(refine Br.dec ?_ ?_<;>intro _<;>try omega)|(refine Br.bne ?_ ?_<;>intro _<;>try omega))
     all_goals (conv=>whnf)
     all_goals exact VLe.rfl
def Q8h:Env->List Nat->Env
 | [],_=>[]
 | (t,v)::r,seen=>match J09 t seen with
   | true=>Q8h r seen
   | false=>(t,v)::Q8h r (t::seen)
def X7g:Blk->Blk
 | .loop st pe env N ps C=>.loop st pe (Q8h env []) N ps C
 | b=>b
def Q8g:Own->Own
 | []=>[]
 | (k,b)::r=>(k,X7g b)::Q8g r
def gr (g:G) (W:Nat):Nat->Nat
 | 0=>0
 | b+1=>if W.testBit b=true/\nm (gR g.ports b) &&& gr g W b=0 then gr g W b ||| 2 ^ b else gr g W b
theorem Q7x (g:G) (W:Nat):∀b,gr g W b<2 ^ b
 | 0=>by show 0<1;omega
 | b+1=>by
   have h:=Q7x g W b;have h2:2 ^ b<2 ^ (b+1):=Nat.pow_lt_pow_right (by omega) (by omega);rw[gr];split
   . exact Nat.or_lt_two_pow (by omega) h2
   . omega
theorem X4u (g:G) (W:Nat) {b:Nat} (h:b<=32):gr g W b<4294967296:=Nat.lt_of_lt_of_le (Q7x g W b) (Nat.pow_le_pow_right (n:=2) (by omega) h)
theorem J5v {g:G} {W b:Nat}:∀{v:Nat},b<=v->(∀j,b<=j->j<v->W.testBit j=false)->gr g W v=gr g W b
 | 0,h,_=>by rw[show b=0 by omega]
 | v+1,h,hz=>by
   by_cases e1:b=v+1
   . rw[e1]
   . rw[gr,if_neg (by rw[hz v (by omega) (by omega)];simp)];exact J5v (by omega) (fun j a c=>hz j a (by omega))
def wsh (e w:Nat):Nat:=if w &&& e=0 then Q0x e else w &&& e
theorem J9L {e w:Nat} (he:e<4294967296):wsh e w<4294967296:=by
 rw[wsh];split
 . exact Q6Z e he
 . exact Nat.lt_of_le_of_lt Nat.and_le_right he
theorem Q2w {e w:Nat} (he:e<4294967296):J6p (wsh e w) e:=by
 rw[wsh];split
 . exact Q0w he
 . exact Q27 _ _
def rs (g:G) (k:Int) (e w:Nat):Nat:=if k=1 then Q0x (wsh e w) else if k=2 then gr g (wsh e w) 32 else if k=4 then e else wsh e w
set_option maxHeartbeats 8000000 in
theorem Q1N (g:G) (hg:g.valid=true) (k:Int) (e w:Nat) (he:e<4294967296) (hw:w<4294967296) (hp:J6p e (J2a g.ports.length)):RG 93 [.fz g.ports.length 1 false (X1K g),.int .i64 k,.int .u32 e,.int .u32 w] (.int .u32 (rs g k e w)):=by
 obtain⟨f1,f2,f3,f4,f5,f6,f7⟩:=J0a hg;have ha:=J1t hw he;have hne:J3m .and .u32 (e:Int) (((4294967296-e) % 4294967296:Nat):Int)=(Q0x e:Nat):=by rw[J1t he (Nat.mod_lt _ (by omega)),J6a he]
 have hW:=J9L (w:=w) he;have hWp:=J32 (Q2w (w:=w) he) hp;have hnw:J3m .and .u32 (wsh e w:Nat) (((4294967296-wsh e w) % 4294967296:Nat):Int)=(Q0x (wsh e w):Nat):=by rw[J1t hW (Nat.mod_lt _ (by omega)),J6a hW]
 refine J3s rfl ?_;refine J0b mixed Tryz.func93 rfl hc93 hr93 rfl ?_;rw[rs];by_cases hz:w &&& e=0
 . have hww:wsh e w=Q0x e:=by rw[wsh,if_pos hz]
   rw[hww] at hW hWp hnw ⊢;by_cases k2:k=2
   . have k1:¬ k=1:=by omega
     rw[if_neg k1,if_pos k2]
     repeat' ((conv=>whnf);first|(refine Sv.mk _ ha.symm ?_)|(refine Ar.neg32 he ?_)|(refine Sv.mk _ hne.symm ?_)|(refine Br.dec ?_ ?_<;>intro _<;>try omega)|(refine J0b mixed Tryz.func113 rfl X4s X4o rfl ?_)|(refine J3a ?_)|(refine Chk.q ?_)|(refine J0b mixed Tryz.func143 rfl X4r X4n rfl ?_))
     all_goals (conv=>whnf)
     generalize Q0x e=W at *;refine J0N mixed [0,1] [] [4,5,6,7,8,9,10,11,12,13,14,15,16,17,18,19,20,21,22,23,24,25,26,27,28,29] [3,2,1,0,999] (fun b:Nat=>[]) (fun own b=>Q8g (J2i (J2i own 1 (.cells [.int .u32 (gr g W b)])) 2 (.cells [.int .u32 (upS W b)]))) (fun m b=>m=32-b/\b<=32) 32 0 ⟨rfl,by omega⟩ rfl (fun _=>rfl) ?_ ?_
     . have hx:=J8P hW;refine J0e (fun _ _=>[(0,some 0),(1,some 1),(2,some 2),(3,some 3),(999,some 999)]) ?_ ?_ rfl
       . repeat' (first|exact J0c.yld rfl|exact tI|(refine⟨⟨_,rfl,?_⟩,?_⟩)|exact J0c.loc rfl)
       . repeat' (first|exact J0c.int (by rw[hx])|(refine J0c.fn ?_)|(refine⟨rfl,rfl,rfl,rfl,rfl,?_⟩)|exact tI|exact⟨rfl,rfl,rfl⟩|(refine⟨⟨_,rfl,?_⟩,?_⟩)|exact J0c.kf rfl|exact J0c.loc rfl|apply And.intro)
     rintro m b ⟨hm,hb⟩;have hul:=Q2G W b;by_cases hu:upS W b=0
     . repeat' ((conv=>whnf);first|(refine Br.bne ?_ ?_<;>intro _<;>try omega))
       all_goals (conv=>whnf)
       have hx:gr g W 32=gr g W b:=J5v hb (fun j hj _=>Q1y hW hu j hj);rw[hx];exact VLe.rfl
     . obtain⟨v1,v2,v3,v4,v5⟩:=J8Q hW hu;have htz:=X3f _ hu hul;have hr:J3m .and .u32 ((upS W b:Nat):Int) ((upS W b:Nat)-1:Int)=((upS W (ctz (upS W b)+1):Nat):Int):=by
        rw[<- v5,show((upS W b:Nat):Int)-1=((upS W b-1:Nat):Int) by omega,J1t hul (by omega)]
       generalize ctz (upS W b)=v at *;have hvn:=J6U hWp v3;have hnl:=Q6I _ (Q20 hg hvn);have hgl:=X4u g W hb;have hga:=J1t hnl hgl;have hgo:=Q39 hgl (J3u v1);have hsk:=J5v (g:=g) v2 v4
       repeat' ((conv=>whnf);first|(refine Sv.mk _ hga.symm ?_)|(refine Br.tt ?_)|(refine Br.dec ?_ ?_<;>intro _<;>try omega)|(refine Br.bne ?_ ?_<;>intro _<;>try omega)|(refine Ar.u32 (by omega) (by omega) ?_)|(refine Ar.sh1 (by omega) ?_)|(refine Sv.mk _ rfl ?_)|(refine Nn.mk (by omega) ?_)|(refine Ix.q ?_)|(refine htz.gog ?_)|(refine J2w mixed rfl rfl ?_))
       all_goals (conv=>whnf)
       all_goals
        refine⟨32-(v+1),v+1,by omega,⟨rfl,by omega⟩,?_⟩
        first
        | (have hs:gr g W (v+1)=gr g W b ||| 2 ^ v:=by rw[gr,hsk,if_pos ⟨v3,by omega⟩]
           refine J0e (fun _ _=>[(0,some 0),(1,some 1),(2,some 2),(3,some 3),(999,some 999)]) ?_ ?_ rfl
           . repeat' (first|exact J0c.yld rfl|exact tI|(refine⟨⟨_,rfl,?_⟩,?_⟩)|exact J0c.loc rfl)
           . repeat' (first|exact J0c.int hr|exact J0c.int (by rw[hs];exact hgo)|(refine J0c.fn ?_)|(refine⟨rfl,rfl,rfl,rfl,rfl,?_⟩)|exact tI|exact⟨rfl,rfl,rfl⟩|(refine⟨⟨_,rfl,?_⟩,?_⟩)|exact J0c.kf rfl|exact J0c.loc rfl|apply And.intro))
        | (have hs:gr g W (v+1)=gr g W b:=by rw[gr,hsk,if_neg (fun h=>by have:=h.2;omega)]
           refine J0e (fun _ _=>[(0,some 0),(1,some 1),(2,some 2),(3,some 3),(999,some 999)]) ?_ ?_ rfl
           . repeat' (first|exact J0c.yld rfl|exact tI|(refine⟨⟨_,rfl,?_⟩,?_⟩)|exact J0c.loc rfl)
           . repeat' (first|exact J0c.int hr|exact J0c.int (by rw[hs])|(refine J0c.fn ?_)|(refine⟨rfl,rfl,rfl,rfl,rfl,?_⟩)|exact tI|exact⟨rfl,rfl,rfl⟩|(refine⟨⟨_,rfl,?_⟩,?_⟩)|exact J0c.kf rfl|exact J0c.loc rfl|apply And.intro))
   . repeat' ((conv=>whnf);first|(refine Sv.mk _ ha.symm ?_)|(refine Ar.neg32 he ?_)|(refine Sv.mk _ hne.symm ?_)|(refine Ar.neg32 hW ?_)|(refine Sv.mk _ hnw.symm ?_)|(refine Br.dec ?_ ?_<;>intro _<;>try omega))
     all_goals (conv=>whnf)
     all_goals first
      | (rw[if_pos (by assumption)];exact VLe.rfl)
      | (rw[if_neg (by assumption),if_neg k2,if_pos (by assumption)];exact VLe.rfl)
      | (rw[if_neg (by assumption),if_neg k2,if_neg (by assumption)];exact VLe.rfl)
 . have hww:wsh e w=w &&& e:=by rw[wsh,if_neg hz]
   rw[hww] at hW hWp hnw ⊢;by_cases k2:k=2
   . have k1:¬ k=1:=by omega
     rw[if_neg k1,if_pos k2]
     repeat' ((conv=>whnf);first|(refine Sv.mk _ ha.symm ?_)|(refine Br.dec ?_ ?_<;>intro _<;>try omega)|(refine J0b mixed Tryz.func113 rfl X4s X4o rfl ?_)|(refine J3a ?_)|(refine Chk.q ?_)|(refine J0b mixed Tryz.func143 rfl X4r X4n rfl ?_))
     all_goals (conv=>whnf)
     generalize w &&& e=W at *;refine J0N mixed [0,1] [] [4,5,6,7,8,9,10,11,12,13,14,15,16,17,18,19,20,21,22,23,24,25,26,27,28,29] [3,2,1,0,999] (fun b:Nat=>[]) (fun own b=>Q8g (J2i (J2i own 1 (.cells [.int .u32 (gr g W b)])) 2 (.cells [.int .u32 (upS W b)]))) (fun m b=>m=32-b/\b<=32) 32 0 ⟨rfl,by omega⟩ rfl (fun _=>rfl) ?_ ?_
     . have hx:=J8P hW;refine J0e (fun _ _=>[(0,some 0),(1,some 1),(2,some 2),(3,some 3),(999,some 999)]) ?_ ?_ rfl
       . repeat' (first|exact J0c.yld rfl|exact tI|(refine⟨⟨_,rfl,?_⟩,?_⟩)|exact J0c.loc rfl)
       . repeat' (first|exact J0c.int (by rw[hx])|(refine J0c.fn ?_)|(refine⟨rfl,rfl,rfl,rfl,rfl,?_⟩)|exact tI|exact⟨rfl,rfl,rfl⟩|(refine⟨⟨_,rfl,?_⟩,?_⟩)|exact J0c.kf rfl|exact J0c.loc rfl|apply And.intro)
     rintro m b ⟨hm,hb⟩;have hul:=Q2G W b;by_cases hu:upS W b=0
     . repeat' ((conv=>whnf);first|(refine Br.bne ?_ ?_<;>intro _<;>try omega))
       all_goals (conv=>whnf)
       have hx:gr g W 32=gr g W b:=J5v hb (fun j hj _=>Q1y hW hu j hj);rw[hx];exact VLe.rfl
     . obtain⟨v1,v2,v3,v4,v5⟩:=J8Q hW hu;have htz:=X3f _ hu hul;have hr:J3m .and .u32 ((upS W b:Nat):Int) ((upS W b:Nat)-1:Int)=((upS W (ctz (upS W b)+1):Nat):Int):=by
        rw[<- v5,show((upS W b:Nat):Int)-1=((upS W b-1:Nat):Int) by omega,J1t hul (by omega)]
       generalize ctz (upS W b)=v at *;have hvn:=J6U hWp v3;have hnl:=Q6I _ (Q20 hg hvn);have hgl:=X4u g W hb;have hga:=J1t hnl hgl;have hgo:=Q39 hgl (J3u v1);have hsk:=J5v (g:=g) v2 v4
       repeat' ((conv=>whnf);first|(refine Sv.mk _ hga.symm ?_)|(refine Br.tt ?_)|(refine Br.dec ?_ ?_<;>intro _<;>try omega)|(refine Br.bne ?_ ?_<;>intro _<;>try omega)|(refine Ar.u32 (by omega) (by omega) ?_)|(refine Ar.sh1 (by omega) ?_)|(refine Sv.mk _ rfl ?_)|(refine Nn.mk (by omega) ?_)|(refine Ix.q ?_)|(refine htz.gog ?_)|(refine J2w mixed rfl rfl ?_))
       all_goals (conv=>whnf)
       all_goals
        refine⟨32-(v+1),v+1,by omega,⟨rfl,by omega⟩,?_⟩
        first
        | (have hs:gr g W (v+1)=gr g W b ||| 2 ^ v:=by rw[gr,hsk,if_pos ⟨v3,by omega⟩]
           refine J0e (fun _ _=>[(0,some 0),(1,some 1),(2,some 2),(3,some 3),(999,some 999)]) ?_ ?_ rfl
           . repeat' (first|exact J0c.yld rfl|exact tI|(refine⟨⟨_,rfl,?_⟩,?_⟩)|exact J0c.loc rfl)
           . repeat' (first|exact J0c.int hr|exact J0c.int (by rw[hs];exact hgo)|(refine J0c.fn ?_)|(refine⟨rfl,rfl,rfl,rfl,rfl,?_⟩)|exact tI|exact⟨rfl,rfl,rfl⟩|(refine⟨⟨_,rfl,?_⟩,?_⟩)|exact J0c.kf rfl|exact J0c.loc rfl|apply And.intro))
        | (have hs:gr g W (v+1)=gr g W b:=by rw[gr,hsk,if_neg (fun h=>by have:=h.2;omega)]
           refine J0e (fun _ _=>[(0,some 0),(1,some 1),(2,some 2),(3,some 3),(999,some 999)]) ?_ ?_ rfl
           . repeat' (first|exact J0c.yld rfl|exact tI|(refine⟨⟨_,rfl,?_⟩,?_⟩)|exact J0c.loc rfl)
           . repeat' (first|exact J0c.int hr|exact J0c.int (by rw[hs])|(refine J0c.fn ?_)|(refine⟨rfl,rfl,rfl,rfl,rfl,?_⟩)|exact tI|exact⟨rfl,rfl,rfl⟩|(refine⟨⟨_,rfl,?_⟩,?_⟩)|exact J0c.kf rfl|exact J0c.loc rfl|apply And.intro))
   . repeat' ((conv=>whnf);first|(refine Sv.mk _ ha.symm ?_)|(refine Ar.neg32 hW ?_)|(refine Sv.mk _ hnw.symm ?_)|(refine Br.dec ?_ ?_<;>intro _<;>try omega))
     all_goals (conv=>whnf)
     all_goals first
      | (rw[if_pos (by assumption)];exact VLe.rfl)
      | (rw[if_neg (by assumption),if_neg k2,if_pos (by assumption)];exact VLe.rfl)
      | (rw[if_neg (by assumption),if_neg k2,if_neg (by assumption)];exact VLe.rfl)
theorem J9K {s:Nat}:s=0↔∀i,s.testBit i=false:=⟨fun h i=>by subst h;simp,fun h=>Nat.eq_of_testBit_eq fun i=>by rw[h,Nat.zero_testBit]⟩
theorem J2X {a b:Nat}:a &&& b=0↔∀i,a.testBit i=true->b.testBit i=false:=by
 rw[J9K];constructor
 . intro h i hi;have:=h i;rw[Nat.testBit_and,hi,Bool.true_and] at this;exact this
 . intro h i;rw[Nat.testBit_and];cases e:a.testBit i with
   | false=>rfl
   | true=>rw[h i e];rfl
def adj (g:G) (u v:Nat):Bool:=(nm (gR g.ports u)).testBit v
theorem J2I {g:G} {u v:Nat}:adj g u v=true↔∃l∈gR g.ports u,l.1.toNat=v:=by
 rw[adj,X16,List.any_eq_true];simp
theorem Q8M {g:G} (hg:g.valid=true) {u v:Nat} (hu:u<g.ports.length) (h:adj g u v=true):adj g v u=true:=by
 obtain⟨f1,f2,f3,f4,f5,f6,f7⟩:=J0a hg;obtain⟨l,hl,rfl⟩:=J2I.1 h;exact J2I.2 ⟨_,f7 u hu l hl,by simp⟩
theorem Q8N {g:G} (hg:g.valid=true) {u:Nat} (hu:u<g.ports.length):adj g u u=false:=by
 obtain⟨f1,f2,f3,f4,f5,f6,f7⟩:=J0a hg;cases h:adj g u u with
 | false=>rfl
 | true =>
   obtain⟨l,hl,h2⟩:=J2I.1 h;have:=(J0n.1 (f6 u hu)).1 l hl;omega
theorem X4k {g:G} {s:Nat}:ind g s=true↔∀v u,v<g.ports.length->s.testBit v=true->adj g v u=true->s.testBit u=false:=by
 rw[ind,decide_eq_true_eq];constructor
 . intro h v u hv hb ha;exact J2X.1 (h v hv hb) u ha
 . intro h v hv hb;exact J2X.2 (fun u ha=>h v u hv hb ha)
theorem Q4G (k:Nat):2 ^ k &&& (2 ^ k-1)=0:=by rw[Nat.and_two_pow_sub_one_eq_mod,Nat.mod_self]
theorem X37 (s:Nat):Q0x s &&& (Q0x s-1)=0:=by
 rw[Q0x];split
 . rfl
 . exact Q4G _
theorem Q0G {g:G} {k:Int} {e c:Nat}:Q4X g k e c=true↔c≠0/\J3c c e=0/\okC g k e c=true:=by
 rw[Q4X,Bool.and_eq_true,decide_eq_true_eq,and_assoc]
theorem okC1 {g:G} {e c:Nat}:okC g 1 e c=true↔c &&& (c-1)=0:=by rw[okC,if_pos rfl,decide_eq_true_eq]
theorem okC2 {g:G} {e c:Nat}:okC g 2 e c=true↔ind g c=true:=by rw[okC,if_neg (by decide),if_pos rfl]
theorem okC3 {g:G} {e c:Nat}:okC g 3 e c=true:=by rw[okC,if_neg (by decide),if_neg (by decide),if_neg (by decide)]
theorem okC4 {g:G} {e c:Nat}:okC g 4 e c=true↔c=e:=by rw[okC,if_neg (by decide),if_neg (by decide),if_pos rfl,decide_eq_true_eq]
theorem Q1U {g:G} {W b i:Nat} (h:b<=i):(gr g W b).testBit i=false :=
 Nat.testBit_lt_two_pow (Nat.lt_of_lt_of_le (Q7x g W b) (Nat.pow_le_pow_right (n:=2) (by omega) h))
theorem J7g {g:G} {W i:Nat}:∀{b:Nat},i<b->((gr g W b).testBit i=true↔W.testBit i=true/\nm (gR g.ports i) &&& gr g W i=0)
 | b+1,h=>by
   by_cases e:i=b
   . subst e;rw[gr];split
     . rename_i hh;rw[Nat.testBit_or,Nat.testBit_two_pow_self,Bool.or_true];exact⟨fun _=>hh,fun _=>rfl⟩
     . rename_i hh;rw[Q1U (Nat.le_refl _)];exact⟨fun x=>Bool.noConfusion x,fun x=>(hh x).elim⟩
   . have ih:=J7g (g:=g) (W:=W) (i:=i) (b:=b) (by omega);rw[gr];split
     . rw[Nat.testBit_or,Nat.testBit_two_pow,decide_eq_false (by omega),Bool.or_false];exact ih
     . exact ih
theorem X4t (g:G) (W b:Nat):J6p (gr g W b) W:=fun i hi=>by
 by_cases h:i<b
 . exact((J7g h).1 hi).1
 . rw[Q1U (by omega)] at hi;cases hi
theorem Q3A {g:G} {W i b b':Nat} (h:i<b) (h':i<b'):(gr g W b).testBit i=(gr g W b').testBit i:=by
 rw[Bool.eq_iff_iff,J7g h,J7g h']
theorem X2p {g:G} {W b i:Nat} (h:(gr g W b).testBit i=true):i<b:=by
 rcases Nat.lt_or_ge i b with h'|h'
 . exact h'
 . rw[Q1U h'] at h;cases h
theorem X6U {g:G} (hg:g.valid=true) {W:Nat} (hp:J6p W (J2a g.ports.length)) (b:Nat):ind g (gr g W b)=true:=by
 rw[X4k];intro v u hv hb ha;cases hu:(gr g W b).testBit u with
 | false=>rfl
 | true =>
   exfalso;have hub:=X2p hu;have hvb:=X2p hb;rcases Nat.lt_trichotomy u v with h|h|h
   . have h1:=((J7g hvb).1 hb).2;rw[Q3A hub h] at hu;rw[J2X.1 h1 u ha] at hu;cases hu
   . subst h;rw[Q8N hg hv] at ha;cases ha
   . have h1:=((J7g hub).1 hu).2;rw[Q3A hvb h] at hb;rw[J2X.1 h1 v (Q8M hg hv ha)] at hb;cases hb
theorem Y1x {g:G} {W:Nat} (h0:W≠0) (hW:W<4294967296):gr g W 32≠0:=by
 obtain⟨k1,k2,k3⟩:=J46 h0 hW;have h1:gr g W (ctz W)=0:=J5v (b:=0) (Nat.zero_le _) (fun j _ hj=>k3 j hj);have h2:=(J7g (g:=g) (W:=W) (i:=ctz W) (b:=32) k1).2 ⟨k2,by rw[h1,Nat.and_zero]⟩;intro h;rw[h,Nat.zero_testBit] at h2;cases h2
theorem X5H {e w:Nat} (h0:e≠0):wsh e w≠0:=by
 rw[wsh];split
 . exact Q6Y h0
 . assumption
theorem X3G {g:G} {k:Int} {e w:Nat} (he:e<4294967296):k≠4->J6p (rs g k e w) (wsh e w):=by
 intro hk;rw[rs];split
 . exact Q0w (J9L he)
 . split
   . exact X4t _ _ _
   . exact fun i h=>h
theorem Q2Y {g:G} (hg:g.valid=true) {k:Int} {e w:Nat} (hk:dk k=true) (he:e<4294967296) (hp:J6p e (J2a g.ports.length)) (h0:e≠0):Q4X g k e (rs g k e w)=true:=by
 have hW:=J9L (w:=w) he;have hWe:=Q2w (w:=w) he;have hWp:=J32 hWe hp;have hW0:=X5H (w:=w) h0;rw[X7b] at hk;rw[Q0G];by_cases h4:k=4
 . subst h4;have e1:rs g 4 e w=e:=by rw[rs,if_neg (by decide),if_neg (by decide),if_pos rfl]
   rw[e1];exact⟨h0,(J88 he).2 (fun i h=>h),okC4.2 rfl⟩
 . have hpt:=X3G (g:=g) (w:=w) he h4;have hlt:rs g k e w<4294967296:=Nat.lt_of_le_of_lt hpt.le hW;refine⟨?_,(J88 hlt).2 (J32 hpt hWe),?_⟩
   . rw[rs];split
     . exact Q6Y hW0
     . split
       . exact Y1x hW0 hW
       . exact hW0
   . have hk':k=1\/k=2\/k=3:=by omega
     rcases hk' with rfl|rfl|rfl
     . rw[okC1,rs,if_pos rfl];exact X37 _
     . rw[okC2,rs,if_neg (by decide),if_pos rfl];exact X6U hg hWp 32
     . exact okC3
instance:Inhabited Cnt:=⟨⟨0,0,0,0,0⟩⟩
def chC (p:Pr) (g:G) (k:Int) (c:Cf) (w:Nat):Nat:=rs g k (enN p g c) w
def nxC (p:Pr) (g:G) (k:Int) (c:Cf) (w:Nat):Cf:=J2q p g c (chC p g k c w)
def nxK (p:Pr) (g:G) (k:Int) (c:Cf) (n:Cnt) (w:Nat):Cnt:=n.add (chC p g k c w) (enN p g (nxC p g k c w))
def trc (p:Pr) (g:G) (k:Int):Cf->Cnt->List Nat->List (Cf×Cnt)
 | c,n,[]=>[(c,n)]
 | c,n,w::ws=>(c,n)::(if enN p g c=0 then[] else trc p g k (nxC p g k c w) (nxK p g k c n w) ws)
def X41 (p:Pr) (g:G) (k:Int):Cf->List Nat->List Nat
 | _,[]=>[]
 | c,w::ws=>if enN p g c=0 then[] else chC p g k c w::X41 p g k (nxC p g k c w) ws
def J4J (e:Nat):Cnt:=⟨0,0,0,0,e⟩
theorem X66 (p:Pr) (g:G) (c:Cf):enN p g c<2 ^ g.ids.length:=Q6O _ _
theorem J9q (p:Pr) {g:G} (hg:g.valid=true) (c:Cf):enN p g c<16777216:=by
 obtain⟨f1,f2,f3,f4,f5,f6,f7⟩:=J0a hg;exact Nat.lt_of_lt_of_le (X66 p g c) (Nat.pow_le_pow_right (n:=2) (by omega) f2)
theorem Q42 (p:Pr) {g:G} (hg:g.valid=true) (c:Cf):enN p g c<4294967296:=by have:=J9q p hg c;omega
theorem J7u (p:Pr) {g:G} (hg:g.valid=true) (c:Cf):J6p (enN p g c) (J2a g.ports.length):=fun i hi=>by
 obtain⟨f1,f2,f3,f4,f5,f6,f7⟩:=J0a hg;rw[enN,J8l,Bool.and_eq_true,decide_eq_true_eq] at hi;rw[Q3B,decide_eq_true_eq];omega
theorem Q3K (p:Pr) (g:G) (c:Cf) (v:Nat):(enN p g c).testBit v=(decide (v<g.ids.length)&&decide (0<=J1U p g c v)):=J8l _ _ _
theorem J6l (p:Pr) {g:G} (hg:g.valid=true) {k:Int} (hk:dk k=true) (c:Cf) (w:Nat) (h0:enN p g c≠0) :
 chC p g k c w≠0/\J6p (chC p g k c w) (enN p g c)/\okC g k (enN p g c) (chC p g k c w)=true/\chC p g k c w<16777216/\1<=cnt (chC p g k c w) 32/\cnt (chC p g k c w) 32<=24:=by
 have he:=Q42 p hg c;have hi:=Q2Y hg (w:=w) hk he (J7u p hg c) h0;obtain⟨h1,h2,h3⟩:=Q0G.1 hi;have hp:J6p (rs g k (enN p g c) w) (enN p g c):=by
  intro i hb;by_cases e:i<32
  . have:=congrArg (Nat.testBit · i) h2;simp only[Nat.zero_testBit,J3N e,hb,Bool.true_and,Bool.not_eq_false'] at this;exact this
  . exfalso;have hx:rs g k (enN p g c) w<4294967296\/∃j,32<=j/\(rs g k (enN p g c) w).testBit j=true:=by
     right;exact⟨i,by omega,hb⟩
    have h4:rs g k (enN p g c) w<4294967296:=by
     rw[rs];split
     . exact Q6Z _ (J9L he)
     . split
       . exact X4u g _ (by omega)
       . split
         . exact he
         . exact J9L he
    have:=Nat.testBit_lt_two_pow (Nat.lt_of_lt_of_le h4 (Nat.pow_le_pow_right (n:=2) (i:=32) (by omega) (show 32<=i by omega)));rw[this] at hb;cases hb
 have hlt:rs g k (enN p g c) w<16777216:=by
  apply Nat.lt_of_not_le;intro hge;obtain⟨i,hi1,hi2⟩:=Nat.exists_ge_and_testBit_of_ge_two_pow (n:=24) hge;have:=hp i hi2;have h24:=Nat.testBit_lt_two_pow (Nat.lt_of_lt_of_le (J9q p hg c) (Nat.pow_le_pow_right (n:=2) (i:=24) (by omega) hi1));rw[h24] at this;cases this
 refine⟨h1,hp,h3,hlt,?_,?_⟩
 . have:∃i,(rs g k (enN p g c) w).testBit i=true:=by
    apply Classical.byContradiction;intro hn;exact h1 (J9K.2 fun i=>by
     cases hb:(rs g k (enN p g c) w).testBit i with
     | false=>rfl
     | true=>exact(hn ⟨i,hb⟩).elim)
   obtain⟨i,hb⟩:=this;have hi:i<32:=by
    apply Nat.lt_of_not_le;intro hge;have:=Nat.testBit_lt_two_pow (Nat.lt_of_lt_of_le hlt (Nat.pow_le_pow_right (n:=2) (i:=24) (by omega) (show 24<=i by omega)));rw[this] at hb;cases hb
   exact Q8a hb hi
 . have h24:cnt (chC p g k c w) 32=cnt (chC p g k c w) 24:=by
    rw[show(32:Nat)=24+8 from rfl,J7B 24 8];have hz:chC p g k c w >>> 24=0:=by
     rw[Nat.shiftRight_eq_div_pow];exact Nat.div_eq_of_lt hlt
    rw[hz,Q3R (s:=0) (fun i _=>Nat.zero_testBit i)];rfl
   rw[h24];exact J7A _ 24
theorem X7n {kind lo hi v:Int} (h:lo<=hi) (h3:kind=3->lo=-1):lo<=brI kind lo hi v/\brI kind lo hi v<=hi:=by
 unfold brI;split
 . omega
 . split
   . have:=h3 (by assumption);omega
   . split<;>omega
theorem X7o {g:G} (hg:g.valid=true) {x:Vr} (hx:Q8O x) {v:Nat} (hv:v<g.ports.length):(bnd g x v).1<=(bnd g x v).2/\(x.kind=3->(bnd g x v).1=-1):=by
 have h1:=Q38 hg hx hv;rcases hx.kind with h|h|h
 . exact⟨h1.2.2.2.2 h,fun e=>by omega⟩
 . rw[bnd,if_neg (by omega),if_pos h];exact⟨by decide,fun e=>by omega⟩
 . rw[bnd,if_neg (by omega),if_neg (by omega)];exact⟨by simp only;omega,fun _=>rfl⟩
theorem J7h (l:List Int) (a i:Nat) (x:Int) (ha:a<l.length):gI (l.set a x) i=if i=a then x else gI l i:=by
 simp only[gI,List.getD,List.getElem?_set];by_cases h:a=i
 . subst h;simp[ha]
 . have:¬ i=a:=fun e=>h e.symm;rw[if_neg h,if_neg this]
theorem Q5Z {p:Pr} (hp:J6o p) {g:G} (hg:g.valid=true) {c:Cf} (hc:J2o p g c) {s:Nat} (hs:J6p s (enN p g c)):J2o p g (J2q p g c s):=by
 obtain⟨f1,f2,f3,f4,f5,f6,f7⟩:=J0a hg;have hl:=hc.len;have key:∀v,v<c.length->s.testBit v=true->∀x,x<p.vars.length->(bnd g (gV p.vars x) v).1<=gI (J4x p g c v (J1U p g c v).toNat) x/\gI (J4x p g c v (J1U p g c v).toNat) x<=(bnd g (gV p.vars x) v).2:=by
  intro v hv hb x hx;have hen:=hs v hb;rw[Q3K,Bool.and_eq_true,decide_eq_true_eq,decide_eq_true_eq] at hen;have hrl:=Q2X p g c v;have hr:(J1U p g c v).toNat<p.rules.length:=by omega
  have hset:=hp.set _ hr;unfold J4x X1U;generalize (gRl p.rules (J1U p g c v).toNat).sets=l at hset;have gen:∀(l:List (Int×Tm)),(∀j,j<l.length->0<=(gS l j).1/\(gS l j).1<p.vars.length)->∀st:List Int,st.length=p.vars.length->((bnd g (gV p.vars x) v).1<=gI st x/\gI st x<=(bnd g (gV p.vars x) v).2) ->
   (bnd g (gV p.vars x) v).1<=gI (l.foldl (X3S p g c v) st) x/\gI (l.foldl (X3S p g c v) st) x<=(bnd g (gV p.vars x) v).2:=by
   intro l
   induction l with
   | nil=>intro _ st _ h;exact h
   | cons a r ih =>
     intro hj st hst h;rw[List.foldl_cons];have ha:0<=a.1/\a.1<p.vars.length:=hj 0 (by simp);refine ih (fun j hj'=>by have:=hj (j+1) (by simpa using hj');simpa[gS] using this) _ (by simp[X3S,hst]) ?_;rw[X3S,J7h _ _ _ _ (by omega)];split
     . rename_i e;subst e;have hb:=X7o hg (hp.var a.1.toNat hx) (v:=v) (by omega);exact X7n hb.1 hb.2
     . exact h
  exact gen l (fun j hj=>⟨(hset j hj).1,(hset j hj).2.1⟩) _ (hc.row v hv) (hc.val v hv x hx)
 refine⟨by rw[J4Q];exact hl,fun v hv=>?_,fun v hv x hx=>?_⟩
 . rw[J4Q] at hv;rw[J4P p g c s hv];split
   . rw[J4x,J84];exact hc.row v hv
   . exact hc.row v hv
 . rw[J4Q] at hv;rw[J4P p g c s hv];split
   . rename_i hb;exact key v hv hb x hx
   . exact hc.val v hv x hx
theorem J89 {p:Pr} (hp:J6o p) {g:G} (hg:g.valid=true) {k:Int} (hk:dk k=true) {c:Cf} (hc:J2o p g c) (w:Nat) (h0:enN p g c≠0):J2o p g (nxC p g k c w) :=
 Q5Z hp hg hc (J6l p hg hk c w h0).2.1
theorem X3Y {p:Pr} {g:G} (hg:g.valid=true) {k:Int} (hk:dk k=true) {c:Cf} {n:Cnt} (hn:n.Ok) (h4:n.steps<4096) (w:Nat) (h0:enN p g c≠0):(nxK p g k c n w).Ok/\(nxK p g k c n w).steps=n.steps+1:=by
 obtain⟨c1,c2,c3,c4,c5,c6⟩:=J6l p hg hk c w h0;refine⟨X5m n hn h4 _ _ c5 c6 (J9q p hg _),?_⟩;rw[nxK,Cnt.add];split<;>rfl
theorem Q2b {e:Nat} (he:e<16777216):(J4J e).Ok:=⟨by simp[J4J],by simp[J4J],by simp[J4J],by simp[J4J],by simp[J4J],by simp[J4J],he⟩
theorem Q5S (p:Pr) (g:G) (k:Int) (c:Cf) (n:Cnt) (ws:List Nat):0<(trc p g k c n ws).length:=by
 cases ws<;>simp[trc]
theorem Q1z (p:Pr) (g:G) (k:Int):∀(ws:List Nat) (c:Cf) (n:Cnt),(trc p g k c n ws).length<=ws.length+1
 | [],c,n=>by simp[trc]
 | w::ws,c,n=>by
   rw[trc];split
   . simp
   . have:=Q1z p g k ws (nxC p g k c w) (nxK p g k c n w);simp;omega
theorem Q5T {p:Pr} (hp:J6o p) {g:G} (hg:g.valid=true) {k:Int} (hk:dk k=true):∀(ws:List Nat) (c:Cf) (n:Cnt),J2o p g c->n.Ok->n.steps+ws.length<=4096->∀x∈trc p g k c n ws,J2o p g x.1/\x.2.Ok
 | [],c,n,hc,hn,_,x,hx=>by simp[trc] at hx;subst hx;exact⟨hc,hn⟩
 | w::ws,c,n,hc,hn,hl,x,hx=>by
   rw[trc] at hx;rcases List.mem_cons.1 hx with e|hx
   . subst e;exact⟨hc,hn⟩
   . by_cases h0:enN p g c=0
     . rw[if_pos h0] at hx;cases hx
     . rw[if_neg h0] at hx;simp only[List.length_cons] at hl;obtain⟨k1,k2⟩:=X3Y hg hk hn (by omega) w h0 (k:=k);exact Q5T hp hg hk ws _ _ (J89 hp hg hk hc w h0) k1 (by omega) x hx
def J3Q (l:List (Cf×Cnt)):Cf:=(l.getLast?.getD default).1
theorem Q4U (x:Cf×Cnt) {l:List (Cf×Cnt)} (h:0<l.length):J3Q (x::l)=J3Q l:=by
 cases l with
 | nil=>simp at h
 | cons a r=>rfl
end Go.Proofs.YtefdkgkojlflaaaGreatDoor
