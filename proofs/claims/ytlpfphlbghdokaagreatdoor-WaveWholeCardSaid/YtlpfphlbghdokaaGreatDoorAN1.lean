import Derived.Test.YtlpfphlbghdokaaGreatDoorGR10
import Derived.Test.YtlpfphlbghdokaaGreatDoorEngZ
import Derived.Test.YtlpfphlbghdokaaGreatDoorRows
import Derived.LaidMore
import Derived.Stop.Joined
import Derived.SevenTiedAt
import GoSem.ClaimSeven
namespace Go.Proofs.YtlpfphlbghdokaaGreatDoor
open Go.Eng
set_option maxRecDepth 100000
set_option linter.unusedVariables false
def Q5c (p:Pr) (g:G) (v:Nat):Nat->Nat->V:=fun x j=>match j with
 | 0=>.int .i64 (bnd g (gV p.vars x) v).1
 | _=>.int .i64 (bnd g (gV p.vars x) v).2
def tbl (p:Pr) (g:G):Nat->Nat->V:=fun v _=>.fz p.vars.length 2 false (Q5c p g v)
def Q9J (p:Pr) (g:G):V:=.fz g.ids.length 1 false (tbl p g)
def opn (v n k:Nat):List (Nat×Nat):=if v<n then[(v,k)] else[]
def Q33 (m v:Nat):Nat->Nat:=fun i=>if i<v then m else 0
def X0C (p:Pr) (g:G) (v x:Nat):Nat->Nat->V:=fun i j=>if i<x then Q5c p g v i j else .int .i64 0
theorem Q6M (p:Pr) (g:G) (v x i j:Nat) (hj:j<2):VLe (J0M (J0M (X0C p g v x) x 0 [.int .i64 (bnd g (gV p.vars x) v).1]) x 1 [.int .i64 (bnd g (gV p.vars x) v).2] i j) (X0C p g v (x+1) i j):=by
 apply VLe.of_eq;by_cases h:i=x
 . subst h;obtain rfl|rfl:j=0\/j=1:=by omega
   . simp[J0M,X0C,Q5c]
   . simp[J0M,X0C,Q5c]
 . have h1:(i<x+1)=(i<x):=by simp;omega
   simp[J0M,X0C,h,h1]
theorem J2I {c:List Nat} {q:Nat} {chg:List Nat} (h:J06 q chg=true):∀k,k∈(q::c)->k∈c\/k∈chg:=fun k hk=>by
 rcases List.mem_cons.1 hk with e|e
 . exact .inr (by rw[e];exact J0m.1 h)
 . exact .inl e
theorem Q06 (m v:Nat):Q33 m v v=0:=if_neg (by omega)
theorem J6k (m v i:Nat):J2R (Q33 m v) v m i=Q33 m (v+1) i:=by
 simp only[J2R,Q33];by_cases h:i=v
 . rw[if_pos h,if_pos (by omega)]
 . rw[if_neg h];by_cases h2:i<v
   . rw[if_pos h2,if_pos (by omega)]
   . rw[if_neg h2,if_neg (by omega)]
theorem Q0C (p:Pr) (g:G) (v i j t:Nat) (hj:j<J2R (Q33 p.vars.length v) v p.vars.length i) (ht:t<2):VLe (J3t (Q5c p g) v (X0C p g v p.vars.length) i j t) (Q5c p g i j t):=by
 apply VLe.of_eq;simp only[J3t];split
 . rename_i e;subst e;rw[J2R,if_pos rfl] at hj;rw[X0C,if_pos hj]
 . rfl
theorem J7d {a b chg:List Nat} (h:(a.all fun k=>J06 k b)=true):∀k,k∈a->k∈b\/k∈chg:=fun k hk=>.inl (J0m.1 (List.all_eq_true.1 h k hk))
set_option maxHeartbeats 8000000 in
theorem J31 (p:Pr) (hp:J2p p) (g:G) (hg:g.valid=true):Ret Tryz.prog 33 [p.v,g.v] (Q9J p g):=by
 obtain⟨f1,f2,f3,f4,f5,f6,f7⟩:=J0f hg;have hvl:=hp.vlen;refine J0g rfl ?_;refine J0c J0b Tryz.func33 rfl hc33 hr33 rfl ?_
 repeat' ((conv=>whnf);first|(refine Bd.q ?_)|(refine Len.q ?_)|(refine MkS.vec ?_))
 all_goals (conv=>whnf)
 refine J01 J0b [2,3,5,14] [3] [4,5,6,7,8,9,10,11,12,13,14,15,16,17,18,19,20,21,22,23,24,25,26,27,28,29] [3,2,1,0] (fun v:Nat=>[(15,.int .i64 v)])
  (fun own v=>(3,.vec (Q33 p.vars.length v v) 2 (Q5c p g v))::J1H (J1H own 2 (.fam g.ids.length 2 (Q33 p.vars.length v) (Q5c p g) [])) 2 (.fam g.ids.length 2 (Q33 p.vars.length v) (Q5c p g) (opn v g.ids.length 3))) (fun k v=>k=g.ids.length-v/\v<=g.ids.length) g.ids.length 0 ⟨rfl,Nat.zero_le _⟩ rfl (fun _=>rfl) ?_ ?_
 . have e:opn 0 g.ids.length 3=[(0,3)]:=if_pos (by omega);simp only[e];refine J3A.trans ?_ (J1b (ks:=[3,4,5,6,7,8,9,10,11,12,13,14,15,16,17,18,19,20,21,22,23,24,25,26,27,28,29]) rfl rfl rfl (by omega) rfl) (J2I rfl);refine J0e (fun _ _=>[(0,some 0),(1,some 1),(2,some 2)]) ?_ ?_ rfl
   . repeat' (first|exact tI|(refine⟨⟨_,rfl,?_⟩,?_⟩)|exact J0a.kf rfl|exact J0a.loc rfl|exact J0a.q)
   . repeat' (first|exact⟨rfl,rfl,rfl,fun i hi=>⟨rfl,if_neg (by omega)⟩⟩|exact tI|(refine⟨⟨_,rfl,?_⟩,?_⟩)|exact J0a.kf rfl|apply And.intro)
 rintro k v ⟨hk,hv⟩;by_cases hvn:v<g.ids.length
 . have e:opn v g.ids.length 3=[(v,3)]:=if_pos hvn;simp only[e]
   repeat' ((conv=>whnf);first|(refine Br.dec ?_ ?_<;>intro _<;>try omega)|(refine Ix.q ?_)|(refine Bd.q ?_)|(refine Len.q ?_)|(refine Ltn.q ?_)|(refine J16.hd (by omega) ?_))
   all_goals (conv=>whnf)
   refine J01 J0b [2,3,5,6,14,15,26,27] [4] [5,6,7,8,9,10,11,12,13,14,15,16,17,18,19,20,21,22,23,24,25,26,27,28,29] [4,3,2,1,0] (fun x:Nat=>[(28,.int .i64 x)])
    (fun own x=>J1H own 4 (.vec p.vars.length 2 (X0C p g v x))) (fun k x=>k=p.vars.length-x/\x<=p.vars.length) p.vars.length 0 ⟨rfl,Nat.zero_le _⟩ rfl (fun _=>rfl) ?_ ?_
   . refine J0e (fun _ _=>[(0,some 0),(1,some 1),(2,some 2),(3,some 3),(4,some 4)]) ?_ ?_ rfl
     . repeat' (first|exact tI|(refine⟨⟨_,rfl,?_⟩,?_⟩)|exact J0a.kf rfl|exact J0a.loc rfl|exact J0a.q)
     . repeat' (first|exact⟨rfl,rfl,⟨rfl,rfl,True.intro⟩,fun i hi=>rfl,fun i j t hi hn hj ht=>VLe.rfl⟩|(refine⟨Nat.le_refl _,rfl,fun i j hi hj=>VLe.of_eq ?_⟩;rw[X0C,if_neg (by omega)];(obtain rfl|rfl:j=0\/j=1:=by omega)<;>rfl)|exact tI|(refine⟨⟨_,rfl,?_⟩,?_⟩)|exact J0a.kf rfl|(refine⟨Nat.le_refl _,rfl,fun i j hi hj=>?_⟩)|exact VLe.rfl|apply And.intro)
   rintro k x ⟨hk2,hx⟩;by_cases hxn:x<p.vars.length
   . have hb:=X3d g hg _ (hp.var x hxn) v (by omega)
     repeat' ((conv=>whnf);first|(refine Br.dec ?_ ?_<;>intro _<;>try omega)|(refine Ar.q ?_)|(refine Ix.q ?_)|(refine Ix.mk 0 rfl (by omega) ?_)|(refine Ix.mk 1 rfl (by omega) ?_)|(refine Ltn.q ?_)|(refine Opn.hdl (by omega) (show J2R _ _ _ _=p.vars.length from if_pos rfl) ?_)|(refine hb.go ?_)|(refine And.intro (Ltn.mk (by omega) (Opn.hdl (by omega) (show J2R _ _ _ _=p.vars.length from if_pos rfl) rfl)) ?_))
     all_goals (conv=>whnf)
     refine⟨p.vars.length-(x+1),x+1,by omega,⟨rfl,by omega⟩,?_⟩;refine J0e (fun _ _=>[(0,some 0),(1,some 1),(2,some 2),(3,some 3),(4,some 4)]) ?_ ?_ rfl
     . repeat' (first|exact tI|(refine⟨⟨_,rfl,?_⟩,?_⟩)|exact J0a.kf rfl|exact J0a.loc rfl|exact J0a.q)
     . repeat' (first|exact⟨rfl,rfl,⟨rfl,rfl,True.intro⟩,fun i hi=>rfl,fun i j t hi hn hj ht=>VLe.rfl⟩|(simp only[Nat.zero_add,Nat.zero_mul,Nat.one_mul];exact Q6M p g v x _ _ hj)|exact tI|(refine⟨⟨_,rfl,?_⟩,?_⟩)|exact J0a.kf rfl|(refine⟨Nat.le_refl _,rfl,fun i j hi hj=>?_⟩)|exact VLe.rfl|apply And.intro)
   . have ex:x=p.vars.length:=by omega
     subst ex
     repeat' ((conv=>whnf);first|(refine Br.dec ?_ ?_<;>intro _<;>try omega)|(refine Ar.q ?_))
     all_goals (conv=>whnf)
     refine⟨g.ids.length-(v+1),v+1,by omega,⟨rfl,by omega⟩,?_⟩;refine J3A.trans (J2i (J1m (q:=4) (k:=2) (i:=v) [] rfl rfl hvn (J0n rfl) (Nat.le_of_eq (if_pos rfl)) rfl (fun j hj=>(J0l (fun e=>hj e.symm)).symm))) ?_ (J7d rfl);by_cases h1:v+1<g.ids.length
     . have e1:opn (v+1) g.ids.length 3=[(v+1,3)]:=if_pos h1;simp only[e1];refine J3A.trans ?_ (J1b (ks:=[3,4,5,6,7,8,9,10,11,12,13,14,15,16,17,18,19,20,21,22,23,24,25,26,27,28,29]) rfl rfl rfl h1 rfl) (J2I rfl);refine J0e (fun _ _=>[(0,some 0),(1,some 1),(2,some 2)]) ?_ ?_ rfl
       . repeat' (first|exact tI|(refine⟨⟨_,rfl,?_⟩,?_⟩)|exact J0a.kf rfl|exact J0a.loc rfl|exact J0a.q)
       . repeat' (first|exact⟨rfl,rfl,True.intro,fun i hi=>(J6k _ _ _).symm,fun i j t hi hn hj ht=>Q0C p g v i j t hj ht⟩|exact tI|(refine⟨⟨_,rfl,?_⟩,?_⟩)|exact J0a.kf rfl|apply And.intro)
     . have e1:opn (v+1) g.ids.length 3=[]:=if_neg h1;simp only[e1];refine J0e (fun _ _=>[(0,some 0),(1,some 1),(2,some 2),(3,none)]) ?_ ?_ rfl
       . repeat' (first|exact tI|(refine⟨⟨_,rfl,?_⟩,?_⟩)|exact J0a.kf rfl|exact J0a.loc rfl|exact J0a.q)
       . repeat' (first|exact⟨rfl,rfl,True.intro,fun i hi=>(J6k _ _ _).symm,fun i j t hi hn hj ht=>Q0C p g v i j t hj ht⟩|exact⟨2,Q5c p g (v+1),by rw[Q06]⟩|exact tI|(refine⟨⟨_,rfl,?_⟩,?_⟩)|exact J0a.kf rfl|apply And.intro)
 . have e:opn v g.ids.length 3=[]:=if_neg hvn;have ev:v=g.ids.length:=by omega
   simp only[e]
   repeat' ((conv=>whnf);first|(refine Br.dec ?_ ?_<;>intro _<;>try omega)|(refine Len.q ?_))
   all_goals (conv=>whnf)
   refine VLe.fz rfl (fun h=>h) (fun i j hi hj=>?_);show VLe (.fz (Q33 p.vars.length v i) 2 false (Q5c p g i)) (.fz p.vars.length 2 false (Q5c p g i));rw[show Q33 p.vars.length v i=p.vars.length from if_pos (by omega)];exact VLe.rfl
theorem X0r (p:Pr) (g:G) (v:Nat) (l:List Int) (h1:p.vars.length<=1000) (h:l.length=p.vars.length) (hb:∀x,x<p.vars.length->(bnd g (gV p.vars x) v).1<=gI l x/\gI l x<=(bnd g (gV p.vars x) v).2) :
 Ret Tryz.prog 173 [.fz p.vars.length 2 false (Q5c p g v),.fz l.length 1 false (vI l)] (.bool true):=by
 refine J0g rfl ?_;refine J0c J0b Tryz.func173 rfl Y10 Y1d rfl ?_
 repeat' ((conv=>whnf);first|(refine Br.bne ?_ ?_<;>intro _<;>try omega))
 all_goals (conv=>whnf)
 refine J0N J0b [0,12,13] (fun i:Nat=>[(14,.int .i64 i)]) (fun m i=>m=l.length-i/\i<=l.length) l.length 0 ⟨rfl,Nat.zero_le _⟩ ?_ ?_
 . exact J0k (fun _ _=>[])
 rintro m i ⟨hm,hi⟩;by_cases hil:i<l.length
 . have hb:=hb i (by omega)
   repeat' ((conv=>whnf);first|(refine Br.dec ?_ ?_<;>intro _<;>try omega)|(refine Ar.q ?_)|(refine Ix.q ?_)|(refine Ix.mk 0 rfl (by omega) ?_)|(refine Ix.mk 1 rfl (by omega) ?_))
   all_goals (conv=>whnf)
   all_goals first
    | (exfalso;omega)
    | (refine⟨l.length-(i+1),i+1,by omega,⟨rfl,by omega⟩,?_⟩
       exact J0k (fun _ _=>[]))
 . repeat' ((conv=>whnf);first|(refine Br.dec ?_ ?_<;>intro _<;>try omega))
   all_goals (conv=>whnf)
   exact VLe.rfl
structure J1u (p:Pr) (g:G) (c:Cf):Prop where
 len:c.length=g.ids.length
 row:∀v,v<c.length->(gC c v).length=p.vars.length
 val:∀v,v<c.length->∀x,x<p.vars.length->(bnd g (gV p.vars x) v).1<=gI (gC c v) x/\gI (gC c v) x<=(bnd g (gV p.vars x) v).2
theorem J1u.fit {p:Pr} (hp:J2p p) {g:G} (hg:g.valid=true) {c:Cf} (h:J1u p g c):Fit g p.vars.length c:=by
 obtain⟨f1,f2,f3,f4,f5,f6,f7⟩:=J0f hg;refine⟨h.len.trans f3.symm,h.row,fun v hv x hx=>?_⟩;have h1:=h.val v hv x hx;have h2:=J54 hg (hp.var x hx) (v:=v) (by rw[f3,<- h.len];exact hv);unfold inR;omega
theorem Q4U (p:Pr) (hp:J2p p) (g:G) (hg:g.valid=true) (c:Cf) (hc:J1u p g c):Ret Tryz.prog 152 [Q9J p g,cV c] (.bool true):=by
 obtain⟨f1,f2,f3,f4,f5,f6,f7⟩:=J0f hg;have hcl:=hc.len;refine J0g rfl ?_;refine J0c J0b Tryz.func152 rfl Y19 Y1m rfl ?_
 repeat' ((conv=>whnf);first|(refine Br.bne ?_ ?_<;>intro _<;>try omega))
 all_goals (conv=>whnf)
 refine J0N J0b [1,12,13] (fun i:Nat=>[(14,.int .i64 i)]) (fun m i=>m=g.ids.length-i/\i<=g.ids.length) g.ids.length 0 ⟨rfl,Nat.zero_le _⟩ ?_ ?_
 . exact J0k (fun _ _=>[])
 rintro m i ⟨hm,hi⟩;by_cases hil:i<g.ids.length
 . have hs:=X0r p g i (gC c i) hp.vlen (hc.row i (by omega)) (hc.val i (by omega))
   repeat' ((conv=>whnf);first|(refine Br.tt ?_)|(refine Br.dec ?_ ?_<;>intro _<;>try omega)|(refine Ar.q ?_)|(refine Ix.q ?_)|(refine hs.go ?_))
   all_goals (conv=>whnf)
   refine⟨g.ids.length-(i+1),i+1,by omega,⟨rfl,by omega⟩,?_⟩;exact J0k (fun _ _=>[])
 . repeat' ((conv=>whnf);first|(refine Br.dec ?_ ?_<;>intro _<;>try omega))
   all_goals (conv=>whnf)
   exact VLe.rfl
theorem X1R (p:Pr) (hp:J2p p) (g:G) (hs:g.Small) (hg:g.valid=true) (c:Cf) (hc:J1u p g c):Ret Tryz.prog 123 [p.v,g.v,cV c] (.int .i64 0):=by
 have h1:=J9H p hp g hs hg;have h2:=J31 p hp g hg;have h3:=Q4U p hp g hg c hc;refine J0g rfl ?_;refine J0c J0b Tryz.func123 rfl Y2h Y1u rfl ?_
 repeat' ((conv=>whnf);first|(refine Br.tt ?_)|(refine Br.ff ?_)|(refine h1.go ?_)|(refine h2.go ?_)|(refine h3.go ?_))
 all_goals (conv=>whnf)
 exact VLe.rfl
def mvP (p:Pr) (g:G):V:=.fe 1 5 (tab [[.str p.nm,p.pg.vs,p.pg.rs,scP p.pg g,Q9J p g]]) 0 0
theorem X1j (p:Pr) (hp:J2p p) (g:G) (hg:g.valid=true) (c:Cf) (hc:J1u p g c) (v:Nat) (hv:v<g.ports.length) (i:Nat) (hi:i<p.rules.length) :
 Ret Tryz.prog 103 [scP p.pg g,cV c,.int .i64 v,.int .i64 i] (.bool (decide ((gRl p.rules i).gd.sem g c v (-1)≠0))):=by
 have hgd:=hp.gd i hi;simp only[Tm.okB,Bool.and_eq_true,decide_eq_true_eq] at hgd;have h1:=J94 p.pg g hg (hc.fit hp hg) v hv (gRl p.rules i).gd hgd.2 hgd.1;refine J0g rfl ?_;refine J0c J0b Tryz.func103 rfl Y2z Y1M rfl ?_
 repeat' ((conv=>whnf);first|(refine Br.bne ?_ ?_<;>intro _<;>try omega)|(refine Ix.q ?_)|(refine h1.go ?_))
 all_goals (conv=>whnf)
 . rename_i h;exact VLe.bool (decide_eq_true h).symm
 . rename_i h;exact VLe.bool (decide_eq_false (by simpa using h)).symm
def gds (p:Pr) (g:G) (c:Cf) (v:Nat):List Int:=p.rules.map fun r=>r.gd.sem g c v (-1)
def J0F (p:Pr) (g:G) (c:Cf) (v:Nat):Int:=Q1e 0 (gds p g c v)
theorem X4Q (p:Pr) (g:G) (c:Cf) (v i:Nat) (hi:i<p.rules.length):gI (gds p g c v) i=(gRl p.rules i).gd.sem g c v (-1):=by
 simp[gds,gI,gRl,hi]
theorem Q2j (p:Pr) (hp:J2p p) (g:G) (hg:g.valid=true) (c:Cf) (hc:J1u p g c) (v:Nat) (hv:v<g.ports.length) :
 Ret Tryz.prog 65 [mvP p g,cV c,.int .i64 v] (.int .i64 (J0F p g c v)):=by
 have hrl:=hp.rlen;have hgl:(gds p g c v).length=p.rules.length:=by simp[gds]
 refine J0g rfl ?_;refine J0c J0b Tryz.func65 rfl hc65 hr65 rfl ?_
 repeat' ((conv=>whnf);first|fail)
 all_goals (conv=>whnf)
 refine J0N J0b [0,1,2,13] (fun i:Nat=>[(14,.int .i64 i)]) (fun m i=>m=p.rules.length-i/\i<=p.rules.length/\∀a∈(gds p g c v).take i,a=0) p.rules.length 0 ⟨rfl,Nat.zero_le _,by simp⟩ ?_ ?_
 . exact J0k (fun _ _=>[])
 rintro m i ⟨hm,hi,hall⟩;by_cases hil:i<p.rules.length
 . have hgu:=X1j p hp g hg c hc v hv i hil;have hge:=X4Q p g c v i hil;by_cases hz:(gRl p.rules i).gd.sem g c v (-1)=0
   . rw[decide_eq_false (by simpa using hz)] at hgu
     repeat' ((conv=>whnf);first|(refine Br.ff ?_)|(refine Br.dec ?_ ?_<;>intro _<;>try omega)|(refine Ar.q ?_)|(refine hgu.go ?_))
     all_goals (conv=>whnf)
     refine⟨p.rules.length-(i+1),i+1,by omega,⟨rfl,by omega,?_⟩,?_⟩
     . rw[J1x _ i (by omega)];intro a ha;rcases List.mem_append.1 ha with h|h
       . exact hall a h
       . simp at h;rw[h,hge];exact hz
     . exact J0k (fun _ _=>[])
   . rw[decide_eq_true hz] at hgu
     repeat' ((conv=>whnf);first|(refine Br.tt ?_)|(refine Br.dec ?_ ?_<;>intro _<;>try omega)|(refine hgu.go ?_))
     all_goals (conv=>whnf)
     refine VLe.int ?_;rw[J0F,J2D _ 0 i (by omega) hall,Q8n _ i (by omega)];simp only[Q1e,hge];rw[if_pos hz];omega
 . repeat' ((conv=>whnf);first|(refine Br.dec ?_ ?_<;>intro _<;>try omega))
   all_goals (conv=>whnf)
   refine VLe.int ?_;rw[J0F,J2D _ 0 i (by omega) hall,List.drop_of_length_le (by omega)];rfl
theorem X7D (p:Pr) (hp:J2p p) (g:G) (hg:g.valid=true) (c:Cf) (hc:J1u p g c) (v:Nat) (hv:v<g.ports.length) :
 Ret Tryz.prog 125 [.int .i64 v,.fe 1 1 (tab [[mvP p g]]) 0 0,.fe 1 1 (tab [[cV c]]) 0 0] (.bool (decide (0<=J0F p g c v))):=by
 have h1:=Q2j p hp g hg c hc v hv;refine J0g rfl ?_;refine J0c J0b Tryz.func125 rfl Y2f Y1s rfl ?_
 repeat' ((conv=>whnf);first|(refine Br.dec ?_ ?_<;>intro _<;>try omega)|(refine h1.go ?_))
 all_goals (conv=>whnf)
 . rename_i h;exact VLe.bool (decide_eq_true (by omega)).symm
 . rename_i h;exact VLe.bool (decide_eq_false (by omega)).symm
def enN (p:Pr) (g:G) (c:Cf):Nat:=nb (fun v=>decide (0<=J0F p g c v)) g.ids.length
theorem J5p:∀(l:Lt2) (k i:Nat) (b:Int),i<=l.length->(∀a∈l.take i,a.1≠b)->Q1X k l b=Q1X (k+i) (l.drop i) b
 | _,k,0,_,_,_=>by simp
 | [],k,i+1,b,h,_=>by simp at h
 | a::r,k,i+1,b,h,h2=>by
   have ha:a.1≠b:=h2 a (by simp);simp only[Q1X,ha,if_false,List.drop_succ_cons];rw[J5p r (k+1) i b (by simpa using h) (fun x hx=>h2 x (by simp[hx]))];congr 1;omega
theorem X6D (g:G) (hg:g.valid=true) (a:Nat) (b:Int) (ha:a<g.ports.length):Ret Tryz.prog 149 [g.v,.int .i64 a,.int .i64 b] (.int .i64 (Q1X 0 (gR g.ports a) b)):=by
 have hrl:=J6W hg a;refine J0g rfl ?_;refine J0c J0b Tryz.func149 rfl Y2b Y1o rfl ?_
 repeat' ((conv=>whnf);first|(refine Ix.q ?_))
 all_goals (conv=>whnf)
 refine J0N J0b [2,13,14] (fun i:Nat=>[(15,.int .i64 i)]) (fun m i=>m=(gR g.ports a).length-i/\i<=(gR g.ports a).length/\∀l∈(gR g.ports a).take i,l.1≠b) (gR g.ports a).length 0 ⟨rfl,Nat.zero_le _,by simp⟩ ?_ ?_
 . exact J0k (fun _ _=>[(0,some 0)])
 rintro m i ⟨hm,hi,hall⟩
 repeat' ((conv=>whnf);first|(refine Br.dec ?_ ?_<;>intro _<;>try omega)|(refine Ar.q ?_)|(refine Ix.q ?_))
 all_goals (conv=>whnf)
 . refine VLe.int ?_;rename_i h;rw[J5p _ 0 i b hi hall,Q2E _ i (by omega),Q1X,if_pos h];omega
 . rename_i h;refine⟨(gR g.ports a).length-(i+1),i+1,by omega,⟨rfl,by omega,?_⟩,?_⟩
   . rw[J3y _ i (by omega)];intro l hl;rcases List.mem_append.1 hl with h1|h1
     . exact hall l h1
     . simp at h1;rw[h1];exact h
   . exact J0k (fun _ _=>[(0,some 0)])
 . refine VLe.int ?_;rw[J5p _ 0 i b hi hall,List.drop_of_length_le (by omega)];rfl
def Q0J (g:G) (v:Nat):Nat->Nat->V:=fun i _=>.int .i64 (J7P g v i)
def Q5R (g:G) (v:Nat):Nat->Nat:=fun i=>if i<v then (gR g.ports i).length else 0
theorem Q07 (g:G) (v:Nat):Q5R g v v=0:=if_neg (by omega)
theorem Q35 (g:G) (v i:Nat):J2R (Q5R g v) v (gR g.ports v).length i=Q5R g (v+1) i:=by
 simp only[J2R,Q5R];by_cases h:i=v
 . rw[if_pos h,if_pos (by omega),h]
 . rw[if_neg h];by_cases h2:i<v
   . rw[if_pos h2,if_pos (by omega)]
   . rw[if_neg h2,if_neg (by omega)]
theorem Q7T (g:G) (v i:Nat):J2R (Q5R g v) v 0 i=Q5R g v i:=by
 simp only[J2R];split
 . rename_i e;subst e;exact(Q07 g i).symm
 . rfl
theorem Q6E (f:Nat->Nat) (v a b i:Nat):J2R f v b i=J2R (J2R f v a) v b i:=by
 simp only[J2R];split<;>rfl
theorem Q0A (g:G) (v i j t:Nat):VLe (J3t (Q0J g) v (Q0J g v) i j t) (Q0J g i j t):=by
 apply VLe.of_eq;simp only[J3t];split
 . rename_i e;rw[e]
 . rfl
theorem Q91 (g:G) (v i a b:Nat) (ha:a<i+1) (hb:b<1):VLe (J5i (J0j 0 (Q0J g v)) i (J0j 0 (tab [[.int .i64 (Q1X 0 (gR g.ports (gF (gR g.ports v) i).1.toNat) v)]])) a b) (Q0J g v a b):=by
 obtain rfl:b=0:=by omega
 apply VLe.of_eq;by_cases h:a<i
 . rw[J2a h];simp[J0j]
 . rw[J2b h];have:a=i:=by omega
   subst this;simp[J0j,tab,Q0J,J7P]
theorem X2o {n s i j:Nat} {f f':Nat->Nat->V} (h:∀a b,a<n->b<s->VLe (f a b) (f' a b)):VLe (.fe n s f i j) (.fe n s f' i j) :=
 ⟨fun M w u hd=>by
   cases hd with
   | fe _ _ _ _ _ _ b off u hi hM hb hcell h1 hd=>exact .fe _ _ _ _ _ _ b off u hi hM hb hcell h1 (fun a b ha hb=>(h a b ha hb).out _ _ _ (hd a b ha hb))⟩
set_option maxHeartbeats 16000000 in
theorem X0y (p:Pr) (g:G) (hg:g.valid=true):Ret Tryz.prog 102 [p.v,g.v] (scP p.pg g):=by
 obtain⟨f1,f2,f3,f4,f5,f6,f7⟩:=J0f hg;refine J0g rfl ?_;refine J0c J0b Tryz.func102 rfl Y2A Y1N rfl ?_
 repeat' ((conv=>whnf);first|(refine Bd.q ?_)|(refine Len.q ?_)|(refine MkS.vec ?_))
 all_goals (conv=>whnf)
 refine J01 J0b [3,5,19,20] [4] [5,6,7,8,9,10,11,12,13,14,15,16,17,18,19,20,21,22,23,24,25,26,27,28,29] [4,3,2,1,0] (fun v:Nat=>[(21,.int .i64 v)])
  (fun own v=>(4,.vec (Q5R g v v) 1 (Q0J g v))::J1H (J1H (J1H own 3 (.cells [.str p.nm,p.pg.vs,p.pg.rs,.fz g.ids.length 1 false (vI g.ids),.fz g.ports.length 1 false (vP g.ports),.int .i64 (J4G (g.ids.take v) 0),.vec 2 1 0 g.ports.length])) 2 (.fam g.ports.length 1 (Q5R g v) (Q0J g) [])) 2 (.fam g.ports.length 1 (Q5R g v) (Q0J g) (opn v g.ports.length 4))) (fun k v=>k=g.ports.length-v/\v<=g.ports.length) g.ports.length 0 ⟨rfl,Nat.zero_le _⟩ rfl (fun _=>rfl) ?_ ?_
 . have e:opn 0 g.ports.length 4=[(0,4)]:=if_pos (by omega);simp only[e];refine J3A.trans ?_ (J1b (ks:=[4,5,6,7,8,9,10,11,12,13,14,15,16,17,18,19,20,21,22,23,24,25,26,27,28,29]) rfl rfl rfl (by omega) rfl) (J2I rfl);refine J0e (fun _ _=>[(0,some 0),(1,some 1),(2,some 2),(3,some 3)]) ?_ ?_ rfl
   . repeat' (first|exact tI|(refine⟨⟨_,rfl,?_⟩,?_⟩)|exact J0a.kf rfl|exact J0a.loc rfl)
   . repeat' (first|exact⟨rfl,rfl,rfl,fun i hi=>⟨rfl,if_neg (by omega)⟩⟩|exact tI|(refine⟨⟨_,rfl,?_⟩,?_⟩)|exact J0a.kf rfl|exact J0a.q|apply And.intro)
 rintro k v ⟨hk,hv⟩;by_cases hvn:v<g.ports.length
 . have e:opn v g.ports.length 4=[(v,4)]:=if_pos hvn;simp only[e];have hrl:=J6W hg v
   repeat' ((conv=>whnf);first|(refine Br.dec ?_ ?_<;>intro _<;>try omega)|(refine Sv.mk _ rfl ?_)|(refine Ix.q ?_))
   all_goals (conv=>whnf)
   refine J01 J0b [3,5,6,19,20,21,39,40] [4] [5,6,7,8,9,10,11,12,13,14,15,16,17,18,19,20,21,22,23,24,25,26,27,28,29] [4,3,2,1,0] (fun i:Nat=>[(41,.int .i64 i)])
    (fun own i=>J1H (J1H own 4 (.vec i 1 (Q0J g v))) 2 (.fam g.ports.length 1 (J2R (Q5R g v) v i) (Q0J g) [(v,4)])) (fun k i=>k=(gR g.ports v).length-i/\i<=(gR g.ports v).length) (gR g.ports v).length 0 ⟨rfl,Nat.zero_le _⟩ rfl (fun _=>rfl) ?_ ?_
   . refine J0e (fun _ _=>[(0,some 0),(1,some 1),(2,some 2),(3,some 3),(4,some 4)]) ?_ ?_ rfl
     . repeat' (first|exact tI|(refine⟨⟨_,rfl,?_⟩,?_⟩)|exact J0a.kf rfl|exact J0a.loc rfl)
     . repeat' (first|exact⟨rfl,rfl,⟨rfl,rfl,True.intro⟩,fun i hi=>Q7T _ _ _,fun i j t hi hn hj ht=>VLe.rfl⟩|exact tI|(refine⟨⟨_,rfl,?_⟩,?_⟩)|exact J0a.kf rfl|exact J0a.q|(refine⟨by omega,rfl,fun i j hi hj=>?_⟩)|exact VLe.rfl|apply And.intro)
   rintro k i ⟨hk2,hi⟩;by_cases hin:i<(gR g.ports v).length
   . have hr:=Q0U (f6 v hvn) hin;have hp:=X6D g hg (gF (gR g.ports v) i).1.toNat v (by omega);rw[show(((gF (gR g.ports v) i).1.toNat:Nat):Int)=(gF (gR g.ports v) i).1 by omega] at hp
     repeat' ((conv=>whnf);first|(refine Br.dec ?_ ?_<;>intro _<;>try omega)|(refine Br.nbeq ?_ ?_<;>intro _<;>try omega)|(refine Ar.q ?_)|(refine Ix.q ?_)|(refine Len.q ?_)|(refine Ltn.q ?_)|(refine hp.go ?_)|(refine Opn.hdl (by omega) (show J2R _ _ _ _=i from if_pos rfl) ?_)|(refine And.intro (Ltn.mk (by omega) (Opn.hdl (by omega) (show J2R _ _ _ _=i from if_pos rfl) rfl)) ?_)|(refine J16.hd (by omega) ?_)|(refine And.intro rfl ?_))
     all_goals (conv=>whnf)
     refine⟨(gR g.ports v).length-(i+1),i+1,by omega,⟨rfl,by omega⟩,?_⟩;refine J0e (fun env own=>[(0,some 0),(1,some 1),(2,some 2),(3,some 3),(4,X7E env 63)]) ?_ ?_ rfl
     . repeat' (first|exact tI|(refine⟨⟨_,rfl,?_⟩,?_⟩)|exact J0a.kf rfl|exact J0a.loc rfl)
     . repeat' (first|exact⟨rfl,rfl,⟨rfl,rfl,True.intro⟩,fun i hi=>Q6E _ _ _ _ _,fun i j t hi hn hj ht=>VLe.rfl⟩|exact⟨Nat.le_refl _,rfl,fun a b ha hb=>Q91 g v i a b ha hb⟩|exact tI|(refine⟨⟨_,rfl,?_⟩,?_⟩)|exact J0a.kf rfl|exact J0a.q|apply And.intro)
   . have ei:i=(gR g.ports v).length:=by omega
     subst ei
     repeat' ((conv=>whnf);first|(refine Br.dec ?_ ?_<;>intro _<;>try omega)|(refine Ar.q ?_))
     all_goals (conv=>whnf)
     refine⟨g.ports.length-(v+1),v+1,by omega,⟨rfl,by omega⟩,?_⟩;refine J3A.trans (J2i (J1m (q:=4) (k:=2) (i:=v) [] rfl rfl hvn (J0n rfl) (Nat.le_of_eq (if_pos rfl)) rfl (fun j hj=>(J0l (fun e=>hj e.symm)).symm))) ?_ (J7d rfl);have em:J4G (g.ids.take (v+1)) 0=if gI g.ids v > J4G (g.ids.take v) 0 then gI g.ids v else J4G (g.ids.take v) 0:=by rw[J1x g.ids v (by omega),J4Y]
     simp only[em];by_cases h1:v+1<g.ports.length
     . have e1:opn (v+1) g.ports.length 4=[(v+1,4)]:=if_pos h1;simp only[e1];refine J3A.trans ?_ (J1b (ks:=[4,5,6,7,8,9,10,11,12,13,14,15,16,17,18,19,20,21,22,23,24,25,26,27,28,29]) rfl rfl rfl h1 rfl) (J2I rfl);refine J0e (fun _ _=>[(0,some 0),(1,some 1),(2,some 2),(3,some 3)]) ?_ ?_ rfl
       . repeat' (first|exact tI|(refine⟨⟨_,rfl,?_⟩,?_⟩)|exact J0a.kf rfl|exact J0a.loc rfl)
       . repeat' (first|exact⟨rfl,rfl,True.intro,fun i hi=>(Q35 _ _ _).symm,fun i j t hi hn hj ht=>Q0A g v i j t⟩|exact tI|(refine⟨⟨_,rfl,?_⟩,?_⟩)|exact J0a.kf rfl|exact J0a.q|apply And.intro)
     . have e1:opn (v+1) g.ports.length 4=[]:=if_neg h1;simp only[e1];refine J0e (fun _ _=>[(0,some 0),(1,some 1),(2,some 2),(3,some 3),(4,none)]) ?_ ?_ rfl
       . repeat' (first|exact tI|(refine⟨⟨_,rfl,?_⟩,?_⟩)|exact J0a.kf rfl|exact J0a.loc rfl)
       . repeat' (first|exact⟨rfl,rfl,True.intro,fun i hi=>(Q35 _ _ _).symm,fun i j t hi hn hj ht=>Q0A g v i j t⟩|exact⟨1,Q0J g (v+1),by rw[Q07]⟩|exact tI|(refine⟨⟨_,rfl,?_⟩,?_⟩)|exact J0a.kf rfl|exact J0a.q|apply And.intro)
 . have e:opn v g.ports.length 4=[]:=if_neg hvn;have ev:v=g.ports.length:=by omega
   simp only[e]
   repeat' ((conv=>whnf);first|(refine Br.dec ?_ ?_<;>intro _<;>try omega)|(refine Len.q ?_))
   all_goals (conv=>whnf)
   refine X2o (fun a b ha hb=>?_);obtain rfl:a=0:=by omega
   have hb:b<7:=hb;have em:J4G (g.ids.take v) 0=Q3v g:=by rw[List.take_of_length_le (by omega)];rfl
   rcases (show b=0\/b=1\/b=2\/b=3\/b=4\/b=5\/b=6 by omega) with rfl|rfl|rfl|rfl|rfl|rfl|rfl
   . exact VLe.rfl
   . exact VLe.rfl
   . exact VLe.rfl
   . exact VLe.rfl
   . exact VLe.rfl
   . exact VLe.int em
   . refine VLe.fz rfl (fun h=>h) (fun i j hi hj=>?_);show VLe (.fz (Q5R g v i) 1 false (Q0J g i)) (.fz (gR g.ports i).length 1 false (Q0J g i));rw[show Q5R g v i=(gR g.ports i).length from if_pos (by omega)];exact VLe.rfl
theorem Q3V (p:Pr) (hp:J2p p) (g:G) (hg:g.valid=true):Ret Tryz.prog 62 [p.v,g.v] (mvP p g):=by
 have h1:=X0y p g hg;have h2:=J31 p hp g hg;refine J0g rfl ?_;refine J0c J0b Tryz.func62 rfl hc62 hr62 rfl ?_
 repeat' ((conv=>whnf);first|(refine h1.go ?_)|(refine h2.go ?_)|(refine And.intro rfl ?_))
 all_goals (conv=>whnf)
 exact VLe.rfl
set_option maxHeartbeats 4000000 in
theorem Q6B (p:Pr) (hp:J2p p) (g:G) (hg:g.valid=true) (c:Cf) (hc:J1u p g c) :
 J0G Tryz.prog 124 [.int .i64 g.ids.length,.fn (.func 125) false [.loc 0 0,.loc 1 0]] [(1,.cells [cV c]),(0,.cells [mvP p g])] [2,3,4,5,6,7,8,9,10,11,12,13,14,15,16,17,18,19,20,21,22,23,24,25,26,27,28,29] fun v own' _=>v=.int .u32 (enN p g c)/\own'=[(1,.cells [cV c]),(0,.cells [mvP p g])]:=by
 obtain⟨f1,f2,f3,f4,f5,f6,f7⟩:=J0f hg;refine J0c J0b Tryz.func124 rfl Y2g Y1t rfl ?_
 repeat' ((conv=>whnf);first|fail)
 all_goals (conv=>whnf)
 refine J0N J0b [1,7] (fun i:Nat=>[(5,.int .u32 (nb (fun v=>decide (0<=J0F p g c v)) i)),(8,.int .i64 i)]) (fun m i=>m=g.ids.length-i/\i<=g.ids.length) g.ids.length 0 ⟨rfl,Nat.zero_le _⟩ ?_ ?_
 . exact J0k (fun _ _=>[(0,some 0),(1,some 1)])
 rintro m i ⟨hm,hi⟩;by_cases hin:i<g.ids.length
 . have he:=X7D p hp g hg c hc i (by omega);cases hd:decide (0<=J0F p g c i) with
   | true =>
     rw[hd] at he
     repeat' ((conv=>whnf);first|(refine Br.tt ?_)|(refine Br.dec ?_ ?_<;>intro _<;>try omega)|(refine Ar.q ?_)|(refine Ar.sh1 (by omega) ?_)|(refine Sv.mk _ rfl ?_)|(refine Nn.mk (by omega) ?_)|(refine Chk.q ?_)|(refine J0Q he rfl ⟨VLe.rfl,VLe.rfl,VLe.rfl,True.intro⟩ ?_))
     all_goals (conv=>whnf)
     have hx:=X61 (p:=fun v=>decide (0<=J0F p g c v)) (k:=i) (by omega) hd;refine⟨g.ids.length-(i+1),i+1,by omega,⟨rfl,by omega⟩,?_⟩;refine J0e (fun _ _=>[(0,some 0),(1,some 1)]) ?_ ?_ rfl
     . repeat' (first|exact J0a.int hx|exact tI|(refine J0a.fn ?_)|(refine⟨⟨_,rfl,?_⟩,?_⟩)|exact J0a.kf rfl|exact J0a.loc rfl|apply And.intro)
     . repeat' (first|exact tI|(refine⟨⟨_,rfl,?_⟩,?_⟩)|exact J0a.kf rfl|apply And.intro)
   | false =>
     rw[hd] at he
     repeat' ((conv=>whnf);first|(refine Br.ff ?_)|(refine Br.dec ?_ ?_<;>intro _<;>try omega)|(refine Ar.q ?_)|(refine Chk.q ?_)|(refine J0Q he rfl ⟨VLe.rfl,VLe.rfl,VLe.rfl,True.intro⟩ ?_))
     all_goals (conv=>whnf)
     have hx:=X62 (p:=fun v=>decide (0<=J0F p g c v)) (k:=i) hd;refine⟨g.ids.length-(i+1),i+1,by omega,⟨rfl,by omega⟩,?_⟩;refine J0e (fun _ _=>[(0,some 0),(1,some 1)]) ?_ ?_ rfl
     . repeat' (first|exact J0a.int (by rw[hx])|exact tI|(refine J0a.fn ?_)|(refine⟨⟨_,rfl,?_⟩,?_⟩)|exact J0a.kf rfl|exact J0a.loc rfl|apply And.intro)
     . repeat' (first|exact tI|(refine⟨⟨_,rfl,?_⟩,?_⟩)|exact J0a.kf rfl|apply And.intro)
 . repeat' ((conv=>whnf);first|(refine Br.dec ?_ ?_<;>intro _<;>try omega))
   all_goals (conv=>whnf)
   have e:i=g.ids.length:=by omega
   exact⟨by rw[enN,e],rfl⟩
theorem X2S (p:Pr) (hp:J2p p) (g:G) (hg:g.valid=true) (c:Cf) (hc:J1u p g c):Ret Tryz.prog 81 [mvP p g,cV c] (.int .u32 (enN p g c)):=by
 have hn:=Q6B p hp g hg c hc;refine J0g rfl ?_;refine J0c J0b Tryz.func81 rfl hc81 hr81 rfl ?_
 repeat' ((conv=>whnf);first|(refine J12 [(0,some 0),(1,some 1)] [] (hn.mono ?_) ⟨J0a.int rfl,J0a.fn ⟨J0a.loc rfl,J0a.loc rfl,True.intro⟩,True.intro⟩ (by repeat' (first|exact tI|(refine⟨⟨_,rfl,?_⟩,?_⟩)|exact J0a.kf rfl|apply And.intro)) rfl;rintro _ _ _ ⟨rfl,rfl⟩)|(refine Chk.mk rfl ?_))
 all_goals (conv=>whnf)
 exact VLe.rfl
def brI (kind lo hi v:Int):Int:=if lo<=v/\v<=hi then v else if kind=3 then -1 else if v<lo then lo else hi
theorem Q4K (kind lo hi v:Int):Ret Tryz.prog 105 [.int .i64 kind,.agg [.int .i64 lo,.int .i64 hi],.int .i64 v] (.int .i64 (brI kind lo hi v)):=by
 refine J0g rfl ?_;refine J0c J0b Tryz.func105 rfl Y2x Y1K rfl ?_;rw[brI]
 repeat' ((conv=>whnf);first|(refine Br.dec ?_ ?_<;>intro _<;>try omega)|(refine Ix.mk 0 rfl (by omega) ?_)|(refine Ix.mk 1 rfl (by omega) ?_))
 all_goals (conv=>whnf)
 all_goals refine VLe.int ?_
 all_goals repeat' split
 all_goals omega
def X4e (p:Pr) (g:G) (c:Cf) (v:Nat) (st:List Int) (s:Int×Tm):List Int :=
 st.set s.1.toNat (brI (gV p.vars s.1.toNat).kind (bnd g (gV p.vars s.1.toNat) v).1 (bnd g (gV p.vars s.1.toNat) v).2 (s.2.sem g c v (-1)))
def X0J (p:Pr) (g:G) (c:Cf) (v:Nat) (l:List (Int×Tm)):List Int:=l.foldl (X4e p g c v) (gC c v)
def J1E (p:Pr) (g:G) (c:Cf) (v r:Nat):List Int:=X0J p g c v (gRl p.rules r).sets
theorem J4U (p:Pr) (g:G) (c:Cf) (v:Nat):∀(l:List (Int×Tm)),(X0J p g c v l).length=(gC c v).length:=by
 intro l;rw[X0J];generalize gC c v=st
 induction l generalizing st with
 | nil=>rfl
 | cons s r ih=>rw[List.foldl_cons,ih];simp[X4e]
theorem Q8k (l:List (Int×Tm)) (i:Nat) (h:i<l.length):l.take (i+1)=l.take i++[gS l i]:=by
 rw[List.take_succ_eq_append_getElem h];simp only[gS,List.getD,List.getElem?_eq_getElem h,Option.getD_some]
theorem Q0Q (p:Pr) (g:G) (c:Cf) (v:Nat) (l:List (Int×Tm)) (s:Int×Tm):X0J p g c v (l++[s])=X4e p g c v (X0J p g c v l) s:=by
 simp[X0J,List.foldl_append]
theorem Q3m (r:List Int) (u i t:Nat) (d:Int) (hu:u<r.length) (ht:t<1):VLe (J0M (vI r) u 0 [.int .i64 d] i t) (vI (r.set u d) i t):=by
 obtain rfl:t=0:=by omega
 apply VLe.of_eq;simp only[J0M,vI,gI,List.getD,List.getElem?_set];by_cases h:i=u
 . subst h;simp[hu]
 . have:¬ u=i:=fun e=>h e.symm;simp[h,this]
set_option maxHeartbeats 8000000 in
theorem X4k (p:Pr) (hp:J2p p) (g:G) (hg:g.valid=true) (c:Cf) (hc:J1u p g c) (v:Nat) (hv:v<g.ports.length) (r:Nat) (hr:r<p.rules.length) :
 Ret Tryz.prog 66 [mvP p g,cV c,.int .i64 v,.int .i64 r] (.fz (J1E p g c v r).length 1 false (vI (J1E p g c v r))):=by
 obtain⟨f1,f2,f3,f4,f5,f6,f7⟩:=J0f hg;have hcl:=hc.len;have hrow:=hc.row v (by omega);have hvl:=hp.vlen;have hsl:=hp.slen r hr;refine J0g rfl ?_;refine J0c J0b Tryz.func66 rfl hc66 hr66 rfl ?_
 repeat' ((conv=>whnf);first|(refine Ix.q ?_)|(refine Len.q ?_))
 all_goals (conv=>whnf)
 refine J1h J0b [0,1,2,9,26,27] [] [1,2,3,4,5,6,7,8,9,10,11,12,13,14,15,16,17,18,19,20,21,22,23,24,25,26,27,28,29] [0] (fun j:Nat=>[(28,.int .i64 j)]) (fun j=>[(0,.vec (gC c v).length 1 (vI (X0J p g c v ((gRl p.rules r).sets.take j))))]) (fun m j=>m=(gRl p.rules r).sets.length-j/\j<=(gRl p.rules r).sets.length) (gRl p.rules r).sets.length 0 ⟨rfl,Nat.zero_le _⟩ rfl (fun _=>rfl) ?_ ?_
 . exact J0k (fun _ _=>[(0,some 0)])
 rintro m j ⟨hm,hj⟩;by_cases hjl:j<(gRl p.rules r).sets.length
 . obtain⟨s1,s2,s3⟩:=hp.set r hr j hjl;simp only[Tm.okB,Bool.and_eq_true,decide_eq_true_eq] at s3;have hval:=J94 p.pg g hg (hc.fit hp hg) v hv (gS (gRl p.rules r).sets j).2 s3.2 s3.1;have hbr:=Q4K (gV p.vars (gS (gRl p.rules r).sets j).1.toNat).kind (bnd g (gV p.vars (gS (gRl p.rules r).sets j).1.toNat) v).1 (bnd g (gV p.vars (gS (gRl p.rules r).sets j).1.toNat) v).2 ((gS (gRl p.rules r).sets j).2.sem g c v (-1))
   repeat' ((conv=>whnf);first|(refine Br.dec ?_ ?_<;>intro _<;>try omega)|(refine Ar.q ?_)|(refine Ix.q ?_)|(refine Ix.int (by omega) (by omega) ?_)|(refine Ltn.q ?_)|(refine hval.go ?_)|(refine hbr.go ?_)|(refine And.intro rfl ?_))
   all_goals (conv=>whnf)
   refine⟨(gRl p.rules r).sets.length-(j+1),j+1,by omega,⟨rfl,by omega⟩,?_⟩;simp only[Q8k _ j hjl,Q0Q];refine J0e (fun _ _=>[(0,some 0)]) ?_ ?_ rfl
   . repeat' (first|exact tI|(refine⟨⟨_,rfl,?_⟩,?_⟩)|exact J0a.kf rfl|exact J0a.q)
   . repeat' (first|exact⟨Nat.le_refl _,rfl,fun i t hi ht=>by simp only[Nat.zero_add];exact Q3m _ _ _ _ _ (by rw[J4U];omega) ht⟩|exact tI|(refine⟨⟨_,rfl,?_⟩,?_⟩))
 . repeat' ((conv=>whnf);first|(refine Br.dec ?_ ?_<;>intro _<;>try omega)|(refine Len.q ?_))
   all_goals (conv=>whnf)
   rw[List.take_of_length_le (by omega)];exact VLe.fz (J4U _ _ _ _ _).symm (fun h=>h) (fun i t hi ht=>VLe.of_eq (by simp[J0j,J1E]))
theorem J8e (c:Cf) (F:Nat->Nat->V) (n v i t:Nat) (ht:t<1) (G':Nat->Nat->V) (hG:∀i,i≠v->G' i 0=F i 0) (X:V) (hX:VLe X (G' v 0)):VLe (J0M F v 0 [X] i t) (G' i t):=by
 obtain rfl:t=0:=by omega
 by_cases h:i=v
 . subst h;have e:J0M F i 0 [X] i 0=X:=by simp[J0M]
   rw[e];exact hX
 . apply VLe.of_eq;simp only[J0M];rw[if_neg (by simp[h]),hG i h]
def cpF (c:Cf) (j:Nat):Nat->Nat->V:=fun i _=>if i<j then .fz (gC c i).length 1 false (vI (gC c i)) else .nilslice
theorem Q8T (c:Cf) (hc:c.length<=1000) (hr:∀v,v<c.length->(gC c v).length<=1000):J0G Tryz.prog 153 [cV c] [] KS fun X own' _=>X=.vec 0 1 0 c.length/\own'=[(0,.vec c.length 1 (vC c))]:=by
 refine J1q ?_;refine J0c J0b Tryz.func153 rfl Y18 Y1l rfl ?_
 repeat' ((conv=>whnf);first|(refine Bd.q ?_)|(refine Len.q ?_)|(refine MkS.vec ?_))
 all_goals (conv=>whnf)
 refine J1h J0b [3,9,10] [] [1,2,3,4,5,6,7,8,9,10,11,12,13,14,15,16,17,18,19,20,21,22,23,24,25,26,27,28,29] [0] (fun j:Nat=>[(11,.int .i64 j)]) (fun j=>[(0,.vec c.length 1 (cpF c j))]) (fun m j=>m=c.length-j/\j<=c.length) c.length 0 ⟨rfl,Nat.zero_le _⟩ rfl (fun _=>rfl) ?_ ?_
 . refine J0e (fun _ _=>[(0,some 0)]) ?_ ?_ rfl
   . repeat' (first|exact tI|(refine⟨⟨_,rfl,?_⟩,?_⟩)|exact J0a.kf rfl|exact J0a.q)
   . repeat' (first|exact⟨Nat.le_refl _,rfl,fun i j hi hj=>VLe.of_eq (by obtain rfl:j=0:=(by omega);rfl)⟩|exact tI|(refine⟨⟨_,rfl,?_⟩,?_⟩))
 rintro m j ⟨hm,hj⟩;by_cases hjl:j<c.length
 . have hrj:=hr j hjl
   repeat' ((conv=>whnf);first|(refine Br.dec ?_ ?_<;>intro _<;>try omega)|(refine Ar.q ?_)|(refine Ix.q ?_)|(refine Len.q ?_)|(refine Ltn.q ?_))
   all_goals (conv=>whnf)
   refine⟨c.length-(j+1),j+1,by omega,⟨rfl,by omega⟩,?_⟩;refine J0e (fun _ _=>[(0,some 0)]) ?_ ?_ rfl
   . repeat' (first|exact tI|(refine⟨⟨_,rfl,?_⟩,?_⟩)|exact J0a.kf rfl|exact J0a.q)
   . repeat' (first|exact⟨Nat.le_refl _,rfl,fun i t hi ht=>by simp only[Nat.zero_add];exact J8e c _ c.length j i t ht _ (fun i hne=>by simp only[cpF];by_cases h:i<j<;>simp[h]<;>omega) _ (by simp only[cpF];rw[if_pos (by omega)];exact VLe.fz rfl (fun h=>h) (fun a b ha hb=>VLe.of_eq (by simp[J0j])))⟩|exact tI|(refine⟨⟨_,rfl,?_⟩,?_⟩))
 . have e:j=c.length:=by omega
   subst e
   repeat' ((conv=>whnf);first|(refine Br.dec ?_ ?_<;>intro _<;>try omega))
   all_goals (conv=>whnf)
   exact J1l (fun _=>[(0,some 0)]) _ _ ⟨rfl,rfl⟩ (J0a.vec rfl rfl rfl) ⟨⟨_,rfl,Nat.le_refl _,rfl,fun i t hi ht=>VLe.of_eq (by simp only[cpF,vC];rw[if_pos hi])⟩,True.intro⟩ rfl
def J0H (p:Pr) (g:G) (c:Cf) (s:Nat):Cf:=(List.range c.length).map fun v=>if s.testBit v then J1E p g c v (J0F p g c v).toNat else gC c v
def stF (p:Pr) (g:G) (c:Cf) (s j:Nat):Nat->Nat->V:=fun i _=>if i<j/\s.testBit i=true then .fz (J1E p g c i (J0F p g c i).toNat).length 1 false (vI (J1E p g c i (J0F p g c i).toNat)) else .fz (gC c i).length 1 false (vI (gC c i))
theorem X0t (p:Pr) (g:G) (c:Cf) (s j i t:Nat) (hb:s.testBit j=true) (ht:t<1) (F:V) (hF:VLe F (.fz (J1E p g c j (J0F p g c j).toNat).length 1 false (vI (J1E p g c j (J0F p g c j).toNat)))) :
 VLe (J0M (stF p g c s j) j 0 [F] i t) (stF p g c s (j+1) i t) :=
 J8e c _ 0 j i t ht _ (fun i hne=>by
  simp only[stF];by_cases h:i<j
  . simp[h,Nat.lt_succ_of_lt h]
  . have h2:¬ i<j+1:=by omega
    simp[h,h2]) _ (by simp only[stF];rw[if_pos ⟨by omega,hb⟩];exact hF)
theorem X0s (p:Pr) (g:G) (c:Cf) (s j i t:Nat) (hb:s.testBit j=false):VLe (stF p g c s j i t) (stF p g c s (j+1) i t):=by
 apply VLe.of_eq;simp only[stF];by_cases h:i=j
 . subst h;simp[hb]
 . by_cases h2:i<j
   . simp[h2,Nat.lt_succ_of_lt h2]
   . have h3:¬ i<j+1:=by omega
     simp[h2,h3]
theorem J3c (p:Pr) (g:G) (c:Cf) (s:Nat):(J0H p g c s).length=c.length:=by simp[J0H]
theorem J1R (p:Pr) (g:G) (c:Cf) (s:Nat) {v:Nat} (hv:v<c.length):gC (J0H p g c s) v=if s.testBit v then J1E p g c v (J0F p g c v).toNat else gC c v:=by
 simp[J0H,gC,hv]
theorem J9k (p:Pr) (g:G) (c:Cf) (v:Nat):J0F p g c v<p.rules.length:=by
 have:=J5x (gds p g c v) 0;have hl:(gds p g c v).length=p.rules.length:=by simp[gds]
 rw[J0F];omega
theorem X0v {s k:Nat} (hs:s<4294967296) (hk:k<32):(J20 .and .u32 ((s:Int).fdiv (2 ^ (min (k:Int).toNat IntKind.u32.bits))) 1=1)↔s.testBit k=true:=X3Y hs hk
set_option maxHeartbeats 8000000 in
theorem X0Y (p:Pr) (hp:J2p p) (g:G) (hg:g.valid=true) (c:Cf) (hc:J1u p g c) (s:Nat) (hs:s<4294967296) (hen:∀v,v<c.length->s.testBit v=true->0<=J0F p g c v) :
 Ret Tryz.prog 155 [mvP p g,cV c,.int .u32 s] (cV (J0H p g c s)):=by
 obtain⟨f1,f2,f3,f4,f5,f6,f7⟩:=J0f hg;have hcl:=hc.len;have hvl:=hp.vlen;have hcp:=Q8T c (by omega) (fun v hv=>by have:=hc.row v hv;omega);refine J0g rfl ?_;refine J0c J0b Tryz.func155 rfl Y16 Y1j rfl ?_
 repeat' ((conv=>whnf);first|(refine J12 [] [0] (hcp.mono ?_) ⟨J0a.kf rfl,True.intro⟩ True.intro rfl;rintro _ _ _ ⟨rfl,rfl⟩)|(refine Chk.mk rfl ?_))
 all_goals (conv=>whnf)
 refine J1h J0b [0,1,2,7,12] [] [1,2,3,4,5,6,7,8,9,10,11,12,13,14,15,16,17,18,19,20,21,22,23,24,25,26,27,28,29] [0] (fun j:Nat=>[(13,.int .i64 j)]) (fun j=>[(0,.vec c.length 1 (stF p g c s j))]) (fun m j=>m=c.length-j/\j<=c.length) c.length 0 ⟨rfl,Nat.zero_le _⟩ rfl (fun _=>rfl) ?_ ?_
 . exact J0k (fun _ _=>[(0,some 0)])
 rintro m j ⟨hm,hj⟩;by_cases hjl:j<c.length
 . have h1:=X0v (s:=s) (k:=j) hs (by omega);cases hb:s.testBit j with
   | true =>
     have h2:=h1.2 hb;obtain⟨r,hr⟩:∃r:Nat,J0F p g c j=r:=⟨(J0F p g c j).toNat,by have:=hen j hjl hb;omega⟩;have hrl:=J9k p g c j;have hru:=Q2j p hp g hg c hc j (by omega);have hmv:=X4k p hp g hg c hc j (by omega) r (by omega);rw[hr] at hru
     repeat' ((conv=>whnf);first|(refine Br.dec ?_ ?_<;>intro _<;>try omega)|(refine Ar.q ?_)|(refine Sv.mk _ rfl ?_)|(refine Nn.mk (by omega) ?_)|(refine Ix.q ?_)|(refine Ltn.q ?_)|(refine hru.go ?_)|(refine hmv.go ?_))
     all_goals (conv=>whnf)
     refine⟨c.length-(j+1),j+1,by omega,⟨rfl,by omega⟩,?_⟩;refine J0e (fun _ _=>[(0,some 0)]) ?_ ?_ rfl
     . repeat' (first|exact tI|(refine⟨⟨_,rfl,?_⟩,?_⟩)|exact J0a.kf rfl|exact J0a.q)
     . repeat' (first|exact⟨Nat.le_refl _,rfl,fun i t hi ht=>by simp only[Nat.zero_add];exact X0t p g c s j i t hb ht _ (by rw[hr];exact VLe.rfl)⟩|exact tI|(refine⟨⟨_,rfl,?_⟩,?_⟩))
   | false =>
     have h2:¬ (J20 .and .u32 ((s:Int).fdiv (2 ^ (min (j:Int).toNat IntKind.u32.bits))) 1=1):=fun e=>by rw[h1.1 e] at hb;cases hb
     repeat' ((conv=>whnf);first|(refine Br.dec ?_ ?_<;>intro _<;>try omega)|(refine Ar.q ?_)|(refine Sv.mk _ rfl ?_)|(refine Nn.mk (by omega) ?_))
     all_goals (conv=>whnf)
     refine⟨c.length-(j+1),j+1,by omega,⟨rfl,by omega⟩,?_⟩;refine J0e (fun _ _=>[(0,some 0)]) ?_ ?_ rfl
     . repeat' (first|exact tI|(refine⟨⟨_,rfl,?_⟩,?_⟩)|exact J0a.kf rfl|exact J0a.q)
     . repeat' (first|exact⟨Nat.le_refl _,rfl,fun i t hi ht=>X0s p g c s j i t hb⟩|exact tI|(refine⟨⟨_,rfl,?_⟩,?_⟩))
 . repeat' ((conv=>whnf);first|(refine Br.dec ?_ ?_<;>intro _<;>try omega)|(refine Len.q ?_))
   all_goals (conv=>whnf)
   refine VLe.fz (J3c p g c s).symm (fun h=>h) (fun i t hi ht=>VLe.of_eq ?_);show J0j 0 (stF p g c s j) i t=.fz (gC (J0H p g c s) i).length 1 false (vI (gC (J0H p g c s) i));rw[J1R p g c s hi,J0w,Nat.zero_add];simp only[stF];by_cases hb:s.testBit i=true
   . rw[if_pos ⟨by omega,hb⟩,if_pos hb]
   . rw[if_neg (fun h=>hb h.2),if_neg hb]
abbrev P8:ByteArray:=ByteArray.mk (Array.mk [0,1,1,2,1,2,2,3,1,2,2,3,2,3,3,4,1,2,2,3,2,3,3,4,2,3,3,4,3,4,4,5,1,2,2,3,2,3,3,4,2,3,3,4,3,4,4,5,2,3,3,4,3,4,4,5,3,4,4,5,4,5,5,6,1,2,2,3,2,3,3,4,2,3,3,4,3,4,4,5,2,3,3,4,3,4,4,5,3,4,4,5,4,5,5,6,2,3,3,4,3,4,4,5,3,4,4,5,4,5,5,6,3,4,4,5,4,5,5,6,4,5,5,6,5,6,6,7,1,2,2,3,2,3,3,4,2,3,3,4,3,4,4,5,2,3,3,4,3,4,4,5,3,4,4,5,4,5,5,6,2,3,3,4,3,4,4,5,3,4,4,5,4,5,5,6,3,4,4,5,4,5,5,6,4,5,5,6,5,6,6,7,2,3,3,4,3,4,4,5,3,4,4,5,4,5,5,6,3,4,4,5,4,5,5,6,4,5,5,6,5,6,6,7,3,4,4,5,4,5,5,6,4,5,5,6,5,6,6,7,4,5,5,6,5,6,6,7,5,6,6,7,6,7,7,8])
theorem X8r:∀x:Nat,x<256->(P8.get! x).toNat=cnt x 8:=by decide +kernel
theorem J6q (s k:Nat):(s:Int).fdiv (2 ^ k)=((s >>> k:Nat):Int):=by
 rw[Int.fdiv_eq_ediv_of_nonneg _ (Int.pow_nonneg (by omega)),Nat.shiftRight_eq_div_pow];simp
theorem Q9u (x:Nat):x &&& 255<256:=Nat.lt_of_le_of_lt Nat.and_le_right (by omega)
theorem Q82 (x:Nat):cnt (x &&& 255) 8=cnt x 8:=Q8Z fun i hi=>by
 rw[Nat.testBit_and,show(255:Nat)=2 ^ 8-1 from rfl,Nat.testBit_two_pow_sub_one];simp[hi]
theorem Q80 (s:Nat) (hs:s<4294967296):cnt (s >>> 24) 8+cnt (s >>> 16 &&& 255) 8+cnt (s >>> 8 &&& 255) 8+cnt (s &&& 255) 8=cnt s 32:=by
 rw[Q82,Q82,Q82,show(32:Nat)=8+24 from rfl,J5C 8 24,show(24:Nat)=8+16 from rfl,J5C 8 16,show(16:Nat)=8+8 from rfl,J5C 8 8];rw[<- Nat.shiftRight_add,<- Nat.shiftRight_add];show cnt (s >>> 24) 8+cnt (s >>> 16) 8+cnt (s >>> 8) 8+cnt s 8=cnt s 8+(cnt (s >>> 8) 8+(cnt (s >>> 16) 8+cnt (s >>> 24) 8));omega
theorem X3x {n:Int} (h1:0<=n) (h2:n<=255):IntKind.u8.wrap n=n:=by
 simp only[IntKind.wrap,IntKind.bits,IntKind.signed,Bool.false_and]
 first|(split<;>omega)|(simp;omega)
theorem Ar.u8 {n:Int} {K:Int->Prop} (h1:0<=n) (h2:n<=255) (hK:K n):Ar .u8 n K:=⟨n,(X3x h1 h2).symm,hK⟩
theorem Ar.u8e {n:Int} {K:Int->Prop} (a:Nat) (h:n=(a:Int)) (ha:a<=255) (hK:K (a:Int)):Ar .u8 n K:=by subst h;exact Ar.u8 (by omega) (by omega) hK
theorem X6S (s:Nat) (hs:s<4294967296):Ret Tryz.prog 106 [.int .u32 s] (.int .i64 (cnt s 32)):=by
 have hsum:=Q80 s hs;have f24:(s:Int).fdiv (2 ^ (min (24:Int).toNat 32))=((s >>> 24:Nat):Int):=J6q s 24;have f16:(s:Int).fdiv (2 ^ (min (16:Int).toNat 32))=((s >>> 16:Nat):Int):=J6q s 16;have f8:(s:Int).fdiv (2 ^ (min (8:Int).toNat 32))=((s >>> 8:Nat):Int):=J6q s 8;have l24:s >>> 24<256:=by rw[Nat.shiftRight_eq_div_pow];omega
 have l16:s >>> 16<4294967296:=Nat.lt_of_le_of_lt (Nat.shiftRight_le s 16) hs;have l8:s >>> 8<4294967296:=Nat.lt_of_le_of_lt (Nat.shiftRight_le s 8) hs;have a16:J20 .and .u32 ((s >>> 16:Nat):Int) 255=((s >>> 16 &&& 255:Nat):Int):=J0W (b:=255) l16 (by omega);have a8:J20 .and .u32 ((s >>> 8:Nat):Int) 255=((s >>> 8 &&& 255:Nat):Int):=J0W (b:=255) l8 (by omega);have a0:J20 .and .u32 (s:Int) 255=((s &&& 255:Nat):Int):=J0W (b:=255) hs (by omega);have m16:=Q9u (s >>> 16);have m8:=Q9u (s >>> 8);have m0:=Q9u s;generalize s >>> 24=x24 at *;generalize s >>> 16 &&& 255=x16 at *;generalize s >>> 8 &&& 255=x8 at *;generalize s &&& 255=x0 at *;have p24:=X8r x24 l24;have p16:=X8r x16 m16;have p8:=X8r x8 m8;have p0:=X8r x0 m0;have c24:=J4o x24 8;have c16:=J4o x16 8;have c8:=J4o x8 8;have c0:=J4o x0 8;rw[<- hsum];rw[<- p24] at c24 ⊢;rw[<- p16] at c16 ⊢;rw[<- p8] at c8 ⊢;rw[<- p0] at c0 ⊢;clear p24 p16 p8 p0 hsum;refine J0g rfl ?_;refine J0c J0b Tryz.func106 rfl Y2w Y1J rfl ?_
 repeat' ((conv=>whnf);first|(refine Sv.mk _ f24.symm ?_)|(refine Sv.mk _ f16.symm ?_)|(refine Sv.mk _ f8.symm ?_)|(refine Sv.mk _ a16.symm ?_)|(refine Sv.mk _ a8.symm ?_)|(refine Sv.mk _ a0.symm ?_)|(refine Ix.mk x24 rfl l24 ?_)|(refine Ix.mk x16 rfl m16 ?_)|(refine Ix.mk x8 rfl m8 ?_)|(refine Ix.mk x0 rfl m0 ?_)|(refine Ar.u8e ((P8.get! x24).toNat+(P8.get! x16).toNat) rfl (by omega) ?_)|(refine Ar.u8e ((P8.get! x24).toNat+(P8.get! x16).toNat+(P8.get! x8).toNat) rfl (by omega) ?_)|(refine Ar.u8e ((P8.get! x24).toNat+(P8.get! x16).toNat+(P8.get! x8).toNat+(P8.get! x0).toNat) rfl (by omega) ?_)|(refine Ar.q ?_)|(refine Nn.mk (by omega) ?_))
 all_goals (conv=>whnf)
 all_goals exact VLe.rfl
structure Cnt where
 steps:Nat
 moves:Nat
 rounds:Nat
 begun:Nat
 pend:Nat
def Cnt.v (k:Cnt):V:=.agg [.int .i64 k.steps,.int .i64 k.moves,.int .i64 k.rounds,.int .i64 k.begun,.int .u32 k.pend]
structure Cnt.Ok (k:Cnt):Prop where
 steps:k.steps<=4096
 rb:k.rounds<=k.begun
 bs:k.begun<=k.steps
 br:k.begun<=k.rounds+1
 sm:k.steps<=k.moves
 ms:k.moves<=24*k.steps
 pend:k.pend<16777216
def vU7 (l:List Nat):Nat->Nat->V:=fun i _=>.int .u32 (l.getD i 0:Nat)
theorem nd24 {a:Nat} (h:a<16777216):J1o a 16777215=0:=by
 refine Nat.eq_of_testBit_eq fun i=>?_;rw[J1o,Nat.testBit_and,Nat.zero_testBit];by_cases hi:i<24
 . have h1:(4294967295 ^^^ 16777215:Nat).testBit i=false:=by
    rw[Nat.testBit_xor,show(4294967295:Nat)=2 ^ 32-1 from rfl,show(16777215:Nat)=2 ^ 24-1 from rfl,Nat.testBit_two_pow_sub_one,Nat.testBit_two_pow_sub_one];simp[hi];omega
   rw[h1,Bool.and_false]
 . have:a.testBit i=false:=Nat.testBit_lt_two_pow (Nat.lt_of_lt_of_le (show a<2 ^ 24 from h) (Nat.pow_le_pow_right (by omega) (by omega)));rw[this,Bool.false_and]
theorem J6Z (l:List Nat) (hl:l.length<=10) (h:∀a∈l,a<16777216):Ret Tryz.prog 175 [.fz l.length 1 false (vU7 l)] (.bool true):=by
 refine J0g rfl ?_;refine J0c J0b Tryz.func175 rfl Y1Y Y1b rfl ?_
 repeat' ((conv=>whnf);first|fail)
 all_goals (conv=>whnf)
 refine J0N J0b [5,6] (fun i:Nat=>[(7,.int .i64 i)]) (fun m i=>m=l.length-i/\i<=l.length) l.length 0 ⟨rfl,Nat.zero_le _⟩ ?_ ?_
 . exact J0k (fun _ _=>[])
 rintro m i ⟨hm,hi⟩;by_cases hil:i<l.length
 . have ha:l.getD i 0<16777216:=h _ (by rw[List.getD_eq_getElem?_getD,List.getElem?_eq_getElem hil];exact List.getElem_mem hil);have hb:J20 .andNot .u32 ((l.getD i 0:Nat):Int) 16777215=0:=by
    have:=J4g (a:=l.getD i 0) (b:=16777215) (by omega) (by omega);rw[nd24 ha] at this;exact this
   repeat' ((conv=>whnf);first|(refine Sv.mk 0 hb.symm ?_)|(refine Br.ff ?_)|(refine Br.dec ?_ ?_<;>intro _<;>try omega)|(refine Ar.q ?_)|(refine Ix.q ?_))
   all_goals (conv=>whnf)
   refine⟨l.length-(i+1),i+1,by omega,⟨rfl,by omega⟩,?_⟩;exact J0k (fun _ _=>[])
 . repeat' ((conv=>whnf);first|(refine Br.dec ?_ ?_<;>intro _<;>try omega))
   all_goals (conv=>whnf)
   exact VLe.rfl
theorem Y0P (a:Nat) (f:Nat->Nat->V) (h0:f 0 0=.int .u32 a):∀i j:Nat,i<1->j<1->VLe (f i j) (vU7 [a] i j):=by
 intro i j hi hj;obtain rfl:j=0:=by omega
 obtain rfl:i=0:=by omega
 rw[h0];exact VLe.rfl
theorem X8U (a b:Nat) (f:Nat->Nat->V) (h0:f 0 0=.int .u32 a) (h1:f 1 0=.int .u32 b):∀i j:Nat,i<2->j<1->VLe (f i j) (vU7 [a,b] i j):=by
 intro i j hi hj;obtain rfl:j=0:=by omega
 rcases (show i=0\/i=1 by omega) with rfl|rfl
 . rw[h0];exact VLe.rfl
 . rw[h1];exact VLe.rfl
theorem Q9r (k:Cnt) (hk:k.Ok):Ret Tryz.prog 174 [k.v] (.bool true):=by
 have hp:=J6Z [k.pend] (by simp) (by simpa using hk.pend);obtain⟨h1,h2,h3,h4,h5,h6,h7⟩:=hk;refine J0g rfl ?_;refine J0c J0b Tryz.func174 rfl Y1Z Y1c rfl ?_
 repeat' ((conv=>whnf);first|(refine Br.tt ?_)|(refine Br.ff ?_)|(refine Br.dec ?_ ?_<;>intro _<;>try omega)|(refine Ar.q ?_)|(refine J3z [1] hp ⟨by decide,VLe.fz rfl (fun h=>h) (Y0P _ _ rfl),True.intro⟩ ?_))
 all_goals (conv=>whnf)
 all_goals exact VLe.rfl
theorem X18 (e:Nat) (he:e<16777216):Ret Tryz.prog 154 [.int .u32 e] (Cnt.v ⟨0,0,0,0,e⟩):=by
 have hb:J20 .and .u32 (e:Int) 16777215=(e:Int):=by
  have:=J0W (a:=e) (b:=16777215) (by omega) (by omega);rw[show e &&& 16777215=e by rw[show(16777215:Nat)=2 ^ 24-1 from rfl,Nat.and_two_pow_sub_one_eq_mod];omega] at this;exact this
 refine J0g rfl ?_;refine J0c J0b Tryz.func154 rfl Y17 Y1k rfl ?_
 repeat' ((conv=>whnf);first|(refine Sv.mk (e:Int) hb.symm ?_))
 all_goals (conv=>whnf)
 exact VLe.rfl
def lft (k:Cnt) (s e:Nat):Nat:=J1o k.pend s &&& e
def Cnt.add (k:Cnt) (s e:Nat):Cnt:=if lft k s e=0 then⟨k.steps+1,k.moves+cnt s 32,k.rounds+1,k.rounds+1,e⟩ else⟨k.steps+1,k.moves+cnt s 32,k.rounds,k.rounds+1,lft k s e⟩
theorem X0V (a b:Nat):J1o a b<=a:=Nat.and_le_left
set_option maxHeartbeats 4000000 in
theorem X8g (k:Cnt) (hk:k.Ok) (h0:k.steps<4096) (s e:Nat) (hs0:s≠0) (hs:s<16777216) (he:e<16777216):Ret Tryz.prog 156 [k.v,.int .u32 s,.int .u32 e] (.tup [(k.add s e).v,.int .i64 0]):=by
 have hv:=Q9r k hk;have hp:=J6Z [s,e] (by simp) (by simp;omega);have hoc:=X6S s (by omega);have hcl:=J4o s 32;obtain⟨h1,h2,h3,h4,h5,h6,h7⟩:=hk;have hb1:=J4g (a:=k.pend) (b:=s) (by omega) (by omega);have hnl:=X0V k.pend s;have hb2:=J0W (a:=J1o k.pend s) (b:=e) (by omega) (by omega);have hlf:lft k s e=J1o k.pend s &&& e:=rfl;rw[<- hlf] at hb2;refine J0g rfl ?_;refine J0c J0b Tryz.func156 rfl Y15 Y1i rfl ?_
 repeat' ((conv=>whnf);first|(refine Sv.mk _ hb1.symm ?_)|(refine Sv.mk _ hb2.symm ?_)|(refine Br.tt ?_)|(refine Br.dec ?_ ?_<;>intro _<;>try omega)|(refine Ar.q ?_)|(refine hv.go ?_)|(refine hoc.go ?_)|(refine J3z [2] hp ⟨by decide,VLe.fz rfl (fun h=>h) (X8U _ _ _ rfl rfl),True.intro⟩ ?_)|(refine And.intro rfl ?_))
 all_goals (conv=>whnf)
 . rename_i hz;rw[Cnt.add,if_pos (by omega),Cnt.v]
   repeat' (first|exact VLe.rfl)
 . rename_i hz;rw[Cnt.add,if_neg (by omega),Cnt.v]
   repeat' (first|exact VLe.rfl)
theorem X5L (k:Cnt) (hk:k.Ok) (h0:k.steps<4096) (s e:Nat) (hs0:1<=cnt s 32) (hs:cnt s 32<=24) (he:e<16777216):(k.add s e).Ok:=by
 obtain⟨h1,h2,h3,h4,h5,h6,h7⟩:=hk;have hle:lft k s e<=e:=Nat.and_le_right;rw[Cnt.add];split
 . exact⟨by simp only;omega,by simp only;omega,by simp only;omega,by simp only;omega,by simp only;omega,by simp only;omega,he⟩
 . exact⟨by simp only;omega,by simp only;omega,by simp only;omega,by simp only;omega,by simp only;omega,by simp only;omega,by simp only;omega⟩
def one (c:Cf) (x v:Nat):Bool:=decide (gI (gC c v) x=1)
def mx (g:G) (p:Nat->Bool):Bool:=decide (∀v,v<g.ports.length->nbr g (nb p g.ports.length) v=!p v)
def tzL:List Int:=[0,1,28,2,29,14,24,3,30,22,20,15,25,17,4,8,31,27,13,23,21,19,16,7,26,12,18,6,11,5,10,9]
def tzF (i j:Nat):V:=.int .u8 (tzL.getD i 0)
abbrev GB:Blk:=.glob 0 32 tzF
abbrev RG (f:FuncId) (args:List V) (X:V):Prop:=X3t Tryz.prog GB f args X
theorem X3L:∀k:Nat,k<32->IntKind.u32.wrap (((2 ^ k:Nat):Int)*125613361)=((2 ^ k*125613361 % 4294967296:Nat):Int)/\((2 ^ k*125613361 % 4294967296:Nat):Int).fdiv (2 ^ (min (27:Int).toNat 32))=((2 ^ k*125613361 % 4294967296 / 134217728:Nat):Int)/\2 ^ k*125613361 % 4294967296 / 134217728<32/\tzL.getD (2 ^ k*125613361 % 4294967296 / 134217728) 0=(k:Int):=by
 decide +kernel
theorem X6l (k:Nat) (hk:k<32):∃a b:Nat,IntKind.u32.wrap (((2 ^ k:Nat):Int)*125613361)=(a:Int)/\(a:Int).fdiv (2 ^ (min (27:Int).toNat 32))=(b:Int)/\b<32/\tzL.getD b 0=(k:Int):=⟨_,_,X3L k hk⟩
theorem Q6j (s:Nat) (h0:s≠0) (hs:s<4294967296):RG 109 [.int .u32 s] (.int .i64 (ctz s)):=by
 obtain⟨k1,k2,k3⟩:=J1Z h0 hs;obtain⟨a,b,t1,t2,t3,t4⟩:=X6l (ctz s) k1;have hand:J20 .and .u32 (s:Int) (((4294967296-s) % 4294967296:Nat):Int)=((2 ^ ctz s:Nat):Int):=by
  rw[J0W hs (Nat.mod_lt _ (by omega)),J40 hs,J3P,if_neg h0]
 have t5:(ctz s:Int)=IntKind.i64.wrap (tzL.getD b 0):=by rw[t4];exact(J3q (by omega) (by omega)).symm
 generalize ((2 ^ ctz s:Nat):Int)=p at hand t1;refine J3u rfl ?_;refine J0c J0b Tryz.func109 rfl Y2u Y1H rfl ?_
 repeat' ((conv=>whnf);first|(refine Ar.neg32 hs ?_)|(refine Sv.mk _ hand.symm ?_)|(refine Ar.mk _ t1.symm ?_)|(refine Sv.mk _ t2.symm ?_)|(refine Ix.mk _ rfl t3 ?_)|(refine Ar.mk _ t5 ?_)|(refine Br.dec ?_ ?_<;>intro _<;>try omega)|(refine Nn.mk (by omega) ?_))
 all_goals (conv=>whnf)
 all_goals exact VLe.rfl
structure Net where
 n:Int
 links:List Int
 weights:List Int
 ids:List Int
 apart:Bool
 back:Bool
def Net.v (x:Net):V:=.agg [.int .i64 x.n,.fz x.links.length 1 false (vI x.links),.fz x.weights.length 1 false (vI x.weights),.fz x.ids.length 1 false (vI x.ids),.bool x.apart,.bool x.back]
structure Net.Small (x:Net):Prop where
 links:x.links.length<=9223372036854775807
 weights:x.weights.length<=9223372036854775807
 ids:x.ids.length<=9223372036854775807
abbrev Ps:=List (List (Int×Int))
def lnk (p:Ps) (a:Nat) (b:Int):Bool:=(gR p a).any fun l=>decide (l.1=b)
theorem Q7N (g:G) (hs:g.Small) (a:Nat) (b:Int) (ha:a<g.ports.length):Ret Tryz.prog 54 [g.v,.int .i64 a,.int .i64 b] (.bool (lnk g.ports a b)):=by
 have hrl:=Q4h hs.rows a;refine J0g rfl ?_;refine J0c J0b Tryz.func54 rfl hc54 hr54 rfl ?_
 repeat' ((conv=>whnf);first|fail)
 all_goals (conv=>whnf)
 refine J0N J0b [1,2,3] (fun i:Nat=>[(7,.int .i64 i)]) (fun m i=>m=(gR g.ports a).length-i/\i<=(gR g.ports a).length/\((gR g.ports a).take i).any (fun l=>decide (l.1=b))=false) (gR g.ports a).length 0 ⟨rfl,Nat.zero_le _,rfl⟩ ?_ ?_
 . exact J0k (fun _ _=>[(0,some 0)])
 rintro m i ⟨hm,hi,hall⟩
 repeat' ((conv=>whnf);first|(refine Br.dec ?_ ?_<;>intro _<;>try omega)|(refine Ar.q ?_)|(refine Ix.q ?_))
 all_goals (conv=>whnf)
 . refine VLe.bool ?_;symm;rw[lnk,List.any_eq_true];exact⟨_,J3i (show i<(gR g.ports a).length by omega),by simp;omega⟩
 . refine⟨(gR g.ports a).length-(i+1),i+1,by omega,⟨rfl,by omega,?_⟩,?_⟩
   . rw[J3y _ _ (by omega),List.any_append,hall];simp;omega
   . exact J0k (fun _ _=>[(0,some 0)])
 . refine VLe.bool ?_;rw[lnk,<- hall,List.take_of_length_le (by omega)]
def J93 (bk:Bool) (r:List (Int×Int)) (l:Int×Int):List (Int×Int):=if bk then l::r else r++[l]
def J3h (bk:Bool) (p:Ps) (a b:Nat) (w:Int):Ps:=if a=b\/lnk p a b=true then p else (p.set a (J93 bk (gR p a) ((b:Int),w))).set b (J93 bk (gR p b) ((a:Int),w))
def Q1Z (p:Ps) (i:Nat):Nat:=(gR p i).length
def Q3K (p:Ps) (i:Nat):Nat->Nat->V:=vF (gR p i)
abbrev X52 (p:Ps):Blk:=.fam p.length 2 (Q1Z p) (Q3K p) []
def KS4:List Nat:=[2,3,4,5,6,7,8,9,10,11,12,13,14,15,16,17,18,19,20,21,22,23,24,25,26,27,28,29]
def X8z (g:G):Own:=[(0,.vec g.ids.length 1 (vI g.ids)),(1,X52 g.ports)]
abbrev gV1 (i n:Nat):V:=.agg [.vec 0 1 0 i,.vec 1 1 0 n]
theorem X2T (g:G):VLe (V.agg [.fz g.ids.length 1 false (J0j 0 (vI g.ids)),.fz g.ports.length 1 false fun i _=>.fz (Q1Z g.ports i) 2 false (Q3K g.ports i)]) g.v:=by
 refine VLe.agg ⟨VLe.fz rfl (fun h=>h) (fun i j hi hj=>VLe.of_eq ?_),VLe.rfl,True.intro⟩;simp[J0j]
theorem Q7R (g:G) (a b:Nat):VLe (V.agg [.fz g.ids.length 1 false (J0j 0 (vI g.ids)),.fz g.ports.length 1 false fun i _=>.fz (Q1Z g.ports i) 2 false (J3t (J3t (Q3K g.ports) a (Q3K g.ports a)) b (Q3K g.ports b) i)]) g.v:=by
 have e:J3t (J3t (Q3K g.ports) a (Q3K g.ports a)) b (Q3K g.ports b)=Q3K g.ports:=by
  funext i;simp only[J3t];split
  . rename_i h;rw[h]
  . split
    . rename_i h;rw[h]
    . rfl
 rw[e];exact X2T g
theorem J4n (p:Ps) (a:Nat) (A:List (Int×Int)) (ha:a<p.length) (i:Nat):gR (p.set a A) i=if i=a then A else gR p i:=by
 simp only[gR,List.getD,List.getElem?_set];by_cases h:a=i
 . subst h;simp[ha]
 . have:¬ i=a:=fun e=>h e.symm;simp[h,this]
theorem J4a (l:List (Int×Int)) (x:Int×Int) (i:Nat):gF (l++[x]) i=if i<l.length then gF l i else if i=l.length then x else (0,0):=by
 by_cases h:i<l.length
 . simp only[gF,List.getD,List.getElem?_append_left h,if_pos h]
 . rw[if_neg h];by_cases h2:i=l.length
   . subst h2;simp[gF]
   . simp[gF,h2,List.getElem?_eq_none (by simp;omega:(l++[x]).length<=i)]
theorem Q3p (l:List (Int×Int)) (a b:Int) (i j:Nat) (hi:i<l.length+1) (hj:j<2) :
 VLe (J5i (J0j 0 (vF l)) l.length (J0j 0 (tab [[.int .i64 a,.int .i64 b]])) i j) (vF (l++[(a,b)]) i j):=by
 apply VLe.of_eq;by_cases h:i<l.length
 . rw[J2a h];obtain rfl|rfl:j=0\/j=1:=by omega
   . simp[J0j,vF,J4a,h]
   . simp[J0j,vF,J4a,h]
 . rw[J2b h];have:i=l.length:=by omega
   subst this;obtain rfl|rfl:j=0\/j=1:=by omega
   . simp[J0j,vF,J4a,tab]
   . simp[J0j,vF,J4a,tab]
theorem Q3n (l:List (Int×Int)) (a b:Int) (i j:Nat) (hi:i<1+l.length) (hj:j<2) :
 VLe (J5i (J0j 0 (tab [[.int .i64 a,.int .i64 b]])) 1 (J0j 0 (vF l)) i j) (vF ((a,b)::l) i j):=by
 apply VLe.of_eq;cases i with
 | zero =>
   rw[J2a (by omega)];obtain rfl|rfl:j=0\/j=1:=by omega
   . simp[J0j,vF,gF,tab]
   . simp[J0j,vF,gF,tab]
 | succ i =>
   rw[J2b (by omega)];obtain rfl|rfl:j=0\/j=1:=by omega
   . simp[J0j,vF,gF]
   . simp[J0j,vF,gF]
theorem Q0H {p:Ps} {a b:Nat} (ha:a<p.length) (hb:b<p.length) (hab:a≠b) {A B:List (Int×Int)} {fa fb:Nat->Nat->V} {la lb:Nat} (h1:A.length=la) (h2:B.length=lb)
 (h3:∀j t,j<la->t<2->VLe (fa j t) (vF A j t)) (h4:∀j t,j<lb->t<2->VLe (fb j t) (vF B j t)) (ρ:Rn) :
 X5P ρ (.fam p.length 2 (J2R (J2R (Q1Z p) a la) b lb) (J3t (J3t (Q3K p) a fa) b fb) []) (X52 ((p.set a A).set b B)):=by
 refine⟨by simp,rfl,True.intro,fun i hi=>?_,fun i j t hi hn hj ht=>?_⟩
 . show(gR ((p.set a A).set b B) i).length=_;rw[J4n _ b B (by simpa using hb),J4n p a A ha];simp only[J2R];split
   . exact h2
   . split
     . exact h1
     . rfl
 . simp only[J2R] at hj;show VLe _ (vF (gR ((p.set a A).set b B) i) j t);rw[J4n _ b B (by simpa using hb),J4n p a A ha];simp only[J3t];split
   . rename_i e;rw[if_pos e] at hj;exact h4 j t hj ht
   . rename_i e;rw[if_neg e] at hj;split
     . rename_i e;rw[if_pos e] at hj;exact h3 j t hj ht
     . exact VLe.rfl
set_option maxHeartbeats 8000000 in
theorem X4u (x:Net) (g:G) (hs:g.Small) (hr:∀v,(gR g.ports v).length<=1000) (a b:Nat) (ha:a<g.ports.length) (hb:b<g.ports.length) (w:Int) :
 J0G Tryz.prog 20 [x.v,gV1 g.ids.length g.ports.length,.int .i64 a,.int .i64 b,.int .i64 w] (X8z g) KS4 fun v own' _=>v=.tup []/\own'=X8z ⟨g.ids,J3h x.back g.ports a b w⟩:=by
 have hl:=Q7N g hs a b ha;have ra:Q1Z g.ports a<=1000:=hr a;have rb:Q1Z g.ports b<=1000:=hr b;refine J1q (J3Y ?_);by_cases hab:a=b
 . rw[J3h,if_pos (.inl hab)];refine J0c J0b Tryz.func20 rfl X8x X8w rfl ?_
   repeat' ((conv=>whnf);first|(refine Br.dec ?_ ?_<;>intro _<;>try omega))
   all_goals (conv=>whnf)
   exact⟨_,J1I.refl _,J1l (fun _=>[(0,some 0),(1,some 1)]) _ _ ⟨rfl,rfl⟩ (J0a.kf rfl) (by repeat' (first|(refine⟨rfl,rfl,True.intro,fun i hi=>rfl,fun i j t hi hn hj ht=>VLe.rfl⟩)|exact tI|(refine⟨⟨_,rfl,?_⟩,?_⟩)|(refine⟨Nat.le_refl _,rfl,fun i j hi hj=>?_⟩)|exact VLe.rfl)) rfl⟩
 cases hk:lnk g.ports a b with
 | true =>
   rw[hk] at hl;rw[J3h,if_pos (.inr hk)];refine J0c J0b Tryz.func20 rfl X8x X8w rfl ?_
   repeat' ((conv=>whnf);first|(refine Br.tt ?_)|(refine Br.dec ?_ ?_<;>intro _<;>try omega)|(refine J0Q hl rfl ⟨by omega,by omega,X2T g,VLe.rfl,VLe.rfl,True.intro⟩ ?_))
   all_goals (conv=>whnf)
   exact⟨_,J1I.refl _,J1l (fun _=>[(0,some 0),(1,some 1)]) _ _ ⟨rfl,rfl⟩ (J0a.kf rfl) (by repeat' (first|(refine⟨rfl,rfl,True.intro,fun i hi=>rfl,fun i j t hi hn hj ht=>VLe.rfl⟩)|exact tI|(refine⟨⟨_,rfl,?_⟩,?_⟩)|(refine⟨Nat.le_refl _,rfl,fun i j hi hj=>?_⟩)|exact VLe.rfl)) rfl⟩
 | false =>
   rw[hk] at hl;rw[J3h,if_neg (fun h=>h.elim hab (fun h=>by rw[hk] at h;cases h))];refine J7J 28 1 a rfl rfl ha rfl ?_;refine J7J 29 1 b rfl rfl hb (J0l hab) ?_;show J0G Tryz.prog _ _ [(29,.vec (Q1Z g.ports b) 2 (Q3K g.ports b)),(28,.vec (Q1Z g.ports a) 2 (Q3K g.ports a)),(0,.vec g.ids.length 1 (vI g.ids)),(1,.fam g.ports.length 2 (Q1Z g.ports) (Q3K g.ports) [(b,29),(a,28)])] [2,3,4,5,6,7,8,9,10,11,12,13,14,15,16,17,18,19,20,21,22,23,24,25,26,27] _;refine J0c J0b Tryz.func20 rfl X8x X8w rfl ?_;obtain⟨xn,xl,xw,xi,xa,xb⟩:=x;cases xb
   . repeat' ((conv=>whnf);first|(refine Br.ff ?_)|(refine Br.dec ?_ ?_<;>intro _<;>try omega)|(refine Br.nbeq ?_ ?_<;>intro _<;>try omega)|(refine Ix.q ?_)|(refine Len.q ?_)|(refine Ltn.q ?_)|(refine J0Q hl rfl ⟨by omega,by omega,Nat.le_refl _,Nat.le_refl _,Q7R g a b,VLe.rfl,VLe.rfl,True.intro⟩ ?_)|(refine Opn.hd (by omega) ?_)|(refine Opn.tl (by omega) (Opn.hd (by omega) ?_))|(refine And.intro rfl ?_)|(refine And.intro (Ltn.mk (by omega) (Opn.hd (by omega) rfl)) ?_)|(refine J16.hd (by omega) ?_)|(refine J16.tl (by omega) (J16.hd (by omega) ?_)))
     all_goals (conv=>whnf)
     all_goals exact⟨_,X26 hab ha hb rfl rfl rfl rfl (by first|exact Nat.le_refl _|simp[J2R,hab]) (by first|exact Nat.le_refl _|simp[J2R]),J1l (fun _=>[(0,some 0),(1,some 1)]) _ _ ⟨rfl,rfl⟩ (J0a.kf rfl) ⟨⟨_,rfl,Nat.le_refl _,rfl,fun _ _ _ _=>VLe.rfl⟩,⟨_,rfl,Q0H ha hb hab (by first|(simp;done)|simp[J93,Q1Z]) (by first|(simp;done)|simp[Q1Z]) (fun j t hj ht=>Q3p _ _ _ _ _ hj ht) (fun j t hj ht=>Q3p _ _ _ _ _ hj ht) _⟩,True.intro⟩ rfl⟩
   . repeat' ((conv=>whnf);first|(refine Br.tt ?_)|(refine Br.ff ?_)|(refine Br.dec ?_ ?_<;>intro _<;>try omega)|(refine Ix.q ?_)|(refine Len.q ?_)|(refine Ltn.q ?_)|(refine J0Q hl rfl ⟨by omega,by omega,Nat.le_refl _,Nat.le_refl _,Q7R g a b,VLe.rfl,VLe.rfl,True.intro⟩ ?_)|(refine Opn.hdl (by omega) (show J2R _ _ _ _=Q1Z g.ports b from if_neg (by omega)) ?_)|(refine Opn.tl (by omega) (Opn.hd (by omega) ?_))|(refine And.intro rfl ?_)|(refine J16.hd (by omega) ?_)|(refine J16.tl (by omega) (J16.hd (by omega) ?_)))
     all_goals (conv=>whnf)
     all_goals exact⟨_,X26 hab ha hb rfl rfl rfl rfl (by first|exact Nat.le_refl _|simp[J2R,hab]) (by first|exact Nat.le_refl _|simp[J2R]),J1l (fun _=>[(0,some 0),(1,some 1)]) _ _ ⟨rfl,rfl⟩ (J0a.kf rfl) ⟨⟨_,rfl,Nat.le_refl _,rfl,fun _ _ _ _=>VLe.rfl⟩,⟨_,rfl,Q0H ha hb hab (by first|(simp;omega)|(simp[J93];omega)|(simp[J93,Q1Z];omega)) (by first|(simp;omega)|(simp[Q1Z];omega)) (fun j t hj ht=>Q3n _ _ _ _ _ hj ht) (fun j t hj ht=>Q3n _ _ _ _ _ hj ht) _⟩,True.intro⟩ rfl⟩
def dk (k:Int):Bool:=decide (1<=k/\k<=4)
theorem Q1v (k:Int):Ret Tryz.prog 27 [.int .i64 k] (.bool (dk k)):=by
 refine J0g rfl ?_;refine J0c J0b Tryz.func27 rfl hc27 hr27 rfl ?_
 repeat' ((conv=>whnf);first|(refine Br.dec ?_ ?_<;>intro _<;>try omega))
 all_goals (conv=>whnf)
 all_goals exact VLe.bool (by symm;rw[dk];first|(rw[decide_eq_true_eq];omega)|(rw[decide_eq_false_iff_not];omega))
theorem Q8J {k:Int}:dk k=true↔1<=k/\k<=4:=by rw[dk,decide_eq_true_eq]
def nm:List (Int×Int)->Nat
 | []=>0
 | l::r=>2 ^ l.1.toNat ||| nm r
theorem Q7l:∀(r:List (Int×Int)) (l:Int×Int),nm (r++[l])=nm r ||| 2 ^ l.1.toNat
 | [],l=>by simp[nm]
 | x::r,l=>by simp only[List.cons_append,nm,Q7l r l,Nat.or_assoc]
theorem X2K (u:Nat):∀r:List (Int×Int),(nm r).testBit u=r.any fun l=>decide (l.1.toNat=u)
 | []=>by simp[nm]
 | l::r=>by rw[nm,Nat.testBit_or,Nat.testBit_two_pow,X2K u r,List.any_cons]
theorem Q7m:∀(r:List (Int×Int)),(∀l∈r,l.1.toNat<32)->nm r<4294967296
 | [],_=>by simp[nm]
 | l::r,h=>by
   rw[nm];exact Nat.or_lt_two_pow (n:=32) (J2U (h l (by simp))) (Q7m r (fun x hx=>h x (by simp[hx])))
def Q9I (g:G):Nat->Nat->V:=fun i _=>.int .u32 (nm (gR g.ports i))
def Q5g (g:G) (v i:Nat):Nat->Nat->V:=fun u _=>.int .u32 (if u<v then nm (gR g.ports u) else if u=v then nm ((gR g.ports v).take i) else 0)
theorem Q3J {g:G} (hg:g.valid=true) {v:Nat} (hv:v<g.ports.length):∀l∈gR g.ports v,l.1.toNat<32:=by
 obtain⟨f1,f2,f3,f4,f5,f6,f7⟩:=J0f hg;intro l hl;obtain⟨i,hi,rfl⟩:=X7y hl;have:=X2G (f6 v hv) hi;omega
theorem Q7p {g:G} {v i u j:Nat} (hj:j<1) (hi:i<(gR g.ports v).length) (a:Int) (ha:a=(nm ((gR g.ports v).take (i+1)):Nat)):VLe (J0M (Q5g g v i) v 0 [.int .u32 a] u j) (Q5g g v (i+1) u j):=by
 obtain rfl:j=0:=by omega
 apply VLe.of_eq;by_cases e:u=v
 . subst e;simp[J0M,Q5g,ha]
 . simp[J0M,Q5g,e]
theorem X0T {g:G} {v i u j:Nat} (hi:(gR g.ports v).length<=i):VLe (Q5g g v i u j) (Q5g g (v+1) 0 u j):=by
 apply VLe.of_eq;simp only[Q5g];by_cases h1:u<v
 . rw[if_pos h1,if_pos (by omega)]
 . by_cases e:u=v
   . subst e;rw[if_neg h1,if_pos rfl,if_pos (by omega),List.take_of_length_le hi]
   . rw[if_neg h1,if_neg e,if_neg (by omega)];by_cases e2:u=v+1
     . rw[if_pos e2];simp[nm]
     . rw[if_neg e2]
theorem Q7o {g:G} {u j:Nat} (hj:j<1):VLe ((fun(x:Nat) (j:Nat)=>[V.int .u32 0].getD j default) u j) (Q5g g 0 0 u j):=by
 obtain rfl:j=0:=by omega
 apply VLe.of_eq;simp[Q5g,nm]
theorem X0U {g:G}:VLe (.fz g.ports.length 1 false (J0j 0 (Q5g g g.ports.length 0))) (.fz g.ports.length 1 false (Q9I g)):=by
 refine VLe.fz rfl (fun h=>h) (fun i j hi hj=>VLe.of_eq ?_);simp only[J0j,Q5g,Q9I];simp[hi]
theorem Ar.sh1I {t:Int} {K:Int->Prop} (h0:0<=t) (h:t<32) (hK:K ((2 ^ t.toNat:Nat):Int)):Ar .u32 (1*2 ^ (min t.toNat 32)) K:=by
 obtain⟨k,rfl⟩:∃k:Nat,t=k:=⟨t.toNat,by omega⟩;exact Ar.sh1 (by omega) hK
set_option maxHeartbeats 4000000 in
theorem Q0V (g:G) (hs:g.Small) (hg:g.valid=true):Ret Tryz.prog 63 [g.v] (.fz g.ports.length 1 false (Q9I g)):=by
 obtain⟨f1,f2,f3,f4,f5,f6,f7⟩:=J0f hg;refine J0g rfl ?_;refine J0c J0b Tryz.func63 rfl hc63 hr63 rfl ?_
 repeat' ((conv=>whnf);first|(refine Bd.q ?_)|(refine Len.q ?_)|(refine MkS.vec ?_))
 all_goals (conv=>whnf)
 refine J01 J0b [3,13,14] [] [2,3,4,5,6,7,8,9,10,11,12,13,14,15,16,17,18,19,20,21,22,23,24,25,26,27,28,29] [1,0] (fun i:Nat=>[(15,.int .i64 i)]) (fun own v=>J1H own 1 (.vec g.ports.length 1 (Q5g g v 0))) (fun m v=>m=g.ports.length-v/\v<=g.ports.length) g.ports.length 0 ⟨rfl,Nat.zero_le _⟩ rfl (fun _=>rfl) ?_ ?_
 . refine J0e (fun _ _=>[(0,some 0),(1,some 1)]) ?_ ?_ rfl
   . repeat' (first|exact tI|(refine⟨⟨_,rfl,?_⟩,?_⟩)|exact J0a.kf rfl|exact J0a.q)
   . repeat' (first|exact Q7o hj|exact tI|(refine⟨⟨_,rfl,?_⟩,?_⟩)|exact J0a.kf rfl|(refine⟨Nat.le_refl _,rfl,fun i j hi hj=>?_⟩)|apply And.intro)
 rintro m v ⟨hm,hv⟩;have hrl:=Q4h hs.rows v
 repeat' ((conv=>whnf);first|(refine Br.dec ?_ ?_<;>intro _<;>try omega)|(refine Ix.q ?_)|(refine Len.q ?_))
 all_goals (conv=>whnf)
 . refine J01 J0b [3,4,13,14,15,20,21] [] [2,3,4,5,6,7,8,9,10,11,12,13,14,15,16,17,18,19,20,21,22,23,24,25,26,27,28,29] [1,0] (fun i:Nat=>[(22,.int .i64 i)]) (fun own i=>J1H own 1 (.vec g.ports.length 1 (Q5g g v i))) (fun m i=>m=(gR g.ports v).length-i/\i<=(gR g.ports v).length) (gR g.ports v).length 0 ⟨rfl,Nat.zero_le _⟩ rfl (fun _=>rfl) ?_ ?_
   . exact J0k (fun _ _=>[(0,some 0),(1,some 1)])
   rintro m i ⟨hm,hi⟩;have hto:=fun h=>X2G (f6 v (by omega)) (i:=i) h
   repeat' ((conv=>whnf);first|(refine Ar.sh1I (by omega) (by omega) ?_)|(refine Br.dec ?_ ?_<;>intro _<;>try omega)|(refine Ar.q ?_)|(refine Sv.mk _ rfl ?_)|(refine Nn.mk (by omega) ?_)|(refine Ix.q ?_)|(refine Ltn.q ?_))
   all_goals (conv=>whnf)
   . have hr:=Q3J hg (v:=v) (by omega);have h1:=Q7m ((gR g.ports v).take i) (fun l hl=>hr l (List.mem_of_mem_take hl));have h2:=J2U (hr _ (J3i (show i<(gR g.ports v).length by omega)));refine⟨(gR g.ports v).length-(i+1),i+1,by omega,⟨rfl,by omega⟩,?_⟩;refine J0e (fun _ _=>[(0,some 0),(1,some 1)]) ?_ ?_ rfl
     . repeat' (first|exact tI|(refine⟨⟨_,rfl,?_⟩,?_⟩)|exact J0a.kf rfl|exact J0a.q)
     . repeat' (first|(rw[Nat.zero_add];exact Q7p hj (by omega) _ (by simp only[Nat.zero_add,Nat.lt_irrefl,if_false,if_true];rw[J8T h1 h2,J3y _ _ (by omega),Q7l]))|exact tI|(refine⟨⟨_,rfl,?_⟩,?_⟩)|exact J0a.kf rfl|(refine⟨Nat.le_refl _,rfl,fun i j hi hj=>?_⟩)|apply And.intro)
   . refine⟨g.ports.length-(v+1),v+1,by omega,⟨rfl,by omega⟩,?_⟩;refine J0e (fun _ _=>[(0,some 0),(1,some 1)]) ?_ ?_ rfl
     . repeat' (first|exact tI|(refine⟨⟨_,rfl,?_⟩,?_⟩)|exact J0a.kf rfl|exact J0a.q)
     . repeat' (first|exact X0T (by omega)|exact tI|(refine⟨⟨_,rfl,?_⟩,?_⟩)|exact J0a.kf rfl|(refine⟨Nat.le_refl _,rfl,fun i j hi hj=>?_⟩)|apply And.intro)
 . have e:v=g.ports.length:=by omega
   subst e;exact X0U
def ind (g:G) (s:Nat):Bool:=decide (∀v,v<g.ports.length->s.testBit v=true->nm (gR g.ports v) &&& s=0)
theorem X7h {g:G} {s v:Nat} (hv:v<g.ports.length) (hb:s.testBit v=true) (h:nm (gR g.ports v) &&& s≠0):VLe (.bool false) (.bool (ind g s)):=VLe.bool (by rw[ind,decide_eq_false (fun hh=>h (hh v hv hb))])
theorem Q4i {n i:Nat}:(J15 n).testBit i=decide (i<n):=by rw[J15,J8w];simp
theorem J60 {s n:Nat} (h:J2e s (J15 n)) {i:Nat} (hi:s.testBit i=true):i<n:=by
 have:=h i hi;rw[Q4i,decide_eq_true_eq] at this;exact this
set_option maxHeartbeats 8000000 in
theorem Q8K (g:G) (hg:g.valid=true) (s:Nat) (hs:s<4294967296) (hp:J2e s (J15 g.ports.length)):RG 151 [.fz g.ports.length 1 false (Q9I g),.int .u32 s] (.bool (ind g s)):=by
 obtain⟨f1,f2,f3,f4,f5,f6,f7⟩:=J0f hg;refine J3u rfl ?_;refine J0c J0b Tryz.func151 rfl Y2a Y1n rfl ?_
 repeat' ((conv=>whnf);first|(refine J0c J0b Tryz.func68 rfl X7n X7j rfl ?_)|(refine J1A ?_)|(refine Chk.q ?_)|(refine J0c J0b Tryz.func108 rfl Q8f Q8d rfl ?_))
 all_goals (conv=>whnf)
 refine J01 J0b [0,1] [] [5,6,7,8,9,10,11,12,13,14,15,16,17,18,19,20,21,22,23,24,25,26,27,28,29] [4,3,2,1,0,999] (fun b:Nat=>[]) (fun own b=>J1H own 3 (.cells [.int .u32 (upS s b)])) (fun m b=>m=32-b/\b<=32/\∀v,v<b->s.testBit v=true->nm (gR g.ports v) &&& s=0) 32 0 ⟨rfl,by omega,fun v hv=>by omega⟩ rfl (fun _=>rfl) ?_ ?_
 . have hx:=J4O hs;refine J0e (fun _ _=>[(0,some 0),(1,some 1),(2,some 2),(3,some 3),(4,some 4),(999,some 999)]) ?_ ?_ rfl
   . repeat' (first|exact J0a.yld rfl|exact tI|(refine⟨⟨_,rfl,?_⟩,?_⟩)|exact J0a.loc rfl)
   . repeat' (first|exact J0a.int (by rw[hx])|(refine J0a.fn ?_)|(refine⟨rfl,rfl,rfl,rfl,rfl,?_⟩)|exact tI|exact⟨rfl,rfl,rfl⟩|(refine⟨⟨_,rfl,?_⟩,?_⟩)|exact J0a.kf rfl|exact J0a.loc rfl|apply And.intro)
 rintro m b ⟨hm,hb,hall⟩;have hul:=J8g s b;by_cases hu:upS s b=0
 . repeat' ((conv=>whnf);first|(refine Br.bne ?_ ?_<;>intro _<;>try omega))
   all_goals (conv=>whnf)
   exact VLe.bool (by
    rw[ind,decide_eq_true];intro v hv hbv;by_cases h:v<b
    . exact hall v h hbv
    . rw[J6E hs hu v (by omega)] at hbv;cases hbv)
 . obtain⟨v1,v2,v3,v4,v5⟩:=J4P hs hu;have htz:=Q6j _ hu hul;have hr:J20 .and .u32 ((upS s b:Nat):Int) ((upS s b:Nat)-1:Int)=((upS s (ctz (upS s b)+1):Nat):Int):=by
    rw[<- v5,show((upS s b:Nat):Int)-1=((upS s b-1:Nat):Int) by omega,J0W hul (by omega)]
   generalize ctz (upS s b)=v at *;have hvn:=J60 hp v3;have hnl:=Q7m _ (Q3J hg hvn);have ha:=J0W hnl hs
   repeat' ((conv=>whnf);first|(refine Br.tt ?_)|(refine Br.ff ?_)|(refine Br.bne ?_ ?_<;>intro _<;>try omega)|(refine Ar.u32 (by omega) (by omega) ?_)|(refine Sv.mk _ rfl ?_)|(refine Ix.q ?_)|(refine htz.gog ?_)|(refine J1r J0b rfl rfl ?_))
   all_goals (conv=>whnf)
   . rename_i hh;rw[ha] at hh;exact X7h hvn v3 (fun e=>hh (by rw[e];rfl))
   . rename_i hh;rw[ha] at hh;refine⟨32-(v+1),v+1,by omega,⟨rfl,by omega,fun u hu2 hb2=>?_⟩,?_⟩
     . by_cases h:u<b
       . exact hall u h hb2
       . by_cases e:u=v
         . subst e;omega
         . rw[v4 u (by omega) (by omega)] at hb2;cases hb2
     . refine J0e (fun _ _=>[(0,some 0),(1,some 1),(2,some 2),(3,some 3),(4,some 4),(999,some 999)]) ?_ ?_ rfl
       . repeat' (first|exact J0a.yld rfl|exact tI|(refine⟨⟨_,rfl,?_⟩,?_⟩)|exact J0a.loc rfl)
       . repeat' (first|exact J0a.int hr|(refine J0a.fn ?_)|(refine⟨rfl,rfl,rfl,rfl,rfl,?_⟩)|exact tI|exact⟨rfl,rfl,rfl⟩|(refine⟨⟨_,rfl,?_⟩,?_⟩)|exact J0a.kf rfl|exact J0a.loc rfl|apply And.intro)
def okC (g:G) (k:Int) (e c:Nat):Bool:=if k=1 then decide (c &&& (c-1)=0) else if k=2 then ind g c else if k=4 then decide (c=e) else true
def J9C (g:G) (k:Int) (e c:Nat):Bool:=decide (c≠0/\J1o c e=0)&&okC g k e c
theorem J35 {a b c:Nat} (h1:J2e a b) (h2:J2e b c):J2e a c:=fun i h=>h2 i (h1 i h)
set_option maxHeartbeats 4000000 in
theorem J67 (g:G) (hg:g.valid=true) (k:Int) (e c:Nat) (he:e<4294967296) (hc:c<4294967296) (hp:J2e e (J15 g.ports.length)):RG 107 [.fz g.ports.length 1 false (Q9I g),.int .i64 k,.int .u32 e,.int .u32 c] (.bool (J9C g k e c)):=by
 have hd:=J4g hc he;refine J3u rfl ?_;refine J0c J0b Tryz.func107 rfl Y2v Y1I rfl ?_;rw[J9C];by_cases h:c≠0/\J1o c e=0
 . rw[decide_eq_true h,Bool.true_and];have hpc:=J35 ((J1S hc).1 h.2) hp;have hi:=Q8K g hg c hc hpc;have h0:=h.1;have hd0:J20 .andNot .u32 (c:Int) (e:Int)=0:=by rw[hd,h.2];rfl
   have ha:J20 .and .u32 (c:Int) ((c:Int)-1)=((c &&& (c-1):Nat):Int):=by
    rw[show(c:Int)-1=((c-1:Nat):Int) by omega,J0W hc (by omega)]
   repeat' ((conv=>whnf);first|(refine Sv.mk 0 hd0.symm ?_)|(refine Sv.mk _ ha.symm ?_)|(refine Br.ff ?_)|(refine Br.dec ?_ ?_<;>intro _<;>try omega)|(refine Ar.u32 (by omega) (by omega) ?_)|(refine hi.gog ?_))
   all_goals (conv=>whnf)
   all_goals first
    | (rw[okC,if_pos (by assumption)];first|exact VLe.bool (by symm;first|exact decide_eq_true (by omega)|exact decide_eq_false (by omega)))
    | (rw[okC,if_neg (by assumption),if_pos (by assumption)];first|exact VLe.bool (Eq.symm (by assumption))|exact VLe.bool (by rw[ind];symm;first|exact decide_eq_true (by assumption)|exact decide_eq_false (by assumption)))
    | (rw[okC,if_neg (by assumption),if_neg (by assumption),if_pos (by assumption)];exact VLe.bool (by symm;first|exact decide_eq_true (by omega)|exact decide_eq_false (by omega)))
    | (rw[okC,if_neg (by assumption),if_neg (by assumption),if_neg (by assumption)];exact VLe.rfl)
 . rw[decide_eq_false h,Bool.false_and];by_cases h0:c=0
   . subst h0
     repeat' ((conv=>whnf);first|(refine Br.tt ?_))
     all_goals (conv=>whnf)
     all_goals exact VLe.rfl
   . have h1:J1o c e≠0:=fun x=>h ⟨h0,x⟩
     repeat' ((conv=>whnf);first|(refine Sv.mk _ hd.symm ?_)|(refine Br.dec ?_ ?_<;>intro _<;>try omega)|(refine Br.bne ?_ ?_<;>intro _<;>try omega))
     all_goals (conv=>whnf)
     all_goals exact VLe.rfl
def Q85:Env->List Nat->Env
 | [],_=>[]
 | (t,v)::r,seen=>match J06 t seen with
   | true=>Q85 r seen
   | false=>(t,v)::Q85 r (t::seen)
def X7R:Blk->Blk
 | .loop st pe env N ps C=>.loop st pe (Q85 env []) N ps C
 | b=>b
def Q84:Own->Own
 | []=>[]
 | (k,b)::r=>(k,X7R b)::Q84 r
def gr (g:G) (W:Nat):Nat->Nat
 | 0=>0
 | b+1=>if W.testBit b=true/\nm (gR g.ports b) &&& gr g W b=0 then gr g W b ||| 2 ^ b else gr g W b
theorem Q8h (g:G) (W:Nat):∀b,gr g W b<2 ^ b
 | 0=>by show 0<1;omega
 | b+1=>by
   have h:=Q8h g W b;have h2:2 ^ b<2 ^ (b+1):=Nat.pow_lt_pow_right (by omega) (by omega);rw[gr];split
   . exact Nat.or_lt_two_pow (by omega) h2
   . omega
theorem X4O (g:G) (W:Nat) {b:Nat} (h:b<=32):gr g W b<4294967296:=Nat.lt_of_lt_of_le (Q8h g W b) (Nat.pow_le_pow_right (n:=2) (by omega) h)
theorem J5y {g:G} {W b:Nat}:∀{v:Nat},b<=v->(∀j,b<=j->j<v->W.testBit j=false)->gr g W v=gr g W b
 | 0,h,_=>by rw[show b=0 by omega]
 | v+1,h,hz=>by
   by_cases e1:b=v+1
   . rw[e1]
   . rw[gr,if_neg (by rw[hz v (by omega) (by omega)];simp)];exact J5y (by omega) (fun j a c=>hz j a (by omega))
def wsh (e w:Nat):Nat:=if w &&& e=0 then J3P e else w &&& e
theorem J8a {e w:Nat} (he:e<4294967296):wsh e w<4294967296:=by
 rw[wsh];split
 . exact Q7H e he
 . exact Nat.lt_of_le_of_lt Nat.and_le_right he
theorem Q3f {e w:Nat} (he:e<4294967296):J2e (wsh e w) e:=by
 rw[wsh];split
 . exact J1W he
 . exact J9r _ _
def rs (g:G) (k:Int) (e w:Nat):Nat:=if k=1 then J3P (wsh e w) else if k=2 then gr g (wsh e w) 32 else if k=4 then e else wsh e w
set_option maxHeartbeats 8000000 in
theorem Q2u (g:G) (hg:g.valid=true) (k:Int) (e w:Nat) (he:e<4294967296) (hw:w<4294967296) (hp:J2e e (J15 g.ports.length)):RG 129 [.fz g.ports.length 1 false (Q9I g),.int .i64 k,.int .u32 e,.int .u32 w] (.int .u32 (rs g k e w)):=by
 obtain⟨f1,f2,f3,f4,f5,f6,f7⟩:=J0f hg;have ha:=J0W hw he;have hne:J20 .and .u32 (e:Int) (((4294967296-e) % 4294967296:Nat):Int)=(J3P e:Nat):=by rw[J0W he (Nat.mod_lt _ (by omega)),J40 he]
 have hW:=J8a (w:=w) he;have hWp:=J35 (Q3f (w:=w) he) hp;have hnw:J20 .and .u32 (wsh e w:Nat) (((4294967296-wsh e w) % 4294967296:Nat):Int)=(J3P (wsh e w):Nat):=by rw[J0W hW (Nat.mod_lt _ (by omega)),J40 hW]
 refine J3u rfl ?_;refine J0c J0b Tryz.func129 rfl Y2c Y1p rfl ?_;rw[rs];by_cases hz:w &&& e=0
 . have hww:wsh e w=J3P e:=by rw[wsh,if_pos hz]
   rw[hww] at hW hWp hnw ⊢;by_cases k2:k=2
   . have k1:¬ k=1:=by omega
     rw[if_neg k1,if_pos k2]
     repeat' ((conv=>whnf);first|(refine Sv.mk _ ha.symm ?_)|(refine Ar.neg32 he ?_)|(refine Sv.mk _ hne.symm ?_)|(refine Br.dec ?_ ?_<;>intro _<;>try omega)|(refine J0c J0b Tryz.func68 rfl X7n X7j rfl ?_)|(refine J1A ?_)|(refine Chk.q ?_)|(refine J0c J0b Tryz.func108 rfl Q8f Q8d rfl ?_))
     all_goals (conv=>whnf)
     generalize J3P e=W at *;refine J01 J0b [0,1] [] [4,5,6,7,8,9,10,11,12,13,14,15,16,17,18,19,20,21,22,23,24,25,26,27,28,29] [3,2,1,0,999] (fun b:Nat=>[]) (fun own b=>Q84 (J1H (J1H own 1 (.cells [.int .u32 (gr g W b)])) 2 (.cells [.int .u32 (upS W b)]))) (fun m b=>m=32-b/\b<=32) 32 0 ⟨rfl,by omega⟩ rfl (fun _=>rfl) ?_ ?_
     . have hx:=J4O hW;refine J0e (fun _ _=>[(0,some 0),(1,some 1),(2,some 2),(3,some 3),(999,some 999)]) ?_ ?_ rfl
       . repeat' (first|exact J0a.yld rfl|exact tI|(refine⟨⟨_,rfl,?_⟩,?_⟩)|exact J0a.loc rfl)
       . repeat' (first|exact J0a.int (by rw[hx])|(refine J0a.fn ?_)|(refine⟨rfl,rfl,rfl,rfl,rfl,?_⟩)|exact tI|exact⟨rfl,rfl,rfl⟩|(refine⟨⟨_,rfl,?_⟩,?_⟩)|exact J0a.kf rfl|exact J0a.loc rfl|apply And.intro)
     rintro m b ⟨hm,hb⟩;have hul:=J8g W b;by_cases hu:upS W b=0
     . repeat' ((conv=>whnf);first|(refine Br.bne ?_ ?_<;>intro _<;>try omega))
       all_goals (conv=>whnf)
       have hx:gr g W 32=gr g W b:=J5y hb (fun j hj _=>J6E hW hu j hj);rw[hx];exact VLe.rfl
     . obtain⟨v1,v2,v3,v4,v5⟩:=J4P hW hu;have htz:=Q6j _ hu hul;have hr:J20 .and .u32 ((upS W b:Nat):Int) ((upS W b:Nat)-1:Int)=((upS W (ctz (upS W b)+1):Nat):Int):=by
        rw[<- v5,show((upS W b:Nat):Int)-1=((upS W b-1:Nat):Int) by omega,J0W hul (by omega)]
       generalize ctz (upS W b)=v at *;have hvn:=J60 hWp v3;have hnl:=Q7m _ (Q3J hg hvn);have hgl:=X4O g W hb;have hga:=J0W hnl hgl;have hgo:=J8T hgl (J2U v1);have hsk:=J5y (g:=g) v2 v4
       repeat' ((conv=>whnf);first|(refine Sv.mk _ hga.symm ?_)|(refine Br.tt ?_)|(refine Br.dec ?_ ?_<;>intro _<;>try omega)|(refine Br.bne ?_ ?_<;>intro _<;>try omega)|(refine Ar.u32 (by omega) (by omega) ?_)|(refine Ar.sh1 (by omega) ?_)|(refine Sv.mk _ rfl ?_)|(refine Nn.mk (by omega) ?_)|(refine Ix.q ?_)|(refine htz.gog ?_)|(refine J1r J0b rfl rfl ?_))
       all_goals (conv=>whnf)
       all_goals
        refine⟨32-(v+1),v+1,by omega,⟨rfl,by omega⟩,?_⟩
        first
        | (have hs:gr g W (v+1)=gr g W b ||| 2 ^ v:=by rw[gr,hsk,if_pos ⟨v3,by omega⟩]
           refine J0e (fun _ _=>[(0,some 0),(1,some 1),(2,some 2),(3,some 3),(999,some 999)]) ?_ ?_ rfl
           . repeat' (first|exact J0a.yld rfl|exact tI|(refine⟨⟨_,rfl,?_⟩,?_⟩)|exact J0a.loc rfl)
           . repeat' (first|exact J0a.int hr|exact J0a.int (by rw[hs];exact hgo)|(refine J0a.fn ?_)|(refine⟨rfl,rfl,rfl,rfl,rfl,?_⟩)|exact tI|exact⟨rfl,rfl,rfl⟩|(refine⟨⟨_,rfl,?_⟩,?_⟩)|exact J0a.kf rfl|exact J0a.loc rfl|apply And.intro))
        | (have hs:gr g W (v+1)=gr g W b:=by rw[gr,hsk,if_neg (fun h=>by have:=h.2;omega)]
           refine J0e (fun _ _=>[(0,some 0),(1,some 1),(2,some 2),(3,some 3),(999,some 999)]) ?_ ?_ rfl
           . repeat' (first|exact J0a.yld rfl|exact tI|(refine⟨⟨_,rfl,?_⟩,?_⟩)|exact J0a.loc rfl)
           . repeat' (first|exact J0a.int hr|exact J0a.int (by rw[hs])|(refine J0a.fn ?_)|(refine⟨rfl,rfl,rfl,rfl,rfl,?_⟩)|exact tI|exact⟨rfl,rfl,rfl⟩|(refine⟨⟨_,rfl,?_⟩,?_⟩)|exact J0a.kf rfl|exact J0a.loc rfl|apply And.intro))
   . repeat' ((conv=>whnf);first|(refine Sv.mk _ ha.symm ?_)|(refine Ar.neg32 he ?_)|(refine Sv.mk _ hne.symm ?_)|(refine Ar.neg32 hW ?_)|(refine Sv.mk _ hnw.symm ?_)|(refine Br.dec ?_ ?_<;>intro _<;>try omega))
     all_goals (conv=>whnf)
     all_goals first
      | (rw[if_pos (by assumption)];exact VLe.rfl)
      | (rw[if_neg (by assumption),if_neg k2,if_pos (by assumption)];exact VLe.rfl)
      | (rw[if_neg (by assumption),if_neg k2,if_neg (by assumption)];exact VLe.rfl)
 . have hww:wsh e w=w &&& e:=by rw[wsh,if_neg hz]
   rw[hww] at hW hWp hnw ⊢;by_cases k2:k=2
   . have k1:¬ k=1:=by omega
     rw[if_neg k1,if_pos k2]
     repeat' ((conv=>whnf);first|(refine Sv.mk _ ha.symm ?_)|(refine Br.dec ?_ ?_<;>intro _<;>try omega)|(refine J0c J0b Tryz.func68 rfl X7n X7j rfl ?_)|(refine J1A ?_)|(refine Chk.q ?_)|(refine J0c J0b Tryz.func108 rfl Q8f Q8d rfl ?_))
     all_goals (conv=>whnf)
     generalize w &&& e=W at *;refine J01 J0b [0,1] [] [4,5,6,7,8,9,10,11,12,13,14,15,16,17,18,19,20,21,22,23,24,25,26,27,28,29] [3,2,1,0,999] (fun b:Nat=>[]) (fun own b=>Q84 (J1H (J1H own 1 (.cells [.int .u32 (gr g W b)])) 2 (.cells [.int .u32 (upS W b)]))) (fun m b=>m=32-b/\b<=32) 32 0 ⟨rfl,by omega⟩ rfl (fun _=>rfl) ?_ ?_
     . have hx:=J4O hW;refine J0e (fun _ _=>[(0,some 0),(1,some 1),(2,some 2),(3,some 3),(999,some 999)]) ?_ ?_ rfl
       . repeat' (first|exact J0a.yld rfl|exact tI|(refine⟨⟨_,rfl,?_⟩,?_⟩)|exact J0a.loc rfl)
       . repeat' (first|exact J0a.int (by rw[hx])|(refine J0a.fn ?_)|(refine⟨rfl,rfl,rfl,rfl,rfl,?_⟩)|exact tI|exact⟨rfl,rfl,rfl⟩|(refine⟨⟨_,rfl,?_⟩,?_⟩)|exact J0a.kf rfl|exact J0a.loc rfl|apply And.intro)
     rintro m b ⟨hm,hb⟩;have hul:=J8g W b;by_cases hu:upS W b=0
     . repeat' ((conv=>whnf);first|(refine Br.bne ?_ ?_<;>intro _<;>try omega))
       all_goals (conv=>whnf)
       have hx:gr g W 32=gr g W b:=J5y hb (fun j hj _=>J6E hW hu j hj);rw[hx];exact VLe.rfl
     . obtain⟨v1,v2,v3,v4,v5⟩:=J4P hW hu;have htz:=Q6j _ hu hul;have hr:J20 .and .u32 ((upS W b:Nat):Int) ((upS W b:Nat)-1:Int)=((upS W (ctz (upS W b)+1):Nat):Int):=by
        rw[<- v5,show((upS W b:Nat):Int)-1=((upS W b-1:Nat):Int) by omega,J0W hul (by omega)]
       generalize ctz (upS W b)=v at *;have hvn:=J60 hWp v3;have hnl:=Q7m _ (Q3J hg hvn);have hgl:=X4O g W hb;have hga:=J0W hnl hgl;have hgo:=J8T hgl (J2U v1);have hsk:=J5y (g:=g) v2 v4
       repeat' ((conv=>whnf);first|(refine Sv.mk _ hga.symm ?_)|(refine Br.tt ?_)|(refine Br.dec ?_ ?_<;>intro _<;>try omega)|(refine Br.bne ?_ ?_<;>intro _<;>try omega)|(refine Ar.u32 (by omega) (by omega) ?_)|(refine Ar.sh1 (by omega) ?_)|(refine Sv.mk _ rfl ?_)|(refine Nn.mk (by omega) ?_)|(refine Ix.q ?_)|(refine htz.gog ?_)|(refine J1r J0b rfl rfl ?_))
       all_goals (conv=>whnf)
       all_goals
        refine⟨32-(v+1),v+1,by omega,⟨rfl,by omega⟩,?_⟩
        first
        | (have hs:gr g W (v+1)=gr g W b ||| 2 ^ v:=by rw[gr,hsk,if_pos ⟨v3,by omega⟩]
           refine J0e (fun _ _=>[(0,some 0),(1,some 1),(2,some 2),(3,some 3),(999,some 999)]) ?_ ?_ rfl
           . repeat' (first|exact J0a.yld rfl|exact tI|(refine⟨⟨_,rfl,?_⟩,?_⟩)|exact J0a.loc rfl)
           . repeat' (first|exact J0a.int hr|exact J0a.int (by rw[hs];exact hgo)|(refine J0a.fn ?_)|(refine⟨rfl,rfl,rfl,rfl,rfl,?_⟩)|exact tI|exact⟨rfl,rfl,rfl⟩|(refine⟨⟨_,rfl,?_⟩,?_⟩)|exact J0a.kf rfl|exact J0a.loc rfl|apply And.intro))
        | (have hs:gr g W (v+1)=gr g W b:=by rw[gr,hsk,if_neg (fun h=>by have:=h.2;omega)]
           refine J0e (fun _ _=>[(0,some 0),(1,some 1),(2,some 2),(3,some 3),(999,some 999)]) ?_ ?_ rfl
           . repeat' (first|exact J0a.yld rfl|exact tI|(refine⟨⟨_,rfl,?_⟩,?_⟩)|exact J0a.loc rfl)
           . repeat' (first|exact J0a.int hr|exact J0a.int (by rw[hs])|(refine J0a.fn ?_)|(refine⟨rfl,rfl,rfl,rfl,rfl,?_⟩)|exact tI|exact⟨rfl,rfl,rfl⟩|(refine⟨⟨_,rfl,?_⟩,?_⟩)|exact J0a.kf rfl|exact J0a.loc rfl|apply And.intro))
   . repeat' ((conv=>whnf);first|(refine Sv.mk _ ha.symm ?_)|(refine Ar.neg32 hW ?_)|(refine Sv.mk _ hnw.symm ?_)|(refine Br.dec ?_ ?_<;>intro _<;>try omega))
     all_goals (conv=>whnf)
     all_goals first
      | (rw[if_pos (by assumption)];exact VLe.rfl)
      | (rw[if_neg (by assumption),if_neg k2,if_pos (by assumption)];exact VLe.rfl)
      | (rw[if_neg (by assumption),if_neg k2,if_neg (by assumption)];exact VLe.rfl)
theorem Q0a {s:Nat}:s=0↔∀i,s.testBit i=false:=⟨fun h i=>by subst h;simp,fun h=>Nat.eq_of_testBit_eq fun i=>by rw[h,Nat.zero_testBit]⟩
theorem J21 {a b:Nat}:a &&& b=0↔∀i,a.testBit i=true->b.testBit i=false:=by
 rw[Q0a];constructor
 . intro h i hi;have:=h i;rw[Nat.testBit_and,hi,Bool.true_and] at this;exact this
 . intro h i;rw[Nat.testBit_and];cases e:a.testBit i with
   | false=>rfl
   | true=>rw[h i e];rfl
def adj (g:G) (u v:Nat):Bool:=(nm (gR g.ports u)).testBit v
theorem J2M {g:G} {u v:Nat}:adj g u v=true↔∃l∈gR g.ports u,l.1.toNat=v:=by
 rw[adj,X2K,List.any_eq_true];simp
theorem Q9z {g:G} (hg:g.valid=true) {u v:Nat} (hu:u<g.ports.length) (h:adj g u v=true):adj g v u=true:=by
 obtain⟨f1,f2,f3,f4,f5,f6,f7⟩:=J0f hg;obtain⟨l,hl,rfl⟩:=J2M.1 h;exact J2M.2 ⟨_,f7 u hu l hl,by simp⟩
theorem Q9A {g:G} (hg:g.valid=true) {u:Nat} (hu:u<g.ports.length):adj g u u=false:=by
 obtain⟨f1,f2,f3,f4,f5,f6,f7⟩:=J0f hg;cases h:adj g u u with
 | false=>rfl
 | true =>
   obtain⟨l,hl,h2⟩:=J2M.1 h;have:=(J1s.1 (f6 u hu)).1 l hl;omega
theorem X4D {g:G} {s:Nat}:ind g s=true↔∀v u,v<g.ports.length->s.testBit v=true->adj g v u=true->s.testBit u=false:=by
 rw[ind,decide_eq_true_eq];constructor
 . intro h v u hv hb ha;exact J21.1 (h v hv hb) u ha
 . intro h v hv hb;exact J21.2 (fun u ha=>h v u hv hb ha)
theorem J8r (k:Nat):2 ^ k &&& (2 ^ k-1)=0:=by rw[Nat.and_two_pow_sub_one_eq_mod,Nat.mod_self]
theorem X4n (s:Nat):J3P s &&& (J3P s-1)=0:=by
 rw[J3P];split
 . rfl
 . exact J8r _
theorem J2k {g:G} {k:Int} {e c:Nat}:J9C g k e c=true↔c≠0/\J1o c e=0/\okC g k e c=true:=by
 rw[J9C,Bool.and_eq_true,decide_eq_true_eq,and_assoc]
theorem okC1 {g:G} {e c:Nat}:okC g 1 e c=true↔c &&& (c-1)=0:=by rw[okC,if_pos rfl,decide_eq_true_eq]
theorem okC2 {g:G} {e c:Nat}:okC g 2 e c=true↔ind g c=true:=by rw[okC,if_neg (by decide),if_pos rfl]
theorem okC3 {g:G} {e c:Nat}:okC g 3 e c=true:=by rw[okC,if_neg (by decide),if_neg (by decide),if_neg (by decide)]
theorem okC4 {g:G} {e c:Nat}:okC g 4 e c=true↔c=e:=by rw[okC,if_neg (by decide),if_neg (by decide),if_pos rfl,decide_eq_true_eq]
theorem Q2C {g:G} {W b i:Nat} (h:b<=i):(gr g W b).testBit i=false :=
 Nat.testBit_lt_two_pow (Nat.lt_of_lt_of_le (Q8h g W b) (Nat.pow_le_pow_right (n:=2) (by omega) h))
theorem J7k {g:G} {W i:Nat}:∀{b:Nat},i<b->((gr g W b).testBit i=true↔W.testBit i=true/\nm (gR g.ports i) &&& gr g W i=0)
 | b+1,h=>by
   by_cases e:i=b
   . subst e;rw[gr];split
     . rename_i hh;rw[Nat.testBit_or,Nat.testBit_two_pow_self,Bool.or_true];exact⟨fun _=>hh,fun _=>rfl⟩
     . rename_i hh;rw[Q2C (Nat.le_refl _)];exact⟨fun x=>Bool.noConfusion x,fun x=>(hh x).elim⟩
   . have ih:=J7k (g:=g) (W:=W) (i:=i) (b:=b) (by omega);rw[gr];split
     . rw[Nat.testBit_or,Nat.testBit_two_pow,decide_eq_false (by omega),Bool.or_false];exact ih
     . exact ih
theorem X4N (g:G) (W b:Nat):J2e (gr g W b) W:=fun i hi=>by
 by_cases h:i<b
 . exact((J7k h).1 hi).1
 . rw[Q2C (by omega)] at hi;cases hi
theorem Q4g {g:G} {W i b b':Nat} (h:i<b) (h':i<b'):(gr g W b).testBit i=(gr g W b').testBit i:=by
 rw[Bool.eq_iff_iff,J7k h,J7k h']
theorem X2Y {g:G} {W b i:Nat} (h:(gr g W b).testBit i=true):i<b:=by
 rcases Nat.lt_or_ge i b with h'|h'
 . exact h'
 . rw[Q2C h'] at h;cases h
theorem X7s {g:G} (hg:g.valid=true) {W:Nat} (hp:J2e W (J15 g.ports.length)) (b:Nat):ind g (gr g W b)=true:=by
 rw[X4D];intro v u hv hb ha;cases hu:(gr g W b).testBit u with
 | false=>rfl
 | true =>
   exfalso;have hub:=X2Y hu;have hvb:=X2Y hb;rcases Nat.lt_trichotomy u v with h|h|h
   . have h1:=((J7k hvb).1 hb).2;rw[Q4g hub h] at hu;rw[J21.1 h1 u ha] at hu;cases hu
   . subst h;rw[Q9A hg hv] at ha;cases ha
   . have h1:=((J7k hub).1 hu).2;rw[Q4g hvb h] at hb;rw[J21.1 h1 v (Q9z hg hv ha)] at hb;cases hb
theorem Y2B {g:G} {W:Nat} (h0:W≠0) (hW:W<4294967296):gr g W 32≠0:=by
 obtain⟨k1,k2,k3⟩:=J1Z h0 hW;have h1:gr g W (ctz W)=0:=J5y (b:=0) (Nat.zero_le _) (fun j _ hj=>k3 j hj);have h2:=(J7k (g:=g) (W:=W) (i:=ctz W) (b:=32) k1).2 ⟨k2,by rw[h1,Nat.and_zero]⟩;intro h;rw[h,Nat.zero_testBit] at h2;cases h2
theorem X59 {e w:Nat} (h0:e≠0):wsh e w≠0:=by
 rw[wsh];split
 . exact Q2y h0
 . assumption
theorem Q6J {g:G} {k:Int} {e w:Nat} (he:e<4294967296):k≠4->J2e (rs g k e w) (wsh e w):=by
 intro hk;rw[rs];split
 . exact J1W (J8a he)
 . split
   . exact X4N _ _ _
   . exact fun i h=>h
theorem J9l {g:G} (hg:g.valid=true) {k:Int} {e w:Nat} (hk:dk k=true) (he:e<4294967296) (hp:J2e e (J15 g.ports.length)) (h0:e≠0):J9C g k e (rs g k e w)=true:=by
 have hW:=J8a (w:=w) he;have hWe:=Q3f (w:=w) he;have hWp:=J35 hWe hp;have hW0:=X59 (w:=w) h0;rw[Q8J] at hk;rw[J2k];by_cases h4:k=4
 . subst h4;have e1:rs g 4 e w=e:=by rw[rs,if_neg (by decide),if_neg (by decide),if_pos rfl]
   rw[e1];exact⟨h0,(J1S he).2 (fun i h=>h),okC4.2 rfl⟩
 . have hpt:=Q6J (g:=g) (w:=w) he h4;have hlt:rs g k e w<4294967296:=Nat.lt_of_le_of_lt hpt.le hW;refine⟨?_,(J1S hlt).2 (J35 hpt hWe),?_⟩
   . rw[rs];split
     . exact Q2y hW0
     . split
       . exact Y2B hW0 hW
       . exact hW0
   . have hk':k=1\/k=2\/k=3:=by omega
     rcases hk' with rfl|rfl|rfl
     . rw[okC1,rs,if_pos rfl];exact X4n _
     . rw[okC2,rs,if_neg (by decide),if_pos rfl];exact X7s hg hWp 32
     . exact okC3
instance:Inhabited Cnt:=⟨⟨0,0,0,0,0⟩⟩
def chC (p:Pr) (g:G) (k:Int) (c:Cf) (w:Nat):Nat:=rs g k (enN p g c) w
def nxC (p:Pr) (g:G) (k:Int) (c:Cf) (w:Nat):Cf:=J0H p g c (chC p g k c w)
def nxK (p:Pr) (g:G) (k:Int) (c:Cf) (n:Cnt) (w:Nat):Cnt:=n.add (chC p g k c w) (enN p g (nxC p g k c w))
def trc (p:Pr) (g:G) (k:Int):Cf->Cnt->List Nat->List (Cf×Cnt)
 | c,n,[]=>[(c,n)]
 | c,n,w::ws=>(c,n)::(if enN p g c=0 then[] else trc p g k (nxC p g k c w) (nxK p g k c n w) ws)
def X1P (p:Pr) (g:G) (k:Int):Cf->List Nat->List Nat
 | _,[]=>[]
 | c,w::ws=>if enN p g c=0 then[] else chC p g k c w::X1P p g k (nxC p g k c w) ws
def J7X (e:Nat):Cnt:=⟨0,0,0,0,e⟩
theorem Q8E (p:Pr) (g:G) (c:Cf):enN p g c<2 ^ g.ids.length:=Q7r _ _
theorem J9J (p:Pr) {g:G} (hg:g.valid=true) (c:Cf):enN p g c<16777216:=by
 obtain⟨f1,f2,f3,f4,f5,f6,f7⟩:=J0f hg;exact Nat.lt_of_lt_of_le (Q8E p g c) (Nat.pow_le_pow_right (n:=2) (by omega) f2)
theorem J6b (p:Pr) {g:G} (hg:g.valid=true) (c:Cf):enN p g c<4294967296:=by have:=J9J p hg c;omega
theorem J4B (p:Pr) {g:G} (hg:g.valid=true) (c:Cf):J2e (enN p g c) (J15 g.ports.length):=fun i hi=>by
 obtain⟨f1,f2,f3,f4,f5,f6,f7⟩:=J0f hg;rw[enN,J8w,Bool.and_eq_true,decide_eq_true_eq] at hi;rw[Q4i,decide_eq_true_eq];omega
theorem J3U (p:Pr) (g:G) (c:Cf) (v:Nat):(enN p g c).testBit v=(decide (v<g.ids.length)&&decide (0<=J0F p g c v)):=J8w _ _ _
theorem J9V (p:Pr) {g:G} (hg:g.valid=true) {k:Int} (hk:dk k=true) (c:Cf) (w:Nat) (h0:enN p g c≠0) :
 chC p g k c w≠0/\J2e (chC p g k c w) (enN p g c)/\okC g k (enN p g c) (chC p g k c w)=true/\chC p g k c w<16777216/\1<=cnt (chC p g k c w) 32/\cnt (chC p g k c w) 32<=24:=by
 have he:=J6b p hg c;have hi:=J9l hg (w:=w) hk he (J4B p hg c) h0;obtain⟨h1,h2,h3⟩:=J2k.1 hi;have hp:J2e (rs g k (enN p g c) w) (enN p g c):=by
  intro i hb;by_cases e:i<32
  . have:=congrArg (Nat.testBit · i) h2;simp only[Nat.zero_testBit,J00 e,hb,Bool.true_and,Bool.not_eq_false'] at this;exact this
  . exfalso;have hx:rs g k (enN p g c) w<4294967296\/∃j,32<=j/\(rs g k (enN p g c) w).testBit j=true:=by
     right;exact⟨i,by omega,hb⟩
    have h4:rs g k (enN p g c) w<4294967296:=by
     rw[rs];split
     . exact Q7H _ (J8a he)
     . split
       . exact X4O g _ (by omega)
       . split
         . exact he
         . exact J8a he
    have:=Nat.testBit_lt_two_pow (Nat.lt_of_lt_of_le h4 (Nat.pow_le_pow_right (n:=2) (i:=32) (by omega) (show 32<=i by omega)));rw[this] at hb;cases hb
 have hlt:rs g k (enN p g c) w<16777216:=by
  apply Nat.lt_of_not_le;intro hge;obtain⟨i,hi1,hi2⟩:=Nat.exists_ge_and_testBit_of_ge_two_pow (n:=24) hge;have:=hp i hi2;have h24:=Nat.testBit_lt_two_pow (Nat.lt_of_lt_of_le (J9J p hg c) (Nat.pow_le_pow_right (n:=2) (i:=24) (by omega) hi1));rw[h24] at this;cases this
 refine⟨h1,hp,h3,hlt,?_,?_⟩
 . have:∃i,(rs g k (enN p g c) w).testBit i=true:=by
    apply Classical.byContradiction;intro hn;exact h1 (Q0a.2 fun i=>by
     cases hb:(rs g k (enN p g c) w).testBit i with
     | false=>rfl
     | true=>exact(hn ⟨i,hb⟩).elim)
   obtain⟨i,hb⟩:=this;have hi:i<32:=by
    apply Nat.lt_of_not_le;intro hge;have:=Nat.testBit_lt_two_pow (Nat.lt_of_lt_of_le hlt (Nat.pow_le_pow_right (n:=2) (i:=24) (by omega) (show 24<=i by omega)));rw[this] at hb;cases hb
   exact Q2S hb hi
 . have h24:cnt (chC p g k c w) 32=cnt (chC p g k c w) 24:=by
    rw[show(32:Nat)=24+8 from rfl,J5C 24 8];have hz:chC p g k c w >>> 24=0:=by
     rw[Nat.shiftRight_eq_div_pow];exact Nat.div_eq_of_lt hlt
    rw[hz,J9Q (s:=0) (fun i _=>Nat.zero_testBit i)];rfl
   rw[h24];exact J4o _ 24
theorem X70 {kind lo hi v:Int} (h:lo<=hi) (h3:kind=3->lo=-1):lo<=brI kind lo hi v/\brI kind lo hi v<=hi:=by
 unfold brI;split
 . omega
 . split
   . have:=h3 (by assumption);omega
   . split<;>omega
theorem X71 {g:G} (hg:g.valid=true) {x:Vr} (hx:Q9C x) {v:Nat} (hv:v<g.ports.length):(bnd g x v).1<=(bnd g x v).2/\(x.kind=3->(bnd g x v).1=-1):=by
 have h1:=J54 hg hx hv;rcases hx.kind with h|h|h
 . exact⟨h1.2.2.2.2 h,fun e=>by omega⟩
 . rw[bnd,if_neg (by omega),if_pos h];exact⟨by decide,fun e=>by omega⟩
 . rw[bnd,if_neg (by omega),if_neg (by omega)];exact⟨by simp only;omega,fun _=>rfl⟩
theorem J1p (l:List Int) (a i:Nat) (x:Int) (ha:a<l.length):gI (l.set a x) i=if i=a then x else gI l i:=by
 simp only[gI,List.getD,List.getElem?_set];by_cases h:a=i
 . subst h;simp[ha]
 . have:¬ i=a:=fun e=>h e.symm;rw[if_neg h,if_neg this]
theorem J1Q {p:Pr} (hp:J2p p) {g:G} (hg:g.valid=true) {c:Cf} (hc:J1u p g c) {s:Nat} (hs:J2e s (enN p g c)):J1u p g (J0H p g c s):=by
 obtain⟨f1,f2,f3,f4,f5,f6,f7⟩:=J0f hg;have hl:=hc.len;have key:∀v,v<c.length->s.testBit v=true->∀x,x<p.vars.length->(bnd g (gV p.vars x) v).1<=gI (J1E p g c v (J0F p g c v).toNat) x/\gI (J1E p g c v (J0F p g c v).toNat) x<=(bnd g (gV p.vars x) v).2:=by
  intro v hv hb x hx;have hen:=hs v hb;rw[J3U,Bool.and_eq_true,decide_eq_true_eq,decide_eq_true_eq] at hen;have hrl:=J9k p g c v;have hr:(J0F p g c v).toNat<p.rules.length:=by omega
  have hset:=hp.set _ hr;unfold J1E X0J;generalize (gRl p.rules (J0F p g c v).toNat).sets=l at hset;have gen:∀(l:List (Int×Tm)),(∀j,j<l.length->0<=(gS l j).1/\(gS l j).1<p.vars.length)->∀st:List Int,st.length=p.vars.length->((bnd g (gV p.vars x) v).1<=gI st x/\gI st x<=(bnd g (gV p.vars x) v).2) ->
   (bnd g (gV p.vars x) v).1<=gI (l.foldl (X4e p g c v) st) x/\gI (l.foldl (X4e p g c v) st) x<=(bnd g (gV p.vars x) v).2:=by
   intro l
   induction l with
   | nil=>intro _ st _ h;exact h
   | cons a r ih =>
     intro hj st hst h;rw[List.foldl_cons];have ha:0<=a.1/\a.1<p.vars.length:=hj 0 (by simp);refine ih (fun j hj'=>by have:=hj (j+1) (by simpa using hj');simpa[gS] using this) _ (by simp[X4e,hst]) ?_;rw[X4e,J1p _ _ _ _ (by omega)];split
     . rename_i e;subst e;have hb:=X71 hg (hp.var a.1.toNat hx) (v:=v) (by omega);exact X70 hb.1 hb.2
     . exact h
  exact gen l (fun j hj=>⟨(hset j hj).1,(hset j hj).2.1⟩) _ (hc.row v hv) (hc.val v hv x hx)
 refine⟨by rw[J3c];exact hl,fun v hv=>?_,fun v hv x hx=>?_⟩
 . rw[J3c] at hv;rw[J1R p g c s hv];split
   . rw[J1E,J4U];exact hc.row v hv
   . exact hc.row v hv
 . rw[J3c] at hv;rw[J1R p g c s hv];split
   . rename_i hb;exact key v hv hb x hx
   . exact hc.val v hv x hx
theorem Q7i {p:Pr} (hp:J2p p) {g:G} (hg:g.valid=true) {k:Int} (hk:dk k=true) {c:Cf} (hc:J1u p g c) (w:Nat) (h0:enN p g c≠0):J1u p g (nxC p g k c w) :=
 J1Q hp hg hc (J9V p hg hk c w h0).2.1
theorem Y0Q {p:Pr} {g:G} (hg:g.valid=true) {k:Int} (hk:dk k=true) {c:Cf} {n:Cnt} (hn:n.Ok) (h4:n.steps<4096) (w:Nat) (h0:enN p g c≠0):(nxK p g k c n w).Ok/\(nxK p g k c n w).steps=n.steps+1:=by
 obtain⟨c1,c2,c3,c4,c5,c6⟩:=J9V p hg hk c w h0;refine⟨X5L n hn h4 _ _ c5 c6 (J9J p hg _),?_⟩;rw[nxK,Cnt.add];split<;>rfl
theorem X5g {e:Nat} (he:e<16777216):(J7X e).Ok:=⟨by simp[J7X],by simp[J7X],by simp[J7X],by simp[J7X],by simp[J7X],by simp[J7X],he⟩
def J4j (l:List (Cf×Cnt)):Cf:=(l.getLast?.getD default).1
def wsE (l:List Int) (i:Nat):Int:=if l.length=0 then 4294967295 else
 J20 .and .u32 (J20 .or .u32 (IntKind.u32.wrap (J20 .and .u32 (gI l (i % l.length)) 16777215*2 ^ (min (((i:Int).tdiv l.length).tmod 24).toNat 32))) ((J20 .and .u32 (gI l (i % l.length)) 16777215).fdiv (2 ^ (min (24-((i:Int).tdiv l.length).tmod 24).toNat 32)))) 16777215
def wsN (l:List Int) (i:Nat):Nat:=(wsE l i).toNat
theorem wrem {i n:Nat} (h:n≠0):(i:Int).tmod n=((i % n:Nat):Int):=by
 rw[Int.tmod_eq_emod_of_nonneg (by omega)];exact(Int.natCast_emod _ _).symm
open Go.Eng Go.ChangeShapes Go.WideShapes Go.ChangeAt Go.WideMaps Go.WideElems Go.RowKit
theorem ownk:ownKnob Tryz.prog.godebug=none:=by kernel_rfl
theorem Y0Y:laidOutB Tryz.prog=true:=by kernel_rfl
theorem Q4D:Tryz.prog.cellsOf 3=1:=by kernel_rfl
theorem X7V:Tryz.prog.cellsOf 5=1:=by kernel_rfl
theorem X7W:Tryz.prog.cellsOf 4=1:=by kernel_rfl
theorem X5n:Tryz.prog.cellsOf 22=1:=by kernel_rfl
theorem X1S:Tryz.prog.cellsOf 233=32:=by kernel_rfl
theorem X5m:Tryz.prog.cellsOf 24=6:=by kernel_rfl
theorem X6z:Tryz.prog.readableRec 24=true:=by kernel_rfl
theorem X6u:24<Tryz.prog.types.size:=of_decide_eq_true (by kernel_rfl)
theorem X3V:Tryz.prog.wantsStandIn 24=false:=by kernel_rfl
theorem gTab:Tryz.prog.globalNamed "math/bits.deBruijn32tab"=some 0:=by kernel_rfl
theorem tTab:(Tryz.prog.globals[0]?).map (·.type)=some 233:=by kernel_rfl
abbrev Q7Y:List (String×DataW Unit):=[("math/bits.deBruijn32tab",Rows.laid_math_bits_deBruijn32tab)]
theorem X1C (os:Os) (args:Array Value):laidMetH Tryz.prog Q7Y ((World.doorLaid Tryz.prog 400 os).forCall (fun _ _=>0) ⟨#[],args,[]⟩).memory :=
 laidMetH_of_parts3 (fuel:=8) (laidMet_of_run' 8 (by kernel_rfl) (by kernel_rfl)) (by kernel_rfl) (by kernel_rfl)
theorem X4h {W:World} (h:laidMetH Tryz.prog Q7Y W):Den (fun _=>False) W Sg.none (.fe 32 1 tzF 0 0) (.pointer (some ⟨0,0,none⟩)):=by
 rw[MakeChecks.laidMetH_plain _ _ _ (by kernel_rfl)] at h;obtain⟨ps,⟨g0,t0,cs0,f0,p0,q0,hg0,ht0,hv0,hd0,_⟩,_,_⟩:=h;obtain rfl:=Option.some.inj (gTab.symm.trans hg0);obtain rfl:=Option.some.inj (tTab.symm.trans ht0);obtain⟨xs,m1,rfl,hx1,hlen,hn,hel⟩:=DataW.trod_array Tryz.underlying233 hd0;simp only[Prod.mk.injEq] at hx1;have hxs:xs.map (·.1)=tzL.map fun n=>(DataW.lit (.int .u8 n):DataW Unit):=by
  have:=hx1.1;rw[Rows.laid_math_bits_deBruijn32tab] at this;have h2:=DataW.agg.inj this;exact h2.symm
 have key:∀i,i<32->W.cell? ⟨0,i,none⟩=some (.int .u8 (tzL.getD i 0)):=by
  intro i hi;have h0:=hel i hi;rw[X7V,Nat.mul_one] at h0;have hxi:xs[i]?.map (·.1)=some (.lit (.int .u8 (tzL.getD i 0))):=by
   rw[<- List.getElem?_map,hxs,List.getElem?_map,List.getElem?_eq_getElem (show i<tzL.length from hi)];simp only[Option.map_some,List.getD,List.getElem?_eq_getElem (show i<tzL.length from hi),Option.getD_some]
  cases hx:xs[i]? with
  | none=>rw[hx] at hxi;cases hxi
  | some x =>
    rw[hx] at h0 hxi;obtain⟨k,e1,e2,_⟩:=DataW.trod_int Tryz.underlying5 h0;rw[e2] at hxi;simp only[Option.map_some,Option.some.injEq] at hxi;have hk:k=tzL.getD i 0:=by
     have:=DataW.lit.inj hxi;exact(Lit.int.inj this).2
    have hc:=World.var?_cell hg0 hv0 i;rw[hc];have hl:i<cs0.toList.length:=by rw[hlen,X1S];exact hi
    have h3:cs0.toList[i]?=some (.int .u8 k):=by
     have:=congrArg (·[0]?) e1;simpa[List.getElem?_take,List.getElem?_drop] using this
    rw[<- hk];simpa using h3
 have hb:0<W.heap.size:=by
  have:=key 0 (by decide);unfold World.cell? at this;split at this
  . rename_i h;exact lt_of_getElem? h
  . cases this
 exact .fe _ _ _ _ _ _ _ _ (fun i _=>.int .u8 (tzL.getD i 0)) (by decide) (fun h=>h) hb
  (fun i j hi hj=>by(obtain rfl:j=0:=by omega);simpa using key i hi) (fun i j hi hj=>rfl) (fun i j hi hj=>.int _ _ _)
theorem Q7A {n:Nat} (h:n<=maxLen):n<=9223372036854775807:=h
section
variable {H:Type} {enc:TypeId×Value->H} {W:World} {sp:Nat->Bool} {hd:Bool}
theorem X48 {v:Value} {d:DataW H} {ps:List MemPlace} (hv:∃cs,v=.agg cs) (h:DataW.Trod enc Tryz.prog W 0 sp hd 24 v d ps):∃x:Net,x.Small/\Den (fun _=>False) W Sg.none x.v v:=by
 obtain⟨arr,rfl⟩:=hv;obtain⟨fuel,h⟩:=h;obtain⟨hl,n,hf⟩:=J6I Tryz.underlying24 h;simp only[Value.cells] at hl hf;generalize hcs:arr.toList=cs at hl hf;rw[X5m] at hl;obtain⟨x0,y0⟩:=hf 0 _ rfl;obtain⟨x1,y1⟩:=hf 1 _ rfl;obtain⟨x2,y2⟩:=hf 2 _ rfl;obtain⟨x3,y3⟩:=hf 3 _ rfl;obtain⟨x4,y4⟩:=hf 4 _ rfl;obtain⟨x5,y5⟩:=hf 5 _ rfl;simp only[Q4D,X5n,X7W] at y0 y1 y2 y3 y4 y5;obtain⟨n0,e0,_⟩:=J5L Tryz.underlying3 y0;obtain⟨u1,l1,e1,_,d1,m1,_⟩:=J9M Sg.none Tryz.underlying22 Tryz.underlying3 Q4D y1;obtain⟨u2,l2,e2,_,d2,m2,_⟩:=J9M Sg.none Tryz.underlying22 Tryz.underlying3 Q4D y2;obtain⟨u3,l3,e3,_,d3,m3,_⟩:=J9M Sg.none Tryz.underlying22 Tryz.underlying3 Q4D y3;obtain⟨b4,e4⟩:=J4Q Tryz.underlying4 y4;obtain⟨b5,e5⟩:=J4Q Tryz.underlying4 y5
 match cs,hl with
 | [c0,c1,c2,c3,c4,c5],_ =>
   simp at e0 e1 e2 e3 e4 e5;subst e0 e1 e2 e3 e4 e5;refine⟨⟨n0,l1,l2,l3,b4,b5⟩,⟨Q7A m1,Q7A m2,Q7A m3⟩,?_⟩;have:arr=[.int .i64 n0,c1,c2,c3,.bool b4,.bool b5].toArray:=by rw[<- hcs]
   rw[this];refine .agg _ _ _ rfl ?_;intro i v u hv hu
   match i,hv,hu with
   | 0,hv,hu=>simp at hv hu;subst hv hu;exact .int _ _ _
   | 1,hv,hu=>simp at hv hu;subst hv hu;exact d1
   | 2,hv,hu=>simp at hv hu;subst hv hu;exact d2
   | 3,hv,hu=>simp at hv hu;subst hv hu;exact d3
   | 4,hv,hu=>simp at hv hu;subst hv hu;exact .bool _ _
   | 5,hv,hu=>simp at hv hu;subst hv hu;exact .bool _ _
   | i+6,hv,hu=>simp at hv
end
theorem Q5K {W:World} {base:Nat} {v:Value} (h:Value.okWide Tryz.prog W .any base 24 v):∃cs,v=.agg cs:=by
 unfold Value.okWide at h;rw[Tryz.underlying24] at h;obtain⟨cs,h,_⟩:=h;exact⟨cs,h⟩
end Go.Proofs.YtlpfphlbghdokaaGreatDoor
namespace Go.Plain.An
def hit (l ts:List Nat):Nat:=ts.countP fun t=>decide (t∈l)
def J6M (N:Nat) (ar:Nat->List Nat) (t:Nat):List Nat:=(List.range N).flatMap fun k=>List.replicate ((ar k).count t) k
theorem X3W {N:Nat} {ar:Nat->List Nat} {t k:Nat} (h:k∈J6M N ar t):k<N:=by
 obtain⟨a,h1,h2⟩:=List.mem_flatMap.1 h;have:=List.eq_of_mem_replicate h2;subst this;exact List.mem_range.1 h1
theorem J8N (f:Nat->Nat) (k:Nat):∀n,((List.range n).flatMap fun k=>List.replicate (f k) k).count k=if k<n then f k else 0
 | 0=>by simp
 | n+1=>by
   rw[List.range_succ,List.flatMap_append,List.count_append,J8N f k n];simp only[List.flatMap_cons,List.flatMap_nil,List.append_nil,List.count_replicate];by_cases h:n=k
   . subst h;simp
   . simp[h];by_cases h2:k<n
     . rw[if_pos h2,if_pos (by omega)]
     . rw[if_neg h2,if_neg (by omega)]
theorem Q46 {N:Nat} {ar:Nat->List Nat} {t k:Nat} (h:k<N):(J6M N ar t).count k=(ar k).count t:=by
 rw[J6M,J8N (fun k=>(ar k).count t) k N,if_pos h]
theorem Q4f {l:List Nat} {t:Nat} (h:t∉l) (ts:List Nat):hit (l++[t]) ts=hit l ts+ts.count t:=by
 induction ts with
 | nil=>rfl
 | cons a ts ih =>
   simp only[hit,List.countP_cons,List.count_cons] at ih ⊢;rw[ih];by_cases e:a=t
   . subst e;simp[h];omega
   . have e2:¬ (a == t)=true:=by simpa using e
     by_cases q:a∈l
     . simp[q,e];omega
     . simp[q,e]
theorem X7m (l ts:List Nat):hit l ts<=ts.length:=List.countP_le_length
theorem X4G {l ts:List Nat}:hit l ts=ts.length↔∀t∈ts,t∈l:=by
 rw[hit,List.countP_eq_length];simp
theorem Q1h {l:List Nat} {t:Nat} (h:t∉l) (ts:List Nat):hit l ts+ts.count t<=ts.length:=by
 rw[<- Q4f h];exact X7m _ _
variable {N:Nat} {ar:Nat->List Nat} {set:Nat->Bool}
structure X8m (N:Nat) (ar:Nat->List Nat) (set:Nat->Bool) (L:List Nat) (i q:Nat) (en:Nat->Nat):Prop where
 nodup:L.Nodup
 lt:∀k∈L,k<N
 all:∀k,k<N->set k=true->k∈L
 le:i<=L.length
 ent:∀k,k<N->en k=hit (L.take i) (ar k)+((J6M N ar (L.getD i 0)).take q).count k
 mem:∀k,k<N->set k=false->(k∈L↔(ar k≠[]/\hit (L.take i) (ar k)+((J6M N ar (L.getD i 0)).take q).count k=(ar k).length))
 ord:∀(j k:Nat),L[j]?=some k->set k=true\/(ar k≠[]/\∀t∈ar k,∃j',j'<j/\L[j']?=some t)
theorem X8m.start:X8m N ar set ((List.range N).filter set) 0 0 (fun _=>0):=by
 refine⟨List.nodup_range.sublist List.filter_sublist,fun k hk=>?_,fun k hk hs=>?_,Nat.zero_le _,fun k _=>?_,fun k hk hs=>?_,fun j k h=>?_⟩
 . exact List.mem_range.1 (List.mem_filter.1 hk).1
 . exact List.mem_filter.2 ⟨List.mem_range.2 hk,hs⟩
 . simp[hit]
 . constructor
   . intro h;have:=(List.mem_filter.1 h).2;rw[hs] at this;cases this
   . rintro⟨h1,h2⟩;have h3:hit ([]:List Nat) (ar k)=0:=by simp[hit]
     simp only[List.take_zero,List.count_nil] at h2;rw[h3] at h2;exact(h1 (List.length_eq_zero_iff.1 h2.symm)).elim
 . exact .inl (List.mem_filter.1 (List.mem_of_getElem? h)).2
theorem Q0p {L:List Nat} {i:Nat} (h:i<L.length):L.take (i+1)=L.take i++[L.getD i 0]:=by
 rw[List.take_succ_eq_append_getElem h];simp[List.getD,h]
theorem X0Q {L:List Nat} (hn:L.Nodup) {i:Nat} (h:i<L.length):L.getD i 0∉L.take i:=by
 intro hm;obtain⟨j,hj,e⟩:=List.mem_iff_getElem.1 hm;simp only[List.length_take] at hj;rw[List.getElem_take] at e;have e2:L.getD i 0=L[i]:=by simp[List.getD,h]
 rw[e2] at e;have:=(List.getElem_inj hn).1 e;omega
theorem J3V {l:List Nat} {q:Nat} (h:q<l.length) (k:Nat):(l.take (q+1)).count k=(l.take q).count k+if l.getD q 0=k then 1 else 0:=by
 rw[Q0p h,List.count_append,List.count_singleton];by_cases e:l.getD q 0=k<;>simp[e]
theorem J9O (l:List Nat) (q k:Nat):(l.take q).count k<=l.count k:=(List.take_sublist q l).count_le k
theorem X1k {l:List Nat} {q:Nat} (h:q<l.length):l.getD q 0∈l:=by
 have:l.getD q 0=l[q]:=by simp[List.getD,h]
 rw[this];exact List.getElem_mem h
theorem X8m.step {L:List Nat} {i q:Nat} {en:Nat->Nat} (h:X8m N ar set L i q en) (hi:i<L.length) (hq:q<(J6M N ar (L.getD i 0)).length) :
 (J6M N ar (L.getD i 0)).getD q 0<N/\en ((J6M N ar (L.getD i 0)).getD q 0)+1<=(ar ((J6M N ar (L.getD i 0)).getD q 0)).length /\
 X8m N ar set (if set ((J6M N ar (L.getD i 0)).getD q 0)=false/\en ((J6M N ar (L.getD i 0)).getD q 0)+1=(ar ((J6M N ar (L.getD i 0)).getD q 0)).length then L++[(J6M N ar (L.getD i 0)).getD q 0] else L) i (q+1)
  (fun k=>if k=(J6M N ar (L.getD i 0)).getD q 0 then en k+1 else en k):=by
 have ht:=X0Q h.nodup hi;have hk:(J6M N ar (L.getD i 0)).getD q 0<N:=X3W (ar:=ar) (t:=L.getD i 0) (X1k hq);have hc:=J3V hq ((J6M N ar (L.getD i 0)).getD q 0);rw[if_pos rfl] at hc;have hcl:=J9O (J6M N ar (L.getD i 0)) (q+1) ((J6M N ar (L.getD i 0)).getD q 0);rw[Q46 hk] at hcl;have hh:=Q1h ht (ar ((J6M N ar (L.getD i 0)).getD q 0));have he:=h.ent _ hk;generalize hK:(J6M N ar (L.getD i 0)).getD q 0=k at *;have hlt:en k+1<=(ar k).length:=by omega
 refine⟨hk,hlt,?_⟩;have hcn:∀x,((J6M N ar (L.getD i 0)).take (q+1)).count x=((J6M N ar (L.getD i 0)).take q).count x+if k=x then 1 else 0:=fun x=>by
  rw[J3V hq x,hK]
 have hent:∀x,x<N->(fun x=>if x=k then en x+1 else en x) x=hit (L.take i) (ar x)+((J6M N ar (L.getD i 0)).take (q+1)).count x:=fun x hx=>by
  have:=h.ent x hx;rw[hcn x];show(if x=k then en x+1 else en x)=_;by_cases e:x=k
  . rw[if_pos e,if_pos e.symm];omega
  . rw[if_neg e,if_neg (fun q=>e q.symm)];omega
 by_cases hs:set k=false/\en k+1=(ar k).length
 . rw[if_pos hs];obtain⟨hs,hL⟩:=hs;have hnm:k∉L:=fun hm=>by
    have:=((h.mem k hk hs).1 hm).2;omega
   have hi':i<=L.length:=by omega
   have etk:(L++[k]).take i=L.take i:=List.take_append_of_le_length hi';have egd:(L++[k]).getD i 0=L.getD i 0:=by
    simp only[List.getD,List.getElem?_append_left hi]
   refine⟨?_,fun x hx=>?_,fun x hx hsx=>List.mem_append_left _ (h.all x hx hsx),by simp;omega,?_,fun x hx hsx=>?_,fun j x hj=>?_⟩
   . refine List.nodup_append.2 ⟨h.nodup,by simp,fun a ha b hb=>?_⟩;simp at hb;subst hb;intro e;subst e;exact hnm ha
   . rcases List.mem_append.1 hx with hx|hx
     . exact h.lt x hx
     . simp at hx;subst hx;exact hk
   . rw[etk,egd];exact hent
   . rw[etk,egd,hcn x,List.mem_append];have:=h.mem x hx hsx;by_cases e:x=k
     . subst e;rw[if_pos rfl];constructor
       . intro _;refine⟨fun q=>by rw[q] at hL;simp at hL,?_⟩;have:=h.ent x hx;omega
       . intro _;exact .inr (by simp)
     . rw[if_neg (fun q=>e q.symm),Nat.add_zero,<- this];constructor
       . rintro (h1|h1)
         . exact h1
         . simp at h1;exact(e h1).elim
       . exact .inl
   . by_cases hjl:j<L.length
     . rw[List.getElem?_append_left hjl] at hj;rcases h.ord j x hj with h1 | ⟨h0,h1⟩
       . exact .inl h1
       . refine .inr ⟨h0,fun t ht=>?_⟩;obtain⟨j',h2,h3⟩:=h1 t ht;exact⟨j',h2,by rw[List.getElem?_append_left (by omega)];exact h3⟩
     . have ej:j=L.length:=by
        have:j<(L++[k]).length:=by
         rcases Nat.lt_or_ge j (L++[k]).length with q|q
         . exact q
         . rw[List.getElem?_eq_none q] at hj;cases hj
        simp at this;omega
       subst ej;have ex:x=k:=by simpa using hj.symm
       subst ex;have hall:hit (L.take i++[L.getD i 0]) (ar x)=(ar x).length:=by
        rw[Q4f ht];have:=Q1h ht (ar x);omega
       refine .inr ⟨fun q=>by rw[q] at hL;simp at hL,fun t ht2=>?_⟩;have hm:=X4G.1 hall t ht2;rw[<- Q0p hi] at hm;obtain⟨j',h1,h2⟩:=List.mem_iff_getElem.1 hm;simp only[List.length_take] at h1;rw[List.getElem_take] at h2;refine⟨j',by omega,?_⟩;rw[List.getElem?_append_left (by omega),List.getElem?_eq_getElem (by omega),h2]
 . rw[if_neg hs];refine⟨h.nodup,h.lt,h.all,h.le,hent,fun x hx hsx=>?_,h.ord⟩;rw[hcn x,h.mem x hx hsx];by_cases e:x=k
   . subst e;rw[if_pos rfl];have hne:¬ (en x+1=(ar x).length):=fun q=>hs ⟨hsx,q⟩;have:=h.ent x hx;constructor
     . rintro⟨_,h2⟩;omega
     . rintro⟨_,h2⟩;omega
   . rw[if_neg (fun q=>e q.symm),Nat.add_zero]
end Go.Plain.An
