import Derived.Test.YtlpfphlbghdokaaGreatDoorGR10
import Derived.Test.YtlpfphlbghdokaaGreatDoorEngZ
import Derived.Test.YtlpfphlbghdokaaGreatDoorGRCode
import Derived.Test.YtlpfphlbghdokaaGreatDoorEngT
import Derived.Test.YtlpfphlbghdokaaGreatDoorRows
import Derived.LaidMore
import Derived.Stop.Joined
import Derived.SevenTiedAt
import GoSem.ClaimSeven
namespace Go.Proofs.YtlpfphlbghdokaaGreatDoor
open Go.Eng
set_option maxRecDepth 100000
set_option linter.unusedVariables false
def Q4m (p:Pr) (g:G) (v:Nat):Nat->Nat->V:=fun x j=>match j with
 | 0=>.int .i64 (bnd g (gV p.vars x) v).1
 | _=>.int .i64 (bnd g (gV p.vars x) v).2
def tbl (p:Pr) (g:G):Nat->Nat->V:=fun v _=>.fz p.vars.length 2 false (Q4m p g v)
def Q8R (p:Pr) (g:G):V:=.fz g.ids.length 1 false (tbl p g)
def opn (v n k:Nat):List (Nat×Nat):=if v<n then[(v,k)] else[]
def Q3g (m v:Nat):Nat->Nat:=fun i=>if i<v then m else 0
def Q9C (p:Pr) (g:G) (v x:Nat):Nat->Nat->V:=fun i j=>if i<x then Q4m p g v i j else .int .i64 0
theorem Q5U (p:Pr) (g:G) (v x i j:Nat) (hj:j<2):VLe (J0L (J0L (Q9C p g v x) x 0 [.int .i64 (bnd g (gV p.vars x) v).1]) x 1 [.int .i64 (bnd g (gV p.vars x) v).2] i j) (Q9C p g v (x+1) i j):=by
 apply VLe.of_eq;by_cases h:i=x
 . subst h;obtain rfl|rfl:j=0\/j=1:=by omega
   . simp[J0L,Q9C,Q4m]
   . simp[J0L,Q9C,Q4m]
 . have h1:(i<x+1)=(i<x):=by simp;omega
   simp[J0L,Q9C,h,h1]
theorem J2C {c:List Nat} {q:Nat} {chg:List Nat} (h:J05 q chg=true):∀k,k∈(q::c)->k∈c\/k∈chg:=fun k hk=>by
 rcases List.mem_cons.1 hk with e|e
 . exact .inr (by rw[e];exact J0m.1 h)
 . exact .inl e
theorem Q0s (m v:Nat):Q3g m v v=0:=if_neg (by omega)
theorem J58 (m v i:Nat):J2N (Q3g m v) v m i=Q3g m (v+1) i:=by
 simp only[J2N,Q3g];by_cases h:i=v
 . rw[if_pos h,if_pos (by omega)]
 . rw[if_neg h];by_cases h2:i<v
   . rw[if_pos h2,if_pos (by omega)]
   . rw[if_neg h2,if_neg (by omega)]
theorem J93 (p:Pr) (g:G) (v i j t:Nat) (hj:j<J2N (Q3g p.vars.length v) v p.vars.length i) (ht:t<2):VLe (J3n (Q4m p g) v (Q9C p g v p.vars.length) i j t) (Q4m p g i j t):=by
 apply VLe.of_eq;simp only[J3n];split
 . rename_i e;subst e;rw[J2N,if_pos rfl] at hj;rw[Q9C,if_pos hj]
 . rfl
theorem J6V {a b chg:List Nat} (h:(a.all fun k=>J05 k b)=true):∀k,k∈a->k∈b\/k∈chg:=fun k hk=>.inl (J0m.1 (List.all_eq_true.1 h k hk))
set_option maxHeartbeats 8000000 in
theorem J3T (p:Pr) (hp:J2I p) (g:G) (hg:g.valid=true):Ret Tryz.prog 33 [p.v,g.v] (Q8R p g):=by
 obtain⟨f1,f2,f3,f4,f5,f6,f7⟩:=J0e hg;have hvl:=hp.vlen;refine J0g rfl ?_;refine J0d J0b Tryz.func33 rfl hc33 hr33 rfl ?_
 repeat' ((conv=>whnf);first|(refine Bd.nat (by omega) ?_)|(refine Len.mk (by omega) ?_)|(refine MkS.vec ?_))
 all_goals (conv=>whnf)
 refine J02 J0b [2,3,5,14] [3] [4,5,6,7,8,9,10,11,12,13,14,15,16,17,18,19,20,21,22,23,24,25,26,27,28,29] [3,2,1,0] (fun v:Nat=>[(15,.int .i64 v)])
  (fun own v=>(3,.vec (Q3g p.vars.length v v) 2 (Q4m p g v))::J1I (J1I own 2 (.fam g.ids.length 2 (Q3g p.vars.length v) (Q4m p g) [])) 2 (.fam g.ids.length 2 (Q3g p.vars.length v) (Q4m p g) (opn v g.ids.length 3))) (fun k v=>k=g.ids.length-v/\v<=g.ids.length) g.ids.length 0 ⟨rfl,Nat.zero_le _⟩ rfl (fun _=>rfl) ?_ ?_
 . have e:opn 0 g.ids.length 3=[(0,3)]:=if_pos (by omega);simp only[e];refine J3t.trans ?_ (J09 (ks:=[3,4,5,6,7,8,9,10,11,12,13,14,15,16,17,18,19,20,21,22,23,24,25,26,27,28,29]) rfl rfl rfl (by omega) rfl) (J2C rfl);refine J0f (fun _ _=>[(0,some 0),(1,some 1),(2,some 2)]) ?_ ?_ rfl
   . repeat' (first|exact True.intro|(refine⟨⟨_,rfl,?_⟩,?_⟩)|exact J0a.kf rfl|exact J0a.loc rfl|exact J0a.vec rfl rfl rfl)
   . repeat' (first|exact⟨rfl,rfl,rfl,fun i hi=>⟨rfl,if_neg (by omega)⟩⟩|exact True.intro|(refine⟨⟨_,rfl,?_⟩,?_⟩)|exact J0a.kf rfl|(refine And.intro ?_ ?_))
 rintro k v ⟨hk,hv⟩;by_cases hvn:v<g.ids.length
 . have e:opn v g.ids.length 3=[(v,3)]:=if_pos hvn;simp only[e]
   repeat' ((conv=>whnf);first|(refine Br.dec ?_ ?_<;>intro _<;>try omega)|(refine Ix.nat (by omega) ?_)|(refine Bd.nat (by omega) ?_)|(refine Len.mk (by omega) ?_)|(refine Ltn.mk (by omega) ?_)|(refine J1W.hd (by omega) ?_))
   all_goals (conv=>whnf)
   refine J02 J0b [2,3,5,6,14,15,26,27] [4] [5,6,7,8,9,10,11,12,13,14,15,16,17,18,19,20,21,22,23,24,25,26,27,28,29] [4,3,2,1,0] (fun x:Nat=>[(28,.int .i64 x)])
    (fun own x=>J1I own 4 (.vec p.vars.length 2 (Q9C p g v x))) (fun k x=>k=p.vars.length-x/\x<=p.vars.length) p.vars.length 0 ⟨rfl,Nat.zero_le _⟩ rfl (fun _=>rfl) ?_ ?_
   . refine J0f (fun _ _=>[(0,some 0),(1,some 1),(2,some 2),(3,some 3),(4,some 4)]) ?_ ?_ rfl
     . repeat' (first|exact True.intro|(refine⟨⟨_,rfl,?_⟩,?_⟩)|exact J0a.kf rfl|exact J0a.loc rfl|exact J0a.vec rfl rfl rfl)
     . repeat' (first|exact⟨rfl,rfl,⟨rfl,rfl,True.intro⟩,fun i hi=>rfl,fun i j t hi hn hj ht=>VLe.rfl⟩|(refine⟨Nat.le_refl _,rfl,fun i j hi hj=>VLe.of_eq ?_⟩;rw[Q9C,if_neg (by omega)];(obtain rfl|rfl:j=0\/j=1:=by omega)<;>rfl)|exact True.intro|(refine⟨⟨_,rfl,?_⟩,?_⟩)|exact J0a.kf rfl|(refine⟨Nat.le_refl _,rfl,fun i j hi hj=>?_⟩)|exact VLe.rfl|(refine And.intro ?_ ?_))
   rintro k x ⟨hk2,hx⟩;by_cases hxn:x<p.vars.length
   . have hb:=X18 g hg _ (hp.var x hxn) v (by omega)
     repeat' ((conv=>whnf);first|(refine Br.dec ?_ ?_<;>intro _<;>try omega)|(refine Ar.i64 (by omega) (by omega) ?_)|(refine Ix.nat (by omega) ?_)|(refine Ix.mk 0 rfl (by omega) ?_)|(refine Ix.mk 1 rfl (by omega) ?_)|(refine Ltn.mk (by omega) ?_)|(refine Opn.hdl (by omega) (show J2N _ _ _ _=p.vars.length from if_pos rfl) ?_)|(refine hb.go ?_)|(refine And.intro (Ltn.mk (by omega) (Opn.hdl (by omega) (show J2N _ _ _ _=p.vars.length from if_pos rfl) rfl)) ?_))
     all_goals (conv=>whnf)
     refine⟨p.vars.length-(x+1),x+1,by omega,⟨rfl,by omega⟩,?_⟩;refine J0f (fun _ _=>[(0,some 0),(1,some 1),(2,some 2),(3,some 3),(4,some 4)]) ?_ ?_ rfl
     . repeat' (first|exact True.intro|(refine⟨⟨_,rfl,?_⟩,?_⟩)|exact J0a.kf rfl|exact J0a.loc rfl|exact J0a.vec rfl rfl rfl)
     . repeat' (first|exact⟨rfl,rfl,⟨rfl,rfl,True.intro⟩,fun i hi=>rfl,fun i j t hi hn hj ht=>VLe.rfl⟩|(simp only[Nat.zero_add,Nat.zero_mul,Nat.one_mul];exact Q5U p g v x _ _ hj)|exact True.intro|(refine⟨⟨_,rfl,?_⟩,?_⟩)|exact J0a.kf rfl|(refine⟨Nat.le_refl _,rfl,fun i j hi hj=>?_⟩)|exact VLe.rfl|(refine And.intro ?_ ?_))
   . have ex:x=p.vars.length:=by omega
     subst ex
     repeat' ((conv=>whnf);first|(refine Br.dec ?_ ?_<;>intro _<;>try omega)|(refine Ar.i64 (by omega) (by omega) ?_))
     all_goals (conv=>whnf)
     refine⟨g.ids.length-(v+1),v+1,by omega,⟨rfl,by omega⟩,?_⟩;refine J3t.trans (J15 (J1i (q:=4) (k:=2) (i:=v) [] rfl rfl hvn (J0n rfl) (Nat.le_of_eq (if_pos rfl)) rfl (fun j hj=>(J0j (fun e=>hj e.symm)).symm))) ?_ (J6V rfl);by_cases h1:v+1<g.ids.length
     . have e1:opn (v+1) g.ids.length 3=[(v+1,3)]:=if_pos h1;simp only[e1];refine J3t.trans ?_ (J09 (ks:=[3,4,5,6,7,8,9,10,11,12,13,14,15,16,17,18,19,20,21,22,23,24,25,26,27,28,29]) rfl rfl rfl h1 rfl) (J2C rfl);refine J0f (fun _ _=>[(0,some 0),(1,some 1),(2,some 2)]) ?_ ?_ rfl
       . repeat' (first|exact True.intro|(refine⟨⟨_,rfl,?_⟩,?_⟩)|exact J0a.kf rfl|exact J0a.loc rfl|exact J0a.vec rfl rfl rfl)
       . repeat' (first|exact⟨rfl,rfl,True.intro,fun i hi=>(J58 _ _ _).symm,fun i j t hi hn hj ht=>J93 p g v i j t hj ht⟩|exact True.intro|(refine⟨⟨_,rfl,?_⟩,?_⟩)|exact J0a.kf rfl|(refine And.intro ?_ ?_))
     . have e1:opn (v+1) g.ids.length 3=[]:=if_neg h1;simp only[e1];refine J0f (fun _ _=>[(0,some 0),(1,some 1),(2,some 2),(3,none)]) ?_ ?_ rfl
       . repeat' (first|exact True.intro|(refine⟨⟨_,rfl,?_⟩,?_⟩)|exact J0a.kf rfl|exact J0a.loc rfl|exact J0a.vec rfl rfl rfl)
       . repeat' (first|exact⟨rfl,rfl,True.intro,fun i hi=>(J58 _ _ _).symm,fun i j t hi hn hj ht=>J93 p g v i j t hj ht⟩|exact⟨2,Q4m p g (v+1),by rw[Q0s]⟩|exact True.intro|(refine⟨⟨_,rfl,?_⟩,?_⟩)|exact J0a.kf rfl|(refine And.intro ?_ ?_))
 . have e:opn v g.ids.length 3=[]:=if_neg hvn;have ev:v=g.ids.length:=by omega
   simp only[e]
   repeat' ((conv=>whnf);first|(refine Br.dec ?_ ?_<;>intro _<;>try omega)|(refine Len.mk (by omega) ?_))
   all_goals (conv=>whnf)
   refine VLe.fz rfl (fun h=>h) (fun i j hi hj=>?_);show VLe (.fz (Q3g p.vars.length v i) 2 false (Q4m p g i)) (.fz p.vars.length 2 false (Q4m p g i));rw[show Q3g p.vars.length v i=p.vars.length from if_pos (by omega)];exact VLe.rfl
theorem Q9u (p:Pr) (g:G) (v:Nat) (l:List Int) (h1:p.vars.length<=1000) (h:l.length=p.vars.length) (hb:∀x,x<p.vars.length->(bnd g (gV p.vars x) v).1<=gI l x/\gI l x<=(bnd g (gV p.vars x) v).2) :
 Ret Tryz.prog 173 [.fz p.vars.length 2 false (Q4m p g v),.fz l.length 1 false (vI l)] (.bool true):=by
 refine J0g rfl ?_;refine J0d J0b Tryz.func173 rfl X95 X9q rfl ?_
 repeat' ((conv=>whnf);first|(refine Br.bne ?_ ?_<;>intro _<;>try omega))
 all_goals (conv=>whnf)
 refine J0N J0b [0,12,13] (fun i:Nat=>[(14,.int .i64 i)]) (fun m i=>m=l.length-i/\i<=l.length) l.length 0 ⟨rfl,Nat.zero_le _⟩ ?_ ?_
 . exact J0k (fun _ _=>[])
 rintro m i ⟨hm,hi⟩;by_cases hil:i<l.length
 . have hb:=hb i (by omega)
   repeat' ((conv=>whnf);first|(refine Br.dec ?_ ?_<;>intro _<;>try omega)|(refine Ar.i64 (by omega) (by omega) ?_)|(refine Ix.nat (by omega) ?_)|(refine Ix.mk 0 rfl (by omega) ?_)|(refine Ix.mk 1 rfl (by omega) ?_))
   all_goals (conv=>whnf)
   all_goals first
    | (exfalso;omega)
    | (refine⟨l.length-(i+1),i+1,by omega,⟨rfl,by omega⟩,?_⟩
       exact J0k (fun _ _=>[]))
 . repeat' ((conv=>whnf);first|(refine Br.dec ?_ ?_<;>intro _<;>try omega))
   all_goals (conv=>whnf)
   exact VLe.rfl
structure J1s (p:Pr) (g:G) (c:Cf):Prop where
 len:c.length=g.ids.length
 row:∀v,v<c.length->(gC c v).length=p.vars.length
 val:∀v,v<c.length->∀x,x<p.vars.length->(bnd g (gV p.vars x) v).1<=gI (gC c v) x/\gI (gC c v) x<=(bnd g (gV p.vars x) v).2
theorem J1s.fit {p:Pr} (hp:J2I p) {g:G} (hg:g.valid=true) {c:Cf} (h:J1s p g c):Fit g p.vars.length c:=by
 obtain⟨f1,f2,f3,f4,f5,f6,f7⟩:=J0e hg;refine⟨h.len.trans f3.symm,h.row,fun v hv x hx=>?_⟩;have h1:=h.val v hv x hx;have h2:=J5U hg (hp.var x hx) (v:=v) (by rw[f3,<- h.len];exact hv);unfold inR;omega
theorem Q37 (p:Pr) (hp:J2I p) (g:G) (hg:g.valid=true) (c:Cf) (hc:J1s p g c):Ret Tryz.prog 152 [Q8R p g,cV c] (.bool true):=by
 obtain⟨f1,f2,f3,f4,f5,f6,f7⟩:=J0e hg;have hcl:=hc.len;refine J0g rfl ?_;refine J0d J0b Tryz.func152 rfl Y0a X9v rfl ?_
 repeat' ((conv=>whnf);first|(refine Br.bne ?_ ?_<;>intro _<;>try omega))
 all_goals (conv=>whnf)
 refine J0N J0b [1,12,13] (fun i:Nat=>[(14,.int .i64 i)]) (fun m i=>m=g.ids.length-i/\i<=g.ids.length) g.ids.length 0 ⟨rfl,Nat.zero_le _⟩ ?_ ?_
 . exact J0k (fun _ _=>[])
 rintro m i ⟨hm,hi⟩;by_cases hil:i<g.ids.length
 . have hs:=Q9u p g i (gC c i) hp.vlen (hc.row i (by omega)) (hc.val i (by omega))
   repeat' ((conv=>whnf);first|(refine Br.tt ?_)|(refine Br.dec ?_ ?_<;>intro _<;>try omega)|(refine Ar.i64 (by omega) (by omega) ?_)|(refine Ix.nat (by omega) ?_)|(refine hs.go ?_))
   all_goals (conv=>whnf)
   refine⟨g.ids.length-(i+1),i+1,by omega,⟨rfl,by omega⟩,?_⟩;exact J0k (fun _ _=>[])
 . repeat' ((conv=>whnf);first|(refine Br.dec ?_ ?_<;>intro _<;>try omega))
   all_goals (conv=>whnf)
   exact VLe.rfl
theorem X0L (p:Pr) (hp:J2I p) (g:G) (hs:g.Small) (hg:g.valid=true) (c:Cf) (hc:J1s p g c):Ret Tryz.prog 123 [p.v,g.v,cV c] (.int .i64 0):=by
 have h1:=J9i p hp g hs hg;have h2:=J3T p hp g hg;have h3:=Q37 p hp g hg c hc;refine J0g rfl ?_;refine J0d J0b Tryz.func123 rfl Y0f X9A rfl ?_
 repeat' ((conv=>whnf);first|(refine Br.tt ?_)|(refine Br.ff ?_)|(refine h1.go ?_)|(refine h2.go ?_)|(refine h3.go ?_))
 all_goals (conv=>whnf)
 exact VLe.rfl
theorem Q6B (p:Pr) (hp:J2I p) (g:G) (hs:g.Small) (hg:g.valid=true) (c:Cf) (hc:J1s p g c):Ret Tryz.prog 80 [p.v,g.v,cV c] (.bool true):=by
 have h1:=X0L p hp g hs hg c hc;refine J0g rfl ?_;refine J0d J0b Tryz.func80 rfl hc80 hr80 rfl ?_
 repeat' ((conv=>whnf);first|(refine Br.tt ?_)|(refine h1.go ?_))
 all_goals (conv=>whnf)
 exact VLe.rfl
def mvP (p:Pr) (g:G):V:=.fe 1 5 (tab [[.str p.nm,p.pg.vs,p.pg.rs,scP p.pg g,Q8R p g]]) 0 0
theorem X0c (p:Pr) (hp:J2I p) (g:G) (hg:g.valid=true) (c:Cf) (hc:J1s p g c) (v:Nat) (hv:v<g.ports.length) (i:Nat) (hi:i<p.rules.length) :
 Ret Tryz.prog 103 [scP p.pg g,cV c,.int .i64 v,.int .i64 i] (.bool (decide ((gRl p.rules i).gd.sem g c v (-1)≠0))):=by
 have hgd:=hp.gd i hi;simp only[Tm.okB,Bool.and_eq_true,decide_eq_true_eq] at hgd;have h1:=Q34 p.pg g hg (hc.fit hp hg) v hv (gRl p.rules i).gd hgd.2 hgd.1;refine J0g rfl ?_;refine J0d J0b Tryz.func103 rfl Y0x X9S rfl ?_
 repeat' ((conv=>whnf);first|(refine Br.bne ?_ ?_<;>intro _<;>try omega)|(refine Ix.nat (by omega) ?_)|(refine h1.go ?_))
 all_goals (conv=>whnf)
 . rename_i h;exact VLe.bool (decide_eq_true h).symm
 . rename_i h;exact VLe.bool (decide_eq_false (by simpa using h)).symm
def gds (p:Pr) (g:G) (c:Cf) (v:Nat):List Int:=p.rules.map fun r=>r.gd.sem g c v (-1)
def J0U (p:Pr) (g:G) (c:Cf) (v:Nat):Int:=Q0B 0 (gds p g c v)
theorem X3N (p:Pr) (g:G) (c:Cf) (v i:Nat) (hi:i<p.rules.length):gI (gds p g c v) i=(gRl p.rules i).gd.sem g c v (-1):=by
 simp[gds,gI,gRl,hi]
theorem Q5P (p:Pr) (hp:J2I p) (g:G) (hg:g.valid=true) (c:Cf) (hc:J1s p g c) (v:Nat) (hv:v<g.ports.length) :
 Ret Tryz.prog 65 [mvP p g,cV c,.int .i64 v] (.int .i64 (J0U p g c v)):=by
 have hrl:=hp.rlen;have hgl:(gds p g c v).length=p.rules.length:=by simp[gds]
 refine J0g rfl ?_;refine J0d J0b Tryz.func65 rfl hc65 hr65 rfl ?_
 repeat' ((conv=>whnf);first|fail)
 all_goals (conv=>whnf)
 refine J0N J0b [0,1,2,13] (fun i:Nat=>[(14,.int .i64 i)]) (fun m i=>m=p.rules.length-i/\i<=p.rules.length/\∀a∈(gds p g c v).take i,a=0) p.rules.length 0 ⟨rfl,Nat.zero_le _,by simp⟩ ?_ ?_
 . exact J0k (fun _ _=>[])
 rintro m i ⟨hm,hi,hall⟩;by_cases hil:i<p.rules.length
 . have hgu:=X0c p hp g hg c hc v hv i hil;have hge:=X3N p g c v i hil;by_cases hz:(gRl p.rules i).gd.sem g c v (-1)=0
   . rw[decide_eq_false (by simpa using hz)] at hgu
     repeat' ((conv=>whnf);first|(refine Br.ff ?_)|(refine Br.dec ?_ ?_<;>intro _<;>try omega)|(refine Ar.i64 (by omega) (by omega) ?_)|(refine hgu.go ?_))
     all_goals (conv=>whnf)
     refine⟨p.rules.length-(i+1),i+1,by omega,⟨rfl,by omega,?_⟩,?_⟩
     . rw[J1p _ i (by omega)];intro a ha;rcases List.mem_append.1 ha with h|h
       . exact hall a h
       . simp at h;rw[h,hge];exact hz
     . exact J0k (fun _ _=>[])
   . rw[decide_eq_true hz] at hgu
     repeat' ((conv=>whnf);first|(refine Br.tt ?_)|(refine Br.dec ?_ ?_<;>intro _<;>try omega)|(refine hgu.go ?_))
     all_goals (conv=>whnf)
     refine VLe.int ?_;rw[J0U,J2v _ 0 i (by omega) hall,Q7p _ i (by omega)];simp only[Q0B,hge];rw[if_pos hz];omega
 . repeat' ((conv=>whnf);first|(refine Br.dec ?_ ?_<;>intro _<;>try omega))
   all_goals (conv=>whnf)
   refine VLe.int ?_;rw[J0U,J2v _ 0 i (by omega) hall,List.drop_of_length_le (by omega)];rfl
theorem X6p (p:Pr) (hp:J2I p) (g:G) (hg:g.valid=true) (c:Cf) (hc:J1s p g c) (v:Nat) (hv:v<g.ports.length) :
 Ret Tryz.prog 125 [.int .i64 v,.fe 1 1 (tab [[mvP p g]]) 0 0,.fe 1 1 (tab [[cV c]]) 0 0] (.bool (decide (0<=J0U p g c v))):=by
 have h1:=Q5P p hp g hg c hc v hv;refine J0g rfl ?_;refine J0d J0b Tryz.func125 rfl Y0d X9y rfl ?_
 repeat' ((conv=>whnf);first|(refine Br.dec ?_ ?_<;>intro _<;>try omega)|(refine h1.go ?_))
 all_goals (conv=>whnf)
 . rename_i h;exact VLe.bool (decide_eq_true (by omega)).symm
 . rename_i h;exact VLe.bool (decide_eq_false (by omega)).symm
def enN (p:Pr) (g:G) (c:Cf):Nat:=nb (fun v=>decide (0<=J0U p g c v)) g.ids.length
theorem J5e:∀(l:Lt2) (k i:Nat) (b:Int),i<=l.length->(∀a∈l.take i,a.1≠b)->Q1h k l b=Q1h (k+i) (l.drop i) b
 | _,k,0,_,_,_=>by simp
 | [],k,i+1,b,h,_=>by simp at h
 | a::r,k,i+1,b,h,h2=>by
   have ha:a.1≠b:=h2 a (by simp);simp only[Q1h,ha,if_false,List.drop_succ_cons];rw[J5e r (k+1) i b (by simpa using h) (fun x hx=>h2 x (by simp[hx]))];congr 1;omega
theorem X5x (g:G) (hg:g.valid=true) (a:Nat) (b:Int) (ha:a<g.ports.length):Ret Tryz.prog 149 [g.v,.int .i64 a,.int .i64 b] (.int .i64 (Q1h 0 (gR g.ports a) b)):=by
 have hrl:=J6G hg a;refine J0g rfl ?_;refine J0d J0b Tryz.func149 rfl Y0c X9x rfl ?_
 repeat' ((conv=>whnf);first|(refine Ix.nat (by omega) ?_))
 all_goals (conv=>whnf)
 refine J0N J0b [2,13,14] (fun i:Nat=>[(15,.int .i64 i)]) (fun m i=>m=(gR g.ports a).length-i/\i<=(gR g.ports a).length/\∀l∈(gR g.ports a).take i,l.1≠b) (gR g.ports a).length 0 ⟨rfl,Nat.zero_le _,by simp⟩ ?_ ?_
 . exact J0k (fun _ _=>[(0,some 0)])
 rintro m i ⟨hm,hi,hall⟩
 repeat' ((conv=>whnf);first|(refine Br.dec ?_ ?_<;>intro _<;>try omega)|(refine Ar.i64 (by omega) (by omega) ?_)|(refine Ix.nat (by omega) ?_))
 all_goals (conv=>whnf)
 . refine VLe.int ?_;rename_i h;rw[J5e _ 0 i b hi hall,Q1Z _ i (by omega),Q1h,if_pos h];omega
 . rename_i h;refine⟨(gR g.ports a).length-(i+1),i+1,by omega,⟨rfl,by omega,?_⟩,?_⟩
   . rw[J3r _ i (by omega)];intro l hl;rcases List.mem_append.1 hl with h1|h1
     . exact hall l h1
     . simp at h1;rw[h1];exact h
   . exact J0k (fun _ _=>[(0,some 0)])
 . refine VLe.int ?_;rw[J5e _ 0 i b hi hall,List.drop_of_length_le (by omega)];rfl
def J99 (g:G) (v:Nat):Nat->Nat->V:=fun i _=>.int .i64 (J7x g v i)
def Q45 (g:G) (v:Nat):Nat->Nat:=fun i=>if i<v then (gR g.ports i).length else 0
theorem Q0t (g:G) (v:Nat):Q45 g v v=0:=if_neg (by omega)
theorem Q3i (g:G) (v i:Nat):J2N (Q45 g v) v (gR g.ports v).length i=Q45 g (v+1) i:=by
 simp only[J2N,Q45];by_cases h:i=v
 . rw[if_pos h,if_pos (by omega),h]
 . rw[if_neg h];by_cases h2:i<v
   . rw[if_pos h2,if_pos (by omega)]
   . rw[if_neg h2,if_neg (by omega)]
theorem Q6Z (g:G) (v i:Nat):J2N (Q45 g v) v 0 i=Q45 g v i:=by
 simp only[J2N];split
 . rename_i e;subst e;exact(Q0t g i).symm
 . rfl
theorem Q5L (f:Nat->Nat) (v a b i:Nat):J2N f v b i=J2N (J2N f v a) v b i:=by
 simp only[J2N];split<;>rfl
theorem J91 (g:G) (v i j t:Nat):VLe (J3n (J99 g) v (J99 g v) i j t) (J99 g i j t):=by
 apply VLe.of_eq;simp only[J3n];split
 . rename_i e;rw[e]
 . rfl
theorem Q87 (g:G) (v i a b:Nat) (ha:a<i+1) (hb:b<1):VLe (J5p (J0l 0 (J99 g v)) i (J0l 0 (tab [[.int .i64 (Q1h 0 (gR g.ports (gF (gR g.ports v) i).1.toNat) v)]])) a b) (J99 g v a b):=by
 obtain rfl:b=0:=by omega
 apply VLe.of_eq;by_cases h:a<i
 . rw[J2c h];simp[J0l]
 . rw[J2d h];have:a=i:=by omega
   subst this;simp[J0l,tab,J99,J7x]
theorem X1g {n s i j:Nat} {f f':Nat->Nat->V} (h:∀a b,a<n->b<s->VLe (f a b) (f' a b)):VLe (.fe n s f i j) (.fe n s f' i j) :=
 ⟨fun M w u hd=>by
   cases hd with
   | fe _ _ _ _ _ _ b off u hi hM hb hcell h1 hd=>exact .fe _ _ _ _ _ _ b off u hi hM hb hcell h1 (fun a b ha hb=>(h a b ha hb).out _ _ _ (hd a b ha hb))⟩
set_option maxHeartbeats 16000000 in
theorem Q9y (p:Pr) (g:G) (hg:g.valid=true):Ret Tryz.prog 102 [p.v,g.v] (scP p.pg g):=by
 obtain⟨f1,f2,f3,f4,f5,f6,f7⟩:=J0e hg;refine J0g rfl ?_;refine J0d J0b Tryz.func102 rfl Y0y X9T rfl ?_
 repeat' ((conv=>whnf);first|(refine Bd.nat (by omega) ?_)|(refine Len.mk (by omega) ?_)|(refine MkS.vec ?_))
 all_goals (conv=>whnf)
 refine J02 J0b [3,5,19,20] [4] [5,6,7,8,9,10,11,12,13,14,15,16,17,18,19,20,21,22,23,24,25,26,27,28,29] [4,3,2,1,0] (fun v:Nat=>[(21,.int .i64 v)])
  (fun own v=>(4,.vec (Q45 g v v) 1 (J99 g v))::J1I (J1I (J1I own 3 (.cells [.str p.nm,p.pg.vs,p.pg.rs,.fz g.ids.length 1 false (vI g.ids),.fz g.ports.length 1 false (vP g.ports),.int .i64 (J4y (g.ids.take v) 0),.vec 2 1 0 g.ports.length])) 2 (.fam g.ports.length 1 (Q45 g v) (J99 g) [])) 2 (.fam g.ports.length 1 (Q45 g v) (J99 g) (opn v g.ports.length 4))) (fun k v=>k=g.ports.length-v/\v<=g.ports.length) g.ports.length 0 ⟨rfl,Nat.zero_le _⟩ rfl (fun _=>rfl) ?_ ?_
 . have e:opn 0 g.ports.length 4=[(0,4)]:=if_pos (by omega);simp only[e];refine J3t.trans ?_ (J09 (ks:=[4,5,6,7,8,9,10,11,12,13,14,15,16,17,18,19,20,21,22,23,24,25,26,27,28,29]) rfl rfl rfl (by omega) rfl) (J2C rfl);refine J0f (fun _ _=>[(0,some 0),(1,some 1),(2,some 2),(3,some 3)]) ?_ ?_ rfl
   . repeat' (first|exact True.intro|(refine⟨⟨_,rfl,?_⟩,?_⟩)|exact J0a.kf rfl|exact J0a.loc rfl)
   . repeat' (first|exact⟨rfl,rfl,rfl,fun i hi=>⟨rfl,if_neg (by omega)⟩⟩|exact True.intro|(refine⟨⟨_,rfl,?_⟩,?_⟩)|exact J0a.kf rfl|exact J0a.vec rfl rfl rfl|(refine And.intro ?_ ?_))
 rintro k v ⟨hk,hv⟩;by_cases hvn:v<g.ports.length
 . have e:opn v g.ports.length 4=[(v,4)]:=if_pos hvn;simp only[e];have hrl:=J6G hg v
   repeat' ((conv=>whnf);first|(refine Br.dec ?_ ?_<;>intro _<;>try omega)|(refine Sv.mk _ rfl ?_)|(refine Ix.nat (by omega) ?_))
   all_goals (conv=>whnf)
   refine J02 J0b [3,5,6,19,20,21,39,40] [4] [5,6,7,8,9,10,11,12,13,14,15,16,17,18,19,20,21,22,23,24,25,26,27,28,29] [4,3,2,1,0] (fun i:Nat=>[(41,.int .i64 i)])
    (fun own i=>J1I (J1I own 4 (.vec i 1 (J99 g v))) 2 (.fam g.ports.length 1 (J2N (Q45 g v) v i) (J99 g) [(v,4)])) (fun k i=>k=(gR g.ports v).length-i/\i<=(gR g.ports v).length) (gR g.ports v).length 0 ⟨rfl,Nat.zero_le _⟩ rfl (fun _=>rfl) ?_ ?_
   . refine J0f (fun _ _=>[(0,some 0),(1,some 1),(2,some 2),(3,some 3),(4,some 4)]) ?_ ?_ rfl
     . repeat' (first|exact True.intro|(refine⟨⟨_,rfl,?_⟩,?_⟩)|exact J0a.kf rfl|exact J0a.loc rfl)
     . repeat' (first|exact⟨rfl,rfl,⟨rfl,rfl,True.intro⟩,fun i hi=>Q6Z _ _ _,fun i j t hi hn hj ht=>VLe.rfl⟩|exact True.intro|(refine⟨⟨_,rfl,?_⟩,?_⟩)|exact J0a.kf rfl|exact J0a.vec rfl rfl rfl|(refine⟨by omega,rfl,fun i j hi hj=>?_⟩)|exact VLe.rfl|(refine And.intro ?_ ?_))
   rintro k i ⟨hk2,hi⟩;by_cases hin:i<(gR g.ports v).length
   . have hr:=Q0g (f6 v hvn) hin;have hp:=X5x g hg (gF (gR g.ports v) i).1.toNat v (by omega);rw[show(((gF (gR g.ports v) i).1.toNat:Nat):Int)=(gF (gR g.ports v) i).1 by omega] at hp
     repeat' ((conv=>whnf);first|(refine Br.dec ?_ ?_<;>intro _<;>try omega)|(refine Br.nbeq ?_ ?_<;>intro _<;>try omega)|(refine Ar.i64 (by omega) (by omega) ?_)|(refine Ix.nat (by omega) ?_)|(refine Len.mk (by omega) ?_)|(refine Ltn.mk (by omega) ?_)|(refine hp.go ?_)|(refine Opn.hdl (by omega) (show J2N _ _ _ _=i from if_pos rfl) ?_)|(refine And.intro (Ltn.mk (by omega) (Opn.hdl (by omega) (show J2N _ _ _ _=i from if_pos rfl) rfl)) ?_)|(refine J1W.hd (by omega) ?_)|(refine And.intro rfl ?_))
     all_goals (conv=>whnf)
     refine⟨(gR g.ports v).length-(i+1),i+1,by omega,⟨rfl,by omega⟩,?_⟩;refine J0f (fun env own=>[(0,some 0),(1,some 1),(2,some 2),(3,some 3),(4,X6q env 63)]) ?_ ?_ rfl
     . repeat' (first|exact True.intro|(refine⟨⟨_,rfl,?_⟩,?_⟩)|exact J0a.kf rfl|exact J0a.loc rfl)
     . repeat' (first|exact⟨rfl,rfl,⟨rfl,rfl,True.intro⟩,fun i hi=>Q5L _ _ _ _ _,fun i j t hi hn hj ht=>VLe.rfl⟩|exact⟨Nat.le_refl _,rfl,fun a b ha hb=>Q87 g v i a b ha hb⟩|exact True.intro|(refine⟨⟨_,rfl,?_⟩,?_⟩)|exact J0a.kf rfl|exact J0a.vec rfl rfl rfl|(refine And.intro ?_ ?_))
   . have ei:i=(gR g.ports v).length:=by omega
     subst ei
     repeat' ((conv=>whnf);first|(refine Br.dec ?_ ?_<;>intro _<;>try omega)|(refine Ar.i64 (by omega) (by omega) ?_))
     all_goals (conv=>whnf)
     refine⟨g.ports.length-(v+1),v+1,by omega,⟨rfl,by omega⟩,?_⟩;refine J3t.trans (J15 (J1i (q:=4) (k:=2) (i:=v) [] rfl rfl hvn (J0n rfl) (Nat.le_of_eq (if_pos rfl)) rfl (fun j hj=>(J0j (fun e=>hj e.symm)).symm))) ?_ (J6V rfl);have em:J4y (g.ids.take (v+1)) 0=if gI g.ids v > J4y (g.ids.take v) 0 then gI g.ids v else J4y (g.ids.take v) 0:=by rw[J1p g.ids v (by omega),J4O]
     simp only[em];by_cases h1:v+1<g.ports.length
     . have e1:opn (v+1) g.ports.length 4=[(v+1,4)]:=if_pos h1;simp only[e1];refine J3t.trans ?_ (J09 (ks:=[4,5,6,7,8,9,10,11,12,13,14,15,16,17,18,19,20,21,22,23,24,25,26,27,28,29]) rfl rfl rfl h1 rfl) (J2C rfl);refine J0f (fun _ _=>[(0,some 0),(1,some 1),(2,some 2),(3,some 3)]) ?_ ?_ rfl
       . repeat' (first|exact True.intro|(refine⟨⟨_,rfl,?_⟩,?_⟩)|exact J0a.kf rfl|exact J0a.loc rfl)
       . repeat' (first|exact⟨rfl,rfl,True.intro,fun i hi=>(Q3i _ _ _).symm,fun i j t hi hn hj ht=>J91 g v i j t⟩|exact True.intro|(refine⟨⟨_,rfl,?_⟩,?_⟩)|exact J0a.kf rfl|exact J0a.vec rfl rfl rfl|(refine And.intro ?_ ?_))
     . have e1:opn (v+1) g.ports.length 4=[]:=if_neg h1;simp only[e1];refine J0f (fun _ _=>[(0,some 0),(1,some 1),(2,some 2),(3,some 3),(4,none)]) ?_ ?_ rfl
       . repeat' (first|exact True.intro|(refine⟨⟨_,rfl,?_⟩,?_⟩)|exact J0a.kf rfl|exact J0a.loc rfl)
       . repeat' (first|exact⟨rfl,rfl,True.intro,fun i hi=>(Q3i _ _ _).symm,fun i j t hi hn hj ht=>J91 g v i j t⟩|exact⟨1,J99 g (v+1),by rw[Q0t]⟩|exact True.intro|(refine⟨⟨_,rfl,?_⟩,?_⟩)|exact J0a.kf rfl|exact J0a.vec rfl rfl rfl|(refine And.intro ?_ ?_))
 . have e:opn v g.ports.length 4=[]:=if_neg hvn;have ev:v=g.ports.length:=by omega
   simp only[e]
   repeat' ((conv=>whnf);first|(refine Br.dec ?_ ?_<;>intro _<;>try omega)|(refine Len.mk (by omega) ?_))
   all_goals (conv=>whnf)
   refine X1g (fun a b ha hb=>?_);obtain rfl:a=0:=by omega
   have hb:b<7:=hb;have em:J4y (g.ids.take v) 0=J9F g:=by rw[List.take_of_length_le (by omega)];rfl
   rcases (show b=0\/b=1\/b=2\/b=3\/b=4\/b=5\/b=6 by omega) with rfl|rfl|rfl|rfl|rfl|rfl|rfl
   . exact VLe.rfl
   . exact VLe.rfl
   . exact VLe.rfl
   . exact VLe.rfl
   . exact VLe.rfl
   . exact VLe.int em
   . refine VLe.fz rfl (fun h=>h) (fun i j hi hj=>?_);show VLe (.fz (Q45 g v i) 1 false (J99 g i)) (.fz (gR g.ports i).length 1 false (J99 g i));rw[show Q45 g v i=(gR g.ports i).length from if_pos (by omega)];exact VLe.rfl
theorem Q29 (p:Pr) (hp:J2I p) (g:G) (hg:g.valid=true):Ret Tryz.prog 62 [p.v,g.v] (mvP p g):=by
 have h1:=Q9y p g hg;have h2:=J3T p hp g hg;refine J0g rfl ?_;refine J0d J0b Tryz.func62 rfl hc62 hr62 rfl ?_
 repeat' ((conv=>whnf);first|(refine h1.go ?_)|(refine h2.go ?_)|(refine And.intro rfl ?_))
 all_goals (conv=>whnf)
 exact VLe.rfl
set_option maxHeartbeats 4000000 in
theorem Q5J (p:Pr) (hp:J2I p) (g:G) (hg:g.valid=true) (c:Cf) (hc:J1s p g c) :
 J0J Tryz.prog 124 [.int .i64 g.ids.length,.fn (.func 125) false [.loc 0 0,.loc 1 0]] [(1,.cells [cV c]),(0,.cells [mvP p g])] [2,3,4,5,6,7,8,9,10,11,12,13,14,15,16,17,18,19,20,21,22,23,24,25,26,27,28,29] fun v own' _=>v=.int .u32 (enN p g c)/\own'=[(1,.cells [cV c]),(0,.cells [mvP p g])]:=by
 obtain⟨f1,f2,f3,f4,f5,f6,f7⟩:=J0e hg;refine J0d J0b Tryz.func124 rfl Y0e X9z rfl ?_
 repeat' ((conv=>whnf);first|fail)
 all_goals (conv=>whnf)
 refine J0N J0b [1,7] (fun i:Nat=>[(5,.int .u32 (nb (fun v=>decide (0<=J0U p g c v)) i)),(8,.int .i64 i)]) (fun m i=>m=g.ids.length-i/\i<=g.ids.length) g.ids.length 0 ⟨rfl,Nat.zero_le _⟩ ?_ ?_
 . exact J0k (fun _ _=>[(0,some 0),(1,some 1)])
 rintro m i ⟨hm,hi⟩;by_cases hin:i<g.ids.length
 . have he:=X6p p hp g hg c hc i (by omega);cases hd:decide (0<=J0U p g c i) with
   | true =>
     rw[hd] at he
     repeat' ((conv=>whnf);first|(refine Br.tt ?_)|(refine Br.dec ?_ ?_<;>intro _<;>try omega)|(refine Ar.i64 (by omega) (by omega) ?_)|(refine Ar.sh1 (by omega) ?_)|(refine Sv.mk _ rfl ?_)|(refine Nn.mk (by omega) ?_)|(refine Chk.mk (by kernel_rfl) ?_)|(refine J0F he rfl ⟨VLe.rfl,VLe.rfl,VLe.rfl,True.intro⟩ ?_))
     all_goals (conv=>whnf)
     have hx:=X5T (p:=fun v=>decide (0<=J0U p g c v)) (k:=i) (by omega) hd;refine⟨g.ids.length-(i+1),i+1,by omega,⟨rfl,by omega⟩,?_⟩;refine J0f (fun _ _=>[(0,some 0),(1,some 1)]) ?_ ?_ rfl
     . repeat' (first|exact J0a.int hx|exact True.intro|(refine J0a.fn ?_)|(refine⟨⟨_,rfl,?_⟩,?_⟩)|exact J0a.kf rfl|exact J0a.loc rfl|(refine And.intro ?_ ?_))
     . repeat' (first|exact True.intro|(refine⟨⟨_,rfl,?_⟩,?_⟩)|exact J0a.kf rfl|(refine And.intro ?_ ?_))
   | false =>
     rw[hd] at he
     repeat' ((conv=>whnf);first|(refine Br.ff ?_)|(refine Br.dec ?_ ?_<;>intro _<;>try omega)|(refine Ar.i64 (by omega) (by omega) ?_)|(refine Chk.mk (by kernel_rfl) ?_)|(refine J0F he rfl ⟨VLe.rfl,VLe.rfl,VLe.rfl,True.intro⟩ ?_))
     all_goals (conv=>whnf)
     have hx:=X5U (p:=fun v=>decide (0<=J0U p g c v)) (k:=i) hd;refine⟨g.ids.length-(i+1),i+1,by omega,⟨rfl,by omega⟩,?_⟩;refine J0f (fun _ _=>[(0,some 0),(1,some 1)]) ?_ ?_ rfl
     . repeat' (first|exact J0a.int (by rw[hx])|exact True.intro|(refine J0a.fn ?_)|(refine⟨⟨_,rfl,?_⟩,?_⟩)|exact J0a.kf rfl|exact J0a.loc rfl|(refine And.intro ?_ ?_))
     . repeat' (first|exact True.intro|(refine⟨⟨_,rfl,?_⟩,?_⟩)|exact J0a.kf rfl|(refine And.intro ?_ ?_))
 . repeat' ((conv=>whnf);first|(refine Br.dec ?_ ?_<;>intro _<;>try omega))
   all_goals (conv=>whnf)
   have e:i=g.ids.length:=by omega
   exact⟨by rw[enN,e],rfl⟩
theorem X5Y (p:Pr) (hp:J2I p) (g:G) (hg:g.valid=true) (c:Cf) (hc:J1s p g c):Ret Tryz.prog 81 [mvP p g,cV c] (.int .u32 (enN p g c)):=by
 have hn:=Q5J p hp g hg c hc;refine J0g rfl ?_;refine J0d J0b Tryz.func81 rfl hc81 hr81 rfl ?_
 repeat' ((conv=>whnf);first|(refine J10 [(0,some 0),(1,some 1)] [] (hn.mono ?_) ⟨J0a.int rfl,J0a.fn ⟨J0a.loc rfl,J0a.loc rfl,True.intro⟩,True.intro⟩ (by repeat' (first|exact True.intro|(refine⟨⟨_,rfl,?_⟩,?_⟩)|exact J0a.kf rfl|(refine And.intro ?_ ?_))) rfl;rintro _ _ _ ⟨rfl,rfl⟩)|(refine Chk.mk rfl ?_))
 all_goals (conv=>whnf)
 exact VLe.rfl
theorem J6y (p:Pr) (hp:J2I p) (g:G) (hs:g.Small) (hg:g.valid=true) (c:Cf) (hc:J1s p g c):Ret Tryz.prog 46 [p.v,g.v,cV c] (.int .u32 (enN p g c)):=by
 have h1:=Q6B p hp g hs hg c hc;have h2:=Q29 p hp g hg;have h3:=X5Y p hp g hg c hc;refine J0g rfl ?_;refine J0d J0b Tryz.func46 rfl hc46 hr46 rfl ?_
 repeat' ((conv=>whnf);first|(refine Br.tt ?_)|(refine h1.go ?_)|(refine h2.go ?_)|(refine h3.go ?_))
 all_goals (conv=>whnf)
 exact VLe.rfl
def brI (kind lo hi v:Int):Int:=if lo<=v/\v<=hi then v else if kind=3 then -1 else if v<lo then lo else hi
theorem X01 (kind lo hi v:Int):Ret Tryz.prog 105 [.int .i64 kind,.agg [.int .i64 lo,.int .i64 hi],.int .i64 v] (.int .i64 (brI kind lo hi v)):=by
 refine J0g rfl ?_;refine J0d J0b Tryz.func105 rfl Y0v X9Q rfl ?_;rw[brI]
 repeat' ((conv=>whnf);first|(refine Br.dec ?_ ?_<;>intro _<;>try omega)|(refine Ix.mk 0 rfl (by omega) ?_)|(refine Ix.mk 1 rfl (by omega) ?_))
 all_goals (conv=>whnf)
 all_goals refine VLe.int ?_
 all_goals repeat' split
 all_goals omega
def X29 (p:Pr) (g:G) (c:Cf) (v:Nat) (st:List Int) (s:Int×Tm):List Int :=
 st.set s.1.toNat (brI (gV p.vars s.1.toNat).kind (bnd g (gV p.vars s.1.toNat) v).1 (bnd g (gV p.vars s.1.toNat) v).2 (s.2.sem g c v (-1)))
def X1s (p:Pr) (g:G) (c:Cf) (v:Nat) (l:List (Int×Tm)):List Int:=l.foldl (X29 p g c v) (gC c v)
def J27 (p:Pr) (g:G) (c:Cf) (v r:Nat):List Int:=X1s p g c v (gRl p.rules r).sets
theorem J80 (p:Pr) (g:G) (c:Cf) (v:Nat):∀(l:List (Int×Tm)),(X1s p g c v l).length=(gC c v).length:=by
 intro l;rw[X1s];generalize gC c v=st
 induction l generalizing st with
 | nil=>rfl
 | cons s r ih=>rw[List.foldl_cons,ih];simp[X29]
theorem X3O (l:List (Int×Tm)) (i:Nat) (h:i<l.length):l.take (i+1)=l.take i++[gS l i]:=by
 rw[List.take_succ_eq_append_getElem h];simp only[gS,List.getD,List.getElem?_eq_getElem h,Option.getD_some]
theorem Q6a (p:Pr) (g:G) (c:Cf) (v:Nat) (l:List (Int×Tm)) (s:Int×Tm):X1s p g c v (l++[s])=X29 p g c v (X1s p g c v l) s:=by
 simp[X1s,List.foldl_append]
theorem Q84 (r:List Int) (u i t:Nat) (d:Int) (hu:u<r.length) (ht:t<1):VLe (J0L (vI r) u 0 [.int .i64 d] i t) (vI (r.set u d) i t):=by
 obtain rfl:t=0:=by omega
 apply VLe.of_eq;simp only[J0L,vI,gI,List.getD,List.getElem?_set];by_cases h:i=u
 . subst h;simp[hu]
 . have:¬ u=i:=fun e=>h e.symm;simp[h,this]
def J0R (p:Pr) (g:G) (c:Cf) (s:Nat):Cf:=(List.range c.length).map fun v=>if s.testBit v then J27 p g c v (J0U p g c v).toNat else gC c v
theorem J25 (p:Pr) (g:G) (c:Cf) (s:Nat):(J0R p g c s).length=c.length:=by simp[J0R]
theorem J2z (p:Pr) (g:G) (c:Cf) (s:Nat) {v:Nat} (hv:v<c.length):gC (J0R p g c s) v=if s.testBit v then J27 p g c v (J0U p g c v).toNat else gC c v:=by
 simp[J0R,gC,hv]
theorem Q2X (p:Pr) (g:G) (c:Cf) (v:Nat):J0U p g c v<p.rules.length:=by
 have:=J5n (gds p g c v) 0;have hl:(gds p g c v).length=p.rules.length:=by simp[gds]
 rw[J0U];omega
abbrev P8:ByteArray:=ByteArray.mk (Array.mk [0,1,1,2,1,2,2,3,1,2,2,3,2,3,3,4,1,2,2,3,2,3,3,4,2,3,3,4,3,4,4,5,1,2,2,3,2,3,3,4,2,3,3,4,3,4,4,5,2,3,3,4,3,4,4,5,3,4,4,5,4,5,5,6,1,2,2,3,2,3,3,4,2,3,3,4,3,4,4,5,2,3,3,4,3,4,4,5,3,4,4,5,4,5,5,6,2,3,3,4,3,4,4,5,3,4,4,5,4,5,5,6,3,4,4,5,4,5,5,6,4,5,5,6,5,6,6,7,1,2,2,3,2,3,3,4,2,3,3,4,3,4,4,5,2,3,3,4,3,4,4,5,3,4,4,5,4,5,5,6,2,3,3,4,3,4,4,5,3,4,4,5,4,5,5,6,3,4,4,5,4,5,5,6,4,5,5,6,5,6,6,7,2,3,3,4,3,4,4,5,3,4,4,5,4,5,5,6,3,4,4,5,4,5,5,6,4,5,5,6,5,6,6,7,3,4,4,5,4,5,5,6,4,5,5,6,5,6,6,7,4,5,5,6,5,6,6,7,5,6,6,7,6,7,7,8])
theorem X7c:∀x:Nat,x<256->(P8.get! x).toNat=cnt x 8:=by decide +kernel
theorem J6d (s k:Nat):(s:Int).fdiv (2 ^ k)=((s >>> k:Nat):Int):=by
 rw[Int.fdiv_eq_ediv_of_nonneg _ (Int.pow_nonneg (by omega)),Nat.shiftRight_eq_div_pow];simp
theorem Q8C (x:Nat):x &&& 255<256:=Nat.lt_of_le_of_lt Nat.and_le_right (by omega)
theorem Q74 (x:Nat):cnt (x &&& 255) 8=cnt x 8:=Q71 fun i hi=>by
 rw[Nat.testBit_and,show(255:Nat)=2 ^ 8-1 from rfl,Nat.testBit_two_pow_sub_one];simp[hi]
theorem Q72 (s:Nat) (hs:s<4294967296):cnt (s >>> 24) 8+cnt (s >>> 16 &&& 255) 8+cnt (s >>> 8 &&& 255) 8+cnt (s &&& 255) 8=cnt s 32:=by
 rw[Q74,Q74,Q74,show(32:Nat)=8+24 from rfl,J7l 8 24,show(24:Nat)=8+16 from rfl,J7l 8 16,show(16:Nat)=8+8 from rfl,J7l 8 8];rw[<- Nat.shiftRight_add,<- Nat.shiftRight_add];show cnt (s >>> 24) 8+cnt (s >>> 16) 8+cnt (s >>> 8) 8+cnt s 8=cnt s 8+(cnt (s >>> 8) 8+(cnt (s >>> 16) 8+cnt (s >>> 24) 8));omega
theorem X2p {n:Int} (h1:0<=n) (h2:n<=255):IntKind.u8.wrap n=n:=by
 simp only[IntKind.wrap,IntKind.bits,IntKind.signed,Bool.false_and]
 first|(split<;>omega)|(simp;omega)
theorem Ar.u8 {n:Int} {K:Int->Prop} (h1:0<=n) (h2:n<=255) (hK:K n):Ar .u8 n K:=⟨n,(X2p h1 h2).symm,hK⟩
theorem Ar.u8e {n:Int} {K:Int->Prop} (a:Nat) (h:n=(a:Int)) (ha:a<=255) (hK:K (a:Int)):Ar .u8 n K:=by subst h;exact Ar.u8 (by omega) (by omega) hK
theorem X87 (s:Nat) (hs:s<4294967296):Ret Tryz.prog 106 [.int .u32 s] (.int .i64 (cnt s 32)):=by
 have hsum:=Q72 s hs;have f24:(s:Int).fdiv (2 ^ (min (24:Int).toNat 32))=((s >>> 24:Nat):Int):=J6d s 24;have f16:(s:Int).fdiv (2 ^ (min (16:Int).toNat 32))=((s >>> 16:Nat):Int):=J6d s 16;have f8:(s:Int).fdiv (2 ^ (min (8:Int).toNat 32))=((s >>> 8:Nat):Int):=J6d s 8;have l24:s >>> 24<256:=by rw[Nat.shiftRight_eq_div_pow];omega
 have l16:s >>> 16<4294967296:=Nat.lt_of_le_of_lt (Nat.shiftRight_le s 16) hs;have l8:s >>> 8<4294967296:=Nat.lt_of_le_of_lt (Nat.shiftRight_le s 8) hs;have a16:J4a .and .u32 ((s >>> 16:Nat):Int) 255=((s >>> 16 &&& 255:Nat):Int):=J2h (b:=255) l16 (by omega);have a8:J4a .and .u32 ((s >>> 8:Nat):Int) 255=((s >>> 8 &&& 255:Nat):Int):=J2h (b:=255) l8 (by omega);have a0:J4a .and .u32 (s:Int) 255=((s &&& 255:Nat):Int):=J2h (b:=255) hs (by omega);have m16:=Q8C (s >>> 16);have m8:=Q8C (s >>> 8);have m0:=Q8C s;generalize s >>> 24=x24 at *;generalize s >>> 16 &&& 255=x16 at *;generalize s >>> 8 &&& 255=x8 at *;generalize s &&& 255=x0 at *;have p24:=X7c x24 l24;have p16:=X7c x16 m16;have p8:=X7c x8 m8;have p0:=X7c x0 m0;have c24:=J7k x24 8;have c16:=J7k x16 8;have c8:=J7k x8 8;have c0:=J7k x0 8;rw[<- hsum];rw[<- p24] at c24 ⊢;rw[<- p16] at c16 ⊢;rw[<- p8] at c8 ⊢;rw[<- p0] at c0 ⊢;clear p24 p16 p8 p0 hsum;refine J0g rfl ?_;refine J0d J0b Tryz.func106 rfl Y0u X9P rfl ?_
 repeat' ((conv=>whnf);first|(refine Sv.mk _ f24.symm ?_)|(refine Sv.mk _ f16.symm ?_)|(refine Sv.mk _ f8.symm ?_)|(refine Sv.mk _ a16.symm ?_)|(refine Sv.mk _ a8.symm ?_)|(refine Sv.mk _ a0.symm ?_)|(refine Ix.mk x24 rfl l24 ?_)|(refine Ix.mk x16 rfl m16 ?_)|(refine Ix.mk x8 rfl m8 ?_)|(refine Ix.mk x0 rfl m0 ?_)|(refine Ar.u8e ((P8.get! x24).toNat+(P8.get! x16).toNat) rfl (by omega) ?_)|(refine Ar.u8e ((P8.get! x24).toNat+(P8.get! x16).toNat+(P8.get! x8).toNat) rfl (by omega) ?_)|(refine Ar.u8e ((P8.get! x24).toNat+(P8.get! x16).toNat+(P8.get! x8).toNat+(P8.get! x0).toNat) rfl (by omega) ?_)|(refine Ar.i64 (by omega) (by omega) ?_)|(refine Nn.mk (by omega) ?_))
 all_goals (conv=>whnf)
 all_goals exact VLe.rfl
structure Cnt where
 steps:Nat
 moves:Nat
 rounds:Nat
 begun:Nat
 pend:Nat
def lft (k:Cnt) (s e:Nat):Nat:=J1w k.pend s &&& e
def Cnt.add (k:Cnt) (s e:Nat):Cnt:=if lft k s e=0 then⟨k.steps+1,k.moves+cnt s 32,k.rounds+1,k.rounds+1,e⟩ else⟨k.steps+1,k.moves+cnt s 32,k.rounds,k.rounds+1,lft k s e⟩
def one (c:Cf) (x v:Nat):Bool:=decide (gI (gC c v) x=1)
def mx (g:G) (p:Nat->Bool):Bool:=decide (∀v,v<g.ports.length->nbr g (nb p g.ports.length) v=!p v)
def tzL:List Int:=[0,1,28,2,29,14,24,3,30,22,20,15,25,17,4,8,31,27,13,23,21,19,16,7,26,12,18,6,11,5,10,9]
def tzF (i j:Nat):V:=.int .u8 (tzL.getD i 0)
abbrev GB:Blk:=.glob 0 32 tzF
abbrev RG (f:FuncId) (args:List V) (X:V):Prop:=X44 Tryz.prog GB f args X
theorem X2C:∀k:Nat,k<32->IntKind.u32.wrap (((2 ^ k:Nat):Int)*125613361)=((2 ^ k*125613361 % 4294967296:Nat):Int)/\((2 ^ k*125613361 % 4294967296:Nat):Int).fdiv (2 ^ (min (27:Int).toNat 32))=((2 ^ k*125613361 % 4294967296 / 134217728:Nat):Int)/\2 ^ k*125613361 % 4294967296 / 134217728<32/\tzL.getD (2 ^ k*125613361 % 4294967296 / 134217728) 0=(k:Int):=by
 decide +kernel
theorem X5e (k:Nat) (hk:k<32):∃a b:Nat,IntKind.u32.wrap (((2 ^ k:Nat):Int)*125613361)=(a:Int)/\(a:Int).fdiv (2 ^ (min (27:Int).toNat 32))=(b:Int)/\b<32/\tzL.getD b 0=(k:Int):=⟨_,_,X2C k hk⟩
theorem X2B (s:Nat) (h0:s≠0) (hs:s<4294967296):RG 109 [.int .u32 s] (.int .i64 (ctz s)):=by
 obtain⟨k1,k2,k3⟩:=J1R h0 hs;obtain⟨a,b,t1,t2,t3,t4⟩:=X5e (ctz s) k1;have hand:J4a .and .u32 (s:Int) (((4294967296-s) % 4294967296:Nat):Int)=((2 ^ ctz s:Nat):Int):=by
  rw[J2h hs (Nat.mod_lt _ (by omega)),J87 hs,J4p,if_neg h0]
 have t5:(ctz s:Int)=IntKind.i64.wrap (tzL.getD b 0):=by rw[t4];exact(J3k (by omega) (by omega)).symm
 generalize ((2 ^ ctz s:Nat):Int)=p at hand t1;refine J3W rfl ?_;refine J0d J0b Tryz.func109 rfl Y0s X9N rfl ?_
 repeat' ((conv=>whnf);first|(refine Ar.neg32 hs ?_)|(refine Sv.mk _ hand.symm ?_)|(refine Ar.mk _ t1.symm ?_)|(refine Sv.mk _ t2.symm ?_)|(refine Ix.mk _ rfl t3 ?_)|(refine Ar.mk _ t5 ?_)|(refine Br.dec ?_ ?_<;>intro _<;>try omega)|(refine Nn.mk (by omega) ?_))
 all_goals (conv=>whnf)
 all_goals exact VLe.rfl
structure Net where
 n:Int
 links:List Int
 weights:List Int
 ids:List Int
 apart:Bool
 back:Bool
def Net.v (x:Net):V:=.agg [.int .i64 x.n,.fz x.links.length 1 false (vI x.links),.fz x.weights.length 1 false (vI x.weights),.fz x.ids.length 1 false (vI x.ids),.bool x.apart,.bool x.back]
structure Net.Small (x:Net):Prop where
 links:x.links.length<=9223372036854775807
 weights:x.weights.length<=9223372036854775807
 ids:x.ids.length<=9223372036854775807
abbrev Ps:=List (List (Int×Int))
def lnk (p:Ps) (a:Nat) (b:Int):Bool:=(gR p a).any fun l=>decide (l.1=b)
theorem Q6T (g:G) (hs:g.Small) (a:Nat) (b:Int) (ha:a<g.ports.length):Ret Tryz.prog 54 [g.v,.int .i64 a,.int .i64 b] (.bool (lnk g.ports a b)):=by
 have hrl:=Q3s hs.rows a;refine J0g rfl ?_;refine J0d J0b Tryz.func54 rfl hc54 hr54 rfl ?_
 repeat' ((conv=>whnf);first|fail)
 all_goals (conv=>whnf)
 refine J0N J0b [1,2,3] (fun i:Nat=>[(7,.int .i64 i)]) (fun m i=>m=(gR g.ports a).length-i/\i<=(gR g.ports a).length/\((gR g.ports a).take i).any (fun l=>decide (l.1=b))=false) (gR g.ports a).length 0 ⟨rfl,Nat.zero_le _,rfl⟩ ?_ ?_
 . exact J0k (fun _ _=>[(0,some 0)])
 rintro m i ⟨hm,hi,hall⟩
 repeat' ((conv=>whnf);first|(refine Br.dec ?_ ?_<;>intro _<;>try omega)|(refine Ar.i64 (by omega) (by omega) ?_)|(refine Ix.nat (by omega) ?_))
 all_goals (conv=>whnf)
 . refine VLe.bool ?_;symm;rw[lnk,List.any_eq_true];exact⟨_,J3c (show i<(gR g.ports a).length by omega),by simp;omega⟩
 . refine⟨(gR g.ports a).length-(i+1),i+1,by omega,⟨rfl,by omega,?_⟩,?_⟩
   . rw[J3r _ _ (by omega),List.any_append,hall];simp;omega
   . exact J0k (fun _ _=>[(0,some 0)])
 . refine VLe.bool ?_;rw[lnk,<- hall,List.take_of_length_le (by omega)]
def J9B (bk:Bool) (r:List (Int×Int)) (l:Int×Int):List (Int×Int):=if bk then l::r else r++[l]
def J3a (bk:Bool) (p:Ps) (a b:Nat) (w:Int):Ps:=if a=b\/lnk p a b=true then p else (p.set a (J9B bk (gR p a) ((b:Int),w))).set b (J9B bk (gR p b) ((a:Int),w))
def Q1j (p:Ps) (i:Nat):Nat:=(gR p i).length
def Q2Z (p:Ps) (i:Nat):Nat->Nat->V:=vF (gR p i)
abbrev X40 (p:Ps):Blk:=.fam p.length 2 (Q1j p) (Q2Z p) []
def KS4:List Nat:=[2,3,4,5,6,7,8,9,10,11,12,13,14,15,16,17,18,19,20,21,22,23,24,25,26,27,28,29]
def X7j (g:G):Own:=[(0,.vec g.ids.length 1 (vI g.ids)),(1,X40 g.ports)]
abbrev gV1 (i n:Nat):V:=.agg [.vec 0 1 0 i,.vec 1 1 0 n]
theorem X1L (g:G):VLe (V.agg [.fz g.ids.length 1 false (J0l 0 (vI g.ids)),.fz g.ports.length 1 false fun i _=>.fz (Q1j g.ports i) 2 false (Q2Z g.ports i)]) g.v:=by
 refine VLe.agg ⟨VLe.fz rfl (fun h=>h) (fun i j hi hj=>VLe.of_eq ?_),VLe.rfl,True.intro⟩;simp[J0l]
theorem Q6X (g:G) (a b:Nat):VLe (V.agg [.fz g.ids.length 1 false (J0l 0 (vI g.ids)),.fz g.ports.length 1 false fun i _=>.fz (Q1j g.ports i) 2 false (J3n (J3n (Q2Z g.ports) a (Q2Z g.ports a)) b (Q2Z g.ports b) i)]) g.v:=by
 have e:J3n (J3n (Q2Z g.ports) a (Q2Z g.ports a)) b (Q2Z g.ports b)=Q2Z g.ports:=by
  funext i;simp only[J3n];split
  . rename_i h;rw[h]
  . split
    . rename_i h;rw[h]
    . rfl
 rw[e];exact X1L g
theorem J4f (p:Ps) (a:Nat) (A:List (Int×Int)) (ha:a<p.length) (i:Nat):gR (p.set a A) i=if i=a then A else gR p i:=by
 simp only[gR,List.getD,List.getElem?_set];by_cases h:a=i
 . subst h;simp[ha]
 . have:¬ i=a:=fun e=>h e.symm;simp[h,this]
theorem J33 (l:List (Int×Int)) (x:Int×Int) (i:Nat):gF (l++[x]) i=if i<l.length then gF l i else if i=l.length then x else (0,0):=by
 by_cases h:i<l.length
 . simp only[gF,List.getD,List.getElem?_append_left h,if_pos h]
 . rw[if_neg h];by_cases h2:i=l.length
   . subst h2;simp[gF]
   . simp[gF,h2,List.getElem?_eq_none (by simp;omega:(l++[x]).length<=i)]
theorem Q2C (l:List (Int×Int)) (a b:Int) (i j:Nat) (hi:i<l.length+1) (hj:j<2) :
 VLe (J5p (J0l 0 (vF l)) l.length (J0l 0 (tab [[.int .i64 a,.int .i64 b]])) i j) (vF (l++[(a,b)]) i j):=by
 apply VLe.of_eq;by_cases h:i<l.length
 . rw[J2c h];obtain rfl|rfl:j=0\/j=1:=by omega
   . simp[J0l,vF,J33,h]
   . simp[J0l,vF,J33,h]
 . rw[J2d h];have:i=l.length:=by omega
   subst this;obtain rfl|rfl:j=0\/j=1:=by omega
   . simp[J0l,vF,J33,tab]
   . simp[J0l,vF,J33,tab]
theorem Q2A (l:List (Int×Int)) (a b:Int) (i j:Nat) (hi:i<1+l.length) (hj:j<2) :
 VLe (J5p (J0l 0 (tab [[.int .i64 a,.int .i64 b]])) 1 (J0l 0 (vF l)) i j) (vF ((a,b)::l) i j):=by
 apply VLe.of_eq;cases i with
 | zero =>
   rw[J2c (by omega)];obtain rfl|rfl:j=0\/j=1:=by omega
   . simp[J0l,vF,gF,tab]
   . simp[J0l,vF,gF,tab]
 | succ i =>
   rw[J2d (by omega)];obtain rfl|rfl:j=0\/j=1:=by omega
   . simp[J0l,vF,gF]
   . simp[J0l,vF,gF]
theorem J97 {p:Ps} {a b:Nat} (ha:a<p.length) (hb:b<p.length) (hab:a≠b) {A B:List (Int×Int)} {fa fb:Nat->Nat->V} {la lb:Nat} (h1:A.length=la) (h2:B.length=lb)
 (h3:∀j t,j<la->t<2->VLe (fa j t) (vF A j t)) (h4:∀j t,j<lb->t<2->VLe (fb j t) (vF B j t)) (ρ:Rn) :
 X4N ρ (.fam p.length 2 (J2N (J2N (Q1j p) a la) b lb) (J3n (J3n (Q2Z p) a fa) b fb) []) (X40 ((p.set a A).set b B)):=by
 refine⟨by simp,rfl,True.intro,fun i hi=>?_,fun i j t hi hn hj ht=>?_⟩
 . show(gR ((p.set a A).set b B) i).length=_;rw[J4f _ b B (by simpa using hb),J4f p a A ha];simp only[J2N];split
   . exact h2
   . split
     . exact h1
     . rfl
 . simp only[J2N] at hj;show VLe _ (vF (gR ((p.set a A).set b B) i) j t);rw[J4f _ b B (by simpa using hb),J4f p a A ha];simp only[J3n];split
   . rename_i e;rw[if_pos e] at hj;exact h4 j t hj ht
   . rename_i e;rw[if_neg e] at hj;split
     . rename_i e;rw[if_pos e] at hj;exact h3 j t hj ht
     . exact VLe.rfl
set_option maxHeartbeats 8000000 in
theorem X3t (x:Net) (g:G) (hs:g.Small) (hr:∀v,(gR g.ports v).length<=1000) (a b:Nat) (ha:a<g.ports.length) (hb:b<g.ports.length) (w:Int) :
 J0J Tryz.prog 20 [x.v,gV1 g.ids.length g.ports.length,.int .i64 a,.int .i64 b,.int .i64 w] (X7j g) KS4 fun v own' _=>v=.tup []/\own'=X7j ⟨g.ids,J3a x.back g.ports a b w⟩:=by
 have hl:=Q6T g hs a b ha;have ra:Q1j g.ports a<=1000:=hr a;have rb:Q1j g.ports b<=1000:=hr b;refine J1q (J3P ?_);by_cases hab:a=b
 . rw[J3a,if_pos (.inl hab)];refine J0d J0b Tryz.func20 rfl X7h X7g rfl ?_
   repeat' ((conv=>whnf);first|(refine Br.dec ?_ ?_<;>intro _<;>try omega))
   all_goals (conv=>whnf)
   exact⟨_,J1A.refl _,J1m (fun _=>[(0,some 0),(1,some 1)]) _ _ ⟨rfl,rfl⟩ (J0a.kf rfl) (by repeat' (first|(refine⟨rfl,rfl,True.intro,fun i hi=>rfl,fun i j t hi hn hj ht=>VLe.rfl⟩)|exact True.intro|(refine⟨⟨_,rfl,?_⟩,?_⟩)|(refine⟨Nat.le_refl _,rfl,fun i j hi hj=>?_⟩)|exact VLe.rfl)) rfl⟩
 cases hk:lnk g.ports a b with
 | true =>
   rw[hk] at hl;rw[J3a,if_pos (.inr hk)];refine J0d J0b Tryz.func20 rfl X7h X7g rfl ?_
   repeat' ((conv=>whnf);first|(refine Br.tt ?_)|(refine Br.dec ?_ ?_<;>intro _<;>try omega)|(refine J0F hl rfl ⟨by omega,by omega,X1L g,VLe.rfl,VLe.rfl,True.intro⟩ ?_))
   all_goals (conv=>whnf)
   exact⟨_,J1A.refl _,J1m (fun _=>[(0,some 0),(1,some 1)]) _ _ ⟨rfl,rfl⟩ (J0a.kf rfl) (by repeat' (first|(refine⟨rfl,rfl,True.intro,fun i hi=>rfl,fun i j t hi hn hj ht=>VLe.rfl⟩)|exact True.intro|(refine⟨⟨_,rfl,?_⟩,?_⟩)|(refine⟨Nat.le_refl _,rfl,fun i j hi hj=>?_⟩)|exact VLe.rfl)) rfl⟩
 | false =>
   rw[hk] at hl;rw[J3a,if_neg (fun h=>h.elim hab (fun h=>by rw[hk] at h;cases h))];refine J7u 28 1 a rfl rfl ha rfl ?_;refine J7u 29 1 b rfl rfl hb (J0j hab) ?_;show J0J Tryz.prog _ _ [(29,.vec (Q1j g.ports b) 2 (Q2Z g.ports b)),(28,.vec (Q1j g.ports a) 2 (Q2Z g.ports a)),(0,.vec g.ids.length 1 (vI g.ids)),(1,.fam g.ports.length 2 (Q1j g.ports) (Q2Z g.ports) [(b,29),(a,28)])] [2,3,4,5,6,7,8,9,10,11,12,13,14,15,16,17,18,19,20,21,22,23,24,25,26,27] _;refine J0d J0b Tryz.func20 rfl X7h X7g rfl ?_;obtain⟨xn,xl,xw,xi,xa,xb⟩:=x;cases xb
   . repeat' ((conv=>whnf);first|(refine Br.ff ?_)|(refine Br.dec ?_ ?_<;>intro _<;>try omega)|(refine Br.nbeq ?_ ?_<;>intro _<;>try omega)|(refine Ix.nat (by omega) ?_)|(refine Len.mk (by omega) ?_)|(refine Ltn.mk (by omega) ?_)|(refine J0F hl rfl ⟨by omega,by omega,Nat.le_refl _,Nat.le_refl _,Q6X g a b,VLe.rfl,VLe.rfl,True.intro⟩ ?_)|(refine Opn.hd (by omega) ?_)|(refine Opn.tl (by omega) (Opn.hd (by omega) ?_))|(refine And.intro rfl ?_)|(refine And.intro (Ltn.mk (by omega) (Opn.hd (by omega) rfl)) ?_)|(refine J1W.hd (by omega) ?_)|(refine J1W.tl (by omega) (J1W.hd (by omega) ?_)))
     all_goals (conv=>whnf)
     all_goals exact⟨_,X1Z hab ha hb rfl rfl rfl rfl (by first|exact Nat.le_refl _|simp[J2N,hab]) (by first|exact Nat.le_refl _|simp[J2N]),J1m (fun _=>[(0,some 0),(1,some 1)]) _ _ ⟨rfl,rfl⟩ (J0a.kf rfl) ⟨⟨_,rfl,Nat.le_refl _,rfl,fun _ _ _ _=>VLe.rfl⟩,⟨_,rfl,J97 ha hb hab (by first|(simp;done)|simp[J9B,Q1j]) (by first|(simp;done)|simp[Q1j]) (fun j t hj ht=>Q2C _ _ _ _ _ hj ht) (fun j t hj ht=>Q2C _ _ _ _ _ hj ht) _⟩,True.intro⟩ rfl⟩
   . repeat' ((conv=>whnf);first|(refine Br.tt ?_)|(refine Br.ff ?_)|(refine Br.dec ?_ ?_<;>intro _<;>try omega)|(refine Ix.nat (by omega) ?_)|(refine Len.mk (by omega) ?_)|(refine Ltn.mk (by omega) ?_)|(refine J0F hl rfl ⟨by omega,by omega,Nat.le_refl _,Nat.le_refl _,Q6X g a b,VLe.rfl,VLe.rfl,True.intro⟩ ?_)|(refine Opn.hdl (by omega) (show J2N _ _ _ _=Q1j g.ports b from if_neg (by omega)) ?_)|(refine Opn.tl (by omega) (Opn.hd (by omega) ?_))|(refine And.intro rfl ?_)|(refine J1W.hd (by omega) ?_)|(refine J1W.tl (by omega) (J1W.hd (by omega) ?_)))
     all_goals (conv=>whnf)
     all_goals exact⟨_,X1Z hab ha hb rfl rfl rfl rfl (by first|exact Nat.le_refl _|simp[J2N,hab]) (by first|exact Nat.le_refl _|simp[J2N]),J1m (fun _=>[(0,some 0),(1,some 1)]) _ _ ⟨rfl,rfl⟩ (J0a.kf rfl) ⟨⟨_,rfl,Nat.le_refl _,rfl,fun _ _ _ _=>VLe.rfl⟩,⟨_,rfl,J97 ha hb hab (by first|(simp;omega)|(simp[J9B];omega)|(simp[J9B,Q1j];omega)) (by first|(simp;omega)|(simp[Q1j];omega)) (fun j t hj ht=>Q2A _ _ _ _ _ hj ht) (fun j t hj ht=>Q2A _ _ _ _ _ hj ht) _⟩,True.intro⟩ rfl⟩
def dk (k:Int):Bool:=decide (1<=k/\k<=4)
theorem Q7L (k:Int):Ret Tryz.prog 27 [.int .i64 k] (.bool (dk k)):=by
 refine J0g rfl ?_;refine J0d J0b Tryz.func27 rfl hc27 hr27 rfl ?_
 repeat' ((conv=>whnf);first|(refine Br.dec ?_ ?_<;>intro _<;>try omega))
 all_goals (conv=>whnf)
 all_goals exact VLe.bool (by symm;rw[dk];first|(rw[decide_eq_true_eq];omega)|(rw[decide_eq_false_iff_not];omega))
theorem Q7N {k:Int}:dk k=true↔1<=k/\k<=4:=by rw[dk,decide_eq_true_eq]
def nm:List (Int×Int)->Nat
 | []=>0
 | l::r=>2 ^ l.1.toNat ||| nm r
theorem Q6u:∀(r:List (Int×Int)) (l:Int×Int),nm (r++[l])=nm r ||| 2 ^ l.1.toNat
 | [],l=>by simp[nm]
 | x::r,l=>by simp only[List.cons_append,nm,Q6u r l,Nat.or_assoc]
theorem X1D (u:Nat):∀r:List (Int×Int),(nm r).testBit u=r.any fun l=>decide (l.1.toNat=u)
 | []=>by simp[nm]
 | l::r=>by rw[nm,Nat.testBit_or,Nat.testBit_two_pow,X1D u r,List.any_cons]
theorem X3i:∀(r:List (Int×Int)),(∀l∈r,l.1.toNat<32)->nm r<4294967296
 | [],_=>by simp[nm]
 | l::r,h=>by
   rw[nm];exact Nat.or_lt_two_pow (n:=32) (J3Y (h l (by simp))) (X3i r (fun x hx=>h x (by simp[hx])))
def X2z (g:G):Nat->Nat->V:=fun i _=>.int .u32 (nm (gR g.ports i))
def Q4p (g:G) (v i:Nat):Nat->Nat->V:=fun u _=>.int .u32 (if u<v then nm (gR g.ports u) else if u=v then nm ((gR g.ports v).take i) else 0)
theorem X1p {g:G} (hg:g.valid=true) {v:Nat} (hv:v<g.ports.length):∀l∈gR g.ports v,l.1.toNat<32:=by
 obtain⟨f1,f2,f3,f4,f5,f6,f7⟩:=J0e hg;intro l hl;obtain⟨i,hi,rfl⟩:=X6l hl;have:=X1y (f6 v hv) hi;omega
theorem Q6y {g:G} {v i u j:Nat} (hj:j<1) (hi:i<(gR g.ports v).length) (a:Int) (ha:a=(nm ((gR g.ports v).take (i+1)):Nat)):VLe (J0L (Q4p g v i) v 0 [.int .u32 a] u j) (Q4p g v (i+1) u j):=by
 obtain rfl:j=0:=by omega
 apply VLe.of_eq;by_cases e:u=v
 . subst e;simp[J0L,Q4p,ha]
 . simp[J0L,Q4p,e]
theorem Q9P {g:G} {v i u j:Nat} (hi:(gR g.ports v).length<=i):VLe (Q4p g v i u j) (Q4p g (v+1) 0 u j):=by
 apply VLe.of_eq;simp only[Q4p];by_cases h1:u<v
 . rw[if_pos h1,if_pos (by omega)]
 . by_cases e:u=v
   . subst e;rw[if_neg h1,if_pos rfl,if_pos (by omega),List.take_of_length_le hi]
   . rw[if_neg h1,if_neg e,if_neg (by omega)];by_cases e2:u=v+1
     . rw[if_pos e2];simp[nm]
     . rw[if_neg e2]
theorem Q6x {g:G} {u j:Nat} (hj:j<1):VLe ((fun(x:Nat) (j:Nat)=>[V.int .u32 0].getD j default) u j) (Q4p g 0 0 u j):=by
 obtain rfl:j=0:=by omega
 apply VLe.of_eq;simp[Q4p,nm]
theorem Q9Q {g:G}:VLe (.fz g.ports.length 1 false (J0l 0 (Q4p g g.ports.length 0))) (.fz g.ports.length 1 false (X2z g)):=by
 refine VLe.fz rfl (fun h=>h) (fun i j hi hj=>VLe.of_eq ?_);simp only[J0l,Q4p,X2z];simp[hi]
theorem Ar.sh1I {t:Int} {K:Int->Prop} (h0:0<=t) (h:t<32) (hK:K ((2 ^ t.toNat:Nat):Int)):Ar .u32 (1*2 ^ (min t.toNat 32)) K:=by
 obtain⟨k,rfl⟩:∃k:Nat,t=k:=⟨t.toNat,by omega⟩;exact Ar.sh1 (by omega) hK
set_option maxHeartbeats 4000000 in
theorem Q6v (g:G) (hs:g.Small) (hg:g.valid=true):Ret Tryz.prog 63 [g.v] (.fz g.ports.length 1 false (X2z g)):=by
 obtain⟨f1,f2,f3,f4,f5,f6,f7⟩:=J0e hg;refine J0g rfl ?_;refine J0d J0b Tryz.func63 rfl hc63 hr63 rfl ?_
 repeat' ((conv=>whnf);first|(refine Bd.nat (by omega) ?_)|(refine Len.mk (by omega) ?_)|(refine MkS.vec ?_))
 all_goals (conv=>whnf)
 refine J02 J0b [3,13,14] [] [2,3,4,5,6,7,8,9,10,11,12,13,14,15,16,17,18,19,20,21,22,23,24,25,26,27,28,29] [1,0] (fun i:Nat=>[(15,.int .i64 i)]) (fun own v=>J1I own 1 (.vec g.ports.length 1 (Q4p g v 0))) (fun m v=>m=g.ports.length-v/\v<=g.ports.length) g.ports.length 0 ⟨rfl,Nat.zero_le _⟩ rfl (fun _=>rfl) ?_ ?_
 . refine J0f (fun _ _=>[(0,some 0),(1,some 1)]) ?_ ?_ rfl
   . repeat' (first|exact True.intro|(refine⟨⟨_,rfl,?_⟩,?_⟩)|exact J0a.kf rfl|exact J0a.vec rfl rfl rfl)
   . repeat' (first|exact Q6x hj|exact True.intro|(refine⟨⟨_,rfl,?_⟩,?_⟩)|exact J0a.kf rfl|(refine⟨Nat.le_refl _,rfl,fun i j hi hj=>?_⟩)|(refine And.intro ?_ ?_))
 rintro m v ⟨hm,hv⟩;have hrl:=Q3s hs.rows v
 repeat' ((conv=>whnf);first|(refine Br.dec ?_ ?_<;>intro _<;>try omega)|(refine Ix.nat (by omega) ?_)|(refine Len.mk (by omega) ?_))
 all_goals (conv=>whnf)
 . refine J02 J0b [3,4,13,14,15,20,21] [] [2,3,4,5,6,7,8,9,10,11,12,13,14,15,16,17,18,19,20,21,22,23,24,25,26,27,28,29] [1,0] (fun i:Nat=>[(22,.int .i64 i)]) (fun own i=>J1I own 1 (.vec g.ports.length 1 (Q4p g v i))) (fun m i=>m=(gR g.ports v).length-i/\i<=(gR g.ports v).length) (gR g.ports v).length 0 ⟨rfl,Nat.zero_le _⟩ rfl (fun _=>rfl) ?_ ?_
   . exact J0k (fun _ _=>[(0,some 0),(1,some 1)])
   rintro m i ⟨hm,hi⟩;have hto:=fun h=>X1y (f6 v (by omega)) (i:=i) h
   repeat' ((conv=>whnf);first|(refine Ar.sh1I (by omega) (by omega) ?_)|(refine Br.dec ?_ ?_<;>intro _<;>try omega)|(refine Ar.i64 (by omega) (by omega) ?_)|(refine Sv.mk _ rfl ?_)|(refine Nn.mk (by omega) ?_)|(refine Ix.nat (by omega) ?_)|(refine Ltn.mk (by omega) ?_))
   all_goals (conv=>whnf)
   . have hr:=X1p hg (v:=v) (by omega);have h1:=X3i ((gR g.ports v).take i) (fun l hl=>hr l (List.mem_of_mem_take hl));have h2:=J3Y (hr _ (J3c (show i<(gR g.ports v).length by omega)));refine⟨(gR g.ports v).length-(i+1),i+1,by omega,⟨rfl,by omega⟩,?_⟩;refine J0f (fun _ _=>[(0,some 0),(1,some 1)]) ?_ ?_ rfl
     . repeat' (first|exact True.intro|(refine⟨⟨_,rfl,?_⟩,?_⟩)|exact J0a.kf rfl|exact J0a.vec rfl rfl rfl)
     . repeat' (first|(rw[Nat.zero_add];exact Q6y hj (by omega) _ (by simp only[Nat.zero_add,Nat.lt_irrefl,if_false,if_true];rw[Q3X h1 h2,J3r _ _ (by omega),Q6u]))|exact True.intro|(refine⟨⟨_,rfl,?_⟩,?_⟩)|exact J0a.kf rfl|(refine⟨Nat.le_refl _,rfl,fun i j hi hj=>?_⟩)|(refine And.intro ?_ ?_))
   . refine⟨g.ports.length-(v+1),v+1,by omega,⟨rfl,by omega⟩,?_⟩;refine J0f (fun _ _=>[(0,some 0),(1,some 1)]) ?_ ?_ rfl
     . repeat' (first|exact True.intro|(refine⟨⟨_,rfl,?_⟩,?_⟩)|exact J0a.kf rfl|exact J0a.vec rfl rfl rfl)
     . repeat' (first|exact Q9P (by omega)|exact True.intro|(refine⟨⟨_,rfl,?_⟩,?_⟩)|exact J0a.kf rfl|(refine⟨Nat.le_refl _,rfl,fun i j hi hj=>?_⟩)|(refine And.intro ?_ ?_))
 . have e:v=g.ports.length:=by omega
   subst e;exact Q9Q
def ind (g:G) (s:Nat):Bool:=decide (∀v,v<g.ports.length->s.testBit v=true->nm (gR g.ports v) &&& s=0)
theorem X59 {g:G} {s v:Nat} (hv:v<g.ports.length) (hb:s.testBit v=true) (h:nm (gR g.ports v) &&& s≠0):VLe (.bool false) (.bool (ind g s)):=VLe.bool (by rw[ind,decide_eq_false (fun hh=>h (hh v hv hb))])
theorem Q3t {n i:Nat}:(J2x n).testBit i=decide (i<n):=by rw[J2x,Q0j];simp
theorem Q6f {s n:Nat} (h:J19 s (J2x n)) {i:Nat} (hi:s.testBit i=true):i<n:=by
 have:=h i hi;rw[Q3t,decide_eq_true_eq] at this;exact this
set_option maxHeartbeats 8000000 in
theorem Q7O (g:G) (hg:g.valid=true) (s:Nat) (hs:s<4294967296) (hp:J19 s (J2x g.ports.length)):RG 151 [.fz g.ports.length 1 false (X2z g),.int .u32 s] (.bool (ind g s)):=by
 obtain⟨f1,f2,f3,f4,f5,f6,f7⟩:=J0e hg;refine J3W rfl ?_;refine J0d J0b Tryz.func151 rfl Y0b X9w rfl ?_
 repeat' ((conv=>whnf);first|(refine J0d J0b Tryz.func68 rfl X9U X9f rfl ?_)|(refine J1Y ?_)|(refine Chk.mk (by kernel_rfl) ?_)|(refine J0d J0b Tryz.func108 rfl X3G X3D rfl ?_))
 all_goals (conv=>whnf)
 refine J02 J0b [0,1] [] [5,6,7,8,9,10,11,12,13,14,15,16,17,18,19,20,21,22,23,24,25,26,27,28,29] [4,3,2,1,0,999] (fun b:Nat=>[]) (fun own b=>J1I own 3 (.cells [.int .u32 (upS s b)])) (fun m b=>m=32-b/\b<=32/\∀v,v<b->s.testBit v=true->nm (gR g.ports v) &&& s=0) 32 0 ⟨rfl,by omega,fun v hv=>by omega⟩ rfl (fun _=>rfl) ?_ ?_
 . have hx:=J8M hs;refine J0f (fun _ _=>[(0,some 0),(1,some 1),(2,some 2),(3,some 3),(4,some 4),(999,some 999)]) ?_ ?_ rfl
   . repeat' (first|exact J0a.yld rfl|exact True.intro|(refine⟨⟨_,rfl,?_⟩,?_⟩)|exact J0a.loc rfl)
   . repeat' (first|exact J0a.int (by rw[hx])|(refine J0a.fn ?_)|(refine⟨rfl,rfl,rfl,rfl,rfl,?_⟩)|exact True.intro|exact⟨rfl,rfl,rfl⟩|(refine⟨⟨_,rfl,?_⟩,?_⟩)|exact J0a.kf rfl|exact J0a.loc rfl|(refine And.intro ?_ ?_))
 rintro m b ⟨hm,hb,hall⟩;have hul:=Q2F s b;by_cases hu:upS s b=0
 . repeat' ((conv=>whnf);first|(refine Br.bne ?_ ?_<;>intro _<;>try omega))
   all_goals (conv=>whnf)
   exact VLe.bool (by
    rw[ind,decide_eq_true];intro v hv hbv;by_cases h:v<b
    . exact hall v h hbv
    . rw[Q1y hs hu v (by omega)] at hbv;cases hbv)
 . obtain⟨v1,v2,v3,v4,v5⟩:=J8N hs hu;have htz:=X2B _ hu hul;have hr:J4a .and .u32 ((upS s b:Nat):Int) ((upS s b:Nat)-1:Int)=((upS s (ctz (upS s b)+1):Nat):Int):=by
    rw[<- v5,show((upS s b:Nat):Int)-1=((upS s b-1:Nat):Int) by omega,J2h hul (by omega)]
   generalize ctz (upS s b)=v at *;have hvn:=Q6f hp v3;have hnl:=X3i _ (X1p hg hvn);have ha:=J2h hnl hs
   repeat' ((conv=>whnf);first|(refine Br.tt ?_)|(refine Br.ff ?_)|(refine Br.bne ?_ ?_<;>intro _<;>try omega)|(refine Ar.u32 (by omega) (by omega) ?_)|(refine Sv.mk _ rfl ?_)|(refine Ix.nat (by omega) ?_)|(refine htz.gog ?_)|(refine J1B J0b rfl rfl ?_))
   all_goals (conv=>whnf)
   . rename_i hh;rw[ha] at hh;exact X59 hvn v3 (fun e=>hh (by rw[e];rfl))
   . rename_i hh;rw[ha] at hh;refine⟨32-(v+1),v+1,by omega,⟨rfl,by omega,fun u hu2 hb2=>?_⟩,?_⟩
     . by_cases h:u<b
       . exact hall u h hb2
       . by_cases e:u=v
         . subst e;omega
         . rw[v4 u (by omega) (by omega)] at hb2;cases hb2
     . refine J0f (fun _ _=>[(0,some 0),(1,some 1),(2,some 2),(3,some 3),(4,some 4),(999,some 999)]) ?_ ?_ rfl
       . repeat' (first|exact J0a.yld rfl|exact True.intro|(refine⟨⟨_,rfl,?_⟩,?_⟩)|exact J0a.loc rfl)
       . repeat' (first|exact J0a.int hr|(refine J0a.fn ?_)|(refine⟨rfl,rfl,rfl,rfl,rfl,?_⟩)|exact True.intro|exact⟨rfl,rfl,rfl⟩|(refine⟨⟨_,rfl,?_⟩,?_⟩)|exact J0a.kf rfl|exact J0a.loc rfl|(refine And.intro ?_ ?_))
def okC (g:G) (k:Int) (e c:Nat):Bool:=if k=1 then decide (c &&& (c-1)=0) else if k=2 then ind g c else if k=4 then decide (c=e) else true
def Q0A (g:G) (k:Int) (e c:Nat):Bool:=decide (c≠0/\J1w c e=0)&&okC g k e c
theorem J5f {a b c:Nat} (h1:J19 a b) (h2:J19 b c):J19 a c:=fun i h=>h2 i (h1 i h)
set_option maxHeartbeats 4000000 in
theorem Q1P (g:G) (hg:g.valid=true) (k:Int) (e c:Nat) (he:e<4294967296) (hc:c<4294967296) (hp:J19 e (J2x g.ports.length)):RG 107 [.fz g.ports.length 1 false (X2z g),.int .i64 k,.int .u32 e,.int .u32 c] (.bool (Q0A g k e c)):=by
 have hd:=J8z hc he;refine J3W rfl ?_;refine J0d J0b Tryz.func107 rfl Y0t X9O rfl ?_;rw[Q0A];by_cases h:c≠0/\J1w c e=0
 . rw[decide_eq_true h,Bool.true_and];have hpc:=J5f ((J1M hc).1 h.2) hp;have hi:=Q7O g hg c hc hpc;have h0:=h.1;have hd0:J4a .andNot .u32 (c:Int) (e:Int)=0:=by rw[hd,h.2];rfl
   have ha:J4a .and .u32 (c:Int) ((c:Int)-1)=((c &&& (c-1):Nat):Int):=by
    rw[show(c:Int)-1=((c-1:Nat):Int) by omega,J2h hc (by omega)]
   repeat' ((conv=>whnf);first|(refine Sv.mk 0 hd0.symm ?_)|(refine Sv.mk _ ha.symm ?_)|(refine Br.ff ?_)|(refine Br.dec ?_ ?_<;>intro _<;>try omega)|(refine Ar.u32 (by omega) (by omega) ?_)|(refine hi.gog ?_))
   all_goals (conv=>whnf)
   all_goals first
    | (rw[okC,if_pos (by assumption)];first|exact VLe.bool (by symm;first|exact decide_eq_true (by omega)|exact decide_eq_false (by omega)))
    | (rw[okC,if_neg (by assumption),if_pos (by assumption)];first|exact VLe.bool (Eq.symm (by assumption))|exact VLe.bool (by rw[ind];symm;first|exact decide_eq_true (by assumption)|exact decide_eq_false (by assumption)))
    | (rw[okC,if_neg (by assumption),if_neg (by assumption),if_pos (by assumption)];exact VLe.bool (by symm;first|exact decide_eq_true (by omega)|exact decide_eq_false (by omega)))
    | (rw[okC,if_neg (by assumption),if_neg (by assumption),if_neg (by assumption)];exact VLe.rfl)
 . rw[decide_eq_false h,Bool.false_and];by_cases h0:c=0
   . subst h0
     repeat' ((conv=>whnf);first|(refine Br.tt ?_))
     all_goals (conv=>whnf)
     all_goals exact VLe.rfl
   . have h1:J1w c e≠0:=fun x=>h ⟨h0,x⟩
     repeat' ((conv=>whnf);first|(refine Sv.mk _ hd.symm ?_)|(refine Br.dec ?_ ?_<;>intro _<;>try omega)|(refine Br.bne ?_ ?_<;>intro _<;>try omega))
     all_goals (conv=>whnf)
     all_goals exact VLe.rfl
def gr (g:G) (W:Nat):Nat->Nat
 | 0=>0
 | b+1=>if W.testBit b=true/\nm (gR g.ports b) &&& gr g W b=0 then gr g W b ||| 2 ^ b else gr g W b
theorem X1Q (g:G) (W:Nat):∀b,gr g W b<2 ^ b
 | 0=>by show 0<1;omega
 | b+1=>by
   have h:=X1Q g W b;have h2:2 ^ b<2 ^ (b+1):=Nat.pow_lt_pow_right (by omega) (by omega);rw[gr];split
   . exact Nat.or_lt_two_pow (by omega) h2
   . omega
theorem Q7k {g:G} {W b:Nat}:∀{v:Nat},b<=v->(∀j,b<=j->j<v->W.testBit j=false)->gr g W v=gr g W b
 | 0,h,_=>by rw[show b=0 by omega]
 | v+1,h,hz=>by
   by_cases e1:b=v+1
   . rw[e1]
   . rw[gr,if_neg (by rw[hz v (by omega) (by omega)];simp)];exact Q7k (by omega) (fun j a c=>hz j a (by omega))
def wsh (e w:Nat):Nat:=if w &&& e=0 then J4p e else w &&& e
theorem Q5d {e w:Nat} (he:e<4294967296):wsh e w<4294967296:=by
 rw[wsh];split
 . exact X3l e he
 . exact Nat.lt_of_le_of_lt Nat.and_le_right he
theorem Q8Z {e w:Nat} (he:e<4294967296):J19 (wsh e w) e:=by
 rw[wsh];split
 . exact J1P he
 . exact J83 _ _
def rs (g:G) (k:Int) (e w:Nat):Nat:=if k=1 then J4p (wsh e w) else if k=2 then gr g (wsh e w) 32 else if k=4 then e else wsh e w
theorem Q5b {s:Nat}:s=0↔∀i,s.testBit i=false:=⟨fun h i=>by subst h;simp,fun h=>Nat.eq_of_testBit_eq fun i=>by rw[h,Nat.zero_testBit]⟩
theorem J2U {a b:Nat}:a &&& b=0↔∀i,a.testBit i=true->b.testBit i=false:=by
 rw[Q5b];constructor
 . intro h i hi;have:=h i;rw[Nat.testBit_and,hi,Bool.true_and] at this;exact this
 . intro h i;rw[Nat.testBit_and];cases e:a.testBit i with
   | false=>rfl
   | true=>rw[h i e];rfl
def adj (g:G) (u v:Nat):Bool:=(nm (gR g.ports u)).testBit v
theorem J2H {g:G} {u v:Nat}:adj g u v=true↔∃l∈gR g.ports u,l.1.toNat=v:=by
 rw[adj,X1D,List.any_eq_true];simp
theorem Q8I {g:G} (hg:g.valid=true) {u v:Nat} (hu:u<g.ports.length) (h:adj g u v=true):adj g v u=true:=by
 obtain⟨f1,f2,f3,f4,f5,f6,f7⟩:=J0e hg;obtain⟨l,hl,rfl⟩:=J2H.1 h;exact J2H.2 ⟨_,f7 u hu l hl,by simp⟩
theorem Q8J {g:G} (hg:g.valid=true) {u:Nat} (hu:u<g.ports.length):adj g u u=false:=by
 obtain⟨f1,f2,f3,f4,f5,f6,f7⟩:=J0e hg;cases h:adj g u u with
 | false=>rfl
 | true =>
   obtain⟨l,hl,h2⟩:=J2H.1 h;have:=(J1k.1 (f6 u hu)).1 l hl;omega
theorem X3A {g:G} {s:Nat}:ind g s=true↔∀v u,v<g.ports.length->s.testBit v=true->adj g v u=true->s.testBit u=false:=by
 rw[ind,decide_eq_true_eq];constructor
 . intro h v u hv hb ha;exact J2U.1 (h v hv hb) u ha
 . intro h v hv hb;exact J2U.2 (fun u ha=>h v u hv hb ha)
theorem J76 (k:Nat):2 ^ k &&& (2 ^ k-1)=0:=by rw[Nat.and_two_pow_sub_one_eq_mod,Nat.mod_self]
theorem X3m (s:Nat):J4p s &&& (J4p s-1)=0:=by
 rw[J4p];split
 . rfl
 . exact J76 _
theorem J2D {g:G} {k:Int} {e c:Nat}:Q0A g k e c=true↔c≠0/\J1w c e=0/\okC g k e c=true:=by
 rw[Q0A,Bool.and_eq_true,decide_eq_true_eq,and_assoc]
theorem okC1 {g:G} {e c:Nat}:okC g 1 e c=true↔c &&& (c-1)=0:=by rw[okC,if_pos rfl,decide_eq_true_eq]
theorem okC2 {g:G} {e c:Nat}:okC g 2 e c=true↔ind g c=true:=by rw[okC,if_neg (by decide),if_pos rfl]
theorem okC3 {g:G} {e c:Nat}:okC g 3 e c=true:=by rw[okC,if_neg (by decide),if_neg (by decide),if_neg (by decide)]
theorem okC4 {g:G} {e c:Nat}:okC g 4 e c=true↔c=e:=by rw[okC,if_neg (by decide),if_neg (by decide),if_pos rfl,decide_eq_true_eq]
theorem Q1X {g:G} {W b i:Nat} (h:b<=i):(gr g W b).testBit i=false :=
 Nat.testBit_lt_two_pow (Nat.lt_of_lt_of_le (X1Q g W b) (Nat.pow_le_pow_right (n:=2) (by omega) h))
theorem J62 {g:G} {W i:Nat}:∀{b:Nat},i<b->((gr g W b).testBit i=true↔W.testBit i=true/\nm (gR g.ports i) &&& gr g W i=0)
 | b+1,h=>by
   by_cases e:i=b
   . subst e;rw[gr];split
     . rename_i hh;rw[Nat.testBit_or,Nat.testBit_two_pow_self,Bool.or_true];exact⟨fun _=>hh,fun _=>rfl⟩
     . rename_i hh;rw[Q1X (Nat.le_refl _)];exact⟨fun x=>Bool.noConfusion x,fun x=>(hh x).elim⟩
   . have ih:=J62 (g:=g) (W:=W) (i:=i) (b:=b) (by omega);rw[gr];split
     . rw[Nat.testBit_or,Nat.testBit_two_pow,decide_eq_false (by omega),Bool.or_false];exact ih
     . exact ih
theorem X3L (g:G) (W b:Nat):J19 (gr g W b) W:=fun i hi=>by
 by_cases h:i<b
 . exact((J62 h).1 hi).1
 . rw[Q1X (by omega)] at hi;cases hi
theorem Q3r {g:G} {W i b b':Nat} (h:i<b) (h':i<b'):(gr g W b).testBit i=(gr g W b').testBit i:=by
 rw[Bool.eq_iff_iff,J62 h,J62 h']
theorem X1R {g:G} {W b i:Nat} (h:(gr g W b).testBit i=true):i<b:=by
 rcases Nat.lt_or_ge i b with h'|h'
 . exact h'
 . rw[Q1X h'] at h;cases h
theorem X6f {g:G} (hg:g.valid=true) {W:Nat} (hp:J19 W (J2x g.ports.length)) (b:Nat):ind g (gr g W b)=true:=by
 rw[X3A];intro v u hv hb ha;cases hu:(gr g W b).testBit u with
 | false=>rfl
 | true =>
   exfalso;have hub:=X1R hu;have hvb:=X1R hb;rcases Nat.lt_trichotomy u v with h|h|h
   . have h1:=((J62 hvb).1 hb).2;rw[Q3r hub h] at hu;rw[J2U.1 h1 u ha] at hu;cases hu
   . subst h;rw[Q8J hg hv] at ha;cases ha
   . have h1:=((J62 hub).1 hu).2;rw[Q3r hvb h] at hb;rw[J2U.1 h1 v (Q8I hg hv ha)] at hb;cases hb
theorem Y0z {g:G} {W:Nat} (h0:W≠0) (hW:W<4294967296):gr g W 32≠0:=by
 obtain⟨k1,k2,k3⟩:=J1R h0 hW;have h1:gr g W (ctz W)=0:=Q7k (b:=0) (Nat.zero_le _) (fun j _ hj=>k3 j hj);have h2:=(J62 (g:=g) (W:=W) (i:=ctz W) (b:=32) k1).2 ⟨k2,by rw[h1,Nat.and_zero]⟩;intro h;rw[h,Nat.zero_testBit] at h2;cases h2
theorem X46 {e w:Nat} (h0:e≠0):wsh e w≠0:=by
 rw[wsh];split
 . exact Q1T h0
 . assumption
theorem Q5R {g:G} {k:Int} {e w:Nat} (he:e<4294967296):k≠4->J19 (rs g k e w) (wsh e w):=by
 intro hk;rw[rs];split
 . exact J1P (Q5d he)
 . split
   . exact X3L _ _ _
   . exact fun i h=>h
theorem Q9B {g:G} (hg:g.valid=true) {k:Int} {e w:Nat} (hk:dk k=true) (he:e<4294967296) (hp:J19 e (J2x g.ports.length)) (h0:e≠0):Q0A g k e (rs g k e w)=true:=by
 have hW:=Q5d (w:=w) he;have hWe:=Q8Z (w:=w) he;have hWp:=J5f hWe hp;have hW0:=X46 (w:=w) h0;rw[Q7N] at hk;rw[J2D];by_cases h4:k=4
 . subst h4;have e1:rs g 4 e w=e:=by rw[rs,if_neg (by decide),if_neg (by decide),if_pos rfl]
   rw[e1];exact⟨h0,(J1M he).2 (fun i h=>h),okC4.2 rfl⟩
 . have hpt:=Q5R (g:=g) (w:=w) he h4;have hlt:rs g k e w<4294967296:=Nat.lt_of_le_of_lt hpt.le hW;refine⟨?_,(J1M hlt).2 (J5f hpt hWe),?_⟩
   . rw[rs];split
     . exact Q1T hW0
     . split
       . exact Y0z hW0 hW
       . exact hW0
   . have hk':k=1\/k=2\/k=3:=by omega
     rcases hk' with rfl|rfl|rfl
     . rw[okC1,rs,if_pos rfl];exact X3m _
     . rw[okC2,rs,if_neg (by decide),if_pos rfl];exact X6f hg hWp 32
     . exact okC3
instance:Inhabited Cnt:=⟨⟨0,0,0,0,0⟩⟩
def X41 (e:Nat):Cnt:=⟨0,0,0,0,e⟩
theorem Q7F (p:Pr) (g:G) (c:Cf):enN p g c<2 ^ g.ids.length:=Q6z _ _
theorem X0q (p:Pr) {g:G} (hg:g.valid=true) (c:Cf):enN p g c<16777216:=by
 obtain⟨f1,f2,f3,f4,f5,f6,f7⟩:=J0e hg;exact Nat.lt_of_lt_of_le (Q7F p g c) (Nat.pow_le_pow_right (n:=2) (by omega) f2)
theorem Q4K (p:Pr) {g:G} (hg:g.valid=true) (c:Cf):enN p g c<4294967296:=by have:=X0q p hg c;omega
theorem Q7G (p:Pr) {g:G} (hg:g.valid=true) (c:Cf):J19 (enN p g c) (J2x g.ports.length):=fun i hi=>by
 obtain⟨f1,f2,f3,f4,f5,f6,f7⟩:=J0e hg;rw[enN,Q0j,Bool.and_eq_true,decide_eq_true_eq] at hi;rw[Q3t,decide_eq_true_eq];omega
theorem J4g (p:Pr) (g:G) (c:Cf) (v:Nat):(enN p g c).testBit v=(decide (v<g.ids.length)&&decide (0<=J0U p g c v)):=Q0j _ _ _
theorem X6L {kind lo hi v:Int} (h:lo<=hi) (h3:kind=3->lo=-1):lo<=brI kind lo hi v/\brI kind lo hi v<=hi:=by
 unfold brI;split
 . omega
 . split
   . have:=h3 (by assumption);omega
   . split<;>omega
theorem X6M {g:G} (hg:g.valid=true) {x:Vr} (hx:Q8L x) {v:Nat} (hv:v<g.ports.length):(bnd g x v).1<=(bnd g x v).2/\(x.kind=3->(bnd g x v).1=-1):=by
 have h1:=J5U hg hx hv;rcases hx.kind with h|h|h
 . exact⟨h1.2.2.2.2 h,fun e=>by omega⟩
 . rw[bnd,if_neg (by omega),if_pos h];exact⟨by decide,fun e=>by omega⟩
 . rw[bnd,if_neg (by omega),if_neg (by omega)];exact⟨by simp only;omega,fun _=>rfl⟩
theorem J3b (l:List Int) (a i:Nat) (x:Int) (ha:a<l.length):gI (l.set a x) i=if i=a then x else gI l i:=by
 simp only[gI,List.getD,List.getElem?_set];by_cases h:a=i
 . subst h;simp[ha]
 . have:¬ i=a:=fun e=>h e.symm;rw[if_neg h,if_neg this]
theorem J17 {p:Pr} (hp:J2I p) {g:G} (hg:g.valid=true) {c:Cf} (hc:J1s p g c) {s:Nat} (hs:J19 s (enN p g c)):J1s p g (J0R p g c s):=by
 obtain⟨f1,f2,f3,f4,f5,f6,f7⟩:=J0e hg;have hl:=hc.len;have key:∀v,v<c.length->s.testBit v=true->∀x,x<p.vars.length->(bnd g (gV p.vars x) v).1<=gI (J27 p g c v (J0U p g c v).toNat) x/\gI (J27 p g c v (J0U p g c v).toNat) x<=(bnd g (gV p.vars x) v).2:=by
  intro v hv hb x hx;have hen:=hs v hb;rw[J4g,Bool.and_eq_true,decide_eq_true_eq,decide_eq_true_eq] at hen;have hrl:=Q2X p g c v;have hr:(J0U p g c v).toNat<p.rules.length:=by omega
  have hset:=hp.set _ hr;unfold J27 X1s;generalize (gRl p.rules (J0U p g c v).toNat).sets=l at hset;have gen:∀(l:List (Int×Tm)),(∀j,j<l.length->0<=(gS l j).1/\(gS l j).1<p.vars.length)->∀st:List Int,st.length=p.vars.length->((bnd g (gV p.vars x) v).1<=gI st x/\gI st x<=(bnd g (gV p.vars x) v).2) ->
   (bnd g (gV p.vars x) v).1<=gI (l.foldl (X29 p g c v) st) x/\gI (l.foldl (X29 p g c v) st) x<=(bnd g (gV p.vars x) v).2:=by
   intro l
   induction l with
   | nil=>intro _ st _ h;exact h
   | cons a r ih =>
     intro hj st hst h;rw[List.foldl_cons];have ha:0<=a.1/\a.1<p.vars.length:=hj 0 (by simp);refine ih (fun j hj'=>by have:=hj (j+1) (by simpa using hj');simpa[gS] using this) _ (by simp[X29,hst]) ?_;rw[X29,J3b _ _ _ _ (by omega)];split
     . rename_i e;subst e;have hb:=X6M hg (hp.var a.1.toNat hx) (v:=v) (by omega);exact X6L hb.1 hb.2
     . exact h
  exact gen l (fun j hj=>⟨(hset j hj).1,(hset j hj).2.1⟩) _ (hc.row v hv) (hc.val v hv x hx)
 refine⟨by rw[J25];exact hl,fun v hv=>?_,fun v hv x hx=>?_⟩
 . rw[J25] at hv;rw[J2z p g c s hv];split
   . rw[J27,J80];exact hc.row v hv
   . exact hc.row v hv
 . rw[J25] at hv;rw[J2z p g c s hv];split
   . rename_i hb;exact key v hv hb x hx
   . exact hc.val v hv x hx
def J50 (l:List (Cf×Cnt)):Cf:=(l.getLast?.getD default).1
def wsE (l:List Int) (i:Nat):Int:=if l.length=0 then 4294967295 else
 J4a .and .u32 (J4a .or .u32 (IntKind.u32.wrap (J4a .and .u32 (gI l (i % l.length)) 16777215*2 ^ (min (((i:Int).tdiv l.length).tmod 24).toNat 32))) ((J4a .and .u32 (gI l (i % l.length)) 16777215).fdiv (2 ^ (min (24-((i:Int).tdiv l.length).tmod 24).toNat 32)))) 16777215
def wsN (l:List Int) (i:Nat):Nat:=(wsE l i).toNat
theorem wrem {i n:Nat} (h:n≠0):(i:Int).tmod n=((i % n:Nat):Int):=by
 rw[Int.tmod_eq_emod_of_nonneg (by omega)];exact(Int.natCast_emod _ _).symm
end Go.Proofs.YtlpfphlbghdokaaGreatDoor
namespace Go.Proofs.YtlpfphlbghdokaaGreatDoor
open Go.Eng Go.ChangeShapes Go.WideShapes Go.ChangeAt Go.WideMaps Go.WideElems Go.RowKit
set_option maxRecDepth 100000
set_option linter.unusedVariables false
theorem ownk:ownKnob Tryz.prog.godebug=none:=by kernel_rfl
theorem X9c:laidOutB Tryz.prog=true:=by kernel_rfl
theorem Q3R:Tryz.prog.cellsOf 3=1:=by kernel_rfl
theorem X6G:Tryz.prog.cellsOf 5=1:=by kernel_rfl
theorem X6H:Tryz.prog.cellsOf 4=1:=by kernel_rfl
theorem X4o:Tryz.prog.cellsOf 22=1:=by kernel_rfl
theorem X0M:Tryz.prog.cellsOf 233=32:=by kernel_rfl
theorem X4n:Tryz.prog.cellsOf 24=6:=by kernel_rfl
theorem X5t:Tryz.prog.readableRec 24=true:=by kernel_rfl
theorem X5p:24<Tryz.prog.types.size:=of_decide_eq_true (by kernel_rfl)
theorem X2R:Tryz.prog.wantsStandIn 24=false:=by kernel_rfl
theorem gTab:Tryz.prog.globalNamed "math/bits.deBruijn32tab"=some 0:=by kernel_rfl
theorem tTab:(Tryz.prog.globals[0]?).map (·.type)=some 233:=by kernel_rfl
abbrev Q63:List (String×DataW Unit):=[("math/bits.deBruijn32tab",Rows.laid_math_bits_deBruijn32tab)]
theorem X0v (os:Os) (args:Array Value):laidMetH Tryz.prog Q63 ((World.doorLaid Tryz.prog 400 os).forCall (fun _ _=>0) ⟨#[],args,[]⟩).memory :=
 laidMetH_of_parts3 (fuel:=8) (laidMet_of_run' 8 (by kernel_rfl) (by kernel_rfl)) (by kernel_rfl) (by kernel_rfl)
theorem X3g {W:World} (h:laidMetH Tryz.prog Q63 W):Den (fun _=>False) W Sg.none (.fe 32 1 tzF 0 0) (.pointer (some ⟨0,0,none⟩)):=by
 rw[MakeChecks.laidMetH_plain _ _ _ (by kernel_rfl)] at h;obtain⟨ps,⟨g0,t0,cs0,f0,p0,q0,hg0,ht0,hv0,hd0,_⟩,_,_⟩:=h;obtain rfl:=Option.some.inj (gTab.symm.trans hg0);obtain rfl:=Option.some.inj (tTab.symm.trans ht0);obtain⟨xs,m1,rfl,hx1,hlen,hn,hel⟩:=DataW.trod_array Tryz.underlying233 hd0;simp only[Prod.mk.injEq] at hx1;have hxs:xs.map (·.1)=tzL.map fun n=>(DataW.lit (.int .u8 n):DataW Unit):=by
  have:=hx1.1;rw[Rows.laid_math_bits_deBruijn32tab] at this;have h2:=DataW.agg.inj this;exact h2.symm
 have key:∀i,i<32->W.cell? ⟨0,i,none⟩=some (.int .u8 (tzL.getD i 0)):=by
  intro i hi;have h0:=hel i hi;rw[X6G,Nat.mul_one] at h0;have hxi:xs[i]?.map (·.1)=some (.lit (.int .u8 (tzL.getD i 0))):=by
   rw[<- List.getElem?_map,hxs,List.getElem?_map,List.getElem?_eq_getElem (show i<tzL.length from hi)];simp only[Option.map_some,List.getD,List.getElem?_eq_getElem (show i<tzL.length from hi),Option.getD_some]
  cases hx:xs[i]? with
  | none=>rw[hx] at hxi;cases hxi
  | some x =>
    rw[hx] at h0 hxi;obtain⟨k,e1,e2,_⟩:=DataW.trod_int Tryz.underlying5 h0;rw[e2] at hxi;simp only[Option.map_some,Option.some.injEq] at hxi;have hk:k=tzL.getD i 0:=by
     have:=DataW.lit.inj hxi;exact(Lit.int.inj this).2
    have hc:=World.var?_cell hg0 hv0 i;rw[hc];have hl:i<cs0.toList.length:=by rw[hlen,X0M];exact hi
    have h3:cs0.toList[i]?=some (.int .u8 k):=by
     have:=congrArg (·[0]?) e1;simpa[List.getElem?_take,List.getElem?_drop] using this
    rw[<- hk];simpa using h3
 have hb:0<W.heap.size:=by
  have:=key 0 (by decide);unfold World.cell? at this;split at this
  . rename_i h;exact lt_of_getElem? h
  . cases this
 exact .fe _ _ _ _ _ _ _ _ (fun i _=>.int .u8 (tzL.getD i 0)) (by decide) (fun h=>h) hb
  (fun i j hi hj=>by(obtain rfl:j=0:=by omega);simpa using key i hi) (fun i j hi hj=>rfl) (fun i j hi hj=>.int _ _ _)
theorem Q6H {n:Nat} (h:n<=maxLen):n<=9223372036854775807:=h
section
variable {H:Type} {enc:TypeId×Value->H} {W:World} {sp:Nat->Bool} {hd:Bool}
theorem X36 {v:Value} {d:DataW H} {ps:List MemPlace} (hv:∃cs,v=.agg cs) (h:DataW.Trod enc Tryz.prog W 0 sp hd 24 v d ps):∃x:Net,x.Small/\Den (fun _=>False) W Sg.none x.v v:=by
 obtain⟨arr,rfl⟩:=hv;obtain⟨fuel,h⟩:=h;obtain⟨hl,n,hf⟩:=J6r Tryz.underlying24 h;simp only[Value.cells] at hl hf;generalize hcs:arr.toList=cs at hl hf;rw[X4n] at hl;obtain⟨x0,y0⟩:=hf 0 _ rfl;obtain⟨x1,y1⟩:=hf 1 _ rfl;obtain⟨x2,y2⟩:=hf 2 _ rfl;obtain⟨x3,y3⟩:=hf 3 _ rfl;obtain⟨x4,y4⟩:=hf 4 _ rfl;obtain⟨x5,y5⟩:=hf 5 _ rfl;simp only[Q3R,X4o,X6H] at y0 y1 y2 y3 y4 y5;obtain⟨n0,e0,_⟩:=J5B Tryz.underlying3 y0;obtain⟨u1,l1,e1,_,d1,m1,_⟩:=J9m Sg.none Tryz.underlying22 Tryz.underlying3 Q3R y1;obtain⟨u2,l2,e2,_,d2,m2,_⟩:=J9m Sg.none Tryz.underlying22 Tryz.underlying3 Q3R y2;obtain⟨u3,l3,e3,_,d3,m3,_⟩:=J9m Sg.none Tryz.underlying22 Tryz.underlying3 Q3R y3;obtain⟨b4,e4⟩:=J4F Tryz.underlying4 y4;obtain⟨b5,e5⟩:=J4F Tryz.underlying4 y5
 match cs,hl with
 | [c0,c1,c2,c3,c4,c5],_ =>
   simp at e0 e1 e2 e3 e4 e5;subst e0 e1 e2 e3 e4 e5;refine⟨⟨n0,l1,l2,l3,b4,b5⟩,⟨Q6H m1,Q6H m2,Q6H m3⟩,?_⟩;have:arr=[.int .i64 n0,c1,c2,c3,.bool b4,.bool b5].toArray:=by rw[<- hcs]
   rw[this];refine .agg _ _ _ rfl ?_;intro i v u hv hu
   match i,hv,hu with
   | 0,hv,hu=>simp at hv hu;subst hv hu;exact .int _ _ _
   | 1,hv,hu=>simp at hv hu;subst hv hu;exact d1
   | 2,hv,hu=>simp at hv hu;subst hv hu;exact d2
   | 3,hv,hu=>simp at hv hu;subst hv hu;exact d3
   | 4,hv,hu=>simp at hv hu;subst hv hu;exact .bool _ _
   | 5,hv,hu=>simp at hv hu;subst hv hu;exact .bool _ _
   | i+6,hv,hu=>simp at hv
end
theorem Q4X {W:World} {base:Nat} {v:Value} (h:Value.okWide Tryz.prog W .any base 24 v):∃cs,v=.agg cs:=by
 unfold Value.okWide at h;rw[Tryz.underlying24] at h;obtain⟨cs,h,_⟩:=h;exact⟨cs,h⟩
end Go.Proofs.YtlpfphlbghdokaaGreatDoor
namespace Go.Plain.An
def hit (l ts:List Nat):Nat:=ts.countP fun t=>decide (t∈l)
variable {N:Nat} {ar:Nat->List Nat} {set:Nat->Bool}
end Go.Plain.An
