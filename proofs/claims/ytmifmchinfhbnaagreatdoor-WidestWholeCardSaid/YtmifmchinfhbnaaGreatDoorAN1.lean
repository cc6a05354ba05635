import Derived.Test.YtmifmchinfhbnaaGreatDoorGR10
import Derived.Test.YtmifmchinfhbnaaGreatDoorEngZ
import Derived.Test.YtmifmchinfhbnaaGreatDoorGRCode
import Derived.Test.YtmifmchinfhbnaaGreatDoorEngT
import Derived.Test.YtmifmchinfhbnaaGreatDoorRows
import Derived.LaidMore
import Derived.Stop.Joined
import Derived.SevenTiedAt
import GoSem.ClaimSeven
namespace Go.Proofs.YtmifmchinfhbnaaGreatDoor
open Go.Eng
set_option maxRecDepth 100000
set_option linter.unusedVariables false
def Q5V (p:Pr) (g:G) (v:Nat):Nat->Nat->V:=fun x j=>match j with
 | 0=>.int .i64 (bnd g (gV p.vars x) v).1
 | _=>.int .i64 (bnd g (gV p.vars x) v).2
def tbl (p:Pr) (g:G):Nat->Nat->V:=fun v _=>.fz p.vars.length 2 false (Q5V p g v)
def X0f (p:Pr) (g:G):V:=.fz g.ids.length 1 false (tbl p g)
def opn (v n k:Nat):List (Nat×Nat):=if v<n then[(v,k)] else[]
def Q36 (m v:Nat):Nat->Nat:=fun i=>if i<v then m else 0
def X0u (p:Pr) (g:G) (v x:Nat):Nat->Nat->V:=fun i j=>if i<x then Q5V p g v i j else .int .i64 0
theorem Q6T (p:Pr) (g:G) (v x i j:Nat) (hj:j<2):VLe (J00 (J00 (X0u p g v x) x 0 [.int .i64 (bnd g (gV p.vars x) v).1]) x 1 [.int .i64 (bnd g (gV p.vars x) v).2] i j) (X0u p g v (x+1) i j):=by
 apply VLe.of_eq;by_cases h:i=x
 . subst h;obtain rfl|rfl:j=0\/j=1:=by omega
   . simp[J00,X0u,Q5V]
   . simp[J00,X0u,Q5V]
 . have h1:(i<x+1)=(i<x):=by simp;omega
   simp[J00,X0u,h,h1]
theorem J2G {c:List Nat} {q:Nat} {chg:List Nat} (h:J1c q chg=true):∀k,k∈(q::c)->k∈c\/k∈chg:=fun k hk=>by
 rcases List.mem_cons.1 hk with e|e
 . exact .inr (by rw[e];exact J0m.1 h)
 . exact .inl e
theorem Q08 (m v:Nat):Q36 m v v=0:=if_neg (by omega)
theorem J6f (m v i:Nat):J2K (Q36 m v) v m i=Q36 m (v+1) i:=by
 simp only[J2K,Q36];by_cases h:i=v
 . rw[if_pos h,if_pos (by omega)]
 . rw[if_neg h];by_cases h2:i<v
   . rw[if_pos h2,if_pos (by omega)]
   . rw[if_neg h2,if_neg (by omega)]
theorem Q0B (p:Pr) (g:G) (v i j t:Nat) (hj:j<J2K (Q36 p.vars.length v) v p.vars.length i) (ht:t<2):VLe (J3j (Q5V p g) v (X0u p g v p.vars.length) i j t) (Q5V p g i j t):=by
 apply VLe.of_eq;simp only[J3j];split
 . rename_i e;subst e;rw[J2K,if_pos rfl] at hj;rw[X0u,if_pos hj]
 . rfl
theorem J64 {a b chg:List Nat} (h:(a.all fun k=>J1c k b)=true):∀k,k∈a->k∈b\/k∈chg:=fun k hk=>.inl (J0m.1 (List.all_eq_true.1 h k hk))
set_option maxHeartbeats 8000000 in
theorem J4O (p:Pr) (hp:J2M p) (g:G) (hg:g.valid=true):Ret Tryz.prog 31 [p.v,g.v] (X0f p g):=by
 obtain⟨f1,f2,f3,f4,f5,f6,f7⟩:=J0f hg;have hvl:=hp.vlen;refine J0h rfl ?_;refine J0d J0b Tryz.func31 rfl hc31 hr31 rfl ?_
 repeat' ((conv=>whnf);first|(refine Bd.nat (by omega) ?_)|(refine Len.mk (by omega) ?_)|(refine MkS.vec ?_))
 all_goals (conv=>whnf)
 refine J0u J0b [2,3,5,14] [3] [4,5,6,7,8,9,10,11,12,13,14,15,16,17,18,19,20,21,22,23,24,25,26,27,28,29] [3,2,1,0] (fun v:Nat=>[(15,.int .i64 v)])
  (fun own v=>(3,.vec (Q36 p.vars.length v v) 2 (Q5V p g v))::J1l (J1l own 2 (.fam g.ids.length 2 (Q36 p.vars.length v) (Q5V p g) [])) 2 (.fam g.ids.length 2 (Q36 p.vars.length v) (Q5V p g) (opn v g.ids.length 3))) (fun k v=>k=g.ids.length-v/\v<=g.ids.length) g.ids.length 0 ⟨rfl,Nat.zero_le _⟩ rfl (fun _=>rfl) ?_ ?_
 . have e:opn 0 g.ids.length 3=[(0,3)]:=if_pos (by omega);simp only[e];refine J3c.trans ?_ (J0V (ks:=[3,4,5,6,7,8,9,10,11,12,13,14,15,16,17,18,19,20,21,22,23,24,25,26,27,28,29]) rfl rfl rfl (by omega) rfl) (J2G rfl);refine J0c (fun _ _=>[(0,some 0),(1,some 1),(2,some 2)]) ?_ ?_ rfl
   . repeat' (first|exact True.intro|(refine⟨⟨_,rfl,?_⟩,?_⟩)|exact J0a.kf rfl|exact J0a.loc rfl|exact J0a.vec rfl rfl rfl)
   . repeat' (first|exact⟨rfl,rfl,rfl,fun i hi=>⟨rfl,if_neg (by omega)⟩⟩|exact True.intro|(refine⟨⟨_,rfl,?_⟩,?_⟩)|exact J0a.kf rfl|(refine And.intro ?_ ?_))
 rintro k v ⟨hk,hv⟩;by_cases hvn:v<g.ids.length
 . have e:opn v g.ids.length 3=[(v,3)]:=if_pos hvn;simp only[e]
   repeat' ((conv=>whnf);first|(refine Br.dec ?_ ?_<;>intro _<;>try omega)|(refine Ix.nat (by omega) ?_)|(refine Bd.nat (by omega) ?_)|(refine Len.mk (by omega) ?_)|(refine Ltn.mk (by omega) ?_)|(refine J11.hd (by omega) ?_))
   all_goals (conv=>whnf)
   refine J0u J0b [2,3,5,6,14,15,26,27] [4] [5,6,7,8,9,10,11,12,13,14,15,16,17,18,19,20,21,22,23,24,25,26,27,28,29] [4,3,2,1,0] (fun x:Nat=>[(28,.int .i64 x)])
    (fun own x=>J1l own 4 (.vec p.vars.length 2 (X0u p g v x))) (fun k x=>k=p.vars.length-x/\x<=p.vars.length) p.vars.length 0 ⟨rfl,Nat.zero_le _⟩ rfl (fun _=>rfl) ?_ ?_
   . refine J0c (fun _ _=>[(0,some 0),(1,some 1),(2,some 2),(3,some 3),(4,some 4)]) ?_ ?_ rfl
     . repeat' (first|exact True.intro|(refine⟨⟨_,rfl,?_⟩,?_⟩)|exact J0a.kf rfl|exact J0a.loc rfl|exact J0a.vec rfl rfl rfl)
     . repeat' (first|exact⟨rfl,rfl,⟨rfl,rfl,True.intro⟩,fun i hi=>rfl,fun i j t hi hn hj ht=>VLe.rfl⟩|(refine⟨Nat.le_refl _,rfl,fun i j hi hj=>VLe.of_eq ?_⟩;rw[X0u,if_neg (by omega)];(obtain rfl|rfl:j=0\/j=1:=by omega)<;>rfl)|exact True.intro|(refine⟨⟨_,rfl,?_⟩,?_⟩)|exact J0a.kf rfl|(refine⟨Nat.le_refl _,rfl,fun i j hi hj=>?_⟩)|exact VLe.rfl|(refine And.intro ?_ ?_))
   rintro k x ⟨hk2,hx⟩;by_cases hxn:x<p.vars.length
   . have hb:=X3g g hg _ (hp.var x hxn) v (by omega)
     repeat' ((conv=>whnf);first|(refine Br.dec ?_ ?_<;>intro _<;>try omega)|(refine Ar.i64 (by omega) (by omega) ?_)|(refine Ix.nat (by omega) ?_)|(refine Ix.mk 0 rfl (by omega) ?_)|(refine Ix.mk 1 rfl (by omega) ?_)|(refine Ltn.mk (by omega) ?_)|(refine Opn.hdl (by omega) (show J2K _ _ _ _=p.vars.length from if_pos rfl) ?_)|(refine hb.go ?_)|(refine And.intro (Ltn.mk (by omega) (Opn.hdl (by omega) (show J2K _ _ _ _=p.vars.length from if_pos rfl) rfl)) ?_))
     all_goals (conv=>whnf)
     refine⟨p.vars.length-(x+1),x+1,by omega,⟨rfl,by omega⟩,?_⟩;refine J0c (fun _ _=>[(0,some 0),(1,some 1),(2,some 2),(3,some 3),(4,some 4)]) ?_ ?_ rfl
     . repeat' (first|exact True.intro|(refine⟨⟨_,rfl,?_⟩,?_⟩)|exact J0a.kf rfl|exact J0a.loc rfl|exact J0a.vec rfl rfl rfl)
     . repeat' (first|exact⟨rfl,rfl,⟨rfl,rfl,True.intro⟩,fun i hi=>rfl,fun i j t hi hn hj ht=>VLe.rfl⟩|(simp only[Nat.zero_add,Nat.zero_mul,Nat.one_mul];exact Q6T p g v x _ _ hj)|exact True.intro|(refine⟨⟨_,rfl,?_⟩,?_⟩)|exact J0a.kf rfl|(refine⟨Nat.le_refl _,rfl,fun i j hi hj=>?_⟩)|exact VLe.rfl|(refine And.intro ?_ ?_))
   . have ex:x=p.vars.length:=by omega
     subst ex
     repeat' ((conv=>whnf);first|(refine Br.dec ?_ ?_<;>intro _<;>try omega)|(refine Ar.i64 (by omega) (by omega) ?_))
     all_goals (conv=>whnf)
     refine⟨g.ids.length-(v+1),v+1,by omega,⟨rfl,by omega⟩,?_⟩;refine J3c.trans (J1R (J1h (q:=4) (k:=2) (i:=v) [] rfl rfl hvn (J0n rfl) (Nat.le_of_eq (if_pos rfl)) rfl (fun j hj=>(J0j (fun e=>hj e.symm)).symm))) ?_ (J64 rfl);by_cases h1:v+1<g.ids.length
     . have e1:opn (v+1) g.ids.length 3=[(v+1,3)]:=if_pos h1;simp only[e1];refine J3c.trans ?_ (J0V (ks:=[3,4,5,6,7,8,9,10,11,12,13,14,15,16,17,18,19,20,21,22,23,24,25,26,27,28,29]) rfl rfl rfl h1 rfl) (J2G rfl);refine J0c (fun _ _=>[(0,some 0),(1,some 1),(2,some 2)]) ?_ ?_ rfl
       . repeat' (first|exact True.intro|(refine⟨⟨_,rfl,?_⟩,?_⟩)|exact J0a.kf rfl|exact J0a.loc rfl|exact J0a.vec rfl rfl rfl)
       . repeat' (first|exact⟨rfl,rfl,True.intro,fun i hi=>(J6f _ _ _).symm,fun i j t hi hn hj ht=>Q0B p g v i j t hj ht⟩|exact True.intro|(refine⟨⟨_,rfl,?_⟩,?_⟩)|exact J0a.kf rfl|(refine And.intro ?_ ?_))
     . have e1:opn (v+1) g.ids.length 3=[]:=if_neg h1;simp only[e1];refine J0c (fun _ _=>[(0,some 0),(1,some 1),(2,some 2),(3,none)]) ?_ ?_ rfl
       . repeat' (first|exact True.intro|(refine⟨⟨_,rfl,?_⟩,?_⟩)|exact J0a.kf rfl|exact J0a.loc rfl|exact J0a.vec rfl rfl rfl)
       . repeat' (first|exact⟨rfl,rfl,True.intro,fun i hi=>(J6f _ _ _).symm,fun i j t hi hn hj ht=>Q0B p g v i j t hj ht⟩|exact⟨2,Q5V p g (v+1),by rw[Q08]⟩|exact True.intro|(refine⟨⟨_,rfl,?_⟩,?_⟩)|exact J0a.kf rfl|(refine And.intro ?_ ?_))
 . have e:opn v g.ids.length 3=[]:=if_neg hvn;have ev:v=g.ids.length:=by omega
   simp only[e]
   repeat' ((conv=>whnf);first|(refine Br.dec ?_ ?_<;>intro _<;>try omega)|(refine Len.mk (by omega) ?_))
   all_goals (conv=>whnf)
   refine VLe.fz rfl (fun h=>h) (fun i j hi hj=>?_);show VLe (.fz (Q36 p.vars.length v i) 2 false (Q5V p g i)) (.fz p.vars.length 2 false (Q5V p g i));rw[show Q36 p.vars.length v i=p.vars.length from if_pos (by omega)];exact VLe.rfl
structure J1G (p:Pr) (g:G) (c:Cf):Prop where
 len:c.length=g.ids.length
 row:∀v,v<c.length->(gC c v).length=p.vars.length
 val:∀v,v<c.length->∀x,x<p.vars.length->(bnd g (gV p.vars x) v).1<=gI (gC c v) x/\gI (gC c v) x<=(bnd g (gV p.vars x) v).2
theorem J1G.fit {p:Pr} (hp:J2M p) {g:G} (hg:g.valid=true) {c:Cf} (h:J1G p g c):Fit g p.vars.length c:=by
 obtain⟨f1,f2,f3,f4,f5,f6,f7⟩:=J0f hg;refine⟨h.len.trans f3.symm,h.row,fun v hv x hx=>?_⟩;have h1:=h.val v hv x hx;have h2:=J5W hg (hp.var x hx) (v:=v) (by rw[f3,<- h.len];exact hv);unfold inR;omega
def mvP (p:Pr) (g:G):V:=.fe 1 5 (tab [[.str p.nm,p.pg.vs,p.pg.rs,scP p.pg g,X0f p g]]) 0 0
theorem X1c (p:Pr) (hp:J2M p) (g:G) (hg:g.valid=true) (c:Cf) (hc:J1G p g c) (v:Nat) (hv:v<g.ports.length) (i:Nat) (hi:i<p.rules.length) :
 Ret Tryz.prog 102 [scP p.pg g,cV c,.int .i64 v,.int .i64 i] (.bool (decide ((gRl p.rules i).gd.sem g c v (-1)≠0))):=by
 have hgd:=hp.gd i hi;simp only[Tm.okB,Bool.and_eq_true,decide_eq_true_eq] at hgd;have h1:=Q4V p.pg g hg (hc.fit hp hg) v hv (gRl p.rules i).gd hgd.2 hgd.1;refine J0h rfl ?_;refine J0d J0b Tryz.func102 rfl Y1R Y1d rfl ?_
 repeat' ((conv=>whnf);first|(refine Br.bne ?_ ?_<;>intro _<;>try omega)|(refine Ix.nat (by omega) ?_)|(refine h1.go ?_))
 all_goals (conv=>whnf)
 . rename_i h;exact VLe.bool (decide_eq_true h).symm
 . rename_i h;exact VLe.bool (decide_eq_false (by simpa using h)).symm
def gds (p:Pr) (g:G) (c:Cf) (v:Nat):List Int:=p.rules.map fun r=>r.gd.sem g c v (-1)
def J1m (p:Pr) (g:G) (c:Cf) (v:Nat):Int:=Q1h 0 (gds p g c v)
theorem X47 (p:Pr) (g:G) (c:Cf) (v i:Nat) (hi:i<p.rules.length):gI (gds p g c v) i=(gRl p.rules i).gd.sem g c v (-1):=by
 simp[gds,gI,gRl,hi]
theorem X4e (p:Pr) (hp:J2M p) (g:G) (hg:g.valid=true) (c:Cf) (hc:J1G p g c) (v:Nat) (hv:v<g.ports.length) :
 Ret Tryz.prog 62 [mvP p g,cV c,.int .i64 v] (.int .i64 (J1m p g c v)):=by
 have hrl:=hp.rlen;have hgl:(gds p g c v).length=p.rules.length:=by simp[gds]
 refine J0h rfl ?_;refine J0d J0b Tryz.func62 rfl hc62 hr62 rfl ?_
 repeat' ((conv=>whnf);first|fail)
 all_goals (conv=>whnf)
 refine J1a J0b [0,1,2,13] (fun i:Nat=>[(14,.int .i64 i)]) (fun m i=>m=p.rules.length-i/\i<=p.rules.length/\∀a∈(gds p g c v).take i,a=0) p.rules.length 0 ⟨rfl,Nat.zero_le _,by simp⟩ ?_ ?_
 . exact J0k (fun _ _=>[])
 rintro m i ⟨hm,hi,hall⟩;by_cases hil:i<p.rules.length
 . have hgu:=X1c p hp g hg c hc v hv i hil;have hge:=X47 p g c v i hil;by_cases hz:(gRl p.rules i).gd.sem g c v (-1)=0
   . rw[decide_eq_false (by simpa using hz)] at hgu
     repeat' ((conv=>whnf);first|(refine Br.ff ?_)|(refine Br.dec ?_ ?_<;>intro _<;>try omega)|(refine Ar.i64 (by omega) (by omega) ?_)|(refine hgu.go ?_))
     all_goals (conv=>whnf)
     refine⟨p.rules.length-(i+1),i+1,by omega,⟨rfl,by omega,?_⟩,?_⟩
     . rw[J1D _ i (by omega)];intro a ha;rcases List.mem_append.1 ha with h|h
       . exact hall a h
       . simp at h;rw[h,hge];exact hz
     . exact J0k (fun _ _=>[])
   . rw[decide_eq_true hz] at hgu
     repeat' ((conv=>whnf);first|(refine Br.tt ?_)|(refine Br.dec ?_ ?_<;>intro _<;>try omega)|(refine hgu.go ?_))
     all_goals (conv=>whnf)
     refine VLe.int ?_;rw[J1m,J2x _ 0 i (by omega) hall,Q8p _ i (by omega)];simp only[Q1h,hge];rw[if_pos hz];omega
 . repeat' ((conv=>whnf);first|(refine Br.dec ?_ ?_<;>intro _<;>try omega))
   all_goals (conv=>whnf)
   refine VLe.int ?_;rw[J1m,J2x _ 0 i (by omega) hall,List.drop_of_length_le (by omega)];rfl
def enN (p:Pr) (g:G) (c:Cf):Nat:=nb (fun v=>decide (0<=J1m p g c v)) g.ids.length
theorem J5j:∀(l:Lt2) (k i:Nat) (b:Int),i<=l.length->(∀a∈l.take i,a.1≠b)->J99 k l b=J99 (k+i) (l.drop i) b
 | _,k,0,_,_,_=>by simp
 | [],k,i+1,b,h,_=>by simp at h
 | a::r,k,i+1,b,h,h2=>by
   have ha:a.1≠b:=h2 a (by simp);simp only[J99,ha,if_false,List.drop_succ_cons];rw[J5j r (k+1) i b (by simpa using h) (fun x hx=>h2 x (by simp[hx]))];congr 1;omega
theorem X6Y (g:G) (hg:g.valid=true) (a:Nat) (b:Int) (ha:a<g.ports.length):Ret Tryz.prog 139 [g.v,.int .i64 a,.int .i64 b] (.int .i64 (J99 0 (gR g.ports a) b)):=by
 have hrl:=J6N hg a;refine J0h rfl ?_;refine J0d J0b Tryz.func139 rfl Y1A Y0W rfl ?_
 repeat' ((conv=>whnf);first|(refine Ix.nat (by omega) ?_))
 all_goals (conv=>whnf)
 refine J1a J0b [2,13,14] (fun i:Nat=>[(15,.int .i64 i)]) (fun m i=>m=(gR g.ports a).length-i/\i<=(gR g.ports a).length/\∀l∈(gR g.ports a).take i,l.1≠b) (gR g.ports a).length 0 ⟨rfl,Nat.zero_le _,by simp⟩ ?_ ?_
 . exact J0k (fun _ _=>[(0,some 0)])
 rintro m i ⟨hm,hi,hall⟩
 repeat' ((conv=>whnf);first|(refine Br.dec ?_ ?_<;>intro _<;>try omega)|(refine Ar.i64 (by omega) (by omega) ?_)|(refine Ix.nat (by omega) ?_))
 all_goals (conv=>whnf)
 . refine VLe.int ?_;rename_i h;rw[J5j _ 0 i b hi hall,Q2I _ i (by omega),J99,if_pos h];omega
 . rename_i h;refine⟨(gR g.ports a).length-(i+1),i+1,by omega,⟨rfl,by omega,?_⟩,?_⟩
   . rw[J28 _ i (by omega)];intro l hl;rcases List.mem_append.1 hl with h1|h1
     . exact hall l h1
     . simp at h1;rw[h1];exact h
   . exact J0k (fun _ _=>[(0,some 0)])
 . refine VLe.int ?_;rw[J5j _ 0 i b hi hall,List.drop_of_length_le (by omega)];rfl
def Q0H (g:G) (v:Nat):Nat->Nat->V:=fun i _=>.int .i64 (X14 g v i)
def Q5W (g:G) (v:Nat):Nat->Nat:=fun i=>if i<v then (gR g.ports i).length else 0
theorem Q09 (g:G) (v:Nat):Q5W g v v=0:=if_neg (by omega)
theorem Q37 (g:G) (v i:Nat):J2K (Q5W g v) v (gR g.ports v).length i=Q5W g (v+1) i:=by
 simp only[J2K,Q5W];by_cases h:i=v
 . rw[if_pos h,if_pos (by omega),h]
 . rw[if_neg h];by_cases h2:i<v
   . rw[if_pos h2,if_pos (by omega)]
   . rw[if_neg h2,if_neg (by omega)]
theorem Q70 (g:G) (v i:Nat):J2K (Q5W g v) v 0 i=Q5W g v i:=by
 simp only[J2K];split
 . rename_i e;subst e;exact(Q09 g i).symm
 . rfl
theorem Q6J (f:Nat->Nat) (v a b i:Nat):J2K f v b i=J2K (J2K f v a) v b i:=by
 simp only[J2K];split<;>rfl
theorem Q0z (g:G) (v i j t:Nat):VLe (J3j (Q0H g) v (Q0H g v) i j t) (Q0H g i j t):=by
 apply VLe.of_eq;simp only[J3j];split
 . rename_i e;rw[e]
 . rfl
theorem Q9Y (g:G) (v i a b:Nat) (ha:a<i+1) (hb:b<1):VLe (J43 (J0l 0 (Q0H g v)) i (J0l 0 (tab [[.int .i64 (J99 0 (gR g.ports (gF (gR g.ports v) i).1.toNat) v)]])) a b) (Q0H g v a b):=by
 obtain rfl:b=0:=by omega
 apply VLe.of_eq;by_cases h:a<i
 . rw[J1I h];simp[J0l]
 . rw[J1J h];have:a=i:=by omega
   subst this;simp[J0l,tab,Q0H,X14]
theorem X2k {n s i j:Nat} {f f':Nat->Nat->V} (h:∀a b,a<n->b<s->VLe (f a b) (f' a b)):VLe (.fe n s f i j) (.fe n s f' i j) :=
 ⟨fun M w u hd=>by
   cases hd with
   | fe _ _ _ _ _ _ b off u hi hM hb hcell h1 hd=>exact .fe _ _ _ _ _ _ b off u hi hM hb hcell h1 (fun a b ha hb=>(h a b ha hb).out _ _ _ (hd a b ha hb))⟩
set_option maxHeartbeats 16000000 in
theorem X0r (p:Pr) (g:G) (hg:g.valid=true):Ret Tryz.prog 101 [p.v,g.v] (scP p.pg g):=by
 obtain⟨f1,f2,f3,f4,f5,f6,f7⟩:=J0f hg;refine J0h rfl ?_;refine J0d J0b Tryz.func101 rfl Y1S Y1e rfl ?_
 repeat' ((conv=>whnf);first|(refine Bd.nat (by omega) ?_)|(refine Len.mk (by omega) ?_)|(refine MkS.vec ?_))
 all_goals (conv=>whnf)
 refine J0u J0b [3,5,19,20] [4] [5,6,7,8,9,10,11,12,13,14,15,16,17,18,19,20,21,22,23,24,25,26,27,28,29] [4,3,2,1,0] (fun v:Nat=>[(21,.int .i64 v)])
  (fun own v=>(4,.vec (Q5W g v v) 1 (Q0H g v))::J1l (J1l (J1l own 3 (.cells [.str p.nm,p.pg.vs,p.pg.rs,.fz g.ids.length 1 false (vI g.ids),.fz g.ports.length 1 false (vP g.ports),.int .i64 (J26 (g.ids.take v) 0),.vec 2 1 0 g.ports.length])) 2 (.fam g.ports.length 1 (Q5W g v) (Q0H g) [])) 2 (.fam g.ports.length 1 (Q5W g v) (Q0H g) (opn v g.ports.length 4))) (fun k v=>k=g.ports.length-v/\v<=g.ports.length) g.ports.length 0 ⟨rfl,Nat.zero_le _⟩ rfl (fun _=>rfl) ?_ ?_
 . have e:opn 0 g.ports.length 4=[(0,4)]:=if_pos (by omega);simp only[e];refine J3c.trans ?_ (J0V (ks:=[4,5,6,7,8,9,10,11,12,13,14,15,16,17,18,19,20,21,22,23,24,25,26,27,28,29]) rfl rfl rfl (by omega) rfl) (J2G rfl);refine J0c (fun _ _=>[(0,some 0),(1,some 1),(2,some 2),(3,some 3)]) ?_ ?_ rfl
   . repeat' (first|exact True.intro|(refine⟨⟨_,rfl,?_⟩,?_⟩)|exact J0a.kf rfl|exact J0a.loc rfl)
   . repeat' (first|exact⟨rfl,rfl,rfl,fun i hi=>⟨rfl,if_neg (by omega)⟩⟩|exact True.intro|(refine⟨⟨_,rfl,?_⟩,?_⟩)|exact J0a.kf rfl|exact J0a.vec rfl rfl rfl|(refine And.intro ?_ ?_))
 rintro k v ⟨hk,hv⟩;by_cases hvn:v<g.ports.length
 . have e:opn v g.ports.length 4=[(v,4)]:=if_pos hvn;simp only[e];have hrl:=J6N hg v
   repeat' ((conv=>whnf);first|(refine Br.dec ?_ ?_<;>intro _<;>try omega)|(refine Sv.mk _ rfl ?_)|(refine Ix.nat (by omega) ?_))
   all_goals (conv=>whnf)
   refine J0u J0b [3,5,6,19,20,21,39,40] [4] [5,6,7,8,9,10,11,12,13,14,15,16,17,18,19,20,21,22,23,24,25,26,27,28,29] [4,3,2,1,0] (fun i:Nat=>[(41,.int .i64 i)])
    (fun own i=>J1l (J1l own 4 (.vec i 1 (Q0H g v))) 2 (.fam g.ports.length 1 (J2K (Q5W g v) v i) (Q0H g) [(v,4)])) (fun k i=>k=(gR g.ports v).length-i/\i<=(gR g.ports v).length) (gR g.ports v).length 0 ⟨rfl,Nat.zero_le _⟩ rfl (fun _=>rfl) ?_ ?_
   . refine J0c (fun _ _=>[(0,some 0),(1,some 1),(2,some 2),(3,some 3),(4,some 4)]) ?_ ?_ rfl
     . repeat' (first|exact True.intro|(refine⟨⟨_,rfl,?_⟩,?_⟩)|exact J0a.kf rfl|exact J0a.loc rfl)
     . repeat' (first|exact⟨rfl,rfl,⟨rfl,rfl,True.intro⟩,fun i hi=>Q70 _ _ _,fun i j t hi hn hj ht=>VLe.rfl⟩|exact True.intro|(refine⟨⟨_,rfl,?_⟩,?_⟩)|exact J0a.kf rfl|exact J0a.vec rfl rfl rfl|(refine⟨by omega,rfl,fun i j hi hj=>?_⟩)|exact VLe.rfl|(refine And.intro ?_ ?_))
   rintro k i ⟨hk2,hi⟩;by_cases hin:i<(gR g.ports v).length
   . have hr:=Q0P (f6 v hvn) hin;have hp:=X6Y g hg (gF (gR g.ports v) i).1.toNat v (by omega);rw[show(((gF (gR g.ports v) i).1.toNat:Nat):Int)=(gF (gR g.ports v) i).1 by omega] at hp
     repeat' ((conv=>whnf);first|(refine Br.dec ?_ ?_<;>intro _<;>try omega)|(refine Br.nbeq ?_ ?_<;>intro _<;>try omega)|(refine Ar.i64 (by omega) (by omega) ?_)|(refine Ix.nat (by omega) ?_)|(refine Len.mk (by omega) ?_)|(refine Ltn.mk (by omega) ?_)|(refine hp.go ?_)|(refine Opn.hdl (by omega) (show J2K _ _ _ _=i from if_pos rfl) ?_)|(refine And.intro (Ltn.mk (by omega) (Opn.hdl (by omega) (show J2K _ _ _ _=i from if_pos rfl) rfl)) ?_)|(refine J11.hd (by omega) ?_)|(refine And.intro rfl ?_))
     all_goals (conv=>whnf)
     refine⟨(gR g.ports v).length-(i+1),i+1,by omega,⟨rfl,by omega⟩,?_⟩;refine J0c (fun env own=>[(0,some 0),(1,some 1),(2,some 2),(3,some 3),(4,X5p env 63)]) ?_ ?_ rfl
     . repeat' (first|exact True.intro|(refine⟨⟨_,rfl,?_⟩,?_⟩)|exact J0a.kf rfl|exact J0a.loc rfl)
     . repeat' (first|exact⟨rfl,rfl,⟨rfl,rfl,True.intro⟩,fun i hi=>Q6J _ _ _ _ _,fun i j t hi hn hj ht=>VLe.rfl⟩|exact⟨Nat.le_refl _,rfl,fun a b ha hb=>Q9Y g v i a b ha hb⟩|exact True.intro|(refine⟨⟨_,rfl,?_⟩,?_⟩)|exact J0a.kf rfl|exact J0a.vec rfl rfl rfl|(refine And.intro ?_ ?_))
   . have ei:i=(gR g.ports v).length:=by omega
     subst ei
     repeat' ((conv=>whnf);first|(refine Br.dec ?_ ?_<;>intro _<;>try omega)|(refine Ar.i64 (by omega) (by omega) ?_))
     all_goals (conv=>whnf)
     refine⟨g.ports.length-(v+1),v+1,by omega,⟨rfl,by omega⟩,?_⟩;refine J3c.trans (J1R (J1h (q:=4) (k:=2) (i:=v) [] rfl rfl hvn (J0n rfl) (Nat.le_of_eq (if_pos rfl)) rfl (fun j hj=>(J0j (fun e=>hj e.symm)).symm))) ?_ (J64 rfl);have em:J26 (g.ids.take (v+1)) 0=if gI g.ids v > J26 (g.ids.take v) 0 then gI g.ids v else J26 (g.ids.take v) 0:=by rw[J1D g.ids v (by omega),J6X]
     simp only[em];by_cases h1:v+1<g.ports.length
     . have e1:opn (v+1) g.ports.length 4=[(v+1,4)]:=if_pos h1;simp only[e1];refine J3c.trans ?_ (J0V (ks:=[4,5,6,7,8,9,10,11,12,13,14,15,16,17,18,19,20,21,22,23,24,25,26,27,28,29]) rfl rfl rfl h1 rfl) (J2G rfl);refine J0c (fun _ _=>[(0,some 0),(1,some 1),(2,some 2),(3,some 3)]) ?_ ?_ rfl
       . repeat' (first|exact True.intro|(refine⟨⟨_,rfl,?_⟩,?_⟩)|exact J0a.kf rfl|exact J0a.loc rfl)
       . repeat' (first|exact⟨rfl,rfl,True.intro,fun i hi=>(Q37 _ _ _).symm,fun i j t hi hn hj ht=>Q0z g v i j t⟩|exact True.intro|(refine⟨⟨_,rfl,?_⟩,?_⟩)|exact J0a.kf rfl|exact J0a.vec rfl rfl rfl|(refine And.intro ?_ ?_))
     . have e1:opn (v+1) g.ports.length 4=[]:=if_neg h1;simp only[e1];refine J0c (fun _ _=>[(0,some 0),(1,some 1),(2,some 2),(3,some 3),(4,none)]) ?_ ?_ rfl
       . repeat' (first|exact True.intro|(refine⟨⟨_,rfl,?_⟩,?_⟩)|exact J0a.kf rfl|exact J0a.loc rfl)
       . repeat' (first|exact⟨rfl,rfl,True.intro,fun i hi=>(Q37 _ _ _).symm,fun i j t hi hn hj ht=>Q0z g v i j t⟩|exact⟨1,Q0H g (v+1),by rw[Q09]⟩|exact True.intro|(refine⟨⟨_,rfl,?_⟩,?_⟩)|exact J0a.kf rfl|exact J0a.vec rfl rfl rfl|(refine And.intro ?_ ?_))
 . have e:opn v g.ports.length 4=[]:=if_neg hvn;have ev:v=g.ports.length:=by omega
   simp only[e]
   repeat' ((conv=>whnf);first|(refine Br.dec ?_ ?_<;>intro _<;>try omega)|(refine Len.mk (by omega) ?_))
   all_goals (conv=>whnf)
   refine X2k (fun a b ha hb=>?_);obtain rfl:a=0:=by omega
   have hb:b<7:=hb;have em:J26 (g.ids.take v) 0=Q3w g:=by rw[List.take_of_length_le (by omega)];rfl
   rcases (show b=0\/b=1\/b=2\/b=3\/b=4\/b=5\/b=6 by omega) with rfl|rfl|rfl|rfl|rfl|rfl|rfl
   . exact VLe.rfl
   . exact VLe.rfl
   . exact VLe.rfl
   . exact VLe.rfl
   . exact VLe.rfl
   . exact VLe.int em
   . refine VLe.fz rfl (fun h=>h) (fun i j hi hj=>?_);show VLe (.fz (Q5W g v i) 1 false (Q0H g i)) (.fz (gR g.ports i).length 1 false (Q0H g i));rw[show Q5W g v i=(gR g.ports i).length from if_pos (by omega)];exact VLe.rfl
theorem X0O (p:Pr) (hp:J2M p) (g:G) (hg:g.valid=true):Ret Tryz.prog 59 [p.v,g.v] (mvP p g):=by
 have h1:=X0r p g hg;have h2:=J4O p hp g hg;refine J0h rfl ?_;refine J0d J0b Tryz.func59 rfl hc59 hr59 rfl ?_
 repeat' ((conv=>whnf);first|(refine h1.go ?_)|(refine h2.go ?_)|(refine And.intro rfl ?_))
 all_goals (conv=>whnf)
 exact VLe.rfl
def brI (kind lo hi v:Int):Int:=if lo<=v/\v<=hi then v else if kind=3 then -1 else if v<lo then lo else hi
theorem X1Z (kind lo hi v:Int):Ret Tryz.prog 104 [.int .i64 kind,.agg [.int .i64 lo,.int .i64 hi],.int .i64 v] (.int .i64 (brI kind lo hi v)):=by
 refine J0h rfl ?_;refine J0d J0b Tryz.func104 rfl Y1P Y1b rfl ?_;rw[brI]
 repeat' ((conv=>whnf);first|(refine Br.dec ?_ ?_<;>intro _<;>try omega)|(refine Ix.mk 0 rfl (by omega) ?_)|(refine Ix.mk 1 rfl (by omega) ?_))
 all_goals (conv=>whnf)
 all_goals refine VLe.int ?_
 all_goals repeat' split
 all_goals omega
def X4o (p:Pr) (g:G) (c:Cf) (v:Nat) (st:List Int) (s:Int×Tm):List Int :=
 st.set s.1.toNat (brI (gV p.vars s.1.toNat).kind (bnd g (gV p.vars s.1.toNat) v).1 (bnd g (gV p.vars s.1.toNat) v).2 (s.2.sem g c v (-1)))
def X2v (p:Pr) (g:G) (c:Cf) (v:Nat) (l:List (Int×Tm)):List Int:=l.foldl (X4o p g c v) (gC c v)
def J3D (p:Pr) (g:G) (c:Cf) (v r:Nat):List Int:=X2v p g c v (gRl p.rules r).sets
theorem J9p (p:Pr) (g:G) (c:Cf) (v:Nat):∀(l:List (Int×Tm)),(X2v p g c v l).length=(gC c v).length:=by
 intro l;rw[X2v];generalize gC c v=st
 induction l generalizing st with
 | nil=>rfl
 | cons s r ih=>rw[List.foldl_cons,ih];simp[X4o]
theorem X48 (l:List (Int×Tm)) (i:Nat) (h:i<l.length):l.take (i+1)=l.take i++[gS l i]:=by
 rw[List.take_succ_eq_append_getElem h];simp only[gS,List.getD,List.getElem?_eq_getElem h,Option.getD_some]
theorem Q7b (p:Pr) (g:G) (c:Cf) (v:Nat) (l:List (Int×Tm)) (s:Int×Tm):X2v p g c v (l++[s])=X4o p g c v (X2v p g c v l) s:=by
 simp[X2v,List.foldl_append]
theorem Q9U (r:List Int) (u i t:Nat) (d:Int) (hu:u<r.length) (ht:t<1):VLe (J00 (vI r) u 0 [.int .i64 d] i t) (vI (r.set u d) i t):=by
 obtain rfl:t=0:=by omega
 apply VLe.of_eq;simp only[J00,vI,gI,List.getD,List.getElem?_set];by_cases h:i=u
 . subst h;simp[hu]
 . have:¬ u=i:=fun e=>h e.symm;simp[h,this]
def J0A (p:Pr) (g:G) (c:Cf) (s:Nat):Cf:=(List.range c.length).map fun v=>if s.testBit v then J3D p g c v (J1m p g c v).toNat else gC c v
theorem J3L (p:Pr) (g:G) (c:Cf) (s:Nat):(J0A p g c s).length=c.length:=by simp[J0A]
theorem J3i (p:Pr) (g:G) (c:Cf) (s:Nat) {v:Nat} (hv:v<c.length):gC (J0A p g c s) v=if s.testBit v then J3D p g c v (J1m p g c v).toNat else gC c v:=by
 simp[J0A,gC,hv]
theorem Q3H (p:Pr) (g:G) (c:Cf) (v:Nat):J1m p g c v<p.rules.length:=by
 have:=J5s (gds p g c v) 0;have hl:(gds p g c v).length=p.rules.length:=by simp[gds]
 rw[J1m];omega
abbrev P8:ByteArray:=ByteArray.mk (Array.mk [0,1,1,2,1,2,2,3,1,2,2,3,2,3,3,4,1,2,2,3,2,3,3,4,2,3,3,4,3,4,4,5,1,2,2,3,2,3,3,4,2,3,3,4,3,4,4,5,2,3,3,4,3,4,4,5,3,4,4,5,4,5,5,6,1,2,2,3,2,3,3,4,2,3,3,4,3,4,4,5,2,3,3,4,3,4,4,5,3,4,4,5,4,5,5,6,2,3,3,4,3,4,4,5,3,4,4,5,4,5,5,6,3,4,4,5,4,5,5,6,4,5,5,6,5,6,6,7,1,2,2,3,2,3,3,4,2,3,3,4,3,4,4,5,2,3,3,4,3,4,4,5,3,4,4,5,4,5,5,6,2,3,3,4,3,4,4,5,3,4,4,5,4,5,5,6,3,4,4,5,4,5,5,6,4,5,5,6,5,6,6,7,2,3,3,4,3,4,4,5,3,4,4,5,4,5,5,6,3,4,4,5,4,5,5,6,4,5,5,6,5,6,6,7,3,4,4,5,4,5,5,6,4,5,5,6,5,6,6,7,4,5,5,6,5,6,6,7,5,6,6,7,6,7,7,8])
theorem X8w:∀x:Nat,x<256->(P8.get! x).toNat=cnt x 8:=by decide +kernel
theorem J6j (s k:Nat):(s:Int).fdiv (2 ^ k)=((s >>> k:Nat):Int):=by
 rw[Int.fdiv_eq_ediv_of_nonneg _ (Int.pow_nonneg (by omega)),Nat.shiftRight_eq_div_pow];simp
theorem Q9t (x:Nat):x &&& 255<256:=Nat.lt_of_le_of_lt Nat.and_le_right (by omega)
theorem Q85 (x:Nat):cnt (x &&& 255) 8=cnt x 8:=Q81 fun i hi=>by
 rw[Nat.testBit_and,show(255:Nat)=2 ^ 8-1 from rfl,Nat.testBit_two_pow_sub_one];simp[hi]
theorem Q82 (s:Nat) (hs:s<4294967296):cnt (s >>> 24) 8+cnt (s >>> 16 &&& 255) 8+cnt (s >>> 8 &&& 255) 8+cnt (s &&& 255) 8=cnt s 32:=by
 rw[Q85,Q85,Q85,show(32:Nat)=8+24 from rfl,J5w 8 24,show(24:Nat)=8+16 from rfl,J5w 8 16,show(16:Nat)=8+8 from rfl,J5w 8 8];rw[<- Nat.shiftRight_add,<- Nat.shiftRight_add];show cnt (s >>> 24) 8+cnt (s >>> 16) 8+cnt (s >>> 8) 8+cnt s 8=cnt s 8+(cnt (s >>> 8) 8+(cnt (s >>> 16) 8+cnt (s >>> 24) 8));omega
theorem X3C {n:Int} (h1:0<=n) (h2:n<=255):IntKind.u8.wrap n=n:=by
 simp only[IntKind.wrap,IntKind.bits,IntKind.signed,Bool.false_and]
 first|(split<;>omega)|(simp;omega)
theorem Ar.u8 {n:Int} {K:Int->Prop} (h1:0<=n) (h2:n<=255) (hK:K n):Ar .u8 n K:=⟨n,(X3C h1 h2).symm,hK⟩
theorem Ar.u8e {n:Int} {K:Int->Prop} (a:Nat) (h:n=(a:Int)) (ha:a<=255) (hK:K (a:Int)):Ar .u8 n K:=by subst h;exact Ar.u8 (by omega) (by omega) hK
theorem X7b (s:Nat) (hs:s<4294967296):Ret Tryz.prog 75 [.int .u32 s] (.int .i64 (cnt s 32)):=by
 have hsum:=Q82 s hs;have f24:(s:Int).fdiv (2 ^ (min (24:Int).toNat 32))=((s >>> 24:Nat):Int):=J6j s 24;have f16:(s:Int).fdiv (2 ^ (min (16:Int).toNat 32))=((s >>> 16:Nat):Int):=J6j s 16;have f8:(s:Int).fdiv (2 ^ (min (8:Int).toNat 32))=((s >>> 8:Nat):Int):=J6j s 8;have l24:s >>> 24<256:=by rw[Nat.shiftRight_eq_div_pow];omega
 have l16:s >>> 16<4294967296:=Nat.lt_of_le_of_lt (Nat.shiftRight_le s 16) hs;have l8:s >>> 8<4294967296:=Nat.lt_of_le_of_lt (Nat.shiftRight_le s 8) hs;have a16:J5X .and .u32 ((s >>> 16:Nat):Int) 255=((s >>> 16 &&& 255:Nat):Int):=J2j (b:=255) l16 (by omega);have a8:J5X .and .u32 ((s >>> 8:Nat):Int) 255=((s >>> 8 &&& 255:Nat):Int):=J2j (b:=255) l8 (by omega);have a0:J5X .and .u32 (s:Int) 255=((s &&& 255:Nat):Int):=J2j (b:=255) hs (by omega);have m16:=Q9t (s >>> 16);have m8:=Q9t (s >>> 8);have m0:=Q9t s;generalize s >>> 24=x24 at *;generalize s >>> 16 &&& 255=x16 at *;generalize s >>> 8 &&& 255=x8 at *;generalize s &&& 255=x0 at *;have p24:=X8w x24 l24;have p16:=X8w x16 m16;have p8:=X8w x8 m8;have p0:=X8w x0 m0;have c24:=J4p x24 8;have c16:=J4p x16 8;have c8:=J4p x8 8;have c0:=J4p x0 8;rw[<- hsum];rw[<- p24] at c24 ⊢;rw[<- p16] at c16 ⊢;rw[<- p8] at c8 ⊢;rw[<- p0] at c0 ⊢;clear p24 p16 p8 p0 hsum;refine J0h rfl ?_;refine J0d J0b Tryz.func75 rfl hc75 hr75 rfl ?_
 repeat' ((conv=>whnf);first|(refine Sv.mk _ f24.symm ?_)|(refine Sv.mk _ f16.symm ?_)|(refine Sv.mk _ f8.symm ?_)|(refine Sv.mk _ a16.symm ?_)|(refine Sv.mk _ a8.symm ?_)|(refine Sv.mk _ a0.symm ?_)|(refine Ix.mk x24 rfl l24 ?_)|(refine Ix.mk x16 rfl m16 ?_)|(refine Ix.mk x8 rfl m8 ?_)|(refine Ix.mk x0 rfl m0 ?_)|(refine Ar.u8e ((P8.get! x24).toNat+(P8.get! x16).toNat) rfl (by omega) ?_)|(refine Ar.u8e ((P8.get! x24).toNat+(P8.get! x16).toNat+(P8.get! x8).toNat) rfl (by omega) ?_)|(refine Ar.u8e ((P8.get! x24).toNat+(P8.get! x16).toNat+(P8.get! x8).toNat+(P8.get! x0).toNat) rfl (by omega) ?_)|(refine Ar.i64 (by omega) (by omega) ?_)|(refine Nn.mk (by omega) ?_))
 all_goals (conv=>whnf)
 all_goals exact VLe.rfl
structure Cnt where
 steps:Nat
 moves:Nat
 rounds:Nat
 begun:Nat
 pend:Nat
structure Cnt.Ok (k:Cnt):Prop where
 steps:k.steps<=4096
 rb:k.rounds<=k.begun
 bs:k.begun<=k.steps
 br:k.begun<=k.rounds+1
 sm:k.steps<=k.moves
 ms:k.moves<=24*k.steps
 pend:k.pend<16777216
def lft (k:Cnt) (s e:Nat):Nat:=J04 k.pend s &&& e
def Cnt.add (k:Cnt) (s e:Nat):Cnt:=if lft k s e=0 then⟨k.steps+1,k.moves+cnt s 32,k.rounds+1,k.rounds+1,e⟩ else⟨k.steps+1,k.moves+cnt s 32,k.rounds,k.rounds+1,lft k s e⟩
theorem X57 (k:Cnt) (hk:k.Ok) (h0:k.steps<4096) (s e:Nat) (hs0:1<=cnt s 32) (hs:cnt s 32<=24) (he:e<16777216):(k.add s e).Ok:=by
 obtain⟨h1,h2,h3,h4,h5,h6,h7⟩:=hk;have hle:lft k s e<=e:=Nat.and_le_right;rw[Cnt.add];split
 . exact⟨by simp only;omega,by simp only;omega,by simp only;omega,by simp only;omega,by simp only;omega,by simp only;omega,he⟩
 . exact⟨by simp only;omega,by simp only;omega,by simp only;omega,by simp only;omega,by simp only;omega,by simp only;omega,by simp only;omega⟩
def one (c:Cf) (x v:Nat):Bool:=decide (gI (gC c v) x=1)
def mx (g:G) (p:Nat->Bool):Bool:=decide (∀v,v<g.ports.length->nbr g (nb p g.ports.length) v=!p v)
def tzL:List Int:=[0,1,28,2,29,14,24,3,30,22,20,15,25,17,4,8,31,27,13,23,21,19,16,7,26,12,18,6,11,5,10,9]
def tzF (i j:Nat):V:=.int .u8 (tzL.getD i 0)
abbrev GB:Blk:=.glob 0 32 tzF
abbrev RG (f:FuncId) (args:List V) (X:V):Prop:=X6p Tryz.prog GB f args X
theorem X3P:∀k:Nat,k<32->IntKind.u32.wrap (((2 ^ k:Nat):Int)*125613361)=((2 ^ k*125613361 % 4294967296:Nat):Int)/\((2 ^ k*125613361 % 4294967296:Nat):Int).fdiv (2 ^ (min (27:Int).toNat 32))=((2 ^ k*125613361 % 4294967296 / 134217728:Nat):Int)/\2 ^ k*125613361 % 4294967296 / 134217728<32/\tzL.getD (2 ^ k*125613361 % 4294967296 / 134217728) 0=(k:Int):=by
 decide +kernel
theorem X6A (k:Nat) (hk:k<32):∃a b:Nat,IntKind.u32.wrap (((2 ^ k:Nat):Int)*125613361)=(a:Int)/\(a:Int).fdiv (2 ^ (min (27:Int).toNat 32))=(b:Int)/\b<32/\tzL.getD b 0=(k:Int):=⟨_,_,X3P k hk⟩
theorem X3O (s:Nat) (h0:s≠0) (hs:s<4294967296):RG 107 [.int .u32 s] (.int .i64 (ctz s)):=by
 obtain⟨k1,k2,k3⟩:=J1Z h0 hs;obtain⟨a,b,t1,t2,t3,t4⟩:=X6A (ctz s) k1;have hand:J5X .and .u32 (s:Int) (((4294967296-s) % 4294967296:Nat):Int)=((2 ^ ctz s:Nat):Int):=by
  rw[J2j hs (Nat.mod_lt _ (by omega)),J9v hs,J4z,if_neg h0]
 have t5:(ctz s:Int)=IntKind.i64.wrap (tzL.getD b 0):=by rw[t4];exact(J3s (by omega) (by omega)).symm
 generalize ((2 ^ ctz s:Nat):Int)=p at hand t1;refine J32 rfl ?_;refine J0d J0b Tryz.func107 rfl Y1N Y09 rfl ?_
 repeat' ((conv=>whnf);first|(refine Ar.neg32 hs ?_)|(refine Sv.mk _ hand.symm ?_)|(refine Ar.mk _ t1.symm ?_)|(refine Sv.mk _ t2.symm ?_)|(refine Ix.mk _ rfl t3 ?_)|(refine Ar.mk _ t5 ?_)|(refine Br.dec ?_ ?_<;>intro _<;>try omega)|(refine Nn.mk (by omega) ?_))
 all_goals (conv=>whnf)
 all_goals exact VLe.rfl
structure Net where
 n:Int
 links:List Int
 weights:List Int
 ids:List Int
 apart:Bool
 back:Bool
def Net.v (x:Net):V:=.agg [.int .i64 x.n,.fz x.links.length 1 false (vI x.links),.fz x.weights.length 1 false (vI x.weights),.fz x.ids.length 1 false (vI x.ids),.bool x.apart,.bool x.back]
structure Net.Small (x:Net):Prop where
 links:x.links.length<=9223372036854775807
 weights:x.weights.length<=9223372036854775807
 ids:x.ids.length<=9223372036854775807
abbrev Ps:=List (List (Int×Int))
def lnk (p:Ps) (a:Nat) (b:Int):Bool:=(gR p a).any fun l=>decide (l.1=b)
theorem Q7U (g:G) (hs:g.Small) (a:Nat) (b:Int) (ha:a<g.ports.length):Ret Tryz.prog 52 [g.v,.int .i64 a,.int .i64 b] (.bool (lnk g.ports a b)):=by
 have hrl:=Q4j hs.rows a;refine J0h rfl ?_;refine J0d J0b Tryz.func52 rfl hc52 hr52 rfl ?_
 repeat' ((conv=>whnf);first|fail)
 all_goals (conv=>whnf)
 refine J1a J0b [1,2,3] (fun i:Nat=>[(7,.int .i64 i)]) (fun m i=>m=(gR g.ports a).length-i/\i<=(gR g.ports a).length/\((gR g.ports a).take i).any (fun l=>decide (l.1=b))=false) (gR g.ports a).length 0 ⟨rfl,Nat.zero_le _,rfl⟩ ?_ ?_
 . exact J0k (fun _ _=>[(0,some 0)])
 rintro m i ⟨hm,hi,hall⟩
 repeat' ((conv=>whnf);first|(refine Br.dec ?_ ?_<;>intro _<;>try omega)|(refine Ar.i64 (by omega) (by omega) ?_)|(refine Ix.nat (by omega) ?_))
 all_goals (conv=>whnf)
 . refine VLe.bool ?_;symm;rw[lnk,List.any_eq_true];exact⟨_,J2X (show i<(gR g.ports a).length by omega),by simp;omega⟩
 . refine⟨(gR g.ports a).length-(i+1),i+1,by omega,⟨rfl,by omega,?_⟩,?_⟩
   . rw[J28 _ _ (by omega),List.any_append,hall];simp;omega
   . exact J0k (fun _ _=>[(0,some 0)])
 . refine VLe.bool ?_;rw[lnk,<- hall,List.take_of_length_le (by omega)]
def J93 (bk:Bool) (r:List (Int×Int)) (l:Int×Int):List (Int×Int):=if bk then l::r else r++[l]
def J27 (bk:Bool) (p:Ps) (a b:Nat) (w:Int):Ps:=if a=b\/lnk p a b=true then p else (p.set a (J93 bk (gR p a) ((b:Int),w))).set b (J93 bk (gR p b) ((a:Int),w))
def Q12 (p:Ps) (i:Nat):Nat:=(gR p i).length
def Q3K (p:Ps) (i:Nat):Nat->Nat->V:=vF (gR p i)
abbrev X5e (p:Ps):Blk:=.fam p.length 2 (Q12 p) (Q3K p) []
def KS4:List Nat:=[2,3,4,5,6,7,8,9,10,11,12,13,14,15,16,17,18,19,20,21,22,23,24,25,26,27,28,29]
def X7L (g:G):Own:=[(0,.vec g.ids.length 1 (vI g.ids)),(1,X5e g.ports)]
abbrev gV1 (i n:Nat):V:=.agg [.vec 0 1 0 i,.vec 1 1 0 n]
theorem X2P (g:G):VLe (V.agg [.fz g.ids.length 1 false (J0l 0 (vI g.ids)),.fz g.ports.length 1 false fun i _=>.fz (Q12 g.ports i) 2 false (Q3K g.ports i)]) g.v:=by
 refine VLe.agg ⟨VLe.fz rfl (fun h=>h) (fun i j hi hj=>VLe.of_eq ?_),VLe.rfl,True.intro⟩;simp[J0l]
theorem Q7Y (g:G) (a b:Nat):VLe (V.agg [.fz g.ids.length 1 false (J0l 0 (vI g.ids)),.fz g.ports.length 1 false fun i _=>.fz (Q12 g.ports i) 2 false (J3j (J3j (Q3K g.ports) a (Q3K g.ports a)) b (Q3K g.ports b) i)]) g.v:=by
 have e:J3j (J3j (Q3K g.ports) a (Q3K g.ports a)) b (Q3K g.ports b)=Q3K g.ports:=by
  funext i;simp only[J3j];split
  . rename_i h;rw[h]
  . split
    . rename_i h;rw[h]
    . rfl
 rw[e];exact X2P g
theorem J4o (p:Ps) (a:Nat) (A:List (Int×Int)) (ha:a<p.length) (i:Nat):gR (p.set a A) i=if i=a then A else gR p i:=by
 simp only[gR,List.getD,List.getElem?_set];by_cases h:a=i
 . subst h;simp[ha]
 . have:¬ i=a:=fun e=>h e.symm;simp[h,this]
theorem J39 (l:List (Int×Int)) (x:Int×Int) (i:Nat):gF (l++[x]) i=if i<l.length then gF l i else if i=l.length then x else (0,0):=by
 by_cases h:i<l.length
 . simp only[gF,List.getD,List.getElem?_append_left h,if_pos h]
 . rw[if_neg h];by_cases h2:i=l.length
   . subst h2;simp[gF]
   . simp[gF,h2,List.getElem?_eq_none (by simp;omega:(l++[x]).length<=i)]
theorem Q3o (l:List (Int×Int)) (a b:Int) (i j:Nat) (hi:i<l.length+1) (hj:j<2) :
 VLe (J43 (J0l 0 (vF l)) l.length (J0l 0 (tab [[.int .i64 a,.int .i64 b]])) i j) (vF (l++[(a,b)]) i j):=by
 apply VLe.of_eq;by_cases h:i<l.length
 . rw[J1I h];obtain rfl|rfl:j=0\/j=1:=by omega
   . simp[J0l,vF,J39,h]
   . simp[J0l,vF,J39,h]
 . rw[J1J h];have:i=l.length:=by omega
   subst this;obtain rfl|rfl:j=0\/j=1:=by omega
   . simp[J0l,vF,J39,tab]
   . simp[J0l,vF,J39,tab]
theorem Q3l (l:List (Int×Int)) (a b:Int) (i j:Nat) (hi:i<1+l.length) (hj:j<2) :
 VLe (J43 (J0l 0 (tab [[.int .i64 a,.int .i64 b]])) 1 (J0l 0 (vF l)) i j) (vF ((a,b)::l) i j):=by
 apply VLe.of_eq;cases i with
 | zero =>
   rw[J1I (by omega)];obtain rfl|rfl:j=0\/j=1:=by omega
   . simp[J0l,vF,gF,tab]
   . simp[J0l,vF,gF,tab]
 | succ i =>
   rw[J1J (by omega)];obtain rfl|rfl:j=0\/j=1:=by omega
   . simp[J0l,vF,gF]
   . simp[J0l,vF,gF]
theorem Q0F {p:Ps} {a b:Nat} (ha:a<p.length) (hb:b<p.length) (hab:a≠b) {A B:List (Int×Int)} {fa fb:Nat->Nat->V} {la lb:Nat} (h1:A.length=la) (h2:B.length=lb)
 (h3:∀j t,j<la->t<2->VLe (fa j t) (vF A j t)) (h4:∀j t,j<lb->t<2->VLe (fb j t) (vF B j t)) (ρ:Rn) :
 X3x ρ (.fam p.length 2 (J2K (J2K (Q12 p) a la) b lb) (J3j (J3j (Q3K p) a fa) b fb) []) (X5e ((p.set a A).set b B)):=by
 refine⟨by simp,rfl,True.intro,fun i hi=>?_,fun i j t hi hn hj ht=>?_⟩
 . show(gR ((p.set a A).set b B) i).length=_;rw[J4o _ b B (by simpa using hb),J4o p a A ha];simp only[J2K];split
   . exact h2
   . split
     . exact h1
     . rfl
 . simp only[J2K] at hj;show VLe _ (vF (gR ((p.set a A).set b B) i) j t);rw[J4o _ b B (by simpa using hb),J4o p a A ha];simp only[J3j];split
   . rename_i e;rw[if_pos e] at hj;exact h4 j t hj ht
   . rename_i e;rw[if_neg e] at hj;split
     . rename_i e;rw[if_pos e] at hj;exact h3 j t hj ht
     . exact VLe.rfl
set_option maxHeartbeats 8000000 in
theorem Q7V (x:Net) (g:G) (hs:g.Small) (hr:∀v,(gR g.ports v).length<=1000) (a b:Nat) (ha:a<g.ports.length) (hb:b<g.ports.length) (w:Int) :
 J0G Tryz.prog 17 [x.v,gV1 g.ids.length g.ports.length,.int .i64 a,.int .i64 b,.int .i64 w] (X7L g) KS4 fun v own' _=>v=.tup []/\own'=X7L ⟨g.ids,J27 x.back g.ports a b w⟩:=by
 have hl:=Q7U g hs a b ha;have ra:Q12 g.ports a<=1000:=hr a;have rb:Q12 g.ports b<=1000:=hr b;refine J1u (J7D ?_);by_cases hab:a=b
 . rw[J27,if_pos (.inl hab)];refine J0d J0b Tryz.func17 rfl Y1r Y0N rfl ?_
   repeat' ((conv=>whnf);first|(refine Br.dec ?_ ?_<;>intro _<;>try omega))
   all_goals (conv=>whnf)
   exact⟨_,J17.refl _,J1A (fun _=>[(0,some 0),(1,some 1)]) _ _ ⟨rfl,rfl⟩ (J0a.kf rfl) (by repeat' (first|(refine⟨rfl,rfl,True.intro,fun i hi=>rfl,fun i j t hi hn hj ht=>VLe.rfl⟩)|exact True.intro|(refine⟨⟨_,rfl,?_⟩,?_⟩)|(refine⟨Nat.le_refl _,rfl,fun i j hi hj=>?_⟩)|exact VLe.rfl)) rfl⟩
 cases hk:lnk g.ports a b with
 | true =>
   rw[hk] at hl;rw[J27,if_pos (.inr hk)];refine J0d J0b Tryz.func17 rfl Y1r Y0N rfl ?_
   repeat' ((conv=>whnf);first|(refine Br.tt ?_)|(refine Br.dec ?_ ?_<;>intro _<;>try omega)|(refine J1j hl rfl ⟨by omega,by omega,X2P g,VLe.rfl,VLe.rfl,True.intro⟩ ?_))
   all_goals (conv=>whnf)
   exact⟨_,J17.refl _,J1A (fun _=>[(0,some 0),(1,some 1)]) _ _ ⟨rfl,rfl⟩ (J0a.kf rfl) (by repeat' (first|(refine⟨rfl,rfl,True.intro,fun i hi=>rfl,fun i j t hi hn hj ht=>VLe.rfl⟩)|exact True.intro|(refine⟨⟨_,rfl,?_⟩,?_⟩)|(refine⟨Nat.le_refl _,rfl,fun i j hi hj=>?_⟩)|exact VLe.rfl)) rfl⟩
 | false =>
   rw[hk] at hl;rw[J27,if_neg (fun h=>h.elim hab (fun h=>by rw[hk] at h;cases h))];refine J7E 28 1 a rfl rfl ha rfl ?_;refine J7E 29 1 b rfl rfl hb (J0j hab) ?_;show J0G Tryz.prog _ _ [(29,.vec (Q12 g.ports b) 2 (Q3K g.ports b)),(28,.vec (Q12 g.ports a) 2 (Q3K g.ports a)),(0,.vec g.ids.length 1 (vI g.ids)),(1,.fam g.ports.length 2 (Q12 g.ports) (Q3K g.ports) [(b,29),(a,28)])] [2,3,4,5,6,7,8,9,10,11,12,13,14,15,16,17,18,19,20,21,22,23,24,25,26,27] _;refine J0d J0b Tryz.func17 rfl Y1r Y0N rfl ?_;obtain⟨xn,xl,xw,xi,xa,xb⟩:=x;cases xb
   . repeat' ((conv=>whnf);first|(refine Br.ff ?_)|(refine Br.dec ?_ ?_<;>intro _<;>try omega)|(refine Br.nbeq ?_ ?_<;>intro _<;>try omega)|(refine Ix.nat (by omega) ?_)|(refine Len.mk (by omega) ?_)|(refine Ltn.mk (by omega) ?_)|(refine J1j hl rfl ⟨by omega,by omega,Nat.le_refl _,Nat.le_refl _,Q7Y g a b,VLe.rfl,VLe.rfl,True.intro⟩ ?_)|(refine Opn.hd (by omega) ?_)|(refine Opn.tl (by omega) (Opn.hd (by omega) ?_))|(refine And.intro rfl ?_)|(refine And.intro (Ltn.mk (by omega) (Opn.hd (by omega) rfl)) ?_)|(refine J11.hd (by omega) ?_)|(refine J11.tl (by omega) (J11.hd (by omega) ?_)))
     all_goals (conv=>whnf)
     all_goals exact⟨_,X25 hab ha hb rfl rfl rfl rfl (by first|exact Nat.le_refl _|simp[J2K,hab]) (by first|exact Nat.le_refl _|simp[J2K]),J1A (fun _=>[(0,some 0),(1,some 1)]) _ _ ⟨rfl,rfl⟩ (J0a.kf rfl) ⟨⟨_,rfl,Nat.le_refl _,rfl,fun _ _ _ _=>VLe.rfl⟩,⟨_,rfl,Q0F ha hb hab (by first|(simp;done)|simp[J93,Q12]) (by first|(simp;done)|simp[Q12]) (fun j t hj ht=>Q3o _ _ _ _ _ hj ht) (fun j t hj ht=>Q3o _ _ _ _ _ hj ht) _⟩,True.intro⟩ rfl⟩
   . repeat' ((conv=>whnf);first|(refine Br.tt ?_)|(refine Br.ff ?_)|(refine Br.dec ?_ ?_<;>intro _<;>try omega)|(refine Ix.nat (by omega) ?_)|(refine Len.mk (by omega) ?_)|(refine Ltn.mk (by omega) ?_)|(refine J1j hl rfl ⟨by omega,by omega,Nat.le_refl _,Nat.le_refl _,Q7Y g a b,VLe.rfl,VLe.rfl,True.intro⟩ ?_)|(refine Opn.hdl (by omega) (show J2K _ _ _ _=Q12 g.ports b from if_neg (by omega)) ?_)|(refine Opn.tl (by omega) (Opn.hd (by omega) ?_))|(refine And.intro rfl ?_)|(refine J11.hd (by omega) ?_)|(refine J11.tl (by omega) (J11.hd (by omega) ?_)))
     all_goals (conv=>whnf)
     all_goals exact⟨_,X25 hab ha hb rfl rfl rfl rfl (by first|exact Nat.le_refl _|simp[J2K,hab]) (by first|exact Nat.le_refl _|simp[J2K]),J1A (fun _=>[(0,some 0),(1,some 1)]) _ _ ⟨rfl,rfl⟩ (J0a.kf rfl) ⟨⟨_,rfl,Nat.le_refl _,rfl,fun _ _ _ _=>VLe.rfl⟩,⟨_,rfl,Q0F ha hb hab (by first|(simp;omega)|(simp[J93];omega)|(simp[J93,Q12];omega)) (by first|(simp;omega)|(simp[Q12];omega)) (fun j t hj ht=>Q3l _ _ _ _ _ hj ht) (fun j t hj ht=>Q3l _ _ _ _ _ hj ht) _⟩,True.intro⟩ rfl⟩
def dk (k:Int):Bool:=decide (1<=k/\k<=4)
theorem Q8K (k:Int):Ret Tryz.prog 25 [.int .i64 k] (.bool (dk k)):=by
 refine J0h rfl ?_;refine J0d J0b Tryz.func25 rfl hc25 hr25 rfl ?_
 repeat' ((conv=>whnf);first|(refine Br.dec ?_ ?_<;>intro _<;>try omega))
 all_goals (conv=>whnf)
 all_goals exact VLe.bool (by symm;rw[dk];first|(rw[decide_eq_true_eq];omega)|(rw[decide_eq_false_iff_not];omega))
theorem Q8M {k:Int}:dk k=true↔1<=k/\k<=4:=by rw[dk,decide_eq_true_eq]
def nm:List (Int×Int)->Nat
 | []=>0
 | l::r=>2 ^ l.1.toNat ||| nm r
theorem Q7v:∀(r:List (Int×Int)) (l:Int×Int),nm (r++[l])=nm r ||| 2 ^ l.1.toNat
 | [],l=>by simp[nm]
 | x::r,l=>by simp only[List.cons_append,nm,Q7v r l,Nat.or_assoc]
theorem X2H (u:Nat):∀r:List (Int×Int),(nm r).testBit u=r.any fun l=>decide (l.1.toNat=u)
 | []=>by simp[nm]
 | l::r=>by rw[nm,Nat.testBit_or,Nat.testBit_two_pow,X2H u r,List.any_cons]
theorem X4y:∀(r:List (Int×Int)),(∀l∈r,l.1.toNat<32)->nm r<4294967296
 | [],_=>by simp[nm]
 | l::r,h=>by
   rw[nm];exact Nat.or_lt_two_pow (n:=32) (J34 (h l (by simp))) (X4y r (fun x hx=>h x (by simp[hx])))
def X3L (g:G):Nat->Nat->V:=fun i _=>.int .u32 (nm (gR g.ports i))
def Q5j (g:G) (v i:Nat):Nat->Nat->V:=fun u _=>.int .u32 (if u<v then nm (gR g.ports u) else if u=v then nm ((gR g.ports v).take i) else 0)
theorem X2r {g:G} (hg:g.valid=true) {v:Nat} (hv:v<g.ports.length):∀l∈gR g.ports v,l.1.toNat<32:=by
 obtain⟨f1,f2,f3,f4,f5,f6,f7⟩:=J0f hg;intro l hl;obtain⟨i,hi,rfl⟩:=X7N hl;have:=X2D (f6 v hv) hi;omega
theorem Q7A {g:G} {v i u j:Nat} (hj:j<1) (hi:i<(gR g.ports v).length) (a:Int) (ha:a=(nm ((gR g.ports v).take (i+1)):Nat)):VLe (J00 (Q5j g v i) v 0 [.int .u32 a] u j) (Q5j g v (i+1) u j):=by
 obtain rfl:j=0:=by omega
 apply VLe.of_eq;by_cases e:u=v
 . subst e;simp[J00,Q5j,ha]
 . simp[J00,Q5j,e]
theorem X0L {g:G} {v i u j:Nat} (hi:(gR g.ports v).length<=i):VLe (Q5j g v i u j) (Q5j g (v+1) 0 u j):=by
 apply VLe.of_eq;simp only[Q5j];by_cases h1:u<v
 . rw[if_pos h1,if_pos (by omega)]
 . by_cases e:u=v
   . subst e;rw[if_neg h1,if_pos rfl,if_pos (by omega),List.take_of_length_le hi]
   . rw[if_neg h1,if_neg e,if_neg (by omega)];by_cases e2:u=v+1
     . rw[if_pos e2];simp[nm]
     . rw[if_neg e2]
theorem Q7z {g:G} {u j:Nat} (hj:j<1):VLe ((fun(x:Nat) (j:Nat)=>[V.int .u32 0].getD j default) u j) (Q5j g 0 0 u j):=by
 obtain rfl:j=0:=by omega
 apply VLe.of_eq;simp[Q5j,nm]
theorem X0M {g:G}:VLe (.fz g.ports.length 1 false (J0l 0 (Q5j g g.ports.length 0))) (.fz g.ports.length 1 false (X3L g)):=by
 refine VLe.fz rfl (fun h=>h) (fun i j hi hj=>VLe.of_eq ?_);simp only[J0l,Q5j,X3L];simp[hi]
theorem Ar.sh1I {t:Int} {K:Int->Prop} (h0:0<=t) (h:t<32) (hK:K ((2 ^ t.toNat:Nat):Int)):Ar .u32 (1*2 ^ (min t.toNat 32)) K:=by
 obtain⟨k,rfl⟩:∃k:Nat,t=k:=⟨t.toNat,by omega⟩;exact Ar.sh1 (by omega) hK
set_option maxHeartbeats 4000000 in
theorem Q7w (g:G) (hs:g.Small) (hg:g.valid=true):Ret Tryz.prog 60 [g.v] (.fz g.ports.length 1 false (X3L g)):=by
 obtain⟨f1,f2,f3,f4,f5,f6,f7⟩:=J0f hg;refine J0h rfl ?_;refine J0d J0b Tryz.func60 rfl hc60 hr60 rfl ?_
 repeat' ((conv=>whnf);first|(refine Bd.nat (by omega) ?_)|(refine Len.mk (by omega) ?_)|(refine MkS.vec ?_))
 all_goals (conv=>whnf)
 refine J0u J0b [3,13,14] [] [2,3,4,5,6,7,8,9,10,11,12,13,14,15,16,17,18,19,20,21,22,23,24,25,26,27,28,29] [1,0] (fun i:Nat=>[(15,.int .i64 i)]) (fun own v=>J1l own 1 (.vec g.ports.length 1 (Q5j g v 0))) (fun m v=>m=g.ports.length-v/\v<=g.ports.length) g.ports.length 0 ⟨rfl,Nat.zero_le _⟩ rfl (fun _=>rfl) ?_ ?_
 . refine J0c (fun _ _=>[(0,some 0),(1,some 1)]) ?_ ?_ rfl
   . repeat' (first|exact True.intro|(refine⟨⟨_,rfl,?_⟩,?_⟩)|exact J0a.kf rfl|exact J0a.vec rfl rfl rfl)
   . repeat' (first|exact Q7z hj|exact True.intro|(refine⟨⟨_,rfl,?_⟩,?_⟩)|exact J0a.kf rfl|(refine⟨Nat.le_refl _,rfl,fun i j hi hj=>?_⟩)|(refine And.intro ?_ ?_))
 rintro m v ⟨hm,hv⟩;have hrl:=Q4j hs.rows v
 repeat' ((conv=>whnf);first|(refine Br.dec ?_ ?_<;>intro _<;>try omega)|(refine Ix.nat (by omega) ?_)|(refine Len.mk (by omega) ?_))
 all_goals (conv=>whnf)
 . refine J0u J0b [3,4,13,14,15,20,21] [] [2,3,4,5,6,7,8,9,10,11,12,13,14,15,16,17,18,19,20,21,22,23,24,25,26,27,28,29] [1,0] (fun i:Nat=>[(22,.int .i64 i)]) (fun own i=>J1l own 1 (.vec g.ports.length 1 (Q5j g v i))) (fun m i=>m=(gR g.ports v).length-i/\i<=(gR g.ports v).length) (gR g.ports v).length 0 ⟨rfl,Nat.zero_le _⟩ rfl (fun _=>rfl) ?_ ?_
   . exact J0k (fun _ _=>[(0,some 0),(1,some 1)])
   rintro m i ⟨hm,hi⟩;have hto:=fun h=>X2D (f6 v (by omega)) (i:=i) h
   repeat' ((conv=>whnf);first|(refine Ar.sh1I (by omega) (by omega) ?_)|(refine Br.dec ?_ ?_<;>intro _<;>try omega)|(refine Ar.i64 (by omega) (by omega) ?_)|(refine Sv.mk _ rfl ?_)|(refine Nn.mk (by omega) ?_)|(refine Ix.nat (by omega) ?_)|(refine Ltn.mk (by omega) ?_))
   all_goals (conv=>whnf)
   . have hr:=X2r hg (v:=v) (by omega);have h1:=X4y ((gR g.ports v).take i) (fun l hl=>hr l (List.mem_of_mem_take hl));have h2:=J34 (hr _ (J2X (show i<(gR g.ports v).length by omega)));refine⟨(gR g.ports v).length-(i+1),i+1,by omega,⟨rfl,by omega⟩,?_⟩;refine J0c (fun _ _=>[(0,some 0),(1,some 1)]) ?_ ?_ rfl
     . repeat' (first|exact True.intro|(refine⟨⟨_,rfl,?_⟩,?_⟩)|exact J0a.kf rfl|exact J0a.vec rfl rfl rfl)
     . repeat' (first|(rw[Nat.zero_add];exact Q7A hj (by omega) _ (by simp only[Nat.zero_add,Nat.lt_irrefl,if_false,if_true];rw[X3n h1 h2,J28 _ _ (by omega),Q7v]))|exact True.intro|(refine⟨⟨_,rfl,?_⟩,?_⟩)|exact J0a.kf rfl|(refine⟨Nat.le_refl _,rfl,fun i j hi hj=>?_⟩)|(refine And.intro ?_ ?_))
   . refine⟨g.ports.length-(v+1),v+1,by omega,⟨rfl,by omega⟩,?_⟩;refine J0c (fun _ _=>[(0,some 0),(1,some 1)]) ?_ ?_ rfl
     . repeat' (first|exact True.intro|(refine⟨⟨_,rfl,?_⟩,?_⟩)|exact J0a.kf rfl|exact J0a.vec rfl rfl rfl)
     . repeat' (first|exact X0L (by omega)|exact True.intro|(refine⟨⟨_,rfl,?_⟩,?_⟩)|exact J0a.kf rfl|(refine⟨Nat.le_refl _,rfl,fun i j hi hj=>?_⟩)|(refine And.intro ?_ ?_))
 . have e:v=g.ports.length:=by omega
   subst e;exact X0M
def ind (g:G) (s:Nat):Bool:=decide (∀v,v<g.ports.length->s.testBit v=true->nm (gR g.ports v) &&& s=0)
theorem X7B {g:G} {s v:Nat} (hv:v<g.ports.length) (hb:s.testBit v=true) (h:nm (gR g.ports v) &&& s≠0):VLe (.bool false) (.bool (ind g s)):=VLe.bool (by rw[ind,decide_eq_false (fun hh=>h (hh v hv hb))])
theorem Q4l {n i:Nat}:(J2z n).testBit i=decide (i<n):=by rw[J2z,Q0T];simp
theorem Q7e {s n:Nat} (h:J2s s (J2z n)) {i:Nat} (hi:s.testBit i=true):i<n:=by
 have:=h i hi;rw[Q4l,decide_eq_true_eq] at this;exact this
set_option maxHeartbeats 8000000 in
theorem Q8N (g:G) (hg:g.valid=true) (s:Nat) (hs:s<4294967296) (hp:J2s s (J2z g.ports.length)):RG 141 [.fz g.ports.length 1 false (X3L g),.int .u32 s] (.bool (ind g s)):=by
 obtain⟨f1,f2,f3,f4,f5,f6,f7⟩:=J0f hg;refine J32 rfl ?_;refine J0d J0b Tryz.func141 rfl Y1z Y0V rfl ?_
 repeat' ((conv=>whnf);first|(refine J0d J0b Tryz.func65 rfl Y1f Y0B rfl ?_)|(refine J1z ?_)|(refine Chk.mk (by kernel_rfl) ?_)|(refine J0d J0b Tryz.func106 rfl X40 X4X rfl ?_))
 all_goals (conv=>whnf)
 refine J0u J0b [0,1] [] [5,6,7,8,9,10,11,12,13,14,15,16,17,18,19,20,21,22,23,24,25,26,27,28,29] [4,3,2,1,0,999] (fun b:Nat=>[]) (fun own b=>J1l own 3 (.cells [.int .u32 (upS s b)])) (fun m b=>m=32-b/\b<=32/\∀v,v<b->s.testBit v=true->nm (gR g.ports v) &&& s=0) 32 0 ⟨rfl,by omega,fun v hv=>by omega⟩ rfl (fun _=>rfl) ?_ ?_
 . have hx:=J83 hs;refine J0c (fun _ _=>[(0,some 0),(1,some 1),(2,some 2),(3,some 3),(4,some 4),(999,some 999)]) ?_ ?_ rfl
   . repeat' (first|exact J0a.yld rfl|exact True.intro|(refine⟨⟨_,rfl,?_⟩,?_⟩)|exact J0a.loc rfl)
   . repeat' (first|exact J0a.int (by rw[hx])|(refine J0a.fn ?_)|(refine⟨rfl,rfl,rfl,rfl,rfl,?_⟩)|exact True.intro|exact⟨rfl,rfl,rfl⟩|(refine⟨⟨_,rfl,?_⟩,?_⟩)|exact J0a.kf rfl|exact J0a.loc rfl|(refine And.intro ?_ ?_))
 rintro m b ⟨hm,hb,hall⟩;have hul:=Q3r s b;by_cases hu:upS s b=0
 . repeat' ((conv=>whnf);first|(refine Br.bne ?_ ?_<;>intro _<;>try omega))
   all_goals (conv=>whnf)
   exact VLe.bool (by
    rw[ind,decide_eq_true];intro v hv hbv;by_cases h:v<b
    . exact hall v h hbv
    . rw[Q2h hs hu v (by omega)] at hbv;cases hbv)
 . obtain⟨v1,v2,v3,v4,v5⟩:=J84 hs hu;have htz:=X3O _ hu hul;have hr:J5X .and .u32 ((upS s b:Nat):Int) ((upS s b:Nat)-1:Int)=((upS s (ctz (upS s b)+1):Nat):Int):=by
    rw[<- v5,show((upS s b:Nat):Int)-1=((upS s b-1:Nat):Int) by omega,J2j hul (by omega)]
   generalize ctz (upS s b)=v at *;have hvn:=Q7e hp v3;have hnl:=X4y _ (X2r hg hvn);have ha:=J2j hnl hs
   repeat' ((conv=>whnf);first|(refine Br.tt ?_)|(refine Br.ff ?_)|(refine Br.bne ?_ ?_<;>intro _<;>try omega)|(refine Ar.u32 (by omega) (by omega) ?_)|(refine Sv.mk _ rfl ?_)|(refine Ix.nat (by omega) ?_)|(refine htz.gog ?_)|(refine J1f J0b rfl rfl ?_))
   all_goals (conv=>whnf)
   . rename_i hh;rw[ha] at hh;exact X7B hvn v3 (fun e=>hh (by rw[e];rfl))
   . rename_i hh;rw[ha] at hh;refine⟨32-(v+1),v+1,by omega,⟨rfl,by omega,fun u hu2 hb2=>?_⟩,?_⟩
     . by_cases h:u<b
       . exact hall u h hb2
       . by_cases e:u=v
         . subst e;omega
         . rw[v4 u (by omega) (by omega)] at hb2;cases hb2
     . refine J0c (fun _ _=>[(0,some 0),(1,some 1),(2,some 2),(3,some 3),(4,some 4),(999,some 999)]) ?_ ?_ rfl
       . repeat' (first|exact J0a.yld rfl|exact True.intro|(refine⟨⟨_,rfl,?_⟩,?_⟩)|exact J0a.loc rfl)
       . repeat' (first|exact J0a.int hr|(refine J0a.fn ?_)|(refine⟨rfl,rfl,rfl,rfl,rfl,?_⟩)|exact True.intro|exact⟨rfl,rfl,rfl⟩|(refine⟨⟨_,rfl,?_⟩,?_⟩)|exact J0a.kf rfl|exact J0a.loc rfl|(refine And.intro ?_ ?_))
def okC (g:G) (k:Int) (e c:Nat):Bool:=if k=1 then decide (c &&& (c-1)=0) else if k=2 then ind g c else if k=4 then decide (c=e) else true
def Q1g (g:G) (k:Int) (e c:Nat):Bool:=decide (c≠0/\J04 c e=0)&&okC g k e c
theorem J5k {a b c:Nat} (h1:J2s a b) (h2:J2s b c):J2s a c:=fun i h=>h2 i (h1 i h)
set_option maxHeartbeats 4000000 in
theorem Q2w (g:G) (hg:g.valid=true) (k:Int) (e c:Nat) (he:e<4294967296) (hc:c<4294967296) (hp:J2s e (J2z g.ports.length)):RG 105 [.fz g.ports.length 1 false (X3L g),.int .i64 k,.int .u32 e,.int .u32 c] (.bool (Q1g g k e c)):=by
 have hd:=J5z hc he;refine J32 rfl ?_;refine J0d J0b Tryz.func105 rfl Y1O Y1a rfl ?_;rw[Q1g];by_cases h:c≠0/\J04 c e=0
 . rw[decide_eq_true h,Bool.true_and];have hpc:=J5k ((J1T hc).1 h.2) hp;have hi:=Q8N g hg c hc hpc;have h0:=h.1;have hd0:J5X .andNot .u32 (c:Int) (e:Int)=0:=by rw[hd,h.2];rfl
   have ha:J5X .and .u32 (c:Int) ((c:Int)-1)=((c &&& (c-1):Nat):Int):=by
    rw[show(c:Int)-1=((c-1:Nat):Int) by omega,J2j hc (by omega)]
   repeat' ((conv=>whnf);first|(refine Sv.mk 0 hd0.symm ?_)|(refine Sv.mk _ ha.symm ?_)|(refine Br.ff ?_)|(refine Br.dec ?_ ?_<;>intro _<;>try omega)|(refine Ar.u32 (by omega) (by omega) ?_)|(refine hi.gog ?_))
   all_goals (conv=>whnf)
   all_goals first
    | (rw[okC,if_pos (by assumption)];first|exact VLe.bool (by symm;first|exact decide_eq_true (by omega)|exact decide_eq_false (by omega)))
    | (rw[okC,if_neg (by assumption),if_pos (by assumption)];first|exact VLe.bool (Eq.symm (by assumption))|exact VLe.bool (by rw[ind];symm;first|exact decide_eq_true (by assumption)|exact decide_eq_false (by assumption)))
    | (rw[okC,if_neg (by assumption),if_neg (by assumption),if_pos (by assumption)];exact VLe.bool (by symm;first|exact decide_eq_true (by omega)|exact decide_eq_false (by omega)))
    | (rw[okC,if_neg (by assumption),if_neg (by assumption),if_neg (by assumption)];exact VLe.rfl)
 . rw[decide_eq_false h,Bool.false_and];by_cases h0:c=0
   . subst h0
     repeat' ((conv=>whnf);first|(refine Br.tt ?_))
     all_goals (conv=>whnf)
     all_goals exact VLe.rfl
   . have h1:J04 c e≠0:=fun x=>h ⟨h0,x⟩
     repeat' ((conv=>whnf);first|(refine Sv.mk _ hd.symm ?_)|(refine Br.dec ?_ ?_<;>intro _<;>try omega)|(refine Br.bne ?_ ?_<;>intro _<;>try omega))
     all_goals (conv=>whnf)
     all_goals exact VLe.rfl
def gr (g:G) (W:Nat):Nat->Nat
 | 0=>0
 | b+1=>if W.testBit b=true/\nm (gR g.ports b) &&& gr g W b=0 then gr g W b ||| 2 ^ b else gr g W b
theorem Q8m (g:G) (W:Nat):∀b,gr g W b<2 ^ b
 | 0=>by show 0<1;omega
 | b+1=>by
   have h:=Q8m g W b;have h2:2 ^ b<2 ^ (b+1):=Nat.pow_lt_pow_right (by omega) (by omega);rw[gr];split
   . exact Nat.or_lt_two_pow (by omega) h2
   . omega
theorem Y1U (g:G) (W:Nat) {b:Nat} (h:b<=32):gr g W b<4294967296:=Nat.lt_of_lt_of_le (Q8m g W b) (Nat.pow_le_pow_right (n:=2) (by omega) h)
theorem Q8l {g:G} {W b:Nat}:∀{v:Nat},b<=v->(∀j,b<=j->j<v->W.testBit j=false)->gr g W v=gr g W b
 | 0,h,_=>by rw[show b=0 by omega]
 | v+1,h,hz=>by
   by_cases e1:b=v+1
   . rw[e1]
   . rw[gr,if_neg (by rw[hz v (by omega) (by omega)];simp)];exact Q8l (by omega) (fun j a c=>hz j a (by omega))
def wsh (e w:Nat):Nat:=if w &&& e=0 then J4z e else w &&& e
theorem Q0b {e w:Nat} (he:e<4294967296):wsh e w<4294967296:=by
 rw[wsh];split
 . exact Q7P e he
 . exact Nat.lt_of_le_of_lt Nat.and_le_right he
theorem Q9M {e w:Nat} (he:e<4294967296):J2s (wsh e w) e:=by
 rw[wsh];split
 . exact J1X he
 . exact J9s _ _
def rs (g:G) (k:Int) (e w:Nat):Nat:=if k=1 then J4z (wsh e w) else if k=2 then gr g (wsh e w) 32 else if k=4 then e else wsh e w
theorem Q0a {s:Nat}:s=0↔∀i,s.testBit i=false:=⟨fun h i=>by subst h;simp,fun h=>Nat.eq_of_testBit_eq fun i=>by rw[h,Nat.zero_testBit]⟩
theorem J22 {a b:Nat}:a &&& b=0↔∀i,a.testBit i=true->b.testBit i=false:=by
 rw[Q0a];constructor
 . intro h i hi;have:=h i;rw[Nat.testBit_and,hi,Bool.true_and] at this;exact this
 . intro h i;rw[Nat.testBit_and];cases e:a.testBit i with
   | false=>rfl
   | true=>rw[h i e];rfl
def adj (g:G) (u v:Nat):Bool:=(nm (gR g.ports u)).testBit v
theorem J3b {g:G} {u v:Nat}:adj g u v=true↔∃l∈gR g.ports u,l.1.toNat=v:=by
 rw[adj,X2H,List.any_eq_true];simp
theorem Q9y {g:G} (hg:g.valid=true) {u v:Nat} (hu:u<g.ports.length) (h:adj g u v=true):adj g v u=true:=by
 obtain⟨f1,f2,f3,f4,f5,f6,f7⟩:=J0f hg;obtain⟨l,hl,rfl⟩:=J3b.1 h;exact J3b.2 ⟨_,f7 u hu l hl,by simp⟩
theorem Q9z {g:G} (hg:g.valid=true) {u:Nat} (hu:u<g.ports.length):adj g u u=false:=by
 obtain⟨f1,f2,f3,f4,f5,f6,f7⟩:=J0f hg;cases h:adj g u u with
 | false=>rfl
 | true =>
   obtain⟨l,hl,h2⟩:=J3b.1 h;have:=(J0B.1 (f6 u hu)).1 l hl;omega
theorem X4U {g:G} {s:Nat}:ind g s=true↔∀v u,v<g.ports.length->s.testBit v=true->adj g v u=true->s.testBit u=false:=by
 rw[ind,decide_eq_true_eq];constructor
 . intro h v u hv hb ha;exact J22.1 (h v hv hb) u ha
 . intro h v hv hb;exact J22.2 (fun u ha=>h v u hv hb ha)
theorem J8n (k:Nat):2 ^ k &&& (2 ^ k-1)=0:=by rw[Nat.and_two_pow_sub_one_eq_mod,Nat.mod_self]
theorem X4F (s:Nat):J4z s &&& (J4z s-1)=0:=by
 rw[J4z];split
 . rfl
 . exact J8n _
theorem J2c {g:G} {k:Int} {e c:Nat}:Q1g g k e c=true↔c≠0/\J04 c e=0/\okC g k e c=true:=by
 rw[Q1g,Bool.and_eq_true,decide_eq_true_eq,and_assoc]
theorem okC1 {g:G} {e c:Nat}:okC g 1 e c=true↔c &&& (c-1)=0:=by rw[okC,if_pos rfl,decide_eq_true_eq]
theorem okC2 {g:G} {e c:Nat}:okC g 2 e c=true↔ind g c=true:=by rw[okC,if_neg (by decide),if_pos rfl]
theorem okC3 {g:G} {e c:Nat}:okC g 3 e c=true:=by rw[okC,if_neg (by decide),if_neg (by decide),if_neg (by decide)]
theorem Y0j {g:G} {e c:Nat}:okC g 4 e c=true↔c=e:=by rw[okC,if_neg (by decide),if_neg (by decide),if_pos rfl,decide_eq_true_eq]
theorem Q2G {g:G} {W b i:Nat} (h:b<=i):(gr g W b).testBit i=false :=
 Nat.testBit_lt_two_pow (Nat.lt_of_lt_of_le (Q8m g W b) (Nat.pow_le_pow_right (n:=2) (by omega) h))
theorem J7c {g:G} {W i:Nat}:∀{b:Nat},i<b->((gr g W b).testBit i=true↔W.testBit i=true/\nm (gR g.ports i) &&& gr g W i=0)
 | b+1,h=>by
   by_cases e:i=b
   . subst e;rw[gr];split
     . rename_i hh;rw[Nat.testBit_or,Nat.testBit_two_pow_self,Bool.or_true];exact⟨fun _=>hh,fun _=>rfl⟩
     . rename_i hh;rw[Q2G (Nat.le_refl _)];exact⟨fun x=>Bool.noConfusion x,fun x=>(hh x).elim⟩
   . have ih:=J7c (g:=g) (W:=W) (i:=i) (b:=b) (by omega);rw[gr];split
     . rw[Nat.testBit_or,Nat.testBit_two_pow,decide_eq_false (by omega),Bool.or_false];exact ih
     . exact ih
theorem X45 (g:G) (W b:Nat):J2s (gr g W b) W:=fun i hi=>by
 by_cases h:i<b
 . exact((J7c h).1 hi).1
 . rw[Q2G (by omega)] at hi;cases hi
theorem Q4i {g:G} {W i b b':Nat} (h:i<b) (h':i<b'):(gr g W b).testBit i=(gr g W b').testBit i:=by
 rw[Bool.eq_iff_iff,J7c h,J7c h']
theorem X2W {g:G} {W b i:Nat} (h:(gr g W b).testBit i=true):i<b:=by
 rcases Nat.lt_or_ge i b with h'|h'
 . exact h'
 . rw[Q2G h'] at h;cases h
theorem X7H {g:G} (hg:g.valid=true) {W:Nat} (hp:J2s W (J2z g.ports.length)) (b:Nat):ind g (gr g W b)=true:=by
 rw[X4U];intro v u hv hb ha;cases hu:(gr g W b).testBit u with
 | false=>rfl
 | true =>
   exfalso;have hub:=X2W hu;have hvb:=X2W hb;rcases Nat.lt_trichotomy u v with h|h|h
   . have h1:=((J7c hvb).1 hb).2;rw[Q4i hub h] at hu;rw[J22.1 h1 u ha] at hu;cases hu
   . subst h;rw[Q9z hg hv] at ha;cases ha
   . have h1:=((J7c hub).1 hu).2;rw[Q4i hvb h] at hb;rw[J22.1 h1 v (Q9y hg hv ha)] at hb;cases hb
theorem Y1T {g:G} {W:Nat} (h0:W≠0) (hW:W<4294967296):gr g W 32≠0:=by
 obtain⟨k1,k2,k3⟩:=J1Z h0 hW;have h1:gr g W (ctz W)=0:=Q8l (b:=0) (Nat.zero_le _) (fun j _ hj=>k3 j hj);have h2:=(J7c (g:=g) (W:=W) (i:=ctz W) (b:=32) k1).2 ⟨k2,by rw[h1,Nat.and_zero]⟩;intro h;rw[h,Nat.zero_testBit] at h2;cases h2
theorem X6t {e w:Nat} (h0:e≠0):wsh e w≠0:=by
 rw[wsh];split
 . exact Q2A h0
 . assumption
theorem Q6Q {g:G} {k:Int} {e w:Nat} (he:e<4294967296):k≠4->J2s (rs g k e w) (wsh e w):=by
 intro hk;rw[rs];split
 . exact J1X (Q0b he)
 . split
   . exact X45 _ _ _
   . exact fun i h=>h
theorem Q3I {g:G} (hg:g.valid=true) {k:Int} {e w:Nat} (hk:dk k=true) (he:e<4294967296) (hp:J2s e (J2z g.ports.length)) (h0:e≠0):Q1g g k e (rs g k e w)=true:=by
 have hW:=Q0b (w:=w) he;have hWe:=Q9M (w:=w) he;have hWp:=J5k hWe hp;have hW0:=X6t (w:=w) h0;rw[Q8M] at hk;rw[J2c];by_cases h4:k=4
 . subst h4;have e1:rs g 4 e w=e:=by rw[rs,if_neg (by decide),if_neg (by decide),if_pos rfl]
   rw[e1];exact⟨h0,(J1T he).2 (fun i h=>h),Y0j.2 rfl⟩
 . have hpt:=Q6Q (g:=g) (w:=w) he h4;have hlt:rs g k e w<4294967296:=Nat.lt_of_le_of_lt hpt.le hW;refine⟨?_,(J1T hlt).2 (J5k hpt hWe),?_⟩
   . rw[rs];split
     . exact Q2A hW0
     . split
       . exact Y1T hW0 hW
       . exact hW0
   . have hk':k=1\/k=2\/k=3:=by omega
     rcases hk' with rfl|rfl|rfl
     . rw[okC1,rs,if_pos rfl];exact X4F _
     . rw[okC2,rs,if_neg (by decide),if_pos rfl];exact X7H hg hWp 32
     . exact okC3
instance:Inhabited Cnt:=⟨⟨0,0,0,0,0⟩⟩
def chC (p:Pr) (g:G) (k:Int) (c:Cf) (w:Nat):Nat:=rs g k (enN p g c) w
def nxC (p:Pr) (g:G) (k:Int) (c:Cf) (w:Nat):Cf:=J0A p g c (chC p g k c w)
def nxK (p:Pr) (g:G) (k:Int) (c:Cf) (n:Cnt) (w:Nat):Cnt:=n.add (chC p g k c w) (enN p g (nxC p g k c w))
def trc (p:Pr) (g:G) (k:Int):Cf->Cnt->List Nat->List (Cf×Cnt)
 | c,n,[]=>[(c,n)]
 | c,n,w::ws=>(c,n)::(if enN p g c=0 then[] else trc p g k (nxC p g k c w) (nxK p g k c n w) ws)
def X71 (e:Nat):Cnt:=⟨0,0,0,0,e⟩
theorem Q4t (p:Pr) (g:G) (c:Cf):enN p g c<2 ^ g.ids.length:=Q7B _ _
theorem Q5D (p:Pr) {g:G} (hg:g.valid=true) (c:Cf):enN p g c<16777216:=by
 obtain⟨f1,f2,f3,f4,f5,f6,f7⟩:=J0f hg;exact Nat.lt_of_lt_of_le (Q4t p g c) (Nat.pow_le_pow_right (n:=2) (by omega) f2)
theorem Q1z (p:Pr) {g:G} (hg:g.valid=true) (c:Cf):enN p g c<4294967296:=by have:=Q5D p hg c;omega
theorem J9L (p:Pr) {g:G} (hg:g.valid=true) (c:Cf):J2s (enN p g c) (J2z g.ports.length):=fun i hi=>by
 obtain⟨f1,f2,f3,f4,f5,f6,f7⟩:=J0f hg;rw[enN,Q0T,Bool.and_eq_true,decide_eq_true_eq] at hi;rw[Q4l,decide_eq_true_eq];omega
theorem J46 (p:Pr) (g:G) (c:Cf) (v:Nat):(enN p g c).testBit v=(decide (v<g.ids.length)&&decide (0<=J1m p g c v)):=Q0T _ _ _
theorem J9V (p:Pr) {g:G} (hg:g.valid=true) {k:Int} (hk:dk k=true) (c:Cf) (w:Nat) (h0:enN p g c≠0) :
 chC p g k c w≠0/\J2s (chC p g k c w) (enN p g c)/\okC g k (enN p g c) (chC p g k c w)=true/\chC p g k c w<16777216/\1<=cnt (chC p g k c w) 32/\cnt (chC p g k c w) 32<=24:=by
 have he:=Q1z p hg c;have hi:=Q3I hg (w:=w) hk he (J9L p hg c) h0;obtain⟨h1,h2,h3⟩:=J2c.1 hi;have hp:J2s (rs g k (enN p g c) w) (enN p g c):=by
  intro i hb;by_cases e:i<32
  . have:=congrArg (Nat.testBit · i) h2;simp only[Nat.zero_testBit,J03 e,hb,Bool.true_and,Bool.not_eq_false'] at this;exact this
  . exfalso;have hx:rs g k (enN p g c) w<4294967296\/∃j,32<=j/\(rs g k (enN p g c) w).testBit j=true:=by
     right;exact⟨i,by omega,hb⟩
    have h4:rs g k (enN p g c) w<4294967296:=by
     rw[rs];split
     . exact Q7P _ (Q0b he)
     . split
       . exact Y1U g _ (by omega)
       . split
         . exact he
         . exact Q0b he
    have:=Nat.testBit_lt_two_pow (Nat.lt_of_lt_of_le h4 (Nat.pow_le_pow_right (n:=2) (i:=32) (by omega) (show 32<=i by omega)));rw[this] at hb;cases hb
 have hlt:rs g k (enN p g c) w<16777216:=by
  apply Nat.lt_of_not_le;intro hge;obtain⟨i,hi1,hi2⟩:=Nat.exists_ge_and_testBit_of_ge_two_pow (n:=24) hge;have:=hp i hi2;have h24:=Nat.testBit_lt_two_pow (Nat.lt_of_lt_of_le (Q5D p hg c) (Nat.pow_le_pow_right (n:=2) (i:=24) (by omega) hi1));rw[h24] at this;cases this
 refine⟨h1,hp,h3,hlt,?_,?_⟩
 . have:∃i,(rs g k (enN p g c) w).testBit i=true:=by
    apply Classical.byContradiction;intro hn;exact h1 (Q0a.2 fun i=>by
     cases hb:(rs g k (enN p g c) w).testBit i with
     | false=>rfl
     | true=>exact(hn ⟨i,hb⟩).elim)
   obtain⟨i,hb⟩:=this;have hi:i<32:=by
    apply Nat.lt_of_not_le;intro hge;have:=Nat.testBit_lt_two_pow (Nat.lt_of_lt_of_le hlt (Nat.pow_le_pow_right (n:=2) (i:=24) (by omega) (show 24<=i by omega)));rw[this] at hb;cases hb
   exact Q2S hb hi
 . have h24:cnt (chC p g k c w) 32=cnt (chC p g k c w) 24:=by
    rw[show(32:Nat)=24+8 from rfl,J5w 24 8];have hz:chC p g k c w >>> 24=0:=by
     rw[Nat.shiftRight_eq_div_pow];exact Nat.div_eq_of_lt hlt
    rw[hz,J9S (s:=0) (fun i _=>Nat.zero_testBit i)];rfl
   rw[h24];exact J4p _ 24
theorem X8b {kind lo hi v:Int} (h:lo<=hi) (h3:kind=3->lo=-1):lo<=brI kind lo hi v/\brI kind lo hi v<=hi:=by
 unfold brI;split
 . omega
 . split
   . have:=h3 (by assumption);omega
   . split<;>omega
theorem X8c {g:G} (hg:g.valid=true) {x:Vr} (hx:Q9A x) {v:Nat} (hv:v<g.ports.length):(bnd g x v).1<=(bnd g x v).2/\(x.kind=3->(bnd g x v).1=-1):=by
 have h1:=J5W hg hx hv;rcases hx.kind with h|h|h
 . exact⟨h1.2.2.2.2 h,fun e=>by omega⟩
 . rw[bnd,if_neg (by omega),if_pos h];exact⟨by decide,fun e=>by omega⟩
 . rw[bnd,if_neg (by omega),if_neg (by omega)];exact⟨by simp only;omega,fun _=>rfl⟩
theorem J7d (l:List Int) (a i:Nat) (x:Int) (ha:a<l.length):gI (l.set a x) i=if i=a then x else gI l i:=by
 simp only[gI,List.getD,List.getElem?_set];by_cases h:a=i
 . subst h;simp[ha]
 . have:¬ i=a:=fun e=>h e.symm;rw[if_neg h,if_neg this]
theorem J1s {p:Pr} (hp:J2M p) {g:G} (hg:g.valid=true) {c:Cf} (hc:J1G p g c) {s:Nat} (hs:J2s s (enN p g c)):J1G p g (J0A p g c s):=by
 obtain⟨f1,f2,f3,f4,f5,f6,f7⟩:=J0f hg;have hl:=hc.len;have key:∀v,v<c.length->s.testBit v=true->∀x,x<p.vars.length->(bnd g (gV p.vars x) v).1<=gI (J3D p g c v (J1m p g c v).toNat) x/\gI (J3D p g c v (J1m p g c v).toNat) x<=(bnd g (gV p.vars x) v).2:=by
  intro v hv hb x hx;have hen:=hs v hb;rw[J46,Bool.and_eq_true,decide_eq_true_eq,decide_eq_true_eq] at hen;have hrl:=Q3H p g c v;have hr:(J1m p g c v).toNat<p.rules.length:=by omega
  have hset:=hp.set _ hr;unfold J3D X2v;generalize (gRl p.rules (J1m p g c v).toNat).sets=l at hset;have gen:∀(l:List (Int×Tm)),(∀j,j<l.length->0<=(gS l j).1/\(gS l j).1<p.vars.length)->∀st:List Int,st.length=p.vars.length->((bnd g (gV p.vars x) v).1<=gI st x/\gI st x<=(bnd g (gV p.vars x) v).2) ->
   (bnd g (gV p.vars x) v).1<=gI (l.foldl (X4o p g c v) st) x/\gI (l.foldl (X4o p g c v) st) x<=(bnd g (gV p.vars x) v).2:=by
   intro l
   induction l with
   | nil=>intro _ st _ h;exact h
   | cons a r ih =>
     intro hj st hst h;rw[List.foldl_cons];have ha:0<=a.1/\a.1<p.vars.length:=hj 0 (by simp);refine ih (fun j hj'=>by have:=hj (j+1) (by simpa using hj');simpa[gS] using this) _ (by simp[X4o,hst]) ?_;rw[X4o,J7d _ _ _ _ (by omega)];split
     . rename_i e;subst e;have hb:=X8c hg (hp.var a.1.toNat hx) (v:=v) (by omega);exact X8b hb.1 hb.2
     . exact h
  exact gen l (fun j hj=>⟨(hset j hj).1,(hset j hj).2.1⟩) _ (hc.row v hv) (hc.val v hv x hx)
 refine⟨by rw[J3L];exact hl,fun v hv=>?_,fun v hv x hx=>?_⟩
 . rw[J3L] at hv;rw[J3i p g c s hv];split
   . rw[J3D,J9p];exact hc.row v hv
   . exact hc.row v hv
 . rw[J3L] at hv;rw[J3i p g c s hv];split
   . rename_i hb;exact key v hv hb x hx
   . exact hc.val v hv x hx
theorem X4x {p:Pr} (hp:J2M p) {g:G} (hg:g.valid=true) {k:Int} (hk:dk k=true) {c:Cf} (hc:J1G p g c) (w:Nat) (h0:enN p g c≠0):J1G p g (nxC p g k c w) :=
 J1s hp hg hc (J9V p hg hk c w h0).2.1
theorem Y0k {p:Pr} {g:G} (hg:g.valid=true) {k:Int} (hk:dk k=true) {c:Cf} {n:Cnt} (hn:n.Ok) (h4:n.steps<4096) (w:Nat) (h0:enN p g c≠0):(nxK p g k c n w).Ok/\(nxK p g k c n w).steps=n.steps+1:=by
 obtain⟨c1,c2,c3,c4,c5,c6⟩:=J9V p hg hk c w h0;refine⟨X57 n hn h4 _ _ c5 c6 (Q5D p hg _),?_⟩;rw[nxK,Cnt.add];split<;>rfl
theorem X6D (p:Pr) (g:G) (k:Int) (c:Cf) (n:Cnt) (ws:List Nat):0<(trc p g k c n ws).length:=by
 cases ws<;>simp[trc]
def J4B (l:List (Cf×Cnt)):Cf:=(l.getLast?.getD default).1
theorem Q5v (x:Cf×Cnt) {l:List (Cf×Cnt)} (h:0<l.length):J4B (x::l)=J4B l:=by
 cases l with
 | nil=>simp at h
 | cons a r=>rfl
theorem wrem {i n:Nat} (h:n≠0):(i:Int).tmod n=((i % n:Nat):Int):=by
 rw[Int.tmod_eq_emod_of_nonneg (by omega)];exact(Int.natCast_emod _ _).symm
end Go.Proofs.YtmifmchinfhbnaaGreatDoor
namespace Go.Proofs.YtmifmchinfhbnaaGreatDoor
open Go.Eng Go.ChangeShapes Go.WideShapes Go.ChangeAt Go.WideMaps Go.WideElems Go.RowKit
set_option maxRecDepth 100000
set_option linter.unusedVariables false
theorem ownk:ownKnob Tryz.prog.godebug=none:=by kernel_rfl
theorem Y0x:laidOutB Tryz.prog=true:=by kernel_rfl
theorem Q4J:Tryz.prog.cellsOf 3=1:=by kernel_rfl
theorem X76:Tryz.prog.cellsOf 5=1:=by kernel_rfl
theorem X77:Tryz.prog.cellsOf 4=1:=by kernel_rfl
theorem X5I:Tryz.prog.cellsOf 22=1:=by kernel_rfl
theorem X1L:Tryz.prog.cellsOf 233=32:=by kernel_rfl
theorem X5H:Tryz.prog.cellsOf 24=6:=by kernel_rfl
theorem X6R:Tryz.prog.readableRec 24=true:=by kernel_rfl
theorem X6L:24<Tryz.prog.types.size:=of_decide_eq_true (by kernel_rfl)
theorem X32:Tryz.prog.wantsStandIn 24=false:=by kernel_rfl
theorem gTab:Tryz.prog.globalNamed "math/bits.deBruijn32tab"=some 0:=by kernel_rfl
theorem tTab:(Tryz.prog.globals[0]?).map (·.type)=some 233:=by kernel_rfl
abbrev Q74:List (String×DataW Unit):=[("math/bits.deBruijn32tab",Rows.laid_math_bits_deBruijn32tab)]
theorem X1A (os:Os) (args:Array Value):laidMetH Tryz.prog Q74 ((World.doorLaid Tryz.prog 400 os).forCall (fun _ _=>0) ⟨#[],args,[]⟩).memory :=
 laidMetH_of_parts3 (fuel:=8) (laidMet_of_run' 8 (by kernel_rfl) (by kernel_rfl)) (by kernel_rfl) (by kernel_rfl)
theorem X4v {W:World} (h:laidMetH Tryz.prog Q74 W):Den (fun _=>False) W Sg.none (.fe 32 1 tzF 0 0) (.pointer (some ⟨0,0,none⟩)):=by
 rw[MakeChecks.laidMetH_plain _ _ _ (by kernel_rfl)] at h;obtain⟨ps,⟨g0,t0,cs0,f0,p0,q0,hg0,ht0,hv0,hd0,_⟩,_,_⟩:=h;obtain rfl:=Option.some.inj (gTab.symm.trans hg0);obtain rfl:=Option.some.inj (tTab.symm.trans ht0);obtain⟨xs,m1,rfl,hx1,hlen,hn,hel⟩:=DataW.trod_array Tryz.underlying233 hd0;simp only[Prod.mk.injEq] at hx1;have hxs:xs.map (·.1)=tzL.map fun n=>(DataW.lit (.int .u8 n):DataW Unit):=by
  have:=hx1.1;rw[Rows.laid_math_bits_deBruijn32tab] at this;have h2:=DataW.agg.inj this;exact h2.symm
 have key:∀i,i<32->W.cell? ⟨0,i,none⟩=some (.int .u8 (tzL.getD i 0)):=by
  intro i hi;have h0:=hel i hi;rw[X76,Nat.mul_one] at h0;have hxi:xs[i]?.map (·.1)=some (.lit (.int .u8 (tzL.getD i 0))):=by
   rw[<- List.getElem?_map,hxs,List.getElem?_map,List.getElem?_eq_getElem (show i<tzL.length from hi)];simp only[Option.map_some,List.getD,List.getElem?_eq_getElem (show i<tzL.length from hi),Option.getD_some]
  cases hx:xs[i]? with
  | none=>rw[hx] at hxi;cases hxi
  | some x =>
    rw[hx] at h0 hxi;obtain⟨k,e1,e2,_⟩:=DataW.trod_int Tryz.underlying5 h0;rw[e2] at hxi;simp only[Option.map_some,Option.some.injEq] at hxi;have hk:k=tzL.getD i 0:=by
     have:=DataW.lit.inj hxi;exact(Lit.int.inj this).2
    have hc:=World.var?_cell hg0 hv0 i;rw[hc];have hl:i<cs0.toList.length:=by rw[hlen,X1L];exact hi
    have h3:cs0.toList[i]?=some (.int .u8 k):=by
     have:=congrArg (·[0]?) e1;simpa[List.getElem?_take,List.getElem?_drop] using this
    rw[<- hk];simpa using h3
 have hb:0<W.heap.size:=by
  have:=key 0 (by decide);unfold World.cell? at this;split at this
  . rename_i h;exact lt_of_getElem? h
  . cases this
 exact .fe _ _ _ _ _ _ _ _ (fun i _=>.int .u8 (tzL.getD i 0)) (by decide) (fun h=>h) hb
  (fun i j hi hj=>by(obtain rfl:j=0:=by omega);simpa using key i hi) (fun i j hi hj=>rfl) (fun i j hi hj=>.int _ _ _)
theorem Q7G {n:Nat} (h:n<=maxLen):n<=9223372036854775807:=h
section
variable {H:Type} {enc:TypeId×Value->H} {W:World} {sp:Nat->Bool} {hd:Bool}
theorem X5t {v:Value} {d:DataW H} {ps:List MemPlace} (hv:∃cs,v=.agg cs) (h:DataW.Trod enc Tryz.prog W 0 sp hd 24 v d ps):∃x:Net,x.Small/\Den (fun _=>False) W Sg.none x.v v:=by
 obtain⟨arr,rfl⟩:=hv;obtain⟨fuel,h⟩:=h;obtain⟨hl,n,hf⟩:=J6z Tryz.underlying24 h;simp only[Value.cells] at hl hf;generalize hcs:arr.toList=cs at hl hf;rw[X5H] at hl;obtain⟨x0,y0⟩:=hf 0 _ rfl;obtain⟨x1,y1⟩:=hf 1 _ rfl;obtain⟨x2,y2⟩:=hf 2 _ rfl;obtain⟨x3,y3⟩:=hf 3 _ rfl;obtain⟨x4,y4⟩:=hf 4 _ rfl;obtain⟨x5,y5⟩:=hf 5 _ rfl;simp only[Q4J,X5I,X77] at y0 y1 y2 y3 y4 y5;obtain⟨n0,e0,_⟩:=J5F Tryz.underlying3 y0;obtain⟨u1,l1,e1,_,d1,m1,_⟩:=J9P Sg.none Tryz.underlying22 Tryz.underlying3 Q4J y1;obtain⟨u2,l2,e2,_,d2,m2,_⟩:=J9P Sg.none Tryz.underlying22 Tryz.underlying3 Q4J y2;obtain⟨u3,l3,e3,_,d3,m3,_⟩:=J9P Sg.none Tryz.underlying22 Tryz.underlying3 Q4J y3;obtain⟨b4,e4⟩:=J4M Tryz.underlying4 y4;obtain⟨b5,e5⟩:=J4M Tryz.underlying4 y5
 match cs,hl with
 | [c0,c1,c2,c3,c4,c5],_ =>
   simp at e0 e1 e2 e3 e4 e5;subst e0 e1 e2 e3 e4 e5;refine⟨⟨n0,l1,l2,l3,b4,b5⟩,⟨Q7G m1,Q7G m2,Q7G m3⟩,?_⟩;have:arr=[.int .i64 n0,c1,c2,c3,.bool b4,.bool b5].toArray:=by rw[<- hcs]
   rw[this];refine .agg _ _ _ rfl ?_;intro i v u hv hu
   match i,hv,hu with
   | 0,hv,hu=>simp at hv hu;subst hv hu;exact .int _ _ _
   | 1,hv,hu=>simp at hv hu;subst hv hu;exact d1
   | 2,hv,hu=>simp at hv hu;subst hv hu;exact d2
   | 3,hv,hu=>simp at hv hu;subst hv hu;exact d3
   | 4,hv,hu=>simp at hv hu;subst hv hu;exact .bool _ _
   | 5,hv,hu=>simp at hv hu;subst hv hu;exact .bool _ _
   | i+6,hv,hu=>simp at hv
end
theorem Q5N {W:World} {base:Nat} {v:Value} (h:Value.okWide Tryz.prog W .any base 24 v):∃cs,v=.agg cs:=by
 unfold Value.okWide at h;rw[Tryz.underlying24] at h;obtain⟨cs,h,_⟩:=h;exact⟨cs,h⟩
end Go.Proofs.YtmifmchinfhbnaaGreatDoor
namespace Go.Plain.An
def hit (l ts:List Nat):Nat:=ts.countP fun t=>decide (t∈l)
def srcs (N:Nat) (ar:Nat->List Nat) (t:Nat):List Nat:=(List.range N).flatMap fun k=>List.replicate ((ar k).count t) k
theorem X33 {N:Nat} {ar:Nat->List Nat} {t k:Nat} (h:k∈srcs N ar t):k<N:=by
 obtain⟨a,h1,h2⟩:=List.mem_flatMap.1 h;have:=List.eq_of_mem_replicate h2;subst this;exact List.mem_range.1 h1
theorem J8J (f:Nat->Nat) (k:Nat):∀n,((List.range n).flatMap fun k=>List.replicate (f k) k).count k=if k<n then f k else 0
 | 0=>by simp
 | n+1=>by
   rw[List.range_succ,List.flatMap_append,List.count_append,J8J f k n];simp only[List.flatMap_cons,List.flatMap_nil,List.append_nil,List.count_replicate];by_cases h:n=k
   . subst h;simp
   . simp[h];by_cases h2:k<n
     . rw[if_pos h2,if_pos (by omega)]
     . rw[if_neg h2,if_neg (by omega)]
theorem J8c {N:Nat} {ar:Nat->List Nat} {t k:Nat} (h:k<N):(srcs N ar t).count k=(ar k).count t:=by
 rw[srcs,J8J (fun k=>(ar k).count t) k N,if_pos h]
theorem J9G {l:List Nat} {t:Nat} (h:t∉l) (ts:List Nat):hit (l++[t]) ts=hit l ts+ts.count t:=by
 induction ts with
 | nil=>rfl
 | cons a ts ih =>
   simp only[hit,List.countP_cons,List.count_cons] at ih ⊢;rw[ih];by_cases e:a=t
   . subst e;simp[h];omega
   . have e2:¬ (a == t)=true:=by simpa using e
     by_cases q:a∈l
     . simp[q,e];omega
     . simp[q,e]
theorem X7E (l ts:List Nat):hit l ts<=ts.length:=List.countP_le_length
theorem Q8i {l ts:List Nat}:hit l ts=ts.length↔∀t∈ts,t∈l:=by
 rw[hit,List.countP_eq_length];simp
theorem Q1k {l:List Nat} {t:Nat} (h:t∉l) (ts:List Nat):hit l ts+ts.count t<=ts.length:=by
 rw[<- J9G h];exact X7E _ _
variable {N:Nat} {ar:Nat->List Nat} {set:Nat->Bool}
structure OrdJ (N:Nat) (ar:Nat->List Nat) (set:Nat->Bool) (L:List Nat) (i q:Nat) (en:Nat->Nat):Prop where
 nodup:L.Nodup
 lt:∀k∈L,k<N
 all:∀k,k<N->set k=true->k∈L
 le:i<=L.length
 ent:∀k,k<N->en k=hit (L.take i) (ar k)+((srcs N ar (L.getD i 0)).take q).count k
 mem:∀k,k<N->set k=false->(k∈L↔(ar k≠[]/\hit (L.take i) (ar k)+((srcs N ar (L.getD i 0)).take q).count k=(ar k).length))
 ord:∀(j k:Nat),L[j]?=some k->set k=true\/(ar k≠[]/\∀t∈ar k,∃j',j'<j/\L[j']?=some t)
theorem OrdJ.start:OrdJ N ar set ((List.range N).filter set) 0 0 (fun _=>0):=by
 refine⟨List.nodup_range.sublist List.filter_sublist,fun k hk=>?_,fun k hk hs=>?_,Nat.zero_le _,fun k _=>?_,fun k hk hs=>?_,fun j k h=>?_⟩
 . exact List.mem_range.1 (List.mem_filter.1 hk).1
 . exact List.mem_filter.2 ⟨List.mem_range.2 hk,hs⟩
 . simp[hit]
 . constructor
   . intro h;have:=(List.mem_filter.1 h).2;rw[hs] at this;cases this
   . rintro⟨h1,h2⟩;have h3:hit ([]:List Nat) (ar k)=0:=by simp[hit]
     simp only[List.take_zero,List.count_nil] at h2;rw[h3] at h2;exact(h1 (List.length_eq_zero_iff.1 h2.symm)).elim
 . exact .inl (List.mem_filter.1 (List.mem_of_getElem? h)).2
theorem take_next {L:List Nat} {i:Nat} (h:i<L.length):L.take (i+1)=L.take i++[L.getD i 0]:=by
 rw[List.take_succ_eq_append_getElem h];simp[List.getD,h]
theorem Q3W {L:List Nat} (hn:L.Nodup) {i:Nat} (h:i<L.length):L.getD i 0∉L.take i:=by
 intro hm;obtain⟨j,hj,e⟩:=List.mem_iff_getElem.1 hm;simp only[List.length_take] at hj;rw[List.getElem_take] at e;have e2:L.getD i 0=L[i]:=by simp[List.getD,h]
 rw[e2] at e;have:=(List.getElem_inj hn).1 e;omega
theorem count_take_next {l:List Nat} {q:Nat} (h:q<l.length) (k:Nat):(l.take (q+1)).count k=(l.take q).count k+if l.getD q 0=k then 1 else 0:=by
 rw[take_next h,List.count_append,List.count_singleton];by_cases e:l.getD q 0=k<;>simp[e]
theorem J9R (l:List Nat) (q k:Nat):(l.take q).count k<=l.count k:=(List.take_sublist q l).count_le k
theorem X1d {l:List Nat} {q:Nat} (h:q<l.length):l.getD q 0∈l:=by
 have:l.getD q 0=l[q]:=by simp[List.getD,h]
 rw[this];exact List.getElem_mem h
theorem OrdJ.step {L:List Nat} {i q:Nat} {en:Nat->Nat} (h:OrdJ N ar set L i q en) (hi:i<L.length) (hq:q<(srcs N ar (L.getD i 0)).length) :
 (srcs N ar (L.getD i 0)).getD q 0<N/\en ((srcs N ar (L.getD i 0)).getD q 0)+1<=(ar ((srcs N ar (L.getD i 0)).getD q 0)).length /\
 OrdJ N ar set (if set ((srcs N ar (L.getD i 0)).getD q 0)=false/\en ((srcs N ar (L.getD i 0)).getD q 0)+1=(ar ((srcs N ar (L.getD i 0)).getD q 0)).length then L++[(srcs N ar (L.getD i 0)).getD q 0] else L) i (q+1)
  (fun k=>if k=(srcs N ar (L.getD i 0)).getD q 0 then en k+1 else en k):=by
 have ht:=Q3W h.nodup hi;have hk:(srcs N ar (L.getD i 0)).getD q 0<N:=X33 (ar:=ar) (t:=L.getD i 0) (X1d hq);have hc:=count_take_next hq ((srcs N ar (L.getD i 0)).getD q 0);rw[if_pos rfl] at hc;have hcl:=J9R (srcs N ar (L.getD i 0)) (q+1) ((srcs N ar (L.getD i 0)).getD q 0);rw[J8c hk] at hcl;have hh:=Q1k ht (ar ((srcs N ar (L.getD i 0)).getD q 0));have he:=h.ent _ hk;generalize hK:(srcs N ar (L.getD i 0)).getD q 0=k at *;have hlt:en k+1<=(ar k).length:=by omega
 refine⟨hk,hlt,?_⟩;have hcn:∀x,((srcs N ar (L.getD i 0)).take (q+1)).count x=((srcs N ar (L.getD i 0)).take q).count x+if k=x then 1 else 0:=fun x=>by
  rw[count_take_next hq x,hK]
 have hent:∀x,x<N->(fun x=>if x=k then en x+1 else en x) x=hit (L.take i) (ar x)+((srcs N ar (L.getD i 0)).take (q+1)).count x:=fun x hx=>by
  have:=h.ent x hx;rw[hcn x];show(if x=k then en x+1 else en x)=_;by_cases e:x=k
  . rw[if_pos e,if_pos e.symm];omega
  . rw[if_neg e,if_neg (fun q=>e q.symm)];omega
 by_cases hs:set k=false/\en k+1=(ar k).length
 . rw[if_pos hs];obtain⟨hs,hL⟩:=hs;have hnm:k∉L:=fun hm=>by
    have:=((h.mem k hk hs).1 hm).2;omega
   have hi':i<=L.length:=by omega
   have etk:(L++[k]).take i=L.take i:=List.take_append_of_le_length hi';have egd:(L++[k]).getD i 0=L.getD i 0:=by
    simp only[List.getD,List.getElem?_append_left hi]
   refine⟨?_,fun x hx=>?_,fun x hx hsx=>List.mem_append_left _ (h.all x hx hsx),by simp;omega,?_,fun x hx hsx=>?_,fun j x hj=>?_⟩
   . refine List.nodup_append.2 ⟨h.nodup,by simp,fun a ha b hb=>?_⟩;simp at hb;subst hb;intro e;subst e;exact hnm ha
   . rcases List.mem_append.1 hx with hx|hx
     . exact h.lt x hx
     . simp at hx;subst hx;exact hk
   . rw[etk,egd];exact hent
   . rw[etk,egd,hcn x,List.mem_append];have:=h.mem x hx hsx;by_cases e:x=k
     . subst e;rw[if_pos rfl];constructor
       . intro _;refine⟨fun q=>by rw[q] at hL;simp at hL,?_⟩;have:=h.ent x hx;omega
       . intro _;exact .inr (by simp)
     . rw[if_neg (fun q=>e q.symm),Nat.add_zero,<- this];constructor
       . rintro (h1|h1)
         . exact h1
         . simp at h1;exact(e h1).elim
       . exact .inl
   . by_cases hjl:j<L.length
     . rw[List.getElem?_append_left hjl] at hj;rcases h.ord j x hj with h1 | ⟨h0,h1⟩
       . exact .inl h1
       . refine .inr ⟨h0,fun t ht=>?_⟩;obtain⟨j',h2,h3⟩:=h1 t ht;exact⟨j',h2,by rw[List.getElem?_append_left (by omega)];exact h3⟩
     . have ej:j=L.length:=by
        have:j<(L++[k]).length:=by
         rcases Nat.lt_or_ge j (L++[k]).length with q|q
         . exact q
         . rw[List.getElem?_eq_none q] at hj;cases hj
        simp at this;omega
       subst ej;have ex:x=k:=by simpa using hj.symm
       subst ex;have hall:hit (L.take i++[L.getD i 0]) (ar x)=(ar x).length:=by
        rw[J9G ht];have:=Q1k ht (ar x);omega
       refine .inr ⟨fun q=>by rw[q] at hL;simp at hL,fun t ht2=>?_⟩;have hm:=Q8i.1 hall t ht2;rw[<- take_next hi] at hm;obtain⟨j',h1,h2⟩:=List.mem_iff_getElem.1 hm;simp only[List.length_take] at h1;rw[List.getElem_take] at h2;refine⟨j',by omega,?_⟩;rw[List.getElem?_append_left (by omega),List.getElem?_eq_getElem (by omega),h2]
 . rw[if_neg hs];refine⟨h.nodup,h.lt,h.all,h.le,hent,fun x hx hsx=>?_,h.ord⟩;rw[hcn x,h.mem x hx hsx];by_cases e:x=k
   . subst e;rw[if_pos rfl];have hne:¬ (en x+1=(ar x).length):=fun q=>hs ⟨hsx,q⟩;have:=h.ent x hx;constructor
     . rintro⟨_,h2⟩;omega
     . rintro⟨_,h2⟩;omega
   . rw[if_neg (fun q=>e q.symm),Nat.add_zero]
theorem OrdJ.next {L:List Nat} {i:Nat} {en:Nat->Nat} (h:OrdJ N ar set L i (srcs N ar (L.getD i 0)).length en) (hi:i<L.length):OrdJ N ar set L (i+1) 0 en:=by
 have ht:=Q3W h.nodup hi;have key:∀k,k<N->hit (L.take (i+1)) (ar k)+((srcs N ar (L.getD (i+1) 0)).take 0).count k=hit (L.take i) (ar k)+((srcs N ar (L.getD i 0)).take (srcs N ar (L.getD i 0)).length).count k:=fun k hk=>by
  rw[take_next hi,J9G ht,List.take_length,J8c hk];simp
 exact⟨h.nodup,h.lt,h.all,hi,fun k hk=>by rw[key k hk];exact h.ent k hk,fun k hk hs=>by rw[key k hk];exact h.mem k hk hs,h.ord⟩
structure Ord (N:Nat) (ar:Nat->List Nat) (set:Nat->Bool) (L:List Nat):Prop where
 nodup:L.Nodup
 lt:∀k∈L,k<N
 all:∀k,k<N->set k=true->k∈L
 out:∀k,k<N->k∉L->set k=false/\(ar k=[]\/∃t∈ar k,t∉L)
 ord:∀(j k:Nat),L[j]?=some k->set k=true\/(ar k≠[]/\∀t∈ar k,∃j',j'<j/\L[j']?=some t)
theorem OrdJ.done {L:List Nat} {en:Nat->Nat} {q:Nat} (h:OrdJ N ar set L L.length q en) (hq:q=0):Ord N ar set L:=by
 subst hq;refine⟨h.nodup,h.lt,h.all,fun k hk hn=>?_,h.ord⟩;have hs:set k=false:=by
  cases e:set k with
  | false=>rfl
  | true=>exact(hn (h.all k hk e)).elim
 refine⟨hs,?_⟩;have hm:=h.mem k hk hs;rw[List.take_length] at hm;by_cases e:ar k=[]
 . exact .inl e
 . right;apply Classical.byContradiction;intro hne;apply hn;refine hm.2 ⟨e,?_⟩;simp only[List.take_zero,List.count_nil,Nat.add_zero];exact Q8i.2 fun t ht=>Classical.byContradiction fun q=>hne ⟨t,ht,q⟩
theorem OrdJ.len {L:List Nat} {i q:Nat} {en:Nat->Nat} (h:OrdJ N ar set L i q en):L.length<=N:=by
 have hs:L.Subset (List.range N):=fun k hk=>List.mem_range.2 (h.lt k hk);have hnd:=h.nodup;have:=List.Nodup.length_le_of_subset hnd hs;simpa using this
end Go.Plain.An
