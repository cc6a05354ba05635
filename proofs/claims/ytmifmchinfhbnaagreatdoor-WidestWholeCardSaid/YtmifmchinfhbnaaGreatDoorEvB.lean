import Derived.Test.YtmifmchinfhbnaaGreatDoorWXL
import Derived.Test.YtmifmchinfhbnaaGreatDoorAN1
import Derived.Test.YtmifmchinfhbnaaGreatDoorWX3
import Derived.Test.YtmifmchinfhbnaaGreatDoorEngAC
import Derived.Test.YtmifmchinfhbnaaGreatDoorEngZ
import Derived.IntWalk
namespace Go.Proofs.YtmifmchinfhbnaaGreatDoor
open Go.Eng
set_option maxRecDepth 100000
set_option linter.unusedVariables false
def sF (L:List (Nat×Nat)):Nat->Nat->V:=fun i j=>match j with
 | 0=>.int .i64 (L.getD i (0,0)).1
 | _+1=>.int .i64 (L.getD i (0,0)).2
theorem Q8G {g:G} (hg:g.valid=true):(J0S g).length=(Q3M g).length:=by
 refine List.Perm.length_eq ?_;refine(List.perm_ext_iff_of_nodup ?_ (Q0M hg)).2 fun e=>by rw[J3V hg,Q63 hg]
 rw[List.nodup_iff_pairwise_ne];exact(J3U g).imp fun {e f} hl q=>by subst q;exact X0R _ _ hl hl
theorem X4q (n v i j:Nat) (hj:j<1):VLe (J00 (pF fun u=>if u<v then (u:Int) else 0) v 0 [.int .i64 v] i j) (pF (fun u=>if u<v+1 then (u:Int) else 0) i j):=by
 refine(X2w _ v (v:Int) (i+1) i j (by omega) hj).trans (VLe.of_eq ?_);show V.int .i64 _=V.int .i64 _;congr 1;show(if i=v then (v:Int) else if i<v then (i:Int) else 0)=if i<v+1 then (i:Int) else 0
 by_cases h:i=v
 . subst h;simp
 . rw[if_neg h];by_cases q:i<v
   . rw[if_pos q,if_pos (by omega)]
   . rw[if_neg q,if_neg (by omega)]
theorem PtI.congr {n:Nat} {D:List (Nat×Nat)} {p q:Nat->Int} (h:PtI n D p) (he:∀u,u<n->q u=p u):PtI n D q:=fun u v hu hv=>by rw[he u hu,he v hv];exact h u v hu hv
noncomputable def Q0C (g:G) (i:Nat):List (Nat×Nat):=(((J0S g).take i).filter (chE g)).map fun e=>(e.a,e.b)
theorem Q3E (g:G) (i:Nat):(Q0C g i).length<=i:=by
 rw[Q0C,List.length_map];exact Nat.le_trans (List.length_filter_le _ _) (by simp;omega)
theorem X0o {g:G} {i:Nat} (hi:i<(J0S g).length) (h:chE g (gE (J0S g) i)=true):Q0C g (i+1)=Q0C g i++[((gE (J0S g) i).a,(gE (J0S g) i).b)]:=by
 rw[Q0C,J9a hi,List.filter_append,List.map_append,List.filter_cons,if_pos h];rfl
theorem X37 {g:G} {i:Nat} (hi:i<(J0S g).length) (h:chE g (gE (J0S g) i)=false):Q0C g (i+1)=Q0C g i:=by
 rw[Q0C,J9a hi,List.filter_append,List.map_append,List.filter_cons,if_neg (by rw[h];decide)];simp[Q0C]
theorem X0p (g:G):Q0C g (J0S g).length=Q5a g:=by rw[Q0C,List.take_length,J8e]
theorem Q9V (L:List (Nat×Nat)) (a b:Nat) (n i j:Nat) (hn:L.length=n) (f:Nat->Nat->V) (h0:f 0 0=.int .i64 a) (h1:f 0 1=.int .i64 b) (hi:i<n+1) (hj:j<2):VLe (J43 (J0l 0 (sF L)) n (J0l 0 f) i j) (sF (L++[(a,b)]) i j):=by
 subst hn;apply VLe.of_eq;by_cases h:i<L.length
 . rw[J1I h,J0v,Nat.zero_add];have e:(L++[(a,b)]).getD i (0,0)=L.getD i (0,0):=by simp[List.getD,List.getElem?_append_left h]
   rcases j with _|j
   . show V.int .i64 _=V.int .i64 _;rw[e]
   . show V.int .i64 _=V.int .i64 _;rw[e]
 . rw[J1J h];obtain rfl:i=L.length:=by omega
   have e:(L++[(a,b)]).getD L.length (0,0)=(a,b):=by simp[List.getD]
   rw[Nat.sub_self,J0v];rcases j with _|_|j
   . show f 0 0=V.int .i64 _;rw[e,h0]
   . show f 0 1=V.int .i64 _;rw[e,h1]
   . omega
theorem X2g.of {o:Option V} {v:V} {A:V->Prop} {B:Prop} (h:o=some v) (hA:A v):X2g o A B:=⟨fun w hw=>by rw[h] at hw;cases hw;exact hA,fun hn=>by rw[h] at hn;cases hn⟩
set_option maxHeartbeats 16000000 in
theorem Q2n (g:G) (hs:g.Small) (hgc:g.conn=true) (h12:(Q3M g).length<=12) (h0:0<(J0S g).length):Ret Tryz.prog 49 [g.v] (.tup [.fz (Q5a g).length 2 false (sF (Q5a g)),.int .i64 0]):=by
 obtain⟨hg,_⟩:=J0o hgc;obtain⟨f1,f2,f3,f4,f5,f6,f7⟩:=J0f hg;have hcn:=Q8W g hs;rw[hgc] at hcn;have hed:=X1w g hs hg h12;refine J0h rfl ?_;refine J0d J0b Tryz.func49 rfl hc49 hr49 rfl ?_;have hle:=Q8G hg;have hso:=X0l 80 (by kernel_rfl) (fun x y=>cpI x.w y.w) X0k ltW wo_w X7Z (J0S g) (by omega)
 repeat' ((conv=>whnf);first|(refine Br.tt ?_)|(refine Br.nbeq ?_ ?_<;>intro _<;>try omega)|(refine Bd.nat (by omega) ?_)|(refine Len.mk (by omega) ?_)|(refine MkS.vec ?_)|(refine hcn.go ?_)|(refine hed.go ?_)|(refine Chk.mk (by kernel_rfl) ?_)|(refine J0d J0b Tryz.func78 rfl hc78 hr78 rfl ?_)|(refine J1E [(0,some 2)] [] (hso.mono ?_) ⟨J0a.vec rfl rfl (Nat.zero_add _),J0a.fn True.intro,True.intro⟩ (by repeat' (first|exact True.intro|(refine⟨⟨_,rfl,?_⟩,?_⟩)|(refine⟨by omega,rfl,fun i j hi hj=>?_⟩)|exact VLe.rfl)) rfl;rintro _ _ _ ⟨B,⟨hp,hsl⟩,rfl,rfl⟩))
 all_goals (conv=>whnf)
 have hBl:=hp.length_eq;have hB:ByW g B:=⟨hp,hsl⟩;refine J0u J0b [2,3,4,5,6,31] [] [4,5,6,7,8,9,10,11,12,13,14,15,16,17,18,19,20,21,22,23,24,25,26,27,28,29] [3,2,0] (fun v:Nat=>[(32,.int .i64 v)]) (fun own v=>J1l own 3 (.vec g.ids.length 1 (pF fun u=>if u<v then (u:Int) else 0))) (fun m v=>m=g.ids.length-v/\v<=g.ids.length) g.ids.length 0 ⟨rfl,Nat.zero_le _⟩ rfl (fun _=>rfl) ?_ ?_
 . refine J0c (fun _ _=>[(0,some 0),(2,some 2),(3,some 3)]) ?_ ?_ rfl
   . repeat' (first|exact True.intro|(refine⟨⟨_,rfl,?_⟩,?_⟩)|exact J0a.kf rfl|exact J0a.vec rfl rfl rfl)
   . repeat' (first|exact⟨Nat.le_refl _,rfl,fun i j hi hj=>VLe.of_eq (by obtain rfl:j=0:=(by omega);rfl)⟩|exact True.intro|(refine⟨⟨_,rfl,?_⟩,?_⟩)|exact J0a.kf rfl|(refine⟨Nat.le_refl _,rfl,fun i j hi hj=>?_⟩)|exact VLe.rfl|(refine And.intro ?_ ?_))
 rintro m v ⟨hm,hv⟩;by_cases hvn:v<g.ids.length
 . repeat' ((conv=>whnf);first|(refine Ix.mk v (by omega) (by omega) ?_)|(refine Br.dec ?_ ?_<;>intro _<;>try omega)|(refine Ar.i64 (by omega) (by omega) ?_)|(refine Ltn.mk (by omega) ?_))
   all_goals (conv=>whnf)
   refine⟨g.ids.length-(v+1),v+1,by omega,⟨rfl,by omega⟩,?_⟩;refine J0c (fun _ _=>[(0,some 0),(2,some 2),(3,some 3)]) ?_ ?_ rfl
   . repeat' (first|exact True.intro|(refine⟨⟨_,rfl,?_⟩,?_⟩)|exact J0a.kf rfl|exact J0a.vec rfl rfl rfl)
   . repeat' (first|exact⟨Nat.le_refl _,rfl,fun i t hi ht=>by simp only[Nat.zero_add];exact X4q g.ids.length v i t ht⟩|exact True.intro|(refine⟨⟨_,rfl,?_⟩,?_⟩)|exact J0a.kf rfl|(refine⟨Nat.le_refl _,rfl,fun i j hi hj=>?_⟩)|exact VLe.rfl|(refine And.intro ?_ ?_))
 have ev:v=g.ids.length:=by omega
 subst ev
 repeat' ((conv=>whnf);first|(refine Br.dec ?_ ?_<;>intro _<;>try omega))
 all_goals (conv=>whnf)
 refine J0u J0b [2,3,4,5,6,8] [] [5,6,7,8,9,10,11,12,13,14,15,16,17,18,19,20,21,22,23,24,25,26,27,28,29] [4,3,2,0] (fun s:Nat×(Nat->Int)=>[(9,.int .i64 s.1)]) (fun own s=>J1l (J1l own 3 (.vec g.ids.length 1 (pF s.2))) 4 (.map (.st KE) (enX g (B.take s.1)))) (fun m s=>m=B.length-s.1/\Cls g B s.1 s.2) B.length (0,fun v=>(v:Int)) ⟨rfl,Cls.start B⟩ rfl (fun _=>rfl) ?_ ?_
 . refine J0c (fun _ _=>[(0,some 0),(2,some 2),(3,some 3),(4,some 4)]) ?_ ?_ rfl
   . repeat' (first|exact True.intro|exact J0a.map rfl|(refine⟨⟨_,rfl,?_⟩,?_⟩)|exact J0a.kf rfl|exact J0a.vec rfl rfl rfl)
   . repeat' (first|exact⟨Nat.le_refl _,rfl,fun i j hi hj=>VLe.of_eq (by obtain rfl:j=0:=(by omega);show V.int .i64 (if i<g.ids.length then (i:Int) else 0)=V.int .i64 _;rw[if_pos hi])⟩|exact⟨rfl,X5m _ _⟩|exact True.intro|(refine⟨⟨_,rfl,?_⟩,?_⟩)|exact J0a.kf rfl|(refine⟨Nat.le_refl _,rfl,fun i j hi hj=>?_⟩)|exact VLe.rfl|(refine And.intro ?_ ?_))
 rintro m ⟨a,p⟩ ⟨hm,hC⟩;simp only at hm hC;have hal:=hC.le;by_cases hab:a<B.length
 . dsimp only
   repeat' ((conv=>whnf);first|(refine Br.dec ?_ ?_<;>intro _<;>try omega))
   all_goals (conv=>whnf)
   refine J0u J0b [2,3,4,5,6,8,9] [] [5,6,7,8,9,10,11,12,13,14,15,16,17,18,19,20,21,22,23,24,25,26,27,28,29] [4,3,2,0] (fun k:Nat=>[(10,.int .i64 k)]) (fun own k=>J1l own 4 (.map (.st KE) (enX g (B.take k)))) (fun m k=>m=B.length-k/\a<=k/\k<=B.length/\∀j,a<=j->j<k->(gE B j).w=(gE B a).w) (B.length-a) a ⟨rfl,Nat.le_refl _,hal,fun j h1 h2=>by omega⟩ rfl (fun _=>rfl) ?_ ?_
   . exact J0k (fun _ _=>[(0,some 0),(2,some 2),(3,some 3),(4,some 4)])
   rintro m k ⟨hm2,hak,hk,hw⟩;have z1:0+k=k:=Nat.zero_add _;have z2:0+a=a:=Nat.zero_add _;by_cases hgo:k<B.length/\(gE B (0+k)).w=(gE B (0+a)).w
   . obtain⟨hkn,hwk⟩:=hgo;have he:=(hB.edge hg hkn).2;have h1:(gE B (0+k)).a<g.ids.length:=by rw[z1];exact he.lu
     have h2:(gE B (0+k)).b<g.ids.length:=by rw[z1];exact he.lv
     have hch:=hC.ch hg hB hak hkn (by rw[z1,z2] at hwk;exact hwk);have hput:∀b:Bool,b=chE g (gE B k)->mput (enX g (B.take k)) (X2R (gE B (0+k))) (.bool b)=enX g (B.take (k+1)):=fun b hb=>by
      rw[z1];exact X5l g (hB.nodup hg) hkn (by rw[hb])
     have hw':∀j,a<=j->j<k+1->(gE B j).w=(gE B a).w:=fun j h3 h4=>by
      by_cases e:j=k
      . subst e;rw[z1,z2] at hwk;exact hwk
      . exact hw j h3 (by omega)
     by_cases hpp:p (0+(gE B (0+k)).a)=p (0+(gE B (0+k)).b)
     . have hb:false=chE g (gE B k):=by
        rw[<- hch,decide_eq_true (by simpa only[Nat.zero_add] using hpp)];rfl
       repeat' ((conv=>whnf);first|(refine Ix.mk k (by omega) (by omega) ?_)|(refine Ix.mk a (by omega) (by omega) ?_)|(refine Ix.mk (gE B (0+k)).a rfl h1 ?_)|(refine Ix.mk (gE B (0+k)).b rfl h2 ?_)|(refine Br.dec ?_ ?_<;>intro _<;>try omega)|(refine Br.bne ?_ ?_<;>intro _<;>try omega)|(refine Ar.i64 (by omega) (by omega) ?_)|(refine Ltn.mk (by omega) ?_))
       all_goals (conv=>whnf)
       refine⟨B.length-(k+1),k+1,by omega,⟨rfl,by omega,by omega,hw'⟩,?_⟩;refine J0c (fun _ _=>[(0,some 0),(2,some 2),(3,some 3),(4,some 4)]) ?_ ?_ rfl
       . repeat' (first|exact True.intro|exact J0a.map rfl|(refine⟨⟨_,rfl,?_⟩,?_⟩)|exact J0a.kf rfl|exact J0a.vec rfl rfl rfl)
       . repeat' (first|exact⟨rfl,(hput _ hb).symm⟩|exact True.intro|(refine⟨⟨_,rfl,?_⟩,?_⟩)|exact J0a.kf rfl|(refine⟨Nat.le_refl _,rfl,fun i j hi hj=>?_⟩)|exact VLe.rfl|(refine And.intro ?_ ?_))
     . have hb:true=chE g (gE B k):=by
        rw[<- hch,decide_eq_false (by simpa only[Nat.zero_add] using hpp)];rfl
       repeat' ((conv=>whnf);first|(refine Ix.mk k (by omega) (by omega) ?_)|(refine Ix.mk a (by omega) (by omega) ?_)|(refine Ix.mk (gE B (0+k)).a rfl h1 ?_)|(refine Ix.mk (gE B (0+k)).b rfl h2 ?_)|(refine Br.dec ?_ ?_<;>intro _<;>try omega)|(refine Br.bne ?_ ?_<;>intro _<;>try omega)|(refine Ar.i64 (by omega) (by omega) ?_)|(refine Ltn.mk (by omega) ?_))
       all_goals (conv=>whnf)
       refine⟨B.length-(k+1),k+1,by omega,⟨rfl,by omega,by omega,hw'⟩,?_⟩;refine J0c (fun _ _=>[(0,some 0),(2,some 2),(3,some 3),(4,some 4)]) ?_ ?_ rfl
       . repeat' (first|exact True.intro|exact J0a.map rfl|(refine⟨⟨_,rfl,?_⟩,?_⟩)|exact J0a.kf rfl|exact J0a.vec rfl rfl rfl)
       . repeat' (first|exact⟨rfl,(hput _ hb).symm⟩|exact True.intro|(refine⟨⟨_,rfl,?_⟩,?_⟩)|exact J0a.kf rfl|(refine⟨Nat.le_refl _,rfl,fun i j hi hj=>?_⟩)|exact VLe.rfl|(refine And.intro ?_ ?_))
   . have hkn':k<B.length->(gE B k).w≠(gE B a).w:=fun h q=>hgo ⟨h,by rw[z1,z2];exact q⟩;have hka:a<k:=by
      by_cases e:a=k
      . subst e;exact(hkn' hab rfl).elim
      . omega
     repeat' ((conv=>whnf);first|(refine Ix.mk k (by omega) (by omega) ?_)|(refine Ix.mk a (by omega) (by omega) ?_)|(refine Br.dec ?_ ?_<;>intro _<;>try omega)|(refine Br.nble ?_ ?_<;>intro _<;>try omega)|(refine Bd.nat (by omega) ?_)|(refine Ltn.mk (by omega) ?_))
     all_goals (conv=>whnf)
     all_goals
      refine J0u J0b [2,3,4,5,6,8,10,85,86] [] [5,6,7,8,9,10,11,12,13,14,15,16,17,18,19,20,21,22,23,24,25,26,27,28,29] [4,3,2,0] (fun s:Nat×(Nat->Int)=>[(87,.int .i64 s.1)]) (fun own s=>J1l own 3 (.vec g.ids.length 1 (pF s.2))) (fun m s=>m=(k-a)-s.1/\s.1<=k-a/\Jng g B a k (a+s.1) s.2) (k-a) (0,p) ⟨rfl,Nat.zero_le _,⟨⟨Nat.le_refl _,hak,hk⟩,hC.pt⟩⟩ rfl (fun _=>rfl) ?_ ?_
      . exact J0k (fun _ _=>[(0,some 0),(2,some 2),(3,some 3),(4,some 4)])
      rintro m3 ⟨i,q⟩ ⟨hm3,hi,hJ⟩;simp only at hm3 hi hJ;by_cases hik:i<k-a
      . dsimp only;have e0:0+a+i=a+i:=by omega
        have he:=(hB.edge hg (i:=a+i) (by omega)).2;have h1:(gE B (0+a+i)).a<g.ids.length:=by rw[e0];exact he.lu
        have h2:(gE B (0+a+i)).b<g.ids.length:=by rw[e0];exact he.lv
        have hjo:=X4P g.ids.length (by omega) q (gE B (0+a+i)).a (gE B (0+a+i)).b h1 h2
        repeat' ((conv=>whnf);first|(refine Ix.mk i (by omega) (by omega) ?_)|(refine Br.dec ?_ ?_<;>intro _<;>try omega)|(refine Ar.i64 (by omega) (by omega) ?_)|(refine Ltn.mk (by omega) ?_)|(refine Chk.mk (by kernel_rfl) ?_)|(refine J1E [(0,some 3)] [] (hjo.mono ?_) ⟨J0a.vec rfl rfl rfl,J0a.int rfl,J0a.int rfl,True.intro⟩ (by repeat' (first|exact True.intro|(refine⟨⟨_,rfl,?_⟩,?_⟩)|(refine⟨Nat.le_refl _,rfl,fun i j hi hj=>?_⟩)|exact VLe.rfl)) rfl;rintro _ _ _ ⟨q',hq',rfl,rfl⟩))
        all_goals (conv=>whnf)
        rename_i q' hq';refine⟨(k-a)-(i+1),(i+1,q'),by omega,⟨rfl,by omega,⟨⟨by omega,by omega,hk⟩,?_⟩⟩,?_⟩
        . have:=(hJ.step hg hB (by omega)).pt;rw[e0] at hq';exact this.congr hq'
        . exact J0k (fun _ _=>[(0,some 0),(2,some 2),(3,some 3),(4,some 4)])
      . have ei:i=k-a:=by omega
        subst ei;have hJ':Jng g B a k k q:=by have:=hJ;rwa[show a+(k-a)=k by omega] at this
        dsimp only
        repeat' ((conv=>whnf);first|(refine Br.dec ?_ ?_<;>intro _<;>try omega))
        all_goals (conv=>whnf)
        refine⟨B.length-k,(k,q),by omega,⟨rfl,hJ'.next hB hka hw hkn'⟩,?_⟩;exact J0k (fun _ _=>[(0,some 0),(2,some 2),(3,some 3),(4,some 4)])
 . have ea:a=B.length:=by omega
   subst ea;dsimp only;simp only[List.take_length]
   repeat' ((conv=>whnf);first|(refine Br.dec ?_ ?_<;>intro _<;>try omega))
   all_goals (conv=>whnf)
   refine J0u J0b [2,3,8,99,100] [5] [6,7,8,9,10,11,12,13,14,15,16,17,18,19,20,21,22,23,24,25,26,27,28,29] [5,4,3,2,0] (fun i:Nat=>[(14,.vec 5 2 0 (Q0C g i).length),(101,.int .i64 i)]) (fun own i=>(5,.vec (Q0C g i).length 2 (sF (Q0C g i)))::own) (fun m i=>m=(J0S g).length-i/\i<=(J0S g).length) (J0S g).length 0 ⟨rfl,Nat.zero_le _⟩ rfl (fun _=>rfl) ?_ ?_
   . exact J0k (fun _ _=>[(0,some 0),(2,some 2),(3,some 3),(4,some 4),(5,none)])
   rintro m i ⟨hm,hi⟩;by_cases hin:i<(J0S g).length
   . have hmem:gE (J0S g) i∈B:=by rw[hp.mem_iff,<- Q1o hin];exact List.getElem_mem hin
     have hfi:=X1t g hmem;have hln:=Q3E g i;cases hch:chE g (gE (J0S g) i) with
     | true =>
       rw[hch] at hfi;have hse:=X0o hin hch;have hsl:=Q3E g (i+1);have hsl2:(Q0C g (i+1)).length=(Q0C g i).length+1:=by rw[hse,List.length_append];rfl
       repeat' ((conv=>whnf);first|(refine Ix.mk i (by omega) (by omega) ?_)|(refine Br.dec ?_ ?_<;>intro _<;>try omega)|(refine Br.nbeq ?_ ?_<;>intro _<;>try omega)|(refine Ar.i64 (by omega) (by omega) ?_)|(refine Len.mk (by omega) ?_)|(refine X2g.of hfi ?_))
       all_goals (conv=>whnf)
       refine⟨(J0S g).length-(i+1),i+1,by omega,⟨rfl,by omega⟩,?_⟩;dsimp only;rw[hsl2,hse];refine J0c (fun env own=>[(0,some 0),(2,some 2),(3,some 3),(4,some 4),(5,X5p env 14)]) ?_ ?_ rfl
       . repeat' (first|exact True.intro|exact J0a.map rfl|(refine⟨⟨_,rfl,?_⟩,?_⟩)|exact J0a.kf rfl|exact J0a.vec rfl rfl rfl)
       . repeat' (first|exact⟨Nat.le_refl _,rfl,fun a b ha hb=>Q9V (Q0C g i) _ _ _ a b rfl _ rfl rfl ha hb⟩|exact True.intro|exact⟨rfl,rfl⟩|(refine⟨⟨_,rfl,?_⟩,?_⟩)|exact J0a.kf rfl|(refine⟨Nat.le_refl _,rfl,fun i j hi hj=>?_⟩)|exact VLe.rfl|(refine And.intro ?_ ?_))
     | false =>
       rw[hch] at hfi;have hse:=X37 hin hch
       repeat' ((conv=>whnf);first|(refine Ix.mk i (by omega) (by omega) ?_)|(refine Br.dec ?_ ?_<;>intro _<;>try omega)|(refine Ar.i64 (by omega) (by omega) ?_)|(refine X2g.of hfi ?_))
       all_goals (conv=>whnf)
       refine⟨(J0S g).length-(i+1),i+1,by omega,⟨rfl,by omega⟩,?_⟩;dsimp only;rw[hse];exact J0k (fun _ _=>[(0,some 0),(2,some 2),(3,some 3),(4,some 4),(5,some 5)])
   . have ei:i=(J0S g).length:=by omega
     subst ei
     repeat' ((conv=>whnf);first|(refine Br.dec ?_ ?_<;>intro _<;>try omega)|(refine Len.mk (by omega) ?_))
     all_goals (conv=>whnf)
     rw[X0p];exact VLe.tup ⟨VLe.fz rfl (fun h=>h) (fun i j hi hj=>VLe.of_eq (by rw[J0v,Nat.zero_add])),VLe.rfl,True.intro⟩
theorem X2Q:∀{l m:List Int},l.Nodup->(∀a∈l,a∈m)->l.length<=m.length
 | [],m,_,_=>Nat.zero_le _
 | a::l,m,hn,hs=>by
   rw[List.nodup_cons] at hn;have ham:=hs a (by simp);have h1:=X2Q (l:=l) (m:=m.erase a) hn.2 (fun b hb=>(List.mem_erase_of_ne (fun e=>hn.1 (by rw[<- e];exact hb))).2 (hs b (by simp[hb])));have h2:=List.length_erase_of_mem ham;have h3:=List.length_pos_of_mem ham;simp only[List.length_cons];omega
def J4D (l:List Int):Nat->Int->Int
 | 0,i=>i
 | f+1,i=>if i∈l then J4D l f ((i+1) % 256) else i
def J5D (i:Int) (k:Nat):Int:=(i+k) % 256
theorem J6y {i:Int} {k:Nat}:(J5D i k+1) % 256=J5D i (k+1):=by rw[J5D,J5D];omega
theorem Q1r {l:List Int} (hl:l.length<256) (i:Int):¬ ∀j,j<256->J5D i j∈l:=by
 intro h;have h1:((List.range 256).map (J5D i)).Nodup:=by
  rw[List.nodup_iff_pairwise_ne,List.pairwise_map];refine List.Pairwise.imp_of_mem ?_ List.nodup_range;intro a b ha hb hne e;rw[List.mem_range] at ha hb;rw[J5D,J5D] at e;omega
 have h2:=X2Q h1 (fun a ha=>by
  obtain⟨j,hj,rfl⟩:=List.mem_map.1 ha;exact h j (List.mem_range.1 hj))
 simp at h2;omega
def J5R (x:List Int):Nat->List Int
 | 0=>[]
 | v+1=>J5R x v++[J4D (J5R x v) 256 (J0P (gI x v) 256)]
theorem J2U (x:List Int):∀v,(J5R x v).length=v
 | 0=>rfl
 | v+1=>by rw[J5R,List.length_append,J2U x v];rfl
theorem J0C (a:Int) {b:Int} (hb:1<=b):0<=J0P a b/\J0P a b<b:=by
 have h1:=Int.tmod_lt_of_pos a (show(0:Int)<b by omega);have h2:=Int.tmod_lt_of_pos (-a) (show(0:Int)<b by omega);rw[Int.neg_tmod] at h2;rw[J0P,if_neg (by omega)];split<;>omega
theorem Q1q {l:List Int} {i:Int} (h0:0<=i) (h1:i<=255):∀f k,k+f=256->(∀j,j<k->J5D i j∈l)->l.length<256->0<=J4D l f (J5D i k)/\J4D l f (J5D i k)<=255/\J4D l f (J5D i k)∉l
 | 0,k,hk,hall,hl=>(Q1r hl i (fun j hj=>hall j (by omega))).elim
 | f+1,k,hk,hall,hl=>by
   rw[J4D];split
   . rename_i hm;rw[J6y];exact Q1q h0 h1 f (k+1) (by omega) (fun j hj=>by
      by_cases e:j=k
      . subst e;exact hm
      . exact hall j (by omega)) hl
   . rename_i hm;refine⟨?_,?_,hm⟩<;>(rw[J5D];omega)
theorem Q3t {i:Int} (h0:0<=i) (h1:i<=255):J5D i 0=i:=by rw[J5D];omega
theorem Q8f (x:List Int):∀v,v<=255->(∀a∈J5R x v,0<=a/\a<=255)/\(J5R x v).Nodup
 | 0,_=>⟨fun a h=>(by simp[J5R] at h),by simp[J5R]⟩
 | v+1,hv=>by
   obtain⟨i1,i2⟩:=Q8f x v (by omega);have hw:=J0C (gI x v) (b:=256) (by omega);have hf:=Q1q (l:=J5R x v) (i:=J0P (gI x v) 256) hw.1 (by omega) 256 0 rfl (fun j hj=>by omega) (by rw[J2U];omega);rw[Q3t hw.1 (by omega)] at hf;rw[J5R];refine⟨fun a ha=>?_,?_⟩
   . rcases List.mem_append.1 ha with h|h
     . exact i1 a h
     . have:a=J4D (J5R x v) 256 (J0P (gI x v) 256):=by simpa using h
       rw[this];exact⟨hf.1,hf.2.1⟩
   . rw[List.nodup_append];refine⟨i2,by simp,fun a ha b hb e=>?_⟩;have:b=J4D (J5R x v) 256 (J0P (gI x v) 256):=by simpa using hb
     rw[<- this,<- e] at hf;exact hf.2.2 ha
def ownN (x:Net) (n:Nat):Own:=[(0,.vec n 1 (vI (J5R x.ids n))),(1,.vec n 1 fun _ _=>.nilslice)]
def Net.n1 (x:Net):Int:=IntKind.i64.wrap (x.n-1)
def Net.size (x:Net) (most:Int):Nat:=(1+J0P x.n1 most).toNat
theorem J8w (l:List Int) (a:Int) (i:Nat):gI (l++[a]) i=if i<l.length then gI l i else if i=l.length then a else 0:=by
 by_cases h:i<l.length
 . simp only[gI,List.getD,List.getElem?_append_left h,if_pos h]
 . rw[if_neg h];by_cases h2:i=l.length
   . subst h2;simp[gI]
   . simp[gI,h2,List.getElem?_eq_none (by simp;omega:(l++[a]).length<=i)]
theorem Q9Z (l:List Int) (a:Int) (n:Nat) (hn:l.length=n) (i j:Nat) (hi:i<n+1) (hj:j<1) :
 VLe (J43 (J0l 0 (vI l)) n (J0l 0 (tab [[.int .i64 a]])) i j) (vI (l++[a]) i j):=by
 apply VLe.of_eq;subst hn;by_cases h:i<l.length
 . rw[J1I h];simp only[J0l,vI,J8w,if_pos h]
 . rw[J1J h];have:i=l.length:=by omega
   subst this;obtain rfl:j=0:=by omega
   simp[J0l,vI,J8w,tab]
set_option maxHeartbeats 8000000 in
theorem X0J (x:Net) (hx:x.Small) (most:Int) (h1:1<=most) (h2:most<=24) :
 J0G Tryz.prog 16 [x.v,.int .i64 most] [] KS fun v own' _=>v=gV1 (x.size most) (x.size most)/\own'=ownN x (x.size most):=by
 have hw:=J2A x.n1 most (by omega);have hwr:=J0C x.n1 h1;have hn:1+J0P x.n1 most=(x.size most:Nat):=by rw[Net.size];omega
 have hsz:1<=x.size most/\x.size most<=24:=by omega
 have hids:=hx.ids;generalize x.size most=n at *;refine J1u ?_;refine J0d J0b Tryz.func16 rfl hc16 hr16 rfl ?_
 repeat' ((conv=>whnf);first|(refine Ar.mk x.n1 rfl ?_)|(refine Ar.i64 (by omega) (by omega) ?_;rw[hn])|(refine Bd.nat (by omega) ?_)|(refine Len.mk (by omega) ?_)|(refine MkS.vec ?_)|(refine hw.go ?_))
 all_goals (conv=>whnf)
 refine J0u J0b [2,4,5,6] [4] [5,6,7,8,9,10,11,12,13,14,15,16,17,18,19,20,21,22,23,24,25,26,27,28,29] [4,3,2,1,0] (fun v:Nat=>[(7,.int .i64 v)]) (fun own v=>(4,.vec v 1 (vI (J5R x.ids v)))::J1l own 3 (.cells [.vec 4 1 0 v,.vec 2 1 0 n])) (fun m v=>m=n-v/\v<=n) n 0 ⟨rfl,by omega⟩ rfl (fun _=>rfl) ?_ ?_
 . exact J0k (fun _ _=>[(0,some 0),(1,some 1),(2,some 2),(3,some 3),(4,none)])
 rintro m v ⟨hm,hv⟩;have hat:=X16 x.ids hids v;have hw2:=J2A (gI x.ids v) 256 (by omega);have hr2:=J0C (gI x.ids v) (b:=256) (by omega);have hil:=J2U x.ids v;have hsn:J5R x.ids (v+1)=J5R x.ids v++[J4D (J5R x.ids v) 256 (J0P (gI x.ids v) 256)]:=rfl;have htz:=Q3t hr2.1 (by omega);generalize J0P (gI x.ids v) 256=id0 at *;generalize hL:J5R x.ids v=L at *
 repeat' ((conv=>whnf);first|(refine Br.dec ?_ ?_<;>intro _<;>try omega)|(refine hat.go ?_)|(refine hw2.go ?_))
 all_goals (conv=>whnf)
 . refine J1a J0b [2,4,5,6,7] (fun p:Nat×Nat=>[(8,.int .i64 (J5D id0 p.1)),(9,.int .i64 p.2)]) (fun m p=>m=(256-p.1)*25+(v-p.2)/\p.1<=256/\p.2<=v/\(∀j,j<p.1->J5D id0 j∈L)/\(∀j,j<p.2->gI L j≠J5D id0 p.1)/\J4D L (256-p.1) (J5D id0 p.1)=J4D L 256 id0) _ (0,0) ⟨rfl,by omega,by omega,fun j hj=>(by omega),fun j hj=>(by omega),(by show J4D L 256 (J5D id0 0)=_;rw[htz])⟩ ?_ ?_
   . refine J0c (fun _ _=>[(0,some 0),(1,some 1),(2,some 2),(3,some 3),(4,some 4)]) ?_ ?_ rfl
     . repeat' (first|exact J0a.int htz.symm|exact True.intro|(refine⟨⟨_,rfl,?_⟩,?_⟩)|exact J0a.kf rfl|exact J0a.loc rfl)
     . repeat' (first|exact True.intro|(refine⟨⟨_,rfl,?_⟩,?_⟩)|exact J0a.kf rfl|exact J0a.vec rfl rfl rfl|(refine⟨Nat.le_refl _,rfl,fun i j hi hj=>?_⟩)|exact VLe.rfl|(refine And.intro ?_ ?_))
   rintro m ⟨k,u⟩ ⟨hm2,hk,hu,hall,hne,hfr⟩;simp only at hm2 hk hu hall hne hfr;have htr:0<=J5D id0 k/\J5D id0 k<=255:=by rw[J5D];omega
   have htn:(J5D id0 k+1).tmod 256=J5D id0 (k+1):=by rw[Int.tmod_eq_emod_of_nonneg (by omega),J6y]
   generalize hT:J5D id0 k=T at *
   repeat' ((conv=>whnf);first|(refine Br.dec ?_ ?_<;>intro _<;>try omega)|(refine Br.nbeq ?_ ?_<;>intro _<;>try omega)|(refine Ar.i64 (by omega) (by omega) ?_)|(refine Sv.mk _ rfl ?_)|(refine Nz.mk (by omega) ?_)|(refine Ix.nat (by omega) ?_)|(refine Len.mk (by omega) ?_)|(refine Ltn.mk (by omega) ?_))
   all_goals (conv=>whnf)
   . rename_i h3 h4;have hin:T∈L:=by rw[<- h4];exact J8y (by omega)
     have hk2:k<256:=by
      rcases Nat.lt_or_ge k 256 with h|h
      . exact h
      . exact(Q1r (l:=L) (by omega) id0 (fun j hj=>hall j (by omega))).elim
     refine⟨_,(k+1,0),?_,⟨rfl,by omega,by omega,fun j hj=>?_,fun j hj=>(by omega),?_⟩,?_⟩
     . simp only;omega
     . simp only at hj;by_cases e:j=k
       . subst e;rw[hT];exact hin
       . exact hall j (by omega)
     . simp only;rw[<- hfr,show 256-k=(256-(k+1))+1 by omega,J4D,if_pos hin,<- hT,J6y]
     . refine J0c (fun _ _=>[(0,some 0),(1,some 1),(2,some 2),(3,some 3),(4,some 4)]) ?_ ?_ rfl
       . repeat' (first|exact J0a.int htn|exact True.intro|(refine⟨⟨_,rfl,?_⟩,?_⟩)|exact J0a.kf rfl|exact J0a.loc rfl)
       . repeat' (first|exact True.intro|(refine⟨⟨_,rfl,?_⟩,?_⟩)|exact J0a.kf rfl|exact J0a.vec rfl rfl rfl|(refine⟨Nat.le_refl _,rfl,fun i j hi hj=>?_⟩)|exact VLe.rfl|(refine And.intro ?_ ?_))
   . rename_i h3 h4;refine⟨_,(k,u+1),?_,⟨rfl,hk,by omega,hall,fun j hj=>?_,by rw[hT];exact hfr⟩,?_⟩
     . simp only;omega
     . simp only at hj ⊢;rw[hT];by_cases e:j=u
       . subst e;simpa using h4
       . exact hne j (by omega)
     . refine J0c (fun _ _=>[(0,some 0),(1,some 1),(2,some 2),(3,some 3),(4,some 4)]) ?_ ?_ rfl
       . repeat' (first|exact J0a.int hT.symm|exact True.intro|(refine⟨⟨_,rfl,?_⟩,?_⟩)|exact J0a.kf rfl|exact J0a.loc rfl)
       . repeat' (first|exact True.intro|(refine⟨⟨_,rfl,?_⟩,?_⟩)|exact J0a.kf rfl|exact J0a.vec rfl rfl rfl|(refine⟨Nat.le_refl _,rfl,fun i j hi hj=>?_⟩)|exact VLe.rfl|(refine And.intro ?_ ?_))
   . have hno:T∉L:=fun h=>by
      obtain⟨j,j1,j2⟩:=X7M h;exact hne j (by omega) j2
     have hfin:J4D L 256 id0=T:=by
      rw[<- hfr];cases h:256-k with
      | zero=>rfl
      | succ f=>rw[J4D,if_neg hno]
     rw[hfin] at hsn
     repeat' ((conv=>whnf);first|fail)
     all_goals (conv=>whnf)
     all_goals
      refine⟨n-(v+1),v+1,by omega,⟨rfl,by omega⟩,?_⟩;simp only[hsn];refine J0c (fun env own=>[(0,some 0),(1,some 1),(2,some 2),(3,some 3),(4,Q2V own 3 0)]) ?_ ?_ rfl
      . repeat' (first|exact True.intro|(refine⟨⟨_,rfl,?_⟩,?_⟩)|exact J0a.kf rfl|exact J0a.loc rfl)
      . repeat' (first|(refine⟨Nat.le_refl _,rfl,fun i j hi hj=>?_⟩)|exact Q9Z _ _ _ hil _ _ hi hj|exact True.intro|(refine⟨⟨_,rfl,?_⟩,?_⟩)|exact J0a.kf rfl|exact J0a.vec rfl rfl rfl|exact VLe.rfl|(refine And.intro ?_ ?_))
 . have e:v=n:=by omega
   subst e;exact J4S (fun v o=>[(0,Q9E v 0),(1,Q9E v 1)]) _ _ ⟨rfl,rfl⟩ (J0a.agg ⟨J0a.vec rfl rfl rfl,J0a.vec rfl rfl rfl,True.intro⟩) ⟨⟨_,rfl,Nat.le_refl _,rfl,fun _ _ _ _=>VLe.of_eq (by rw[hL])⟩,⟨_,rfl,Nat.le_refl _,rfl,fun i j hi hj=>VLe.of_eq (by obtain rfl:j=0:=(by omega);rfl)⟩,True.intro⟩ rfl
theorem X7r {p:Ps} {r:List (Int×Int)} (h:r∈p):∃u,gR p u=r:=by
 obtain⟨i,hi,e⟩:=List.mem_iff_getElem.1 h;exact⟨i,by simp[gR,List.getD,hi,e]⟩
theorem J9h {g:G} (h1:g.ids.length<=1000) (h2:g.ports.length<=1000) (h3:∀u,(gR g.ports u).length<=1000):g.Small :=
 ⟨by omega,by omega,fun r hr=>by obtain⟨u,rfl⟩:=X7r hr;have:=h3 u;omega⟩
theorem J60 (bk:Bool) (p:Ps) (a b:Nat) (w:Int):(J27 bk p a b w).length=p.length:=by
 rw[J27];split<;>simp
theorem Q06 (bk:Bool) (p:Ps) {a b:Nat} (w:Int) (ha:a<p.length) (hb:b<p.length) (u:Nat):(gR (J27 bk p a b w) u).length<=(gR p u).length+1:=by
 rw[J27];split
 . omega
 . rename_i h;have hab:¬ a=b:=fun e=>h (.inl e);have hl:∀r l,(J93 bk r l).length=r.length+1:=fun r l=>by rw[J93];split<;>simp
   rw[J4o _ b _ (by simpa using hb),J4o p a _ ha];split
   . rename_i e;subst e;rw[hl];omega
   . split
     . rename_i e;subst e;rw[hl];omega
     . omega
def wgt (x:Net) (i:Nat):Int:=1+J0P (gI x.weights i) 15
def J1S (x:Net) (n:Nat):Nat->Ps
 | 0=>List.replicate n []
 | k+1=>J27 x.back (J1S x n k) (J0P (gI x.links k) ((k:Int)+1)).toNat (k+1) (wgt x k)
theorem J1r (x:Net) (n:Nat):∀k,(J1S x n k).length=n
 | 0=>by simp[J1S]
 | k+1=>by rw[J1S,J60,J1r x n k]
theorem J86 (x:Net) (k:Nat):(J0P (gI x.links k) ((k:Int)+1)).toNat<k+1:=by
 have:=J0C (gI x.links k) (b:=(k:Int)+1) (by omega);omega
theorem J9n (n u:Nat):gR (List.replicate n []) u=[]:=by
 simp only[gR,List.getD,List.getElem?_replicate];split<;>rfl
theorem J6A (x:Net) (n:Nat):∀k,k<n->∀u,(gR (J1S x n k) u).length<=k
 | 0,_,u=>by rw[J1S,J9n];simp
 | k+1,hk,u=>by
   have h1:=J86 x k;have h2:=Q06 x.back (J1S x n k) (wgt x k) (a:=(J0P (gI x.links k) ((k:Int)+1)).toNat) (b:=k+1) (by rw[J1r];omega) (by rw[J1r];exact hk) u;have h3:=J6A x n k (by omega) u;rw[J1S];omega
abbrev Q7y (I:List Int) (p:Ps):Own:=X7L ⟨I,p⟩
theorem X3J (ρ:Rn) (n:Nat):X3x ρ (.vec n 1 fun _ _=>.nilslice) (X5e (List.replicate n [])):=⟨by simp,rfl,rfl,fun i hi=>⟨rfl,by rw[Q12,J9n];rfl⟩⟩
theorem J3y (ρ:Rn) (p:Ps):X3x ρ (X5e p) (X5e p):=⟨rfl,rfl,True.intro,fun i hi=>rfl,fun i j t hi hn hj ht=>VLe.rfl⟩
set_option maxHeartbeats 8000000 in
theorem Q6s (x:Net) (hx:x.Small) (most:Int) (h1:1<=most) (h2:most<=24) :
 J0G Tryz.prog 4 [x.v,.int .i64 most] [] KS fun v own' _=>v=gV1 (x.size most) (x.size most)/\own'=Q7y (J5R x.ids (x.size most)) (J1S x (x.size most) (x.size most-1)):=by
 have hn:=X0J x hx most h1 h2;have hsz:1<=x.size most/\x.size most<=24:=by
  have:=J0C x.n1 h1;rw[Net.size];omega
 have hll:=hx.links;have hwl:=hx.weights;generalize x.size most=n at *;have hil:=J2U x.ids n;refine J1u ?_;refine J0d J0b Tryz.func4 rfl hc4 hr4 rfl ?_
 repeat' ((conv=>whnf);first|(refine J1E [] [0,1] (hn.mono ?_) ⟨J0a.kf rfl,J0a.kf rfl,True.intro⟩ True.intro rfl;rintro _ _ _ ⟨rfl,rfl⟩)|(refine Chk.mk rfl ?_))
 all_goals (conv=>whnf)
 refine J0u J0b [2,4,5] [3] [5,6,7,8,9,10,11,12,13,14,15,16,17,18,19,20,21,22,23,24,25,26,27,28,29] [4,2,3,1,0] (fun k:Nat=>[(6,.int .i64 ((k:Int)+1))]) (fun own k=>J1l own 3 (X5e (J1S x n k))) (fun m k=>m=n-1-k/\k<=n-1) (n-1) 0 ⟨rfl,by omega⟩ rfl (fun _=>rfl) ?_ ?_
 . refine J0c (fun _ _=>[(0,some 0),(1,some 1),(2,some 2),(3,some 3),(4,some 4)]) ?_ ?_ rfl
   . repeat' (first|exact True.intro|(refine⟨⟨_,rfl,?_⟩,?_⟩)|exact J0a.kf rfl|exact J0a.loc rfl)
   . repeat' (first|exact X3J _ _|exact True.intro|(refine⟨⟨_,rfl,?_⟩,?_⟩)|exact J0a.kf rfl|exact J0a.vec rfl rfl rfl|(refine⟨Nat.le_refl _,rfl,fun i j hi hj=>?_⟩)|exact VLe.rfl|(refine And.intro ?_ ?_))
 rintro m k ⟨hm,hk⟩;have hln:=J1r x n k;by_cases hkn:k<n-1
 . have ha1:=X16 x.links hll k;have ha2:=X16 x.weights hwl k;have hw1:=J2A (gI x.links k) ((k:Int)+1) (by omega);have hw2:=J2A (gI x.weights k) 15 (by omega);have hr1:=J0C (gI x.links k) (b:=(k:Int)+1) (by omega);have hr2:=J0C (gI x.weights k) (b:=15) (by omega);have hrow:=J6A x n k (by omega);have hl:=Q7V x ⟨J5R x.ids n,J1S x n k⟩ (J9h (by show(J5R x.ids n).length<=_;omega) (by show(J1S x n k).length<=_;omega) (fun u=>by have:=hrow u;show(gR (J1S x n k) u).length<=_;omega)) (fun u=>by have:=hrow u;show(gR (J1S x n k) u).length<=_;omega) (J0P (gI x.links k) ((k:Int)+1)).toNat (k+1) (by show _<(J1S x n k).length;omega) (by show _<(J1S x n k).length;omega) (wgt x k);have hnx:J27 x.back (J1S x n k) (J0P (gI x.links k) ((k:Int)+1)).toNat (k+1) (wgt x k)=J1S x n (k+1):=rfl;have hwg:wgt x k=1+J0P (gI x.weights k) 15:=rfl;simp only[hnx,hil,hln] at hl;generalize J0P (gI x.links k) ((k:Int)+1)=a at *;generalize J0P (gI x.weights k) 15=w at *
   repeat' ((conv=>whnf);first|(refine Ar.i64 (by omega) (by omega) ?_;rw[show(k:Int)+1-1=(k:Int) by omega])|(refine Br.dec ?_ ?_<;>intro _<;>try omega)|(refine Ar.i64 (by omega) (by omega) ?_)|(refine ha1.go ?_)|(refine ha2.go ?_)|(refine hw1.go ?_)|(refine hw2.go ?_)|(refine And.intro rfl ?_)|(refine J1E [(0,some 2),(1,some 3)] [] (hl.mono ?_) ⟨J0a.kf rfl,J0a.agg ⟨J0a.vec rfl rfl rfl,J0a.vec rfl rfl rfl,True.intro⟩,J0a.int (by omega),J0a.int (by omega),J0a.int (by omega),True.intro⟩ ⟨⟨_,rfl,Nat.le_of_eq hil,rfl,fun _ _ _ _=>VLe.rfl⟩,⟨_,rfl,J3y _ _⟩,True.intro⟩ rfl;rintro _ _ _ ⟨rfl,rfl⟩)|(refine Chk.mk rfl ?_))
   all_goals (conv=>whnf)
   all_goals
    refine⟨n-1-(k+1),k+1,by omega,⟨rfl,by omega⟩,?_⟩;refine J0c (fun _ _=>[(0,some 0),(1,some 1),(2,some 2),(3,some 3),(4,some 4)]) ?_ ?_ rfl
    . repeat' (first|exact True.intro|(refine⟨⟨_,rfl,?_⟩,?_⟩)|exact J0a.kf rfl|exact J0a.loc rfl)
    . repeat' (first|exact J3y _ _|exact⟨Nat.le_of_eq hil.symm,rfl,fun _ _ _ _=>VLe.rfl⟩|exact True.intro|(refine⟨⟨_,rfl,?_⟩,?_⟩)|exact J0a.kf rfl|exact J0a.vec rfl rfl rfl|(refine And.intro ?_ ?_))
 . have e:k=n-1:=by omega
   subst e
   repeat' ((conv=>whnf);first|(refine Br.dec ?_ ?_<;>intro _<;>try omega))
   all_goals (conv=>whnf)
   exact J4S (fun v o=>[(0,Q9E v 0),(1,Q9E v 1)]) _ _ ⟨rfl,rfl⟩ (J0a.agg ⟨J0a.vec rfl rfl rfl,J0a.vec rfl rfl rfl,True.intro⟩) ⟨⟨_,rfl,Nat.le_of_eq hil,rfl,fun _ _ _ _=>VLe.rfl⟩,⟨_,rfl,J3y _ _⟩,True.intro⟩ rfl
def J2D (x:Net) (n:Nat) (p:Ps):Nat->Ps
 | 0=>p
 | k+1=>J27 x.back (J2D x n p k) (J0P (gI x.links (n+2*k)) n).toNat (J0P (gI x.links (n+2*k+1)) n).toNat (wgt x (n+2*k))
def J4w (x:Net) (n:Nat):Nat:=min ((x.links.length-n) / 2) ((61-n) / 2)
theorem J1U (x:Net) (n:Nat) (p:Ps):∀k,(J2D x n p k).length=p.length
 | 0=>rfl
 | k+1=>by rw[J2D,J60,J1U x n p k]
theorem J3e {a:Int} {n:Nat} (hn:1<=n):(J0P a n).toNat<n:=by
 have:=J0C a (b:=(n:Int)) (by omega);omega
theorem Q0W (x:Net) (n:Nat) (p:Ps) (hn:1<=n) (hp:p.length=n):∀k u,(gR (J2D x n p k) u).length<=(gR p u).length+k
 | 0,u=>by rw[J2D];omega
 | k+1,u=>by
   have h2:=Q06 x.back (J2D x n p k) (wgt x (n+2*k)) (a:=(J0P (gI x.links (n+2*k)) n).toNat) (b:=(J0P (gI x.links (n+2*k+1)) n).toNat) (by rw[J1U,hp];exact J3e hn) (by rw[J1U,hp];exact J3e hn) u;have h3:=Q0W x n p hn hp k u;rw[J2D];omega
set_option maxHeartbeats 8000000 in
theorem X4C (x:Net) (hx:x.Small) (I:List Int) (p:Ps) (n:Nat) (hn:1<=n) (hn2:n<=24) (hI:I.length=n) (hp:p.length=n) (hr:∀u,(gR p u).length<=100) :
 J0G Tryz.prog 76 [x.v,gV1 n n] (Q7y I p) KS4 fun v own' _=>v=gV1 n n/\own'=Q7y I (J2D x n p (J4w x n)):=by
 have hll:=hx.links;have hwl:=hx.weights;have hN:J4w x n<=31/\∀k,k<J4w x n↔(n+2*k+1<x.links.length/\n+2*k<60):=by
  rw[J4w];exact⟨by omega,fun k=>by omega⟩
 refine J1u ?_;refine J0d J0b Tryz.func76 rfl hc76 hr76 rfl ?_
 repeat' ((conv=>whnf);first|fail)
 all_goals (conv=>whnf)
 refine J0u J0b [2,3,4,5] [] [5,6,7,8,9,10,11,12,13,14,15,16,17,18,19,20,21,22,23,24,25,26,27,28,29] [4,3,2,0,1] (fun k:Nat=>[(6,.int .i64 ((n:Int)+2*k))]) (fun own k=>J1l own 1 (X5e (J2D x n p k))) (fun m k=>m=J4w x n-k/\k<=J4w x n) (J4w x n) 0 ⟨rfl,by omega⟩ rfl (fun _=>rfl) ?_ ?_
 . refine J0c (fun _ _=>[(0,some 0),(1,some 1),(2,some 2),(3,some 3),(4,some 4)]) ?_ ?_ rfl
   . repeat' (first|exact True.intro|(refine⟨⟨_,rfl,?_⟩,?_⟩)|exact J0a.kf rfl|exact J0a.loc rfl)
   . repeat' (first|exact J3y _ _|exact True.intro|(refine⟨⟨_,rfl,?_⟩,?_⟩)|exact J0a.kf rfl|exact J0a.vec rfl rfl rfl|(refine⟨Nat.le_refl _,rfl,fun i j hi hj=>?_⟩)|exact VLe.rfl|(refine And.intro ?_ ?_))
 rintro m k ⟨hm,hk⟩;have hln:=(J1U x n p k).trans hp;have hk2:=hN.2 k;by_cases hkn:k<J4w x n
 . obtain⟨c1,c2⟩:=hk2.1 hkn;have ha2:=X16 x.weights hwl (n+2*k);have hw1:=J2A (gI x.links (n+2*k)) n (by omega);have hw3:=J2A (gI x.links (n+2*k+1)) n (by omega);have hw2:=J2A (gI x.weights (n+2*k)) 15 (by omega);have hr1:=J0C (gI x.links (n+2*k)) (b:=n) (by omega);have hr3:=J0C (gI x.links (n+2*k+1)) (b:=n) (by omega);have hr2:=J0C (gI x.weights (n+2*k)) (b:=15) (by omega);have hrow:∀u,(gR (J2D x n p k) u).length<=1000:=fun u=>by have:=Q0W x n p hn hp k u;have:=hr u;omega
   have hl:=Q7V x ⟨I,J2D x n p k⟩ (J9h (by show I.length<=_;omega) (by show(J2D x n p k).length<=_;omega) hrow) hrow (J0P (gI x.links (n+2*k)) n).toNat (J0P (gI x.links (n+2*k+1)) n).toNat (by show _<(J2D x n p k).length;omega) (by show _<(J2D x n p k).length;omega) (wgt x (n+2*k));have hnx:J27 x.back (J2D x n p k) (J0P (gI x.links (n+2*k)) n).toNat (J0P (gI x.links (n+2*k+1)) n).toNat (wgt x (n+2*k))=J2D x n p (k+1):=rfl;have hwg:wgt x (n+2*k)=1+J0P (gI x.weights (n+2*k)) 15:=rfl;simp only[hnx,hI,hln] at hl;have e2k:((n+2*k:Nat):Int)=(n:Int)+2*k:=by omega
   rw[e2k] at ha2
   repeat' ((conv=>whnf);first|(refine Ix.mk (n+2*k) (by omega) (by omega) ?_;try rw[Nat.zero_add])|(refine Ix.mk (n+2*k+1) (by omega) (by omega) ?_;try rw[Nat.zero_add])|(refine Br.dec ?_ ?_<;>intro _<;>try omega)|(refine Ar.i64 (by omega) (by omega) ?_)|(refine ha2.go ?_)|(refine hw1.go ?_)|(refine hw3.go ?_)|(refine hw2.go ?_)|(refine And.intro rfl ?_)|(refine J1E [(0,some 0),(1,some 1)] [] (hl.mono ?_) ⟨J0a.kf rfl,J0a.agg ⟨J0a.vec rfl rfl rfl,J0a.vec rfl rfl rfl,True.intro⟩,J0a.int (by omega),J0a.int (by omega),J0a.int (by omega),True.intro⟩ ⟨⟨_,rfl,Nat.le_of_eq (by first|rfl|exact hI|exact hI.symm),rfl,fun _ _ _ _=>VLe.rfl⟩,⟨_,rfl,J3y _ _⟩,True.intro⟩ rfl;rintro _ _ _ ⟨rfl,rfl⟩)|(refine Chk.mk rfl ?_))
   all_goals (conv=>whnf)
   all_goals
    refine⟨J4w x n-(k+1),k+1,by omega,⟨rfl,by omega⟩,?_⟩;refine J0c (fun _ _=>[(0,some 0),(1,some 1),(2,some 2),(3,some 3),(4,some 4)]) ?_ ?_ rfl
    . repeat' (first|exact True.intro|(refine⟨⟨_,rfl,?_⟩,?_⟩)|exact J0a.kf rfl|exact J0a.loc rfl)
    . repeat' (first|exact J3y _ _|exact⟨Nat.le_refl _,rfl,fun _ _ _ _=>VLe.rfl⟩|exact True.intro|(refine⟨⟨_,rfl,?_⟩,?_⟩)|exact J0a.kf rfl|exact J0a.vec rfl rfl rfl|(refine And.intro ?_ ?_))
 . have e:k=J4w x n:=by omega
   subst e;by_cases h1:n+2*J4w x n+1<x.links.length
   all_goals
    repeat' ((conv=>whnf);first|(refine Br.dec ?_ ?_<;>intro _<;>try omega)|(refine Ar.i64 (by omega) (by omega) ?_))
    all_goals (conv=>whnf)
    all_goals exact J4S (fun v o=>[(0,Q9E v 0),(1,Q9E v 1)]) _ _ ⟨rfl,rfl⟩ (J0a.agg ⟨J0a.vec rfl rfl rfl,J0a.vec rfl rfl rfl,True.intro⟩) ⟨⟨_,rfl,Nat.le_refl _,rfl,fun _ _ _ _=>VLe.rfl⟩,⟨_,rfl,J3y _ _⟩,True.intro⟩ rfl
theorem J9i (x:Net) {most:Int} (h1:1<=most):1<=x.size most/\(x.size most:Int)<=most:=by
 have:=J0C x.n1 h1;rw[Net.size];omega
def Net.con (x:Net) (most:Int):G:=⟨J5R x.ids (x.size most),J2D x (x.size most) (J1S x (x.size most) (x.size most-1)) (J4w x (x.size most))⟩
def Net.any (x:Net) (most:Int):G:=if x.apart then⟨J5R x.ids (x.size most),J2D x (x.size most) (List.replicate (x.size most) []) (J4w x (x.size most))⟩ else x.con most
theorem X6z {g:G} {n:Nat} (h1:g.ids.length=n) (h2:g.ports.length=n):VLe (V.agg [.fz n 1 false (J0l 0 (vI g.ids)),.fz n 1 false fun i _=>.fz (Q12 g.ports i) 2 false (Q3K g.ports i)]) g.v:=by
 refine VLe.agg ⟨?_,?_,True.intro⟩
 . exact VLe.fz h1.symm (fun h=>h) (fun i j hi hj=>VLe.of_eq (by simp[J0l]))
 . exact VLe.fz h2.symm (fun h=>h) (fun i j hi hj=>VLe.rfl)
theorem X6Q {g:G} {n:Nat} (h1:g.ids.length=n) (h2:g.ports.length=n):Q4m (X7L g) (gV1 n n) fun v=>VLe v g.v :=
 ⟨by rw[Nat.zero_add,h1];exact Nat.le_refl _,Nat.le_of_eq h2.symm,X6z h1 h2⟩
set_option maxHeartbeats 8000000 in
theorem J7X (x:Net) (hx:x.Small) (most:Int) (h1:1<=most) (h2:most<=24) :
 J0G Tryz.prog 48 [x.v,.int .i64 most] [] KS fun v own' _=>v=gV1 (x.size most) (x.size most)/\own'=X7L (x.con most):=by
 have ht:=Q6s x hx most h1 h2;have hsz:=J9i x h1;have hm:=X4C x hx (J5R x.ids (x.size most)) (J1S x (x.size most) (x.size most-1)) (x.size most) hsz.1 (by omega) (J2U _ _) (J1r _ _ _) (fun u=>by have:=J6A x (x.size most) (x.size most-1) (by omega) u;omega);refine J1u ?_;refine J0d J0b Tryz.func48 rfl hc48 hr48 rfl ?_
 repeat' ((conv=>whnf);first|(refine J1E [] [0,1] (ht.mono ?_) ⟨J0a.kf rfl,J0a.kf rfl,True.intro⟩ True.intro rfl;rintro _ _ _ ⟨rfl,rfl⟩)|(refine J1E [(0,some 2),(1,some 3)] [] (hm.mono ?_) ⟨J0a.kf rfl,J0a.agg ⟨J0a.vec rfl rfl rfl,J0a.vec rfl rfl rfl,True.intro⟩,True.intro⟩ ⟨⟨_,rfl,Nat.le_refl _,rfl,fun _ _ _ _=>VLe.rfl⟩,⟨_,rfl,J3y _ _⟩,True.intro⟩ rfl;rintro _ _ _ ⟨rfl,rfl⟩)|(refine Chk.mk rfl ?_)|(refine And.intro rfl ?_))
 all_goals (conv=>whnf)
 exact J4S (fun v o=>[(0,Q9E v 0),(1,Q9E v 1)]) _ _ ⟨rfl,rfl⟩ (J0a.agg ⟨J0a.vec rfl rfl rfl,J0a.vec rfl rfl rfl,True.intro⟩) ⟨⟨_,rfl,Nat.le_refl _,rfl,fun _ _ _ _=>VLe.rfl⟩,⟨_,rfl,J3y _ _⟩,True.intro⟩ rfl
theorem J7u (x:Net) (most:Int):(x.con most).ids.length=x.size most/\(x.con most).ports.length=x.size most:=⟨J2U _ _,(J1U _ _ _ _).trans (J1r _ _ _)⟩
theorem Q1D (x:Net) (hx:x.Small) (most:Int) (h1:1<=most) (h2:most<=24):Ret Tryz.prog 48 [x.v,.int .i64 most] (x.con most).v:=by
 refine J0h rfl ((J7X x hx most h1 h2).mono ?_);rintro _ _ _ ⟨rfl,rfl⟩;exact X6Q (J7u x most).1 (J7u x most).2
structure PV (p:Ps):Prop where
 ok:∀v,v<p.length->okR p.length v (gR p v)=true
 sym:∀v,v<p.length->∀l∈gR p v,((v:Int),l.2)∈gR p l.1.toNat
theorem J1W {bk:Bool} {r:List (Int×Int)} {x l:Int×Int}:l∈J93 bk r x↔l=x\/l∈r:=by
 rw[J93];split
 . simp
 . simp only[List.mem_append,List.mem_singleton];exact⟨Or.symm,Or.symm⟩
theorem J8p {bk:Bool} {r:List (Int×Int)} {x:Int×Int} (h:(r.map (·.1)).Nodup) (hx:∀l∈r,l.1≠x.1):((J93 bk r x).map (·.1)).Nodup:=by
 have hn:x.1∉r.map (·.1):=fun hm=>by
  obtain⟨l,h1,h2⟩:=List.mem_map.1 hm;exact hx l h1 h2
 rw[J93];split
 . rw[List.map_cons,List.nodup_cons];exact⟨hn,h⟩
 . rw[List.map_append,List.nodup_append];refine⟨h,by simp,fun a ha b hb e=>hn ?_⟩;have:b=x.1:=by simpa using hb
   rw[<- this,<- e];exact ha
theorem X6W (n:Nat):PV (List.replicate n []):=⟨fun v _=>by rw[J9n];rfl,fun v _ l hl=>by rw[J9n] at hl;cases hl⟩
theorem Q69 {bk:Bool} {p:Ps} (h:PV p) {a b:Nat} {w:Int} (ha:a<p.length) (hb:b<p.length) (hw:1<=w/\w<=15):PV (J27 bk p a b w):=by
 have hlen:=J60 bk p a b w;rw[J27] at hlen ⊢;split
 . exact h
 . rename_i hc;rw[if_neg hc] at hlen;have hab:a≠b:=fun e=>hc (.inl e);have hnl:∀l∈gR p a,l.1≠b:=fun l hl e=>hc (.inr (by rw[lnk,List.any_eq_true];exact⟨l,hl,by simpa using e⟩));have hnl2:∀l∈gR p b,l.1≠a:=fun l hl e=>by
    have:=h.sym b hb l hl;rw[e] at this;exact hnl _ this rfl
   have hg:∀v,gR ((p.set a (J93 bk (gR p a) ((b:Int),w))).set b (J93 bk (gR p b) ((a:Int),w))) v=if v=b then J93 bk (gR p b) ((a:Int),w) else if v=a then J93 bk (gR p a) ((b:Int),w) else gR p v:=fun v=>by
    rw[J4o _ b _ (by simpa using hb),J4o p a _ ha]
   constructor
   . intro v hv;rw[hlen] at hv ⊢;rw[hg];split
     . rename_i e;subst e;obtain⟨o1,o2⟩:=J0B.1 (h.ok v hv);refine J0B.2 ⟨fun l hl=>?_,J8p o2 hnl2⟩;rcases J1W.1 hl with rfl|hl
       . simp only;omega
       . exact o1 l hl
     . split
       . rename_i e;subst e;obtain⟨o1,o2⟩:=J0B.1 (h.ok v hv);refine J0B.2 ⟨fun l hl=>?_,J8p o2 hnl⟩;rcases J1W.1 hl with rfl|hl
         . simp only;omega
         . exact o1 l hl
       . exact h.ok v hv
   . intro v hv l hl;rw[hlen] at hv;have old:∀u x,x∈gR p u->x∈gR ((p.set a (J93 bk (gR p a) ((b:Int),w))).set b (J93 bk (gR p b) ((a:Int),w))) u:=fun u x hx=>by
      rw[hg];split
      . rename_i e;subst e;exact J1W.2 (.inr hx)
      . split
        . rename_i e;subst e;exact J1W.2 (.inr hx)
        . exact hx
     rw[hg] at hl;split at hl
     . rename_i e;subst e;rcases J1W.1 hl with rfl|hl
       . simp only[Int.toNat_natCast];rw[hg,if_neg hab,if_pos rfl];exact J1W.2 (.inl rfl)
       . exact old _ _ (h.sym v hv l hl)
     . split at hl
       . rename_i e;subst e;rcases J1W.1 hl with rfl|hl
         . simp only[Int.toNat_natCast];rw[hg,if_pos rfl];exact J1W.2 (.inl rfl)
         . exact old _ _ (h.sym v hv l hl)
       . exact old _ _ (h.sym v hv l hl)
theorem X2j (x:Net) (i:Nat):1<=wgt x i/\wgt x i<=15:=by
 have:=J0C (gI x.weights i) (b:=15) (by omega);rw[wgt];omega
theorem Q2s (x:Net) (n:Nat):∀k,k<n->PV (J1S x n k)
 | 0,_=>X6W n
 | k+1,hk=>by
   have h1:=J86 x k;rw[J1S];exact Q69 (Q2s x n k (by omega)) (by rw[J1r];omega) (by rw[J1r];exact hk) (X2j x k)
theorem Q68 (x:Net) {n:Nat} (hn:1<=n) {p:Ps} (hp:p.length=n) (h:PV p):∀k,PV (J2D x n p k)
 | 0=>h
 | k+1=>by
   rw[J2D];exact Q69 (Q68 x hn hp h k) (by rw[J1U,hp];exact J3e hn) (by rw[J1U,hp];exact J3e hn) (X2j x _)
theorem Q94 {I:List Int} {p:Ps} {n:Nat} (h1:1<=n) (h2:n<=24) (hI:I.length=n) (hp:p.length=n) (h3:∀a∈I,0<=a/\a<=255) (h4:I.Nodup) (h:PV p):(⟨I,p⟩:G).valid=true:=by
 rw[G.valid,Bool.and_eq_true,Bool.and_eq_true,decide_eq_true_eq];refine⟨⟨by show 1<=I.length;omega,by show I.length<=24;omega,by show p.length=I.length;omega⟩,(J41 _).2 ⟨h3,h4⟩,?_⟩;rw[J24,Bool.and_eq_true];exact⟨J31.2 h.ok,J6C.2 h.sym⟩
theorem Q80 (x:Net) {most:Int} (h1:1<=most) (h2:most<=24):(x.con most).valid=true:=by
 have hs:=J9i x h1;have hi:=Q8f x.ids (x.size most) (by omega);exact Q94 hs.1 (by omega) (J7u x most).1 (J7u x most).2 hi.1 hi.2 (Q68 x hs.1 (J1r _ _ _) (Q2s x _ _ (by omega)) _)
theorem Q2g {g:G} (h:g.valid=true):g.Small:=by
 obtain⟨f1,f2,f3,f4,f5,f6,f7⟩:=J0f h;refine J9h (by omega) (by omega) (fun u=>?_);by_cases hu:u<g.ports.length
 . have:=Q2u hu (f6 u hu);omega
 . have:gR g.ports u=[]:=by simp[gR,List.getD,List.getElem?_eq_none (Nat.le_of_not_lt hu)]
   rw[this];simp
theorem Q07 {bk:Bool} {p:Ps} {a b:Nat} {w:Int} (ha:a<p.length) (hb:b<p.length) (hc:¬ (a=b\/lnk p a b=true)) (v:Nat) :
 gR (J27 bk p a b w) v=if v=b then J93 bk (gR p b) ((a:Int),w) else if v=a then J93 bk (gR p a) ((b:Int),w) else gR p v:=by
 rw[J27,if_neg hc,J4o _ b _ (by simpa using hb),J4o p a _ ha]
theorem J8u {bk:Bool} {p:Ps} {a b:Nat} {w:Int} (ha:a<p.length) (hb:b<p.length) {v:Nat} {l:Int×Int} (hl:l∈gR p v):l∈gR (J27 bk p a b w) v:=by
 by_cases hc:a=b\/lnk p a b=true
 . rw[J27,if_pos hc];exact hl
 . rw[Q07 ha hb hc];split
   . rename_i e;subst e;exact J1W.2 (.inr hl)
   . split
     . rename_i e;subst e;exact J1W.2 (.inr hl)
     . exact hl
theorem Q7W {bk:Bool} {p:Ps} (h:PV p) {a b:Nat} {w:Int} (ha:a<p.length) (hb:b<p.length) (hab:a≠b):∃l∈gR (J27 bk p a b w) b,l.1=(a:Int):=by
 by_cases hc:lnk p a b=true
 . rw[J27,if_pos (.inr hc)];rw[lnk,List.any_eq_true] at hc;obtain⟨l,hl,e⟩:=hc;have e:l.1=(b:Int):=by simpa using e
   have:=h.sym a ha l hl;rw[e,Int.toNat_natCast] at this;exact⟨_,this,rfl⟩
 . rw[Q07 ha hb (by rintro (e|e);exact hab e;exact hc e),if_pos rfl];exact⟨_,J1W.2 (.inl rfl),rfl⟩
def Anc (p:Ps) (k:Nat):Prop:=∀v,1<=v->v<=k->∃l∈gR p v,l.1.toNat<v
theorem Q4R (x:Net) (n:Nat):∀k,k<n->Anc (J1S x n k) k
 | 0,_=>fun v h1 h2=>by omega
 | k+1,hk=>by
   intro v h1 h2;have ht:=J86 x k;have hpv:=Q2s x n k (by omega);have hl:=J1r x n k;rw[J1S];by_cases e:v=k+1
   . subst e;obtain⟨l,hl1,e⟩:=Q7W (bk:=x.back) (w:=wgt x k) hpv (a:=(J0P (gI x.links k) ((k:Int)+1)).toNat) (b:=k+1) (by omega) (by omega) (by omega);exact⟨l,hl1,by rw[e,Int.toNat_natCast];exact ht⟩
   . obtain⟨l,hl1,e2⟩:=Q4R x n k (by omega) v h1 (by omega);exact⟨l,J8u (by omega) (by omega) hl1,e2⟩
theorem Q4S (x:Net) {n:Nat} (hn:1<=n) {p:Ps} (hp:p.length=n) {m:Nat} (h:Anc p m):∀k,Anc (J2D x n p k) m
 | 0=>h
 | k+1=>by
   intro v h1 h2;obtain⟨l,hl,e⟩:=Q4S x hn hp h k v h1 h2;rw[J2D];exact⟨l,J8u (by rw[J1U,hp];exact J3e hn) (by rw[J1U,hp];exact J3e hn) hl,e⟩
theorem X5A {g:G} (hg:g.valid=true) (ha:∀v,1<=v->v<g.ports.length->∃l∈gR g.ports v,l.1.toNat<v):g.conn=true:=by
 obtain⟨f1,f2,f3,f4,f5,f6,f7⟩:=J0f hg;have hF:=Q1A hg;have hu:=Q3s hg;have key:∀m v,v<m->v<g.ports.length->0<=gI (dst g 0) v:=by
  intro m
  induction m with
  | zero=>intro v h;omega
  | succ m ih =>
    intro v hm hv;by_cases h0:v=0
    . subst h0;have:=hF.from_;have this:gI (dst g 0) 0=0:=this;omega
    . obtain⟨l,hl,e⟩:=ha v (by omega) hv;have h1:=ih l.1.toNat (by omega) (by omega);obtain⟨m',hm',em⟩:=hu.sym v hv l hl;have:=(hF.on l.1.toNat (by omega) h1 m' hm').1;rw[em] at this;exact this
 rw[G.conn,hg,Bool.true_and,Q2x.2 (fun a ham=>?_)]
 . rfl
 . obtain⟨i,hi,e⟩:=List.mem_iff_getElem.1 ham;have:=key (i+1) i (by omega) (by rw[J9M] at hi;exact hi);rw[<- e];simpa[gI,hi] using this
theorem X1H (x:Net) {most:Int} (h1:1<=most) (h2:most<=24):(x.con most).conn=true:=by
 have hs:=J9i x h1;refine X5A (Q80 x h1 h2) fun v hv1 hv=>?_;rw[(J7u x most).2] at hv;exact Q4S x hs.1 (J1r _ _ _) (Q4R x (x.size most) (x.size most-1) (by omega)) _ v hv1 (by omega)
theorem Q6O (a b:List Int) (ha:a.length<=1000000) (hb:b.length<=1000000):Ret Tryz.prog 50 [.fz a.length 1 false (vI a),.fz b.length 1 false (vI b)] (.bool (decide (a=b))):=by
 refine J0h rfl ?_;refine J0d J0b Tryz.func50 rfl hc50 hr50 rfl ?_
 repeat' ((conv=>whnf);first|(refine Br.bne ?_ ?_<;>intro _<;>try omega))
 all_goals (conv=>whnf)
 . exact VLe.bool (by rw[decide_eq_false (fun h=>by subst h;omega)])
 refine J1a J0b [0,1] (fun i:Nat=>[(5,.int .i64 i)]) (fun m i=>m=a.length-i/\i<=a.length/\∀j,j<i->gI a j=gI b j) a.length 0 ⟨rfl,Nat.zero_le _,fun j hj=>by omega⟩ ?_ ?_
 . exact J0k (fun _ _=>[])
 rintro m i ⟨hm,hi,hall⟩
 repeat' ((conv=>whnf);first|(refine Br.dec ?_ ?_<;>intro _<;>try omega)|(refine Br.bne ?_ ?_<;>intro _<;>try omega)|(refine Ar.i64 (by omega) (by omega) ?_)|(refine Ix.nat (by omega) ?_))
 all_goals (conv=>whnf)
 . rename_i hne;exact VLe.bool (by rw[decide_eq_false (fun h=>by subst h;exact hne rfl)])
 . refine⟨a.length-(i+1),i+1,by omega,⟨rfl,by omega,fun j hj=>?_⟩,?_⟩
   . by_cases e:j=i
     . subst e;assumption
     . exact hall j (by omega)
   . exact J0k (fun _ _=>[])
 . have e:a=b:=List.ext_getElem (by omega) (fun j h1 h2=>by
    have:=hall j (by omega);simpa[gI,List.getD,List.getElem?_eq_getElem h1,List.getElem?_eq_getElem h2] using this)
   exact VLe.bool (by rw[decide_eq_true e])
def xN:Net:=⟨3,[0,1,0,2,0],[0,1,0,2],[],false,false⟩
def x3:G:=⟨[0,1,2],[[(1,1),(2,3)],[(0,1),(2,2)],[(1,2),(0,3)]]⟩
theorem Q9L:xN.Small:=⟨by decide,by decide,by decide⟩
theorem X6s:xN.con 3=x3:=congr (congrArg G.mk (show(xN.con 3).ids=x3.ids by decide +kernel)) (show(xN.con 3).ports=x3.ports by decide +kernel)
theorem J8W:x3.Small:=⟨by decide,by decide,by decide⟩
theorem Q55:x3.conn=true:=by decide +kernel
def xA:Cf:=[[0,-1],[3,0],[6,0]]
theorem Q8X {g:G} {c:Cf} (h1:c.length=g.ids.length) (h2:(List.range c.length).all (fun v=>decide ((gC c v).length=2)&&(List.range 2).all fun x=>decide ((bnd g (gV J0q.vars x) v).1<=gI (gC c v) x/\gI (gC c v) x<=(bnd g (gV J0q.vars x) v).2))=true):J1G J0q g c:=by
 simp only[List.all_eq_true,List.mem_range,Bool.and_eq_true,decide_eq_true_eq] at h2;exact⟨h1,fun v hv=>(h2 v hv).1,fun v hv x hx=>(h2 v hv).2 x hx⟩
theorem X6r:J1G J0q x3 xA:=Q8X rfl (by decide +kernel)
theorem Q3f:J7N xA:=⟨by decide,by simp[xA]⟩
theorem X8O:x3.xleg xA=true:=by
 rw[Q52 Q55 X6r];decide +kernel
theorem X8P:x3.botX xA=[0,1,2]:=by decide +kernel
theorem nj {g:G} {w:Int} {a b:Nat} (x:Nat->Bool) (hc:(List.range g.ids.length).all (fun v=>(gR g.ports v).all fun l=>!(decide (l.2<w)&&x l.1.toNat) || x v)=true) (ha:x a=true) (hb:x b=false):¬ Jn g w a b:=fun h=>by
 have:=h.in_ (x:=x) (fun v hv l hl h1 h2=>by
  have:=List.all_eq_true.1 (List.all_eq_true.1 hc v (List.mem_range.2 hv)) l hl;rw[h2,decide_eq_true h1] at this;simpa using this) ha
 rw[hb] at this;cases this
theorem X72 {g:G} {e:Ed} (h:¬ Jn g e.w e.a e.b):chE g e=true:=by
 cases q:chE g e with
 | true=>rfl
 | false=>classical exact(of_decide_eq_false q h).elim
theorem Y15 {g:G} {e:Ed} (h:Jn g e.w e.a e.b):chE g e=false:=by
 cases q:chE g e with
 | false=>rfl
 | true=>classical exact(of_decide_eq_true q h).elim
theorem Q3g:J0S x3=[⟨0,1,1⟩,⟨0,2,3⟩,⟨1,2,2⟩]:=by decide +kernel
theorem X3B:Q5a x3=[(0,1),(1,2)]:=by
 have h1:chE x3 ⟨0,1,1⟩=true:=by
  refine X72 ?_;exact(nj (fun v=>v == 0) (by decide +kernel) (by decide) (by decide))
 have h2:chE x3 ⟨0,2,3⟩=false:=by
  refine Y15 ?_;refine Jn.step (l:=(1,2)) (by decide) (by decide +kernel) (by decide) ?_;exact Jn.step (l:=(0,1)) (by decide) (by decide +kernel) (by decide) .refl
 have h3:chE x3 ⟨1,2,2⟩=true:=by
  refine X72 ?_;exact(nj (fun v=>v != 2) (by decide +kernel) (by decide) (by decide))
 rw[<- J8e,Q3g];simp[h1,h2,h3]
def X4i (l:List Int) (v:V):Bool:=match v with
 | .fz n 1 false k=>decide (n=l.length)&&(List.range n).all fun i=>match k i 0 with
   | .int .i64 x=>decide (x=gI l i)
   | _=>false
 | _=>false
theorem X0w {l:List Int} {v:V} (h:X4i l v=true):VLe v (.fz l.length 1 false (vI l)):=by
 unfold X4i at h;split at h
 . rename_i n k;rw[Bool.and_eq_true,decide_eq_true_eq,List.all_eq_true] at h;refine VLe.fz h.1 (fun h=>h) (fun i j hi hj=>VLe.of_eq ?_);obtain rfl:j=0:=by omega
   have:=h.2 i (List.mem_range.2 hi);revert this;split
   . rename_i x e;intro q;rw[e,of_decide_eq_true q];rfl
   . intro q;cases q
 . cases h
theorem X28 (c:Cf) (n:Nat) (f:Nat->Nat->V) (hn:n=c.length) (h:(List.range n).all (fun i=>X4i (gC c i) (f i 0))=true):VLe (.fz n 1 false f) (cV c):=by
 refine VLe.fz hn (fun h=>h) (fun i j hi hj=>?_);obtain rfl:j=0:=by omega
 exact X0w (List.all_eq_true.1 h i (List.mem_range.2 hi))
theorem Q2B (l:List Int) (n:Nat) (f:Nat->Nat->V) (hn:n=l.length) (h:(List.range n).all (fun i=>match f i 0 with | .int .i64 x=>decide (x=gI l i)|_=>false)=true):VLe (.fz n 1 false f) (.fz l.length 1 false (vI l)):=by
 refine VLe.fz hn (fun h=>h) (fun i j hi hj=>VLe.of_eq ?_);obtain rfl:j=0:=by omega
 have:=List.all_eq_true.1 h i (List.mem_range.2 hi);revert this;split
 . rename_i x e;intro q;rw[e,of_decide_eq_true q];rfl
 . intro q;cases q
set_option maxHeartbeats 8000000 in
theorem Q5w:Ret Tryz.prog 15 [] (.bool true):=by
 have hco:=Q1D xN Q9L 3 (by decide) (by decide);rw[X6s] at hco;have h1:=J73 x3 J8W xA Q3f;rw[X8O] at h1;have h2:=Q17 x3 J8W xA Q3f;rw[X8P] at h2;have h3:=Q6O [0,1,2] [0,1,2] (by decide) (by decide);rw[decide_eq_true rfl] at h3;have h4:=Q2n x3 J8W Q55 (by decide +kernel) (by rw[Q3g];decide);rw[X3B] at h4;refine X0y rfl ?_;refine Q4O Tryz.func15 rfl hc15 hr15 rfl ?_;refine J2g (J2R J0b ?_)
 repeat' ((conv=>whnf);first|fail)
 all_goals (conv=>whnf)
 refine J2g (J2R J0b ?_)
 repeat' ((conv=>whnf);first|(refine J6p [0,1] hco ⟨by decide,by decide,VLe.agg ⟨VLe.rfl,Q2B _ _ _ rfl (by decide),Q2B _ _ _ rfl (by decide),VLe.nilfz rfl,VLe.rfl,VLe.rfl,True.intro⟩,VLe.rfl,True.intro⟩ ?_))
 all_goals (conv=>whnf)
 refine J2g (J2R J0b ?_)
 repeat' ((conv=>whnf);first|fail)
 all_goals (conv=>whnf)
 refine Q6K 2 rfl (by(conv=>whnf);exact⟨by decide,by decide,by decide,rfl,rfl⟩) (J2g (J2R J0b ?_))
 repeat' ((conv=>whnf);first|(refine h4.go ?_))
 all_goals (conv=>whnf)
 refine J2R J0b ?_
 repeat' ((conv=>whnf);first|(refine Ix.mk 0 rfl (by decide) ?_)|(refine Ix.mk 1 rfl (by decide) ?_)|(refine Br.tt ?_)|(refine J6p [] h1 ⟨VLe.rfl,X28 xA 3 _ rfl (by decide),True.intro⟩ ?_)|(refine J6p [] h2 ⟨VLe.rfl,X28 xA 3 _ rfl (by decide),True.intro⟩ ?_)|(refine J1j h3 rfl ⟨by decide,VLe.rfl,Q2B _ _ _ rfl (by decide),True.intro⟩ ?_))
 all_goals (conv=>whnf)
 all_goals exact VLe.rfl
end Go.Proofs.YtmifmchinfhbnaaGreatDoor
namespace Go.Eng
open Go.MapKept (bytes_beq)
noncomputable def fN {β:Type} (n:Nat) (K:Nat->β):β:=@Nat.rec (fun _=>β) (K 0) (fun m _=>K (Nat.succ m)) n
theorem J4i {β:Type} (n:Nat) (K:Nat->β):fN n K=K n:=by cases n<;>rfl
noncomputable def fI {β:Type} (n:Int) (K:Int->β):β:=@Int.rec (fun _=>β) (fun a=>fN a fun a=>K (.ofNat a)) (fun a=>fN a fun a=>K (.negSucc a)) n
theorem X5h {β:Type} (n:Int) (K:Int->β):fI n K=K n:=by cases n<;>simp[fI,J4i]
noncomputable def fB {β:Type} (b:Bool) (K:Bool->β):β:=@Bool.rec (fun _=>β) (K false) (K true) b
theorem Y1X {β:Type} (b:Bool) (K:Bool->β):fB b K=K b:=by cases b<;>rfl
noncomputable def lk {α:Type} (l:List (Nat×α)) (t:Nat):Option α :=
 @List.rec (Nat×α) (fun _=>Option α) none (fun p _ ih=>@Prod.rec Nat α (fun _=>Option α) (fun k v=>@Bool.rec (fun _=>Option α) ih (some v) (Nat.beq k t)) p) l
theorem J7U {α:Type} (l:List (Nat×α)) (t:Nat):lk l t=look l t:=by
 induction l with
 | nil=>rfl
 | cons p r ih =>
   obtain⟨k,v⟩:=p;unfold look;show @Bool.rec (fun _=>Option α) (lk r t) (some v) (Nat.beq k t)=_;cases Nat.beq k t<;>simp[ih]
noncomputable def nt {α:Type} (l:List α) (n:Nat):Option α :=
 @List.rec α (fun _=>Nat->Option α) (fun _=>none) (fun x _ ih n=>@Nat.rec (fun _=>Option α) (some x) (fun m _=>ih m) n) l n
theorem X0I {α:Type} (l:List α) (n:Nat):nt l n=nth l n:=by
 induction l generalizing n with
 | nil=>rfl
 | cons x r ih=>cases n with
   | zero=>rfl
   | succ n=>exact ih n
theorem J5n {α:Type}:∀(l:List α) (n:Nat),nth l n=l[n]?
 | [],n=>by simp[nth]
 | x::r,0=>by simp[nth]
 | x::r,n+1=>by simp[nth,J5n r n]
noncomputable def dr {α:Type} (l:List α) (n:Nat):List α :=
 @List.rec α (fun _=>Nat->List α) (fun _=>[]) (fun x r ih n=>@Nat.rec (fun _=>List α) (x::r) (fun m _=>ih m) n) l n
theorem J9O {α:Type} (l:List α) (n:Nat):dr l n=l.drop n:=by
 induction l generalizing n with
 | nil=>simp[dr]
 | cons x r ih=>cases n with
   | zero=>rfl
   | succ n=>exact ih n
noncomputable def fH {α β:Type} (l:List α) (K:List α->β):β:=@List.rec α (fun _=>β) (K []) (fun x r _=>K (x::r)) l
theorem X1l {α β:Type} (l:List α) (K:List α->β):fH l K=K l:=by cases l<;>rfl
noncomputable def tk {α β:Type} (n:Nat):List α->(List α->Option β)->Option β :=
 @Nat.rec (fun _=>List α->(List α->Option β)->Option β) (fun _ K=>K []) (fun _ ih l K=>@List.rec α (fun _=>Option β) none (fun x r _=>ih r fun q=>K (x::q)) l) n
theorem X0d {α β:Type} (n:Nat) (l:List α) (K:List α->Option β):tk n l K=if n<=l.length then K (l.take n) else none:=by
 induction n generalizing l K with
 | zero=>simp only[Nat.zero_le,if_true,List.take_zero];rfl
 | succ n ih=>cases l with
   | nil=>rfl
   | cons x r =>
     show tk n r (fun q=>K (x::q))=_;rw[ih];simp
def bl:Nat->Nat->List UInt8
 | 0,_=>[]
 | l+1,c=>UInt8.ofNat (c % 256)::bl l (c / 256)
def J0r (l c:Nat):ByteArray:=⟨⟨bl l c⟩⟩
def X1s:List UInt8->Nat
 | []=>0
 | b::r=>b.toNat+256*X1s r
theorem Q1S:∀(l c:Nat),(bl l c).length=l
 | 0,_=>rfl
 | l+1,c=>by simp[bl,Q1S]
theorem X3l:∀(l:List UInt8),bl l.length (X1s l)=l
 | []=>rfl
 | b::r=>by
   have hb:=b.toNat_lt;simp only[List.length_cons,bl,X1s];rw[show(b.toNat+256*X1s r) % 256=b.toNat by omega,show(b.toNat+256*X1s r) / 256=X1s r by omega,X3l r];simp
theorem X3k:∀(l c m:Nat),m<l->(bl l c)[m]?=some (UInt8.ofNat (c / 256 ^ m % 256))
 | 0,c,m,h=>by omega
 | l+1,c,0,h=>by simp[bl]
 | l+1,c,m+1,h=>by
   simp only[bl,List.getElem?_cons_succ];rw[X3k l _ m (by omega),Nat.div_div_eq_div_mul,Nat.pow_succ,Nat.mul_comm 256]
theorem Q9p:∀(l c m:Nat),(bl l c).drop m=bl (l-m) (c / 256 ^ m)
 | 0,c,m=>by simp[bl]
 | l+1,c,0=>by simp
 | l+1,c,m+1=>by
   simp only[bl,List.drop_succ_cons];rw[Q9p l _ m,Nat.div_div_eq_div_mul,Nat.pow_succ,Nat.mul_comm 256,show l+1-(m+1)=l-m by omega]
theorem Q9o:∀(l c m:Nat),m<=l->(bl l c).take m=bl m c
 | l,c,0,h=>by simp[bl]
 | 0,c,m+1,h=>by omega
 | l+1,c,m+1,h=>by simp[bl,Q9o l _ m (by omega)]
theorem X3i:∀(l c:Nat),bl l (c % 256 ^ l)=bl l c
 | 0,c=>rfl
 | l+1,c=>by
   simp only[bl];have h1:c % 256 ^ (l+1) % 256=c % 256:=by
    rw[Nat.pow_succ,Nat.mul_comm];exact Nat.mod_mul_right_mod _ _ _
   have h2:c % 256 ^ (l+1) / 256=c / 256 % 256 ^ l:=by
    rw[Nat.pow_succ,Nat.mul_comm,Nat.mod_mul_right_div_self]
   rw[h1,h2,X3i]
theorem X3j:∀(l c d:Nat),bl l c=bl l d->c % 256 ^ l=d % 256 ^ l
 | 0,c,d,_=>by simp[Nat.mod_one]
 | l+1,c,d,h=>by
   simp only[bl,List.cons.injEq] at h;have h1:c % 256=d % 256:=by
    have:=congrArg UInt8.toNat h.1;simpa using this
   have h2:=X3j l _ _ h.2;rw[Nat.pow_succ,Nat.mul_comm,Nat.mod_mul,Nat.mod_mul,h1,h2]
theorem X3m:∀(l c l' c':Nat),bl l c++bl l' c'=bl (l+l') (c % 256 ^ l+256 ^ l*c')
 | 0,c,l',c'=>by simp[bl,Nat.mod_one]
 | l+1,c,l',c'=>by
   rw[show l+1+l'=(l+l')+1 by omega];simp only[bl,List.cons_append];rw[X3m l _ l' c'];have e:c % 256 ^ (l+1)=c % 256+256*(c / 256 % 256 ^ l):=by
    rw[Nat.pow_succ,Nat.mul_comm (256 ^ l),Nat.mod_mul]
   have e2:256 ^ (l+1)*c'=256*(256 ^ l*c'):=by rw[Nat.pow_succ,Nat.mul_comm (256 ^ l),Nat.mul_assoc]
   rw[e,e2];have hlt:c % 256<256:=Nat.mod_lt _ (by omega);rw[show(c % 256+256*(c / 256 % 256 ^ l)+256*(256 ^ l*c')) % 256=c % 256 by omega,show(c % 256+256*(c / 256 % 256 ^ l)+256*(256 ^ l*c')) / 256=c / 256 % 256 ^ l+256 ^ l*c' by omega]
theorem J1x (l c:Nat):(J0r l c).size=l:=by
 show(bl l c).length=l;exact Q1S l c
theorem Q20 (b:ByteArray):J0r b.size (X1s b.data.toList)=b:=by
 obtain⟨⟨l⟩⟩:=b;show ByteArray.mk ⟨bl l.length (X1s l)⟩=_;rw[X3l]
theorem Q2Z (l c m:Nat) (h:m<l):((J0r l c).get! m).toNat=c / 256 ^ m % 256:=by
 have h1:=X3k l c m h;show((J0r l c).data[m]!).toNat=_;have:(J0r l c).data[m]! = UInt8.ofNat (c / 256 ^ m % 256):=by
  rw[getElem!_def,show(J0r l c).data[m]?=some (UInt8.ofNat (c / 256 ^ m % 256)) from by simpa[J0r] using h1]
 rw[this];simp
theorem J7F (l c lo hi:Nat) (h:hi<=l):(J0r l c).extract lo hi=J0r (hi-lo) (c / 256 ^ lo):=by
 apply ByteArray.ext;rw[ByteArray.data_extract];show(Array.mk (bl l c)).extract lo hi=Array.mk (bl (hi-lo) (c / 256 ^ lo));apply Array.ext';simp only[Array.toList_extract,List.extract_eq_take_drop];rw[Q9p,Q9o _ _ _ (by omega)]
theorem J4H (l c:Nat):J0r l (c % 256 ^ l)=J0r l c:=by unfold J0r;rw[X3i]
theorem Q21 (l c l' c':Nat):J0r l c++J0r l' c'=J0r (l+l') (c % 256 ^ l+256 ^ l*c'):=by
 apply ByteArray.ext;rw[ByteArray.data_append];show Array.mk (bl l c)++Array.mk (bl l' c')=Array.mk _;simp[X3m]
def eqS (l c l' c':Nat):Bool:=match Nat.beq l l' with
 | true=>Nat.beq (Nat.mod c (Nat.pow 256 l)) (Nat.mod c' (Nat.pow 256 l))
 | false=>false
theorem Q4r (l c l' c':Nat):eqS l c l' c'=(J0r l c == J0r l' c'):=by
 unfold eqS;have hb:(J0r l c == J0r l' c')=decide (J0r l c=J0r l' c'):=by
  rw[Bool.eq_iff_iff,bytes_beq];simp
 rw[hb];split
 . rename_i h;have h:=Nat.eq_of_beq_eq_true h;subst h;rw[Bool.eq_iff_iff,Nat.beq_eq,decide_eq_true_eq];constructor
   . intro h;have h:c % 256 ^ l=c' % 256 ^ l:=h;rw[<- J4H l c,h,J4H]
   . intro h;exact X3j l c c' (by simpa[J0r] using h)
 . rename_i h;symm;rw[decide_eq_false_iff_not];intro e;have:=congrArg ByteArray.size e;rw[J1x,J1x] at this;subst this;simp at h
inductive C where
 | nilptr|nilmap|nilfunc|niliface
 | unit
 | map (k:Nat)
 | fn (f:Fn) (b:Bool) (cap:List C)
 | iface (t:TypeId) (v:C)
 | fe (n s:Nat) (z:List C) (rows:List (List C)) (i j:Nat)
 | oel (k s i j:Nat)
 | fz (n s:Nat) (J2z:Bool) (z:List C) (rows:List (List C))
 | tup (vs:List C)
 | agg (cs:List C)
 | nilslice
 | vec (k s lo len:Nat)
 | loc (k off:Nat)
 | str (l c:Nat)
 | bool (b:Bool)
 | int (k:IntKind) (n:Int)
 deriving Inhabited
def J3F:List V->V
 | []=>default
 | [v]=>v
 | _::r=>J3F r
def J4r (z:List V) (rows:List (List V)):Nat->Nat->V:=fun i j=>(rows.getD i z).getD j (J3F z)
mutual
def C.v:C->V
 | .bool b=>.bool b
 | .int k n=>.int k n
 | .str l c=>.str (J0r l c)
 | .nilptr=>.nilptr | .nilslice=>.nilslice | .nilmap=>.nilmap | .nilfunc=>.nilfunc | .niliface=>.niliface
 | .loc k off=>.loc k off
 | .oel k s i j=>.oel k s i j
 | .vec k s lo len=>.vec k s lo len
 | .fz n s J2z z rows=>.fz n s J2z (J4r (C.vs z) (C.vss rows))
 | .fe n s z rows i j=>.fe n s (J4r (C.vs z) (C.vss rows)) i j
 | .map k=>.map k
 | .fn f b cap=>.fn f b (C.vs cap)
 | .iface t v=>.iface t v.v
 | .agg cs=>.agg (C.vs cs)
 | .tup cs=>.tup (C.vs cs)
 | .unit=>.raw (.tuple #[])
def C.vs:List C->List V
 | []=>[]
 | c::r=>c.v::C.vs r
def C.vss:List (List C)->List (List V)
 | []=>[]
 | c::r=>C.vs c::C.vss r
end
theorem C.vs_map:∀(l:List C),C.vs l=l.map C.v
 | []=>by simp[C.vs]
 | c::r=>by simp[C.vs,C.vs_map r]
theorem C.vss_map:∀(l:List (List C)),C.vss l=l.map C.vs
 | []=>by simp[C.vss]
 | c::r=>by simp[C.vss,C.vss_map r]
theorem C.vs_length (l:List C):(C.vs l).length=l.length:=by simp[C.vs_map]
theorem C.vs_get (l:List C) (i:Nat):(C.vs l)[i]?=(l[i]?).map C.v:=by simp[C.vs_map]
theorem C.vss_get (l:List (List C)) (i:Nat):(C.vss l)[i]?=(l[i]?).map C.vs:=by simp[C.vss_map]
abbrev J1k:=List (Nat×C)
inductive CB where
 | cells (cs:List C)
 | vec (n s:Nat) (z:List C) (rows:List (List C))
 | map (ik:IntKind) (es:List (Int×C))
 | mapS (es:List ((Nat×Nat)×C))
 deriving Inhabited
abbrev J0E:=List (Nat×CB)
def CB.b:CB->Blk
 | .cells cs=>.cells (C.vs cs)
 | .vec n s z rows=>.vec n s (J4r (C.vs z) (C.vss rows))
 | .map ik es=>.map (.one ik) (es.map fun p=>(p.1,p.2.v))
 | .mapS es=>.map .str (es.map fun p=>(J0r p.1.1 p.1.2,p.2.v))
def J29 (e:J1k):Env:=e.map fun p=>(p.1,p.2.v)
def J0L (o:J0E):Own:=o.map fun p=>(p.1,p.2.b)
theorem J2p {α β:Type} (f:α->β) (l:List (Nat×α)) (t:Nat):look (l.map fun p=>(p.1,f p.2)) t=(look l t).map f:=by
 induction l with
 | nil=>rfl
 | cons p r ih =>
   simp only[List.map_cons,look];cases Nat.beq p.1 t<;>simp[ih]
theorem J1Y {e:J1k} {t:Nat} {c:C} (h:lk e t=some c):look (J29 e) t=some c.v:=by
 rw[J7U] at h;rw[J29,J2p,h];rfl
theorem J0y {o:J0E} {t:Nat} {c:CB} (h:lk o t=some c):look (J0L o) t=some c.b:=by
 rw[J7U] at h;rw[J0L,J2p,h];rfl
def X6g (v:V):Option C:=match v with
 | .bool b=>some (.bool b)
 | .int k n=>some (.int k n)
 | .str s=>some (.str s.size (X1s s.data.toList))
 | .nilptr=>some .nilptr | .nilslice=>some .nilslice | .nilmap=>some .nilmap | .nilfunc=>some .nilfunc | .niliface=>some .niliface
 | .fn f b []=>some (.fn f b [])
 | _=>none
theorem Q2v {v:V} {c:C} (h:X6g v=some c):c.v=v:=by
 unfold X6g at h;split at h<;>first
  | (cases h;done)
  | (cases h;simp[C.v,C.vs,Q20])
noncomputable def X6f (l:List V):Option (List C):=@List.rec V (fun _=>Option (List C)) (some []) (fun v _ ih=>match X6g v with
 | some c=>match ih with
   | some l=>some (c::l)
   | none=>none
 | none=>none) l
theorem J6U:∀(l:List V) {cs:List C},X6f l=some cs->C.vs cs=l
 | [],cs,h=>by have h:some []=some cs:=h;cases h;simp[C.vs]
 | v::r,cs,h=>by
   have h:(match X6g v with
    | some c=>match X6f r with
      | some l=>some (c::l)
      | none=>none
    | none=>none)=some cs:=h
   split at h
   . rename_i c hc;split at h
     . rename_i l hl;cases h;simp[C.vs,Q2v hc,J6U r hl]
     . cases h
   . cases h
noncomputable def ofV (v:V):Option C:=match v with
 | .agg cs=>match X6f cs with|some l=>some (.agg l)|none=>none
 | v=>X6g v
theorem X2E (v:V) {c:C} (h:ofV v=some c):c.v=v:=by
 unfold ofV at h;split at h
 . split at h
   . rename_i l hl;cases h;simp[C.v,J6U _ hl]
   . cases h
 . exact Q2v h
end Go.Eng
namespace Go.Eng
open Go.IntWalk
noncomputable def gx (x:X) (env:J1k):Option C:=match x with | .t n=>lk env n | .k v=>ofV v
theorem J0F {x:X} {env:J1k} {c:C} {K:V->Prop} (h:gx x env=some c) (hK:K c.v):x.get (J29 env) K:=by
 cases x with
 | t n=>simp only[gx] at h;simp only[X.get,J1Y h];exact hK
 | k v=>simp only[gx] at h;rw[X2E v h] at hK;exact hK
noncomputable def gxs (env:J1k) (l:List X):Option (List C):=@List.rec X (fun _=>Option (List C)) (some []) (fun x _ ih=>match gx x env with
 | some c=>match ih with|some l=>some (c::l)|none=>none
 | none=>none) l
theorem X1b (env:J1k) (x:X) (r:List X):gxs env (x::r)=match gx x env with
 | some c=>match gxs env r with|some l=>some (c::l)|none=>none
 | none=>none:=rfl
theorem Q1l {env:J1k}:∀{xs:List X} {cs:List C} {K:List V->Prop},gxs env xs=some cs->K (C.vs cs)->X.gets (J29 env) xs K
 | [],cs,K,h,hK=>by have h:some []=some cs:=h;cases h;simpa[C.vs,X.gets] using hK
 | x::r,cs,K,h,hK=>by
   rw[X1b] at h;split at h
   . rename_i c hc;split at h
     . rename_i l hl;cases h;exact J0F hc (Q1l hl (by simpa[C.vs] using hK))
     . cases h
   . cases h
theorem Q1G {b:Bool} {K:V->Prop} (hK:K (.bool b)):Q13 b K:=by
 cases b
 . exact⟨fun h=>(by cases h),fun _=>hK⟩
 . exact⟨fun _=>hK,fun h=>(by cases h)⟩
noncomputable def Q4C (b:Bool):Option C:=fB b fun b=>some (.bool b)
theorem J2i {b:Bool} {c:C} {K:V->Prop} (h:Q4C b=some c) (hK:K c.v):Q13 b K:=by
 simp only[Q4C,Y1X,Option.some.injEq] at h;subst h;exact Q1G (by simpa[C.v] using hK)
def kEq (a b:IntKind):Bool:=Nat.beq a.ctorIdx b.ctorIdx
theorem J5P {a b:IntKind} (h:kEq a b=true):a=b:=by cases a<;>cases b<;>first|rfl|(exact absurd h (by decide))
def mxN:IntKind->Nat
 | .i8=>127 | .i16=>32767 | .i32=>2147483647 | .i64=>9223372036854775807
 | .u8=>255 | .u16=>65535 | .u32=>4294967295 | .u64=>18446744073709551615
def wrC (k:IntKind) (n:Int):Int:=match n with
 | .ofNat m=>match Nat.ble m (mxN k) with|true=>.ofNat m|false=>k.wrap (.ofNat m)
 | .negSucc m=>k.wrap (.negSucc m)
theorem X6u (k:IntKind) (n:Int):wrC k n=k.wrap n:=by
 unfold wrC;split
 . split
   . rename_i h;have h:=Nat.le_of_ble_eq_true h;symm;rw[Int.ofNat_eq_natCast];cases k<;>simp only[mxN] at h
     . exact i8_in _ (by omega)
     . exact i16_in _ (by omega)
     . exact i32_in _ (by omega)
     . exact i64_in _ (by omega)
     . exact u8_in _ (by omega)
     . exact u16_in _ (by omega)
     . exact u32_in _ (by omega)
     . exact u64_in _ (by omega)
   . rfl
 . rfl
noncomputable def arC (k:IntKind) (n:Int):Option C:=fI (wrC k n) fun m=>some (.int k m)
theorem J7I {k:IntKind} {n:Int} {c:C} {K:V->Prop} (h:arC k n=some c) (hK:K c.v):Ar k n fun m=>K (.int k m):=by
 simp only[arC,X5h,X6u,Option.some.injEq] at h;subst h;exact⟨_,rfl,by simpa[C.v] using hK⟩
noncomputable def svC (k:IntKind) (n:Int):Option C:=fI n fun m=>some (.int k m)
theorem J6D {k:IntKind} {n:Int} {c:C} {K:V->Prop} (h:svC k n=some c) (hK:K c.v):Sv n fun m=>K (.int k m):=by
 simp only[svC,X5h,Option.some.injEq] at h;subst h;exact⟨_,rfl,by simpa[C.v] using hK⟩
def ieq:Int->Int->Bool
 | .ofNat a,.ofNat b=>Nat.beq a b
 | .negSucc a,.negSucc b=>Nat.beq a b
 | _,_=>false
theorem J40 (a b:Int):ieq a b=(a == b):=by
 rw[Bool.eq_iff_iff,beq_iff_eq];cases a<;>cases b<;>simp[ieq]<;>omega
def ile:Int->Int->Bool
 | .ofNat a,.ofNat b=>Nat.ble a b
 | .negSucc a,.negSucc b=>Nat.ble b a
 | .negSucc _,.ofNat _=>true
 | .ofNat _,.negSucc _=>false
theorem J5Q (a b:Int):ile a b=decide (a<=b):=by
 rw[Bool.eq_iff_iff,decide_eq_true_eq];cases a<;>cases b<;>simp[ile]<;>omega
noncomputable def Y14 (op:BinOp) (k:IntKind) (a b:Int):Option C :=
 match op with
 | .add=>arC k (Int.add a b)
 | .sub=>arC k (Int.sub a b)
 | .mul=>arC k (Int.mul a b)
 | .quo=>match ieq b 0 with|true=>none|false=>arC k (a.tdiv b)
 | .rem=>match ieq b 0 with|true=>none|false=>svC k (a.tmod b)
 | .and=>svC k (J5X .and k a b)
 | .or=>svC k (J5X .or k a b)
 | .xor=>svC k (J5X .xor k a b)
 | .andNot=>svC k (J5X .andNot k a b)
 | .eql=>Q4C (ieq a b)
 | .neq=>Q4C (!(ieq a b))
 | .lss=>Q4C (!(ile b a))
 | .leq=>Q4C (ile a b)
 | .gtr=>Q4C (!(ile a b))
 | .geq=>Q4C (ile b a)
 | _=>none
theorem X5D {bt:BT} {op:BinOp} {k:IntKind} {a b:Int} {c:C} {K:V->Prop} (h:Y14 op k a b=some c) (hK:K c.v):J96 bt op (.int k a) (.int k b) K:=by
 unfold Y14 at h;cases op<;>simp only[J96,decide_true]<;>simp only at h
 case add=>exact J7I h hK
 case sub=>exact J7I h hK
 case mul=>exact J7I h hK
 case quo =>
  split at h
  . cases h
  . rename_i hb;rw[J40] at hb;exact⟨by simpa using hb,J7I h hK⟩
 case rem =>
  split at h
  . cases h
  . rename_i hb;rw[J40] at hb;exact⟨by simpa using hb,J6D h hK⟩
 case and=>exact J6D h hK
 case or=>exact J6D h hK
 case xor=>exact J6D h hK
 case andNot=>exact J6D h hK
 case eql=>rw[J40] at h;exact J2i h hK
 case neq=>rw[J40] at h;exact J2i h hK
 case lss =>
  rw[J5Q] at h;rw[show decide (a<b)=!decide (b<=a) by rw[Bool.eq_iff_iff];simp];exact J2i h hK
 case leq=>rw[J5Q] at h;exact J2i h hK
 case gtr =>
  rw[J5Q] at h;rw[show decide (a > b)=!decide (a<=b) by rw[Bool.eq_iff_iff];simp];exact J2i h hK
 case geq =>
  rw[J5Q] at h;exact J2i h hK
 case shl=>cases h
 case shr=>cases h
noncomputable def X8u (l c:Nat):Option C:=fN l fun l=>fN c fun c=>some (.str l c)
theorem Q6C {l d:Nat} {c:C} (h:X8u l d=some c):c.v=.str (J0r l d):=by
 simp only[X8u,J4i,Option.some.injEq] at h;subst h;simp[C.v]
noncomputable def X3q (op:BinOp) (k:IntKind) (a:Int) (k':IntKind) (b:Int):Option C:=match op with
 | .shl=>match b with | .ofNat n=>arC k (a*2 ^ (min n k.bits)) | .negSucc _=>none
 | .shr=>match b with | .ofNat n=>svC k (a.fdiv (2 ^ (min n k.bits))) | .negSucc _=>none
 | op=>match kEq k k' with|true=>Y14 op k a b|false=>none
noncomputable def X8i (op:BinOp) (k:IntKind) (a:Int) (y:C):Option C:=match y with
 | .int k' b=>X3q op k a k' b
 | _=>none
noncomputable def X3p (op:BinOp) (l c l' c':Nat):Option C:=match op with
 | .eql=>Q4C (eqS l c l' c')
 | .neq=>Q4C (!(eqS l c l' c'))
 | .add=>match Nat.ble (l+l') 9223372036854775807 with
   | true=>X8u (l+l') (Nat.add (Nat.mod c (Nat.pow 256 l)) (Nat.mul (Nat.pow 256 l) c'))
   | false=>none
 | _=>none
noncomputable def X8g (op:BinOp) (l c:Nat) (y:C):Option C:=match y with
 | .str l' c'=>X3p op l c l' c'
 | _=>none
noncomputable def X3r (bt:BT) (op:BinOp) (a:Bool) (y:C):Option C:=match y with
 | .bool b=>match bt with
   | .bool=>match op with
     | .eql=>Q4C (a == b)
     | .neq=>Q4C (!(a == b))
     | _=>none
   | _=>none
 | _=>none
def X15 (bt:BT) (op:BinOp) (n:Nat) (y:C):Option C:=match n with
 | 0=>none
 | _+1=>match y with
   | .nilslice=>match bt with
     | .slc=>match op with
       | .eql=>some (.bool false)
       | .neq=>some (.bool true)
       | _=>none
     | _=>none
   | _=>none
def X8h (bt:BT) (op:BinOp) (y:C):Option C:=match y with
 | .nilslice=>match bt with
   | .slc=>match op with
     | .eql=>some (.bool true)
     | .neq=>some (.bool false)
     | _=>none
   | _=>none
 | _=>none
def X8M (b:Bool) (o:Option Bool):Option Bool:=match o with
 | some t=>some (b&&t)
 | none=>none
theorem J7J {b t:Bool} {o:Option Bool} (h:X8M b o=some t):∃u,o=some u/\t=(b&&u):=by
 cases o with
 | none=>cases h
 | some u=>exact⟨u,rfl,(Option.some.inj h).symm⟩
noncomputable def Q4s:List Lf->List C->List C->Option Bool
 | [],[],[]=>some true
 | .int::ls,.int k a::r,.int k' b::r'=>match kEq k k' with
   | true=>X8M (ieq a b) (Q4s ls r r')
   | false=>none
 | .bool::ls,.bool a::r,.bool b::r'=>X8M (a == b) (Q4s ls r r')
 | .str::ls,.str l c::r,.str l' c'::r'=>X8M (eqS l c l' c') (Q4s ls r r')
 | _,_,_=>none
theorem J7p:∀(ls:List Lf) (xs ys:List C) (t:Bool) (K:Bool->Prop),Q4s ls xs ys=some t->K t->J6k ls (C.vs xs) (C.vs ys) K
 | [],[],[],t,K,h,hK=>by
   simp only[Q4s,Option.some.injEq] at h;subst h;simpa only[C.vs,J6k] using hK
 | .int::ls,.int k a::r,.int k' b::r',t,K,h,hK=>by
   simp only[Q4s] at h;split at h
   . rename_i hk;have:=J5P hk;subst this;obtain⟨u,e1,rfl⟩:=J7J h;simp only[C.vs,C.v,J6k,decide_true];exact J7p ls r r' u _ e1 (by rw[<- J40];exact hK)
   . cases h
 | .bool::ls,.bool a::r,.bool b::r',t,K,h,hK=>by
   simp only[Q4s] at h;obtain⟨u,e1,rfl⟩:=J7J h;simp only[C.vs,C.v,J6k];exact J7p ls r r' u _ e1 hK
 | .str::ls,.str l c::r,.str l' c'::r',t,K,h,hK=>by
   simp only[Q4s] at h;obtain⟨u,e1,rfl⟩:=J7J h;simp only[C.vs,C.v,J6k];exact J7p ls r r' u _ e1 (by rw[<- Q4r];exact hK)
 | [],_::_,_,_,_,h,_=>by simp[Q4s] at h
 | [],[],_::_,_,_,h,_=>by simp[Q4s] at h
 | _::_,[],_,_,_,h,_=>by simp[Q4s] at h
 | _::_,_::_,[],_,_,h,_=>by simp[Q4s] at h
noncomputable def X8j (bt:BT) (op:BinOp) (xs:List C) (y:C):Option C:=match y with
 | .agg ys=>match bt with
   | .flat ls=>match op with
     | .eql=>match Q4s ls xs ys with|some t=>Q4C t|none=>none
     | .neq=>match Q4s ls xs ys with|some t=>Q4C (!t)|none=>none
     | _=>none
   | _=>none
 | _=>none
noncomputable def Y17 (bt:BT) (op:BinOp) (x y:C):Option C :=
 match x with
 | .agg xs=>X8j bt op xs y
 | .int k a=>X8i op k a y
 | .str l c=>X8g op l c y
 | .bool a=>X3r bt op a y
 | .fz n _ _ _ _=>X15 bt op n y
 | .vec _ _ _ n=>X15 bt op n y
 | .nilslice=>X8h bt op y
 | _=>none
theorem X5J {bt:BT} {op:BinOp} {x y c:C} {K:V->Prop} (h:Y17 bt op x y=some c) (hK:K c.v):J96 bt op x.v y.v K:=by
 unfold Y17 at h;split at h
 . unfold X8j at h;split at h
   . split at h
     . simp only[C.v,J96];split at h
       . split at h
         . rename_i t ht;exact J7p _ _ _ t _ ht (J2i h hK)
         . cases h
       . split at h
         . rename_i t ht;exact J7p _ _ _ t _ ht (J2i h hK)
         . cases h
       . cases h
     . cases h
   . cases h
 . unfold X8i at h;split at h
   . rename_i k a _ k' b;unfold X3q at h;simp only[C.v];split at h
     . split at h
       . rename_i n;simp only[J96];refine⟨by simp,?_⟩;have e:(Int.ofNat n).toNat=n:=rfl;rw[e];exact J7I h hK
       . cases h
     . split at h
       . rename_i n;simp only[J96];refine⟨by simp,?_⟩;have e:(Int.ofNat n).toNat=n:=rfl;rw[e];exact J6D h hK
       . cases h
     . split at h
       . rename_i hk;have:=J5P hk;subst this;exact X5D h hK
       . cases h
   . cases h
 . unfold X8g at h;split at h
   . unfold X3p at h;simp only[C.v,J96];split at h
     . rw[Q4r] at h;exact J2i h hK
     . rw[Q4r] at h;exact J2i h hK
     . split at h
       . rename_i l c _ l' c' hle;rw[J1x,J1x];refine⟨fun _=>?_,fun hf=>?_⟩
         . rw[Q21];rw[Q6C h] at hK;exact hK
         . have:=Nat.le_of_ble_eq_true hle;simp[this] at hf
       . cases h
     . cases h
   . cases h
 . unfold X3r at h;split at h
   . split at h
     . split at h
       . simp only[C.v,J96];exact J2i h hK
       . simp only[C.v,J96];exact J2i h hK
       . cases h
     . cases h
   . cases h
 . unfold X15 at h;split at h
   . cases h
   . split at h
     . split at h
       . split at h
         . cases h;simp only[C.v,J96];exact⟨fun e=>(by cases e),fun _=>(by simpa[C.v] using hK)⟩
         . cases h;simp only[C.v,J96];exact⟨fun e=>(by cases e),fun _=>(by simpa[C.v] using hK)⟩
         . cases h
       . cases h
     . cases h
 . unfold X15 at h;split at h
   . cases h
   . split at h
     . split at h
       . split at h
         . cases h;simp only[C.v,J96];exact⟨fun e=>(by cases e),fun _=>(by simpa[C.v] using hK)⟩
         . cases h;simp only[C.v,J96];exact⟨fun e=>(by cases e),fun _=>(by simpa[C.v] using hK)⟩
         . cases h
       . cases h
     . cases h
 . unfold X8h at h;split at h
   . split at h
     . split at h
       . cases h;simp only[C.v,J96];simpa[C.v] using hK
       . cases h;simp only[C.v,J96];simpa[C.v] using hK
       . cases h
     . cases h
   . cases h
 . cases h
noncomputable def cbd (x:Option X) (env:J1k) (d n:Nat):Option Nat:=match x with
 | none=>some d
 | some x=>match gx x env with
   | some (.int _ (.ofNat m))=>match Nat.ble m n with|true=>some m|false=>none
   | _=>none
theorem J21 {x:Option X} {env:J1k} {d n m:Nat} {K:Nat->Prop} (h:cbd x env d n=some m) (hK:K m):bdK x (J29 env) d n K:=by
 unfold cbd at h;split at h
 . cases h;exact hK
 . split at h
   . rename_i hx;split at h
     . rename_i hb;cases h;refine J0F hx ?_;simp only[C.v];exact⟨_,rfl,Nat.le_of_ble_eq_true hb,hK⟩
     . cases h
   . cases h
theorem Q2o (l:Nat) (z:List V) (rows:List (List V)):J0l l (J4r z rows)=J4r z (rows.drop l):=by
 funext i j;rw[J0v];simp[J4r,List.getD_eq_getElem?_getD]
theorem J2Q (l:Nat) (z:List C) (rows:List (List C)):J0l l (J4r (C.vs z) (C.vss rows))=J4r (C.vs z) (C.vss (rows.drop l)):=by
 rw[Q2o,C.vss_map,C.vss_map,List.map_drop]
noncomputable def Y11 (own:J0E) (s:Nat) (x:X) (lo hi:Option X) (env:J1k):Option C :=
 match gx x env with
 | some (.fz n s' J2z z rows)=>match Nat.beq s s' with
   | true=>match cbd hi env n n with
     | some h=>match cbd lo env 0 h with
       | some l=>fN (h-l) fun m=>fH (dr rows l) fun q=>some (.fz m s (match hi with|none=>J2z|some _=>false) z q)
       | none=>none
     | none=>none
   | false=>none
 | some .nilslice=>match cbd hi env 0 0 with
   | some h=>match cbd lo env 0 h with
     | some _=>some .nilslice
     | none=>none
   | none=>none
 | some (.vec k s' lo0 len)=>match Nat.beq s s' with
   | true=>match lk own k with
     | some (.vec n _ _ _)=>match Nat.ble (lo0+len) n with
       | true=>match cbd hi env len (n-lo0) with
         | some h=>match cbd lo env 0 h with
           | some l=>fN (lo0+l) fun a=>fN (h-l) fun b=>some (.vec k s a b)
           | none=>none
         | none=>none
       | false=>none
     | _=>match cbd hi env len len with
        | some h=>match cbd lo env 0 h with
          | some l=>fN (lo0+l) fun a=>fN (h-l) fun b=>some (.vec k s a b)
          | none=>none
        | none=>none
   | false=>none
 | _=>none
theorem Q8T {own:J0E} {s:Nat} {x:X} {lo hi:Option X} {same:Bool} {env:J1k} {c:C} {K:V->Prop} (h:Y11 own s x lo hi env=some c) (hK:K c.v):X3G (J0L own) s x lo hi none same (J29 env) K:=by
 unfold Y11 at h;unfold X3G;split at h
 . rename_i n s' J2z z rows hx;refine J0F hx ?_;simp only[C.v];split at h
   . rename_i hs;simp only[hs];split at h
     . rename_i hh e1;split at h
       . rename_i ll e2;refine J21 e1 (J21 e2 ?_);simp only[J4i,X1l,J9O,Option.some.injEq] at h;subst h;rw[J2Q];simp only[C.v] at hK;exact hK
       . cases h
     . cases h
   . cases h
 . rename_i hx;refine J0F hx ?_;simp only[C.v];split at h
   . rename_i hh e1;split at h
     . rename_i ll e2;cases h;exact J21 e1 (J21 e2 (by simpa[C.v] using hK))
     . cases h
   . cases h
 . rename_i k s' lo0 len hx;refine J0F hx ?_;simp only[C.v];split at h
   . rename_i hs;simp only[hs];split at h
     . rename_i n s'' z rows hl;rw[J0y hl];simp only[CB.b];split at h
       . rename_i hle;refine⟨fun _=>?_,fun hf=>by rw[hle] at hf;cases hf⟩;split at h
         . rename_i hh e1;split at h
           . rename_i ll e2;refine J21 e1 (J21 e2 ?_);simp only[J4i,Option.some.injEq] at h;subst h;simpa[C.v] using hK
           . cases h
         . cases h
       . cases h
     . rename_i hne;have key:∀{A:Nat->Nat->(Nat->Nat->V)->Prop} {B:Prop},B->(match look (J0L own) k with|some (.vec n s f)=>A n s f|_=>B):=by
        intro A B hB;rw[J0L,J2p,<- J7U];cases hl:lk own k with
        | none=>exact hB
        | some b=>cases b with
          | vec n s z rows=>exact(hne n s z rows hl).elim
          | _=>exact hB
       refine key ?_;split at h
       . rename_i hh e1;split at h
         . rename_i ll e2;refine J21 e1 (J21 e2 ?_);simp only[J4i,Option.some.injEq] at h;subst h;simpa[C.v] using hK
         . cases h
       . cases h
   . cases h
 . cases h
noncomputable def X5x (s:Nat) (x:X) (lo:Option X) (hi mx:X) (same:Bool) (env:J1k):Option C :=
 match gx x env with
 | some (.fz n s' _ z rows)=>match Nat.beq s s' with
   | true=>match cbd (some mx) env n n with
     | some m=>match cbd (some hi) env n m with
       | some h=>match cbd lo env 0 h with
         | some l=>fN (h-l) fun m=>fH (dr rows l) fun q=>some (.fz m s same z q)
         | none=>none
       | none=>none
     | none=>none
   | false=>none
 | _=>none
theorem Q4x {own:Own} {s:Nat} {x:X} {lo:Option X} {hi mx:X} {same:Bool} {env:J1k} {c:C} {K:V->Prop} (h:X5x s x lo hi mx same env=some c) (hK:K c.v):X3G own s x lo (some hi) (some mx) same (J29 env) K:=by
 unfold X5x at h;unfold X3G;split at h
 . rename_i n s' J2z z rows hx;refine J0F hx ?_;simp only[C.v];split at h
   . rename_i hs;simp only[hs];split at h
     . rename_i m e0;split at h
       . rename_i hh e1;split at h
         . rename_i ll e2;refine J21 e0 (J21 e1 (J21 e2 ?_));simp only[J4i,X1l,J9O,Option.some.injEq] at h;subst h;rw[J2Q];simp only[C.v] at hK;exact hK
         . cases h
       . cases h
     . cases h
   . cases h
 . cases h
def cix (i:Int) (n:Nat):Option Nat:=match i with
 | .ofNat m=>match Nat.blt m n with|true=>some m|false=>none
 | .negSucc _=>none
theorem J7w {i:Int} {n m:Nat} {K:Nat->Prop} (h:cix i n=some m) (hK:K m):Ix i n K:=by
 unfold cix at h;split at h
 . split at h
   . rename_i hb;cases h;exact⟨m,rfl,Nat.le_of_ble_eq_true hb,hK⟩
   . cases h
 . cases h
theorem J9b {α:Type}:∀(l:List α) (o n:Nat) (K:List α->Prop),n<=(l.drop o).length->K ((l.drop o).take n)->J7S l o n K
 | l,o,0,K,_,h=>by cases l<;>cases o<;>simpa[J7S] using h
 | [],o,n+1,K,hl,h=>by simp at hl
 | x::r,0,n+1,K,hl,h=>by
   simp only[J7S];exact J9b r 0 n _ (by simpa using hl) (by simpa using h)
 | x::r,o+1,n+1,K,hl,h=>by
   simp only[J7S];exact J9b r o (n+1) _ (by simpa using hl) (by simpa using h)
noncomputable def Q29 (l:List C) (o n:Nat):Option C:=tk n (dr l o) fun q=>some (.agg q)
theorem Q9u {l:List C} {o n:Nat} {c:C} {K:V->Prop} (h:Q29 l o n=some c) (hK:K c.v):J7S (C.vs l) o n fun l=>K (.agg l):=by
 unfold Q29 at h;rw[X0d,J9O] at h;split at h
 . rename_i hl;cases h;refine J9b _ _ _ _ (by simpa[C.vs_map] using hl) ?_;simp only[C.v,C.vs_map] at hK;simpa[C.vs_map] using hK
 . cases h
theorem Q7t {l:List C} {i:Nat} {c:C} (h:nt l i=some c):nth (C.vs l) i=some c.v:=by
 rw[X0I,J5n] at h;rw[J5n,C.vs_get,h];rfl
noncomputable def p_mv (x:X) (env:J1k):Option C:=gx x env
noncomputable def X66 (off:Nat) (x:X) (env:J1k):Option C:=match gx x env with
 | some (.loc k o)=>fN (o+off) fun m=>some (.loc k m)
 | some (.oel k s i j)=>fN (j+off) fun m=>some (.oel k s i m)
 | some (.fe n s z rows i j)=>fN (j+off) fun m=>some (.fe n s z rows i m)
 | _=>none
noncomputable def Q3P (x:X) (env:J1k):Option C:=match gx x env with
 | some (.loc k o)=>some (.loc k o)
 | some (.oel k s i j)=>some (.oel k s i j)
 | some (.fe n s z rows i j)=>some (.fe n s z rows i j)
 | some (.iface t v)=>some (.iface t v)
 | _=>none
noncomputable def X68 (bt:BT) (op:BinOp) (x:X) (y:X) (env:J1k):Option C:=match gx x env with
 | some a=>match gx y env with
   | some b=>Y17 bt op a b
   | none=>none
 | none=>none
noncomputable def X2z (c:X) (a:X) (b:X) (env:J1k):Option C:=match gx c env with
 | some (.bool true)=>gx a env
 | some (.bool false)=>gx b env
 | _=>none
noncomputable def X2x (x:X) (lo:Option X) (hi:Option X) (env:J1k):Option C:=match gx x env with
 | some (.str l c)=>match cbd hi env l l with
   | some h=>match cbd lo env 0 h with
     | some a=>X8u (h-a) (Nat.mod (Nat.div c (Nat.pow 256 a)) (Nat.pow 256 (h-a)))
     | none=>none
   | none=>none
 | _=>none
noncomputable def Q7i (x:X) (i:X) (env:J1k):Option C:=match gx x env with
 | some (.str l c)=>match gx i env with
   | some (.int _ i)=>match cix i l with
     | some m=>fN (Nat.mod (Nat.div c (Nat.pow 256 m)) 256) fun b=>some (.int .u8 (.ofNat b))
     | none=>none
   | _=>none
 | _=>none
noncomputable def X2A (f:Fn) (b:Bool) (cap:List X) (env:J1k):Option C:=match gxs env cap with
 | some l=>some (.fn f b l)
 | none=>none
noncomputable def p_un (op:UnOp) (x:X) (env:J1k):Option C:=match gx x env with
 | some (.bool b)=>match op with
   | .not=>match b with|true=>some (.bool false)|false=>some (.bool true)
   | _=>none
 | some (.int k n)=>match op with
   | .neg=>arC k (0-n)
   | .xor=>svC k (J5X .xor k (if k.signed then -1 else k.max) n)
   | _=>none
 | _=>none
noncomputable def Q7h (k:IntKind) (x:X) (env:J1k):Option C:=match gx x env with
 | some (.int _ n)=>arC k n
 | _=>none
noncomputable def X62 (off:Nat) (sz:Option Nat) (x:X) (env:J1k):Option C:=match gx x env with
 | some (.agg cs)=>match sz with
   | none=>nt cs off
   | some n=>Q29 cs off n
 | _=>none
noncomputable def X64 (s:Nat) (x:X) (i:X) (env:J1k):Option C:=match gx x env with
 | some (.fz n s' _ z rows)=>match Nat.beq s s' with
   | true=>match gx i env with
     | some (.int _ i)=>match cix i n with
       | some m=>some (.fe n s z rows m 0)
       | none=>none
     | _=>none
   | false=>none
 | some (.vec k s' lo len)=>match Nat.beq s s' with
   | true=>match gx i env with
     | some (.int _ i)=>match cix i len with
       | some m=>fN (lo+m) fun m=>some (.oel k s m 0)
       | none=>none
     | _=>none
   | false=>none
 | _=>none
noncomputable def X65 (n:Nat) (s:Nat) (x:X) (i:X) (env:J1k):Option C:=match gx x env with
 | some (.loc k o)=>match gx i env with
   | some (.int _ i)=>match cix i n with
     | some m=>fN (o+m*s) fun m=>some (.loc k m)
     | none=>none
   | _=>none
 | some (.fe n' s' z rows i0 j0)=>match gx i env with
   | some (.int _ i)=>match cix i n with
     | some m=>fN (j0+m*s) fun m=>some (.fe n' s' z rows i0 m)
     | none=>none
   | _=>none
 | some (.oel k s' i0 j0)=>match Nat.beq s s',i0,j0 with
   | true,0,0=>match gx i env with
     | some (.int _ i)=>match cix i n with
       | some m=>some (.oel k s m 0)
       | none=>none
     | _=>none
   | _,_,_=>match gx i env with
     | some (.int _ i)=>match cix i n with
       | some m=>fN (j0+m*s) fun j=>some (.oel k s' i0 j)
       | none=>none
     | _=>none
 | _=>none
noncomputable def X67 (x:X) (i:Nat) (env:J1k):Option C:=match gx x env with
 | some (.tup vs)=>nt vs i
 | _=>none
noncomputable def X63 (x:X) (env:J1k):Option C:=match gx x env with
 | some (.fz n _ _ _ _)=>some (.int .i64 (.ofNat n))
 | some (.vec _ _ _ n)=>some (.int .i64 (.ofNat n))
 | some .nilslice=>some (.int .i64 0)
 | _=>none
noncomputable def X2B (x:X) (env:J1k):Option C:=match gx x env with
 | some (.str l _)=>some (.int .i64 (.ofNat l))
 | _=>none
noncomputable def p_mn (x:X) (y:X) (env:J1k):Option C:=match gx x env with
 | some (.int k a)=>match gx y env with
   | some (.int _ b)=>match ile a b with
     | true=>some (.int k a)
     | false=>some (.int k b)
   | _=>none
 | _=>none
noncomputable def p_mx (x:X) (y:X) (env:J1k):Option C:=match gx x env with
 | some (.int k a)=>match gx y env with
   | some (.int _ b)=>match ile b a with
     | true=>some (.int k a)
     | false=>some (.int k b)
   | _=>none
 | _=>none
noncomputable def J3o (o:POp) (env:J1k):Option C :=
 match o with
 | .slc _ _ _ _ _ _=>none
 | .mv x=>p_mv x env
 | .fld off x=>X66 off x env
 | .nilchk x=>Q3P x env
 | .bin bt op x y=>X68 bt op x y env
 | .pick c a b=>X2z c a b env
 | .slcs x lo hi=>X2x x lo hi env
 | .ixstr x i=>Q7i x i env
 | .mkfn f b cap=>X2A f b cap env
 | .un op x=>p_un op x env
 | .toint k x=>Q7h k x env
 | .sel off sz x=>X62 off sz x env
 | .ixs s x i=>X64 s x i env
 | .ixa n s x i=>X65 n s x i env
 | .ext x i=>X67 x i env
 | .len x=>X63 x env
 | .lens x=>X2B x env
 | .mn x y=>p_mn x y env
 | .mx x y=>p_mx x y env
theorem X1E {o:POp} {env:J1k} {c:C} {K:V->Prop} (h:J3o o env=some c) (hK:K c.v):J2B o (J29 env) K:=by
 cases o with
 | slc=>cases h
 | mv x=>simp only[J3o,p_mv] at h;exact J0F h hK
 | fld off x =>
   simp only[J3o,X66] at h;simp only[J2B];split at h<;>first
    | (cases h;done)
    | (rename_i hx
       refine J0F hx ?_;simp only[C.v];simp only[J4i,Option.some.injEq] at h;subst h;simpa only[C.v] using hK)
 | nilchk x =>
   simp only[J3o,Q3P] at h;simp only[J2B];split at h<;>first
    | (cases h;done)
    | (rename_i hx
       refine J0F hx ?_;cases h;simpa only[C.v] using hK)
 | bin bt op x y =>
   simp only[J3o,X68] at h;simp only[J2B];split at h
   . rename_i a ha;split at h
     . rename_i b hb;exact J0F ha (J0F hb (X5J h hK))
     . cases h
   . cases h
 | pick c a b =>
   simp only[J3o,X2z] at h;simp only[J2B];split at h
   . rename_i hc;refine J0F hc ?_;simp only[C.v];exact J0F h hK
   . rename_i hc;refine J0F hc ?_;simp only[C.v];exact J0F h hK
   . cases h
 | slcs x lo hi =>
   simp only[J3o,X2x] at h;simp only[J2B];split at h
   . rename_i l d hx;refine J0F hx ?_;simp only[C.v,J1x];split at h
     . rename_i hh e1;split at h
       . rename_i a e2;have hle:hh<=l:=by
          unfold cbd at e1;split at e1
          . cases e1;exact Nat.le_refl _
          . split at e1
            . split at e1
              . rename_i hb;cases e1;exact Nat.le_of_ble_eq_true hb
              . cases e1
            . cases e1
         refine J21 e1 (J21 e2 ?_);rw[J7F _ _ _ _ hle,<- J4H];rw[Q6C h] at hK;exact hK
       . cases h
     . cases h
   . cases h
 | ixstr x i =>
   simp only[J3o,Q7i] at h;simp only[J2B];split at h
   . rename_i l d hx;split at h
     . rename_i k n hi;refine J0F hx (J0F hi ?_);simp only[C.v,J1x];split at h
       . rename_i m hm;refine J7w hm ?_;have hlt:m<l:=by
          unfold cix at hm;split at hm
          . split at hm
            . rename_i hb;cases hm;exact Nat.le_of_ble_eq_true hb
            . cases hm
          . cases hm
         simp only[J4i,Option.some.injEq] at h;subst h;rw[Q2Z _ _ _ hlt];simp only[C.v] at hK;exact hK
       . cases h
     . cases h
   . cases h
 | mkfn f b cap =>
   simp only[J3o,X2A] at h;simp only[J2B];split at h
   . rename_i l hl;cases h;exact Q1l hl (by simpa only[C.v] using hK)
   . cases h
 | un op x =>
   simp only[J3o,p_un] at h;simp only[J2B];split at h
   . rename_i b hx;refine J0F hx ?_;simp only[C.v];split at h
     . split at h
       . cases h;simpa only[C.v] using hK
       . cases h;simpa only[C.v] using hK
     . cases h
   . rename_i k n hx;refine J0F hx ?_;simp only[C.v];split at h
     . exact J7I h hK
     . exact J6D h hK
     . cases h
   . cases h
 | toint k x =>
   simp only[J3o,Q7h] at h;simp only[J2B];split at h
   . rename_i hx;refine J0F hx ?_;simp only[C.v];exact J7I h hK
   . cases h
 | sel off sz x =>
   simp only[J3o,X62] at h;simp only[J2B];split at h
   . rename_i cs hx;refine J0F hx ?_;simp only[C.v];split at h
     . rw[Q7t h];exact hK
     . exact Q9u h hK
   . cases h
 | ixs s x i =>
   simp only[J3o,X64] at h;simp only[J2B];split at h
   . rename_i n s' J2z z rows hx;split at h
     . rename_i hs;split at h
       . rename_i hi;refine J0F hx (J0F hi ?_);simp only[C.v,hs];split at h
         . rename_i hm;cases h;exact J7w hm (by simpa only[C.v] using hK)
         . cases h
       . cases h
     . cases h
   . rename_i k s' lo len hx;split at h
     . rename_i hs;split at h
       . rename_i hi;refine J0F hx (J0F hi ?_);simp only[C.v,hs];split at h
         . rename_i hm;simp only[J4i,Option.some.injEq] at h;subst h;exact J7w hm (by simpa only[C.v] using hK)
         . cases h
       . cases h
     . cases h
   . cases h
 | ixa n s x i =>
   simp only[J3o,X65] at h;simp only[J2B];split at h
   . rename_i k o hx;split at h
     . rename_i hi;refine J0F hx (J0F hi ?_);simp only[C.v];split at h
       . rename_i hm;simp only[J4i,Option.some.injEq] at h;subst h;exact J7w hm (by simpa only[C.v] using hK)
       . cases h
     . cases h
   . rename_i hx;split at h
     . rename_i hi;refine J0F hx (J0F hi ?_);simp only[C.v];split at h
       . rename_i hm;simp only[J4i,Option.some.injEq] at h;subst h;exact J7w hm (by simpa only[C.v] using hK)
       . cases h
     . cases h
   . rename_i hx;split at h
     . rename_i hs;split at h
       . rename_i hi;refine J0F hx (J0F hi ?_);simp only[C.v,hs];split at h
         . rename_i hm;cases h;exact J7w hm (by simpa only[C.v] using hK)
         . cases h
       . cases h
     . rename_i hne;split at h
       . rename_i hi;refine J0F hx (J0F hi ?_);simp only[C.v];split at h
         . rename_i hm;simp only[J4i,Option.some.injEq] at h;subst h;exact J7w hm (by simpa only[C.v] using hK)
         . cases h
       . cases h
   . cases h
 | ext x i =>
   simp only[J3o,X67] at h;simp only[J2B];split at h
   . rename_i hx;refine J0F hx ?_;simp only[C.v];rw[Q7t h];exact hK
   . cases h
 | len x =>
   simp only[J3o,X63] at h;simp only[J2B];split at h<;>first
    | (cases h;done)
    | (rename_i hx
       refine J0F hx ?_;cases h;simp only[C.v] at hK;simp only[C.v];exact hK)
 | lens x =>
   simp only[J3o,X2B] at h;simp only[J2B];split at h
   . rename_i hx;refine J0F hx ?_;cases h;simp only[C.v] at hK;simp only[C.v,J1x];exact hK
   . cases h
 | mn x y =>
   simp only[J3o,p_mn] at h;simp only[J2B];split at h
   . rename_i hx;split at h
     . rename_i hy;refine J0F hx (J0F hy ?_);simp only[C.v];refine⟨_,rfl,?_⟩;split at h
       . rename_i hc;rw[J5Q] at hc;cases h;have hc:=of_decide_eq_true hc;rw[if_neg (by omega)];simpa only[C.v] using hK
       . rename_i hc;rw[J5Q] at hc;cases h;have hc:=of_decide_eq_false hc;rw[if_pos (by omega)];simpa only[C.v] using hK
     . cases h
   . cases h
 | mx x y =>
   simp only[J3o,p_mx] at h;simp only[J2B];split at h
   . rename_i hx;split at h
     . rename_i hy;refine J0F hx (J0F hy ?_);simp only[C.v];refine⟨_,rfl,?_⟩;split at h
       . rename_i hc;rw[J5Q] at hc;cases h;have hc:=of_decide_eq_true hc;rw[if_neg (by omega)];simpa only[C.v] using hK
       . rename_i hc;rw[J5Q] at hc;cases h;have hc:=of_decide_eq_false hc;rw[if_pos (by omega)];simpa only[C.v] using hK
     . cases h
   . cases h
end Go.Eng
