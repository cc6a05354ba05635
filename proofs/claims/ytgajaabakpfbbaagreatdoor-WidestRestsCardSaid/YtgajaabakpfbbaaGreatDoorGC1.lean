import Derived.Test.YtgajaabakpfbbaaGreatDoorWXL
import Derived.Test.YtgajaabakpfbbaaGreatDoorDN11
import Derived.Test.YtgajaabakpfbbaaGreatDoorWX4
namespace Go.Proofs.YtgajaabakpfbbaaGreatDoor
open Go.Eng
set_option maxRecDepth 100000
set_option linter.unusedVariables false
def sF (L:List (Nat × Nat)):Nat→Nat→V:=fun i j=>match j with
 | 0=>.int .i64 (L.getD i (0,0)).1
 | _ + 1=>.int .i64 (L.getD i (0,0)).2
theorem edges_len {g:G} (hg:g.valid = true):(edgesL g).length = (rawL g).length:=by
 refine List.Perm.length_eq ?_;refine (List.perm_ext_iff_of_nodup ?_ (raw_nodup hg)).2 fun e=>by rw [edges_mem hg,raw_mem hg]
 rw [List.nodup_iff_pairwise_ne];exact (edges_sorted g).imp fun {e f} hl q=>by subst q;exact lt_as _ _ hl hl
theorem pf_next (n v i j:Nat) (hj:j < 1):VLe (fset (pF fun u=>if u < v then (u:Int) else 0) v 0 [.int .i64 v] i j) (pF (fun u=>if u < v + 1 then (u:Int) else 0) i j):=by
 refine (pf_set _ v (v:Int) (i + 1) i j (by omega) hj).trans (VLe.of_eq ?_);show V.int .i64 _ = V.int .i64 _;congr 1;show (if i = v then (v:Int) else if i < v then (i:Int) else 0) = if i < v + 1 then (i:Int) else 0
 by_cases h:i = v
 . subst h;simp
 . rw [if_neg h];by_cases q:i < v
   . rw [if_pos q,if_pos (by omega)]
   . rw [if_neg q,if_neg (by omega)]
theorem PtI.congr {n:Nat} {D:List (Nat × Nat)} {p q:Nat→Int} (h:PtI n D p) (he:∀ u,u < n→q u = p u):PtI n D q:=fun u v hu hv=>by rw [he u hu,he v hv];exact h u v hu hv
noncomputable def selT (g:G) (i:Nat):List (Nat × Nat):=(((edgesL g).take i).filter (chE g)).map fun e=>(e.a,e.b)
theorem selT_len (g:G) (i:Nat):(selT g i).length≤i:=by
 rw [selT,List.length_map];exact Nat.le_trans (List.length_filter_le _ _) (by simp;omega)
theorem selT_yes {g:G} {i:Nat} (hi:i < (edgesL g).length) (h:chE g (gE (edgesL g) i) = true):selT g (i + 1) = selT g i ++ [((gE (edgesL g) i).a,(gE (edgesL g) i).b)]:=by
 rw [selT,take_gE hi,List.filter_append,List.map_append,List.filter_cons,if_pos h];rfl
theorem selT_no {g:G} {i:Nat} (hi:i < (edgesL g).length) (h:chE g (gE (edgesL g) i) = false):selT g (i + 1) = selT g i:=by
 rw [selT,take_gE hi,List.filter_append,List.map_append,List.filter_cons,if_neg (by rw [h];decide)];simp [selT]
theorem selT_end (g:G):selT g (edgesL g).length = spanL g:=by rw [selT,List.take_length,span_edges]
theorem vle_appS (L:List (Nat × Nat)) (a b:Nat) (n i j:Nat) (hn:L.length = n) (f:Nat→Nat→V) (h0:f 0 0 = .int .i64 a) (h1:f 0 1 = .int .i64 b) (hi:i < n + 1) (hj:j < 2):VLe (fapp (shiftF 0 (sF L)) n (shiftF 0 f) i j) (sF (L ++ [(a,b)]) i j):=by
 subst hn;apply VLe.of_eq;by_cases h:i < L.length
 . rw [fapp_lt h,shiftF_eq,Nat.zero_add];have e:(L ++ [(a,b)]).getD i (0,0) = L.getD i (0,0):=by simp [List.getD,List.getElem?_append_left h]
   rcases j with _ | j
   . show V.int .i64 _ = V.int .i64 _;rw [e]
   . show V.int .i64 _ = V.int .i64 _;rw [e]
 . rw [fapp_ge h];obtain rfl:i = L.length:=by omega
   have e:(L ++ [(a,b)]).getD L.length (0,0) = (a,b):=by simp [List.getD]
   rw [Nat.sub_self,shiftF_eq];rcases j with _ | _ | j
   . show f 0 0 = V.int .i64 _;rw [e,h0]
   . show f 0 1 = V.int .i64 _;rw [e,h1]
   . omega
theorem MGet.of {o:Option V} {v:V} {A:V→Prop} {B:Prop} (h:o = some v) (hA:A v):MGet o A B:=⟨fun w hw=>by rw [h] at hw;cases hw;exact hA,fun hn=>by rw [h] at hn;cases hn⟩
set_option maxHeartbeats 16000000 in
theorem spanning_ok (g:G) (hs:g.Small) (hgc:g.conn = true) (h12:(rawL g).length≤12) (h0:0 < (edgesL g).length):Ret Tryz.prog 14 [g.v] (.tup [.fz (spanL g).length 2 false (sF (spanL g)),.int .i64 0]):=by
 obtain ⟨hg,_⟩:=conn_facts hgc;obtain ⟨f1,f2,f3,f4,f5,f6,f7⟩:=val_facts hg;have hcn:=conn_ok g hs;rw [hgc] at hcn;have hed:=edges_ok g hs hg h12;refine ret_frz rfl ?_;refine fn_rule mixed Tryz.func14 rfl hc14 hr14 rfl ?_;have hle:=edges_len hg;have hso:=sorts_ok 37 (by kernel_rfl) (fun x y=>cpI x.w y.w) span1_ok ltW wo_w cpW_lt (edgesL g) (by omega)
 repeat' ((conv=>whnf);first | (refine Br.tt ?_) | (refine Br.nbeq ?_ ?_ <;> intro _ <;> try omega) | (refine Bd.nat (by omega) ?_) | (refine Len.mk (by omega) ?_) | (refine MkS.vec ?_) | (refine hcn.go ?_) | (refine hed.go ?_) | (refine Chk.mk (by kernel_rfl) ?_) | (refine fn_rule mixed Tryz.func35 rfl hc35 hr35 rfl ?_) | (refine call_by [(0,some 2)] [] (hso.mono ?_) ⟨VRen.vec rfl rfl (Nat.zero_add _),VRen.fn True.intro,True.intro⟩ (by repeat' (first | exact True.intro | (refine ⟨⟨_,rfl,?_⟩,?_⟩) | (refine ⟨by omega,rfl,fun i j hi hj=>?_⟩) | exact VLe.rfl)) rfl;rintro _ _ _ ⟨B,⟨hp,hsl⟩,rfl,rfl⟩))
 all_goals (conv=>whnf)
 have hBl:=hp.length_eq;have hB:ByW g B:=⟨hp,hsl⟩;refine loop_u mixed [2,3,4,5,6,31] [] [4,5,6,7,8,9,10,11,12,13,14,15,16,17,18,19,20,21,22,23,24,25,26,27,28,29] [3,2,0] (fun v:Nat=>[(32,.int .i64 v)]) (fun own v=>updO own 3 (.vec g.ids.length 1 (pF fun u=>if u < v then (u:Int) else 0))) (fun m v=>m = g.ids.length - v∧v≤g.ids.length) g.ids.length 0 ⟨rfl,Nat.zero_le _⟩ rfl (fun _=>rfl) ?_ ?_
 . refine weak_by (fun _ _=>[(0,some 0),(2,some 2),(3,some 3)]) ?_ ?_ rfl
   . repeat' (first | exact True.intro | (refine ⟨⟨_,rfl,?_⟩,?_⟩) | exact VRen.kf rfl | exact VRen.vec rfl rfl rfl)
   . repeat' (first | exact ⟨Nat.le_refl _,rfl,fun i j hi hj=>VLe.of_eq (by obtain rfl:j = 0:=(by omega);rfl)⟩ | exact True.intro | (refine ⟨⟨_,rfl,?_⟩,?_⟩) | exact VRen.kf rfl | (refine ⟨Nat.le_refl _,rfl,fun i j hi hj=>?_⟩) | exact VLe.rfl | (refine And.intro ?_ ?_))
 rintro m v ⟨hm,hv⟩;by_cases hvn:v < g.ids.length
 . repeat' ((conv=>whnf);first | (refine Ix.mk v (by omega) (by omega) ?_) | (refine Br.dec ?_ ?_ <;> intro _ <;> try omega) | (refine Ar.i64 (by omega) (by omega) ?_) | (refine Ltn.mk (by omega) ?_))
   all_goals (conv=>whnf)
   refine ⟨g.ids.length - (v + 1),v + 1,by omega,⟨rfl,by omega⟩,?_⟩;refine weak_by (fun _ _=>[(0,some 0),(2,some 2),(3,some 3)]) ?_ ?_ rfl
   . repeat' (first | exact True.intro | (refine ⟨⟨_,rfl,?_⟩,?_⟩) | exact VRen.kf rfl | exact VRen.vec rfl rfl rfl)
   . repeat' (first | exact ⟨Nat.le_refl _,rfl,fun i t hi ht=>by simp only [Nat.zero_add];exact pf_next g.ids.length v i t ht⟩ | exact True.intro | (refine ⟨⟨_,rfl,?_⟩,?_⟩) | exact VRen.kf rfl | (refine ⟨Nat.le_refl _,rfl,fun i j hi hj=>?_⟩) | exact VLe.rfl | (refine And.intro ?_ ?_))
 have ev:v = g.ids.length:=by omega
 subst ev
 repeat' ((conv=>whnf);first | (refine Br.dec ?_ ?_ <;> intro _ <;> try omega))
 all_goals (conv=>whnf)
 refine loop_u mixed [2,3,4,5,6,8] [] [5,6,7,8,9,10,11,12,13,14,15,16,17,18,19,20,21,22,23,24,25,26,27,28,29] [4,3,2,0] (fun s:Nat × (Nat→Int)=>[(9,.int .i64 s.1)]) (fun own s=>updO (updO own 3 (.vec g.ids.length 1 (pF s.2))) 4 (.map (.st KE) (enX g (B.take s.1)))) (fun m s=>m = B.length - s.1∧Cls g B s.1 s.2) B.length (0,fun v=>(v:Int)) ⟨rfl,Cls.start B⟩ rfl (fun _=>rfl) ?_ ?_
 . refine weak_by (fun _ _=>[(0,some 0),(2,some 2),(3,some 3),(4,some 4)]) ?_ ?_ rfl
   . repeat' (first | exact True.intro | exact VRen.map rfl | (refine ⟨⟨_,rfl,?_⟩,?_⟩) | exact VRen.kf rfl | exact VRen.vec rfl rfl rfl)
   . repeat' (first | exact ⟨Nat.le_refl _,rfl,fun i j hi hj=>VLe.of_eq (by obtain rfl:j = 0:=(by omega);show V.int .i64 (if i < g.ids.length then (i:Int) else 0) = V.int .i64 _;rw [if_pos hi])⟩ | exact ⟨rfl,enX_nil _ _⟩ | exact True.intro | (refine ⟨⟨_,rfl,?_⟩,?_⟩) | exact VRen.kf rfl | (refine ⟨Nat.le_refl _,rfl,fun i j hi hj=>?_⟩) | exact VLe.rfl | (refine And.intro ?_ ?_))
 rintro m ⟨a,p⟩ ⟨hm,hC⟩;simp only at hm hC;have hal:=hC.le;by_cases hab:a < B.length
 . dsimp only
   repeat' ((conv=>whnf);first | (refine Br.dec ?_ ?_ <;> intro _ <;> try omega))
   all_goals (conv=>whnf)
   refine loop_u mixed [2,3,4,5,6,8,9] [] [5,6,7,8,9,10,11,12,13,14,15,16,17,18,19,20,21,22,23,24,25,26,27,28,29] [4,3,2,0] (fun k:Nat=>[(10,.int .i64 k)]) (fun own k=>updO own 4 (.map (.st KE) (enX g (B.take k)))) (fun m k=>m = B.length - k∧a≤k∧k≤B.length∧∀ j,a≤j→j < k→(gE B j).w = (gE B a).w) (B.length - a) a ⟨rfl,Nat.le_refl _,hal,fun j h1 h2=>by omega⟩ rfl (fun _=>rfl) ?_ ?_
   . exact weak_b (fun _ _=>[(0,some 0),(2,some 2),(3,some 3),(4,some 4)])
   rintro m k ⟨hm2,hak,hk,hw⟩;have z1:0 + k = k:=Nat.zero_add _;have z2:0 + a = a:=Nat.zero_add _;by_cases hgo:k < B.length∧(gE B (0 + k)).w = (gE B (0 + a)).w
   . obtain ⟨hkn,hwk⟩:=hgo;have he:=(hB.edge hg hkn).2;have h1:(gE B (0 + k)).a < g.ids.length:=by rw [z1];exact he.lu
     have h2:(gE B (0 + k)).b < g.ids.length:=by rw [z1];exact he.lv
     have hch:=hC.ch hg hB hak hkn (by rw [z1,z2] at hwk;exact hwk);have hput:∀ b:Bool,b = chE g (gE B k)→mput (enX g (B.take k)) (keyE (gE B (0 + k))) (.bool b) = enX g (B.take (k + 1)):=fun b hb=>by
      rw [z1];exact enX_put g (hB.nodup hg) hkn (by rw [hb])
     have hw':∀ j,a≤j→j < k + 1→(gE B j).w = (gE B a).w:=fun j h3 h4=>by
      by_cases e:j = k
      . subst e;rw [z1,z2] at hwk;exact hwk
      . exact hw j h3 (by omega)
     by_cases hpp:p (0 + (gE B (0 + k)).a) = p (0 + (gE B (0 + k)).b)
     . have hb:false = chE g (gE B k):=by
        rw [← hch,decide_eq_true (by simpa only [Nat.zero_add] using hpp)];rfl
       repeat' ((conv=>whnf);first | (refine Ix.mk k (by omega) (by omega) ?_) | (refine Ix.mk a (by omega) (by omega) ?_) | (refine Ix.mk (gE B (0 + k)).a rfl h1 ?_) | (refine Ix.mk (gE B (0 + k)).b rfl h2 ?_) | (refine Br.dec ?_ ?_ <;> intro _ <;> try omega) | (refine Br.bne ?_ ?_ <;> intro _ <;> try omega) | (refine Ar.i64 (by omega) (by omega) ?_) | (refine Ltn.mk (by omega) ?_))
       all_goals (conv=>whnf)
       refine ⟨B.length - (k + 1),k + 1,by omega,⟨rfl,by omega,by omega,hw'⟩,?_⟩;refine weak_by (fun _ _=>[(0,some 0),(2,some 2),(3,some 3),(4,some 4)]) ?_ ?_ rfl
       . repeat' (first | exact True.intro | exact VRen.map rfl | (refine ⟨⟨_,rfl,?_⟩,?_⟩) | exact VRen.kf rfl | exact VRen.vec rfl rfl rfl)
       . repeat' (first | exact ⟨rfl,(hput _ hb).symm⟩ | exact True.intro | (refine ⟨⟨_,rfl,?_⟩,?_⟩) | exact VRen.kf rfl | (refine ⟨Nat.le_refl _,rfl,fun i j hi hj=>?_⟩) | exact VLe.rfl | (refine And.intro ?_ ?_))
     . have hb:true = chE g (gE B k):=by
        rw [← hch,decide_eq_false (by simpa only [Nat.zero_add] using hpp)];rfl
       repeat' ((conv=>whnf);first | (refine Ix.mk k (by omega) (by omega) ?_) | (refine Ix.mk a (by omega) (by omega) ?_) | (refine Ix.mk (gE B (0 + k)).a rfl h1 ?_) | (refine Ix.mk (gE B (0 + k)).b rfl h2 ?_) | (refine Br.dec ?_ ?_ <;> intro _ <;> try omega) | (refine Br.bne ?_ ?_ <;> intro _ <;> try omega) | (refine Ar.i64 (by omega) (by omega) ?_) | (refine Ltn.mk (by omega) ?_))
       all_goals (conv=>whnf)
       refine ⟨B.length - (k + 1),k + 1,by omega,⟨rfl,by omega,by omega,hw'⟩,?_⟩;refine weak_by (fun _ _=>[(0,some 0),(2,some 2),(3,some 3),(4,some 4)]) ?_ ?_ rfl
       . repeat' (first | exact True.intro | exact VRen.map rfl | (refine ⟨⟨_,rfl,?_⟩,?_⟩) | exact VRen.kf rfl | exact VRen.vec rfl rfl rfl)
       . repeat' (first | exact ⟨rfl,(hput _ hb).symm⟩ | exact True.intro | (refine ⟨⟨_,rfl,?_⟩,?_⟩) | exact VRen.kf rfl | (refine ⟨Nat.le_refl _,rfl,fun i j hi hj=>?_⟩) | exact VLe.rfl | (refine And.intro ?_ ?_))
   . have hkn':k < B.length→(gE B k).w≠(gE B a).w:=fun h q=>hgo ⟨h,by rw [z1,z2];exact q⟩;have hka:a < k:=by
      by_cases e:a = k
      . subst e;exact (hkn' hab rfl).elim
      . omega
     repeat' ((conv=>whnf);first | (refine Ix.mk k (by omega) (by omega) ?_) | (refine Ix.mk a (by omega) (by omega) ?_) | (refine Br.dec ?_ ?_ <;> intro _ <;> try omega) | (refine Br.nble ?_ ?_ <;> intro _ <;> try omega) | (refine Bd.nat (by omega) ?_) | (refine Ltn.mk (by omega) ?_))
     all_goals (conv=>whnf)
     all_goals
      refine loop_u mixed [2,3,4,5,6,8,10,85,86] [] [5,6,7,8,9,10,11,12,13,14,15,16,17,18,19,20,21,22,23,24,25,26,27,28,29] [4,3,2,0] (fun s:Nat × (Nat→Int)=>[(87,.int .i64 s.1)]) (fun own s=>updO own 3 (.vec g.ids.length 1 (pF s.2))) (fun m s=>m = (k - a) - s.1∧s.1≤k - a∧Jng g B a k (a + s.1) s.2) (k - a) (0,p) ⟨rfl,Nat.zero_le _,⟨⟨Nat.le_refl _,hak,hk⟩,hC.pt⟩⟩ rfl (fun _=>rfl) ?_ ?_
      . exact weak_b (fun _ _=>[(0,some 0),(2,some 2),(3,some 3),(4,some 4)])
      rintro m3 ⟨i,q⟩ ⟨hm3,hi,hJ⟩;simp only at hm3 hi hJ;by_cases hik:i < k - a
      . dsimp only;have e0:0 + a + i = a + i:=by omega
        have he:=(hB.edge hg (i:=a + i) (by omega)).2;have h1:(gE B (0 + a + i)).a < g.ids.length:=by rw [e0];exact he.lu
        have h2:(gE B (0 + a + i)).b < g.ids.length:=by rw [e0];exact he.lv
        have hjo:=join_ok g.ids.length (by omega) q (gE B (0 + a + i)).a (gE B (0 + a + i)).b h1 h2
        repeat' ((conv=>whnf);first | (refine Ix.mk i (by omega) (by omega) ?_) | (refine Br.dec ?_ ?_ <;> intro _ <;> try omega) | (refine Ar.i64 (by omega) (by omega) ?_) | (refine Ltn.mk (by omega) ?_) | (refine Chk.mk (by kernel_rfl) ?_) | (refine call_by [(0,some 3)] [] (hjo.mono ?_) ⟨VRen.vec rfl rfl rfl,VRen.int rfl,VRen.int rfl,True.intro⟩ (by repeat' (first | exact True.intro | (refine ⟨⟨_,rfl,?_⟩,?_⟩) | (refine ⟨Nat.le_refl _,rfl,fun i j hi hj=>?_⟩) | exact VLe.rfl)) rfl;rintro _ _ _ ⟨q',hq',rfl,rfl⟩))
        all_goals (conv=>whnf)
        rename_i q' hq';refine ⟨(k - a) - (i + 1),(i + 1,q'),by omega,⟨rfl,by omega,⟨⟨by omega,by omega,hk⟩,?_⟩⟩,?_⟩
        . have:=(hJ.step hg hB (by omega)).pt;rw [e0] at hq';exact this.congr hq'
        . exact weak_b (fun _ _=>[(0,some 0),(2,some 2),(3,some 3),(4,some 4)])
      . have ei:i = k - a:=by omega
        subst ei;have hJ':Jng g B a k k q:=by have:=hJ;rwa [show a + (k - a) = k by omega] at this
        dsimp only
        repeat' ((conv=>whnf);first | (refine Br.dec ?_ ?_ <;> intro _ <;> try omega))
        all_goals (conv=>whnf)
        refine ⟨B.length - k,(k,q),by omega,⟨rfl,hJ'.next hB hka hw hkn'⟩,?_⟩;exact weak_b (fun _ _=>[(0,some 0),(2,some 2),(3,some 3),(4,some 4)])
 . have ea:a = B.length:=by omega
   subst ea;dsimp only;simp only [List.take_length]
   repeat' ((conv=>whnf);first | (refine Br.dec ?_ ?_ <;> intro _ <;> try omega))
   all_goals (conv=>whnf)
   refine loop_u mixed [2,3,8,99,100] [5] [6,7,8,9,10,11,12,13,14,15,16,17,18,19,20,21,22,23,24,25,26,27,28,29] [5,4,3,2,0] (fun i:Nat=>[(14,.vec 5 2 0 (selT g i).length),(101,.int .i64 i)]) (fun own i=>(5,.vec (selT g i).length 2 (sF (selT g i))) :: own) (fun m i=>m = (edgesL g).length - i∧i≤(edgesL g).length) (edgesL g).length 0 ⟨rfl,Nat.zero_le _⟩ rfl (fun _=>rfl) ?_ ?_
   . exact weak_b (fun _ _=>[(0,some 0),(2,some 2),(3,some 3),(4,some 4),(5,none)])
   rintro m i ⟨hm,hi⟩;by_cases hin:i < (edgesL g).length
   . have hmem:gE (edgesL g) i∈B:=by rw [hp.mem_iff,← gE_of hin];exact List.getElem_mem hin
     have hfi:=enX_find g hmem;have hln:=selT_len g i;cases hch:chE g (gE (edgesL g) i) with
     | true =>
       rw [hch] at hfi;have hse:=selT_yes hin hch;have hsl:=selT_len g (i + 1);have hsl2:(selT g (i + 1)).length = (selT g i).length + 1:=by rw [hse,List.length_append];rfl
       repeat' ((conv=>whnf);first | (refine Ix.mk i (by omega) (by omega) ?_) | (refine Br.dec ?_ ?_ <;> intro _ <;> try omega) | (refine Br.nbeq ?_ ?_ <;> intro _ <;> try omega) | (refine Ar.i64 (by omega) (by omega) ?_) | (refine Len.mk (by omega) ?_) | (refine MGet.of hfi ?_))
       all_goals (conv=>whnf)
       refine ⟨(edgesL g).length - (i + 1),i + 1,by omega,⟨rfl,by omega⟩,?_⟩;dsimp only;rw [hsl2,hse];refine weak_by (fun env own=>[(0,some 0),(2,some 2),(3,some 3),(4,some 4),(5,ekey env 14)]) ?_ ?_ rfl
       . repeat' (first | exact True.intro | exact VRen.map rfl | (refine ⟨⟨_,rfl,?_⟩,?_⟩) | exact VRen.kf rfl | exact VRen.vec rfl rfl rfl)
       . repeat' (first | exact ⟨Nat.le_refl _,rfl,fun a b ha hb=>vle_appS (selT g i) _ _ _ a b rfl _ rfl rfl ha hb⟩ | exact True.intro | exact ⟨rfl,rfl⟩ | (refine ⟨⟨_,rfl,?_⟩,?_⟩) | exact VRen.kf rfl | (refine ⟨Nat.le_refl _,rfl,fun i j hi hj=>?_⟩) | exact VLe.rfl | (refine And.intro ?_ ?_))
     | false =>
       rw [hch] at hfi;have hse:=selT_no hin hch
       repeat' ((conv=>whnf);first | (refine Ix.mk i (by omega) (by omega) ?_) | (refine Br.dec ?_ ?_ <;> intro _ <;> try omega) | (refine Ar.i64 (by omega) (by omega) ?_) | (refine MGet.of hfi ?_))
       all_goals (conv=>whnf)
       refine ⟨(edgesL g).length - (i + 1),i + 1,by omega,⟨rfl,by omega⟩,?_⟩;dsimp only;rw [hse];exact weak_b (fun _ _=>[(0,some 0),(2,some 2),(3,some 3),(4,some 4),(5,some 5)])
   . have ei:i = (edgesL g).length:=by omega
     subst ei
     repeat' ((conv=>whnf);first | (refine Br.dec ?_ ?_ <;> intro _ <;> try omega) | (refine Len.mk (by omega) ?_))
     all_goals (conv=>whnf)
     rw [selT_end];exact VLe.tup ⟨VLe.fz rfl (fun h=>h) (fun i j hi hj=>VLe.of_eq (by rw [shiftF_eq,Nat.zero_add])),VLe.rfl,True.intro⟩
theorem len_le:∀ {l m:List Int},l.Nodup→(∀ a∈l,a∈m)→l.length≤m.length
 | [],m,_,_=>Nat.zero_le _
 | a :: l,m,hn,hs=>by
   rw [List.nodup_cons] at hn;have ham:=hs a (by simp);have h1:=len_le (l:=l) (m:=m.erase a) hn.2 (fun b hb=>(List.mem_erase_of_ne (fun e=>hn.1 (by rw [← e];exact hb))).2 (hs b (by simp [hb])));have h2:=List.length_erase_of_mem ham;have h3:=List.length_pos_of_mem ham;simp only [List.length_cons];omega
def freeF (l:List Int):Nat→Int→Int
 | 0,i=>i
 | f + 1,i=>if i∈l then freeF l f ((i + 1) % 256) else i
def tryI (i:Int) (k:Nat):Int:=(i + k) % 256
theorem tryI_next {i:Int} {k:Nat}:(tryI i k + 1) % 256 = tryI i (k + 1):=by rw [tryI,tryI];omega
theorem free_ends {l:List Int} (hl:l.length < 256) (i:Int):¬ ∀ j,j < 256→tryI i j∈l:=by
 intro h;have h1:((List.range 256).map (tryI i)).Nodup:=by
  rw [List.nodup_iff_pairwise_ne,List.pairwise_map];refine List.Pairwise.imp_of_mem ?_ List.nodup_range;intro a b ha hb hne e;rw [List.mem_range] at ha hb;rw [tryI,tryI] at e;omega
 have h2:=len_le h1 (fun a ha=>by
  obtain ⟨j,hj,rfl⟩:=List.mem_map.1 ha;exact h j (List.mem_range.1 hj))
 simp at h2;omega
def idsF (x:List Int):Nat→List Int
 | 0=>[]
 | v + 1=>idsF x v ++ [freeF (idsF x v) 256 (within (gI x v) 256)]
theorem idsF_len (x:List Int):∀ v,(idsF x v).length = v
 | 0=>rfl
 | v + 1=>by rw [idsF,List.length_append,idsF_len x v];rfl
theorem within_range (a:Int) {b:Int} (hb:1≤b):0≤within a b∧within a b < b:=by
 have h1:=Int.tmod_lt_of_pos a (show (0:Int) < b by omega);have h2:=Int.tmod_lt_of_pos (-a) (show (0:Int) < b by omega);rw [Int.neg_tmod] at h2;rw [within,if_neg (by omega)];split <;> omega
theorem free_spec {l:List Int} {i:Int} (h0:0≤i) (h1:i≤255):∀ f k,k + f = 256→(∀ j,j < k→tryI i j∈l)→l.length < 256→0≤freeF l f (tryI i k)∧freeF l f (tryI i k)≤255∧freeF l f (tryI i k) ∉ l
 | 0,k,hk,hall,hl=>(free_ends hl i (fun j hj=>hall j (by omega))).elim
 | f + 1,k,hk,hall,hl=>by
   rw [freeF];split
   . rename_i hm;rw [tryI_next];exact free_spec h0 h1 f (k + 1) (by omega) (fun j hj=>by
      by_cases e:j = k
      . subst e;exact hm
      . exact hall j (by omega)) hl
   . rename_i hm;refine ⟨?_,?_,hm⟩ <;> (rw [tryI];omega)
theorem try_zero {i:Int} (h0:0≤i) (h1:i≤255):tryI i 0 = i:=by rw [tryI];omega
theorem idsF_ok (x:List Int):∀ v,v≤255→(∀ a∈idsF x v,0≤a∧a≤255)∧(idsF x v).Nodup
 | 0,_=>⟨fun a h=>(by simp [idsF] at h),by simp [idsF]⟩
 | v + 1,hv=>by
   obtain ⟨i1,i2⟩:=idsF_ok x v (by omega);have hw:=within_range (gI x v) (b:=256) (by omega);have hf:=free_spec (l:=idsF x v) (i:=within (gI x v) 256) hw.1 (by omega) 256 0 rfl (fun j hj=>by omega) (by rw [idsF_len];omega);rw [try_zero hw.1 (by omega)] at hf;rw [idsF];refine ⟨fun a ha=>?_,?_⟩
   . rcases List.mem_append.1 ha with h | h
     . exact i1 a h
     . have:a = freeF (idsF x v) 256 (within (gI x v) 256):=by simpa using h
       rw [this];exact ⟨hf.1,hf.2.1⟩
   . rw [List.nodup_append];refine ⟨i2,by simp,fun a ha b hb e=>?_⟩;have:b = freeF (idsF x v) 256 (within (gI x v) 256):=by simpa using hb
     rw [← this,← e] at hf;exact hf.2.2 ha
def ownN (x:Net) (n:Nat):Own:=[(0,.vec n 1 (vI (idsF x.ids n))),(1,.vec n 1 fun _ _=>.nilslice)]
def Net.n1 (x:Net):Int:=IntKind.i64.wrap (x.n - 1)
def Net.size (x:Net) (most:Int):Nat:=(1 + within x.n1 most).toNat
theorem getD_snocI (l:List Int) (a:Int) (i:Nat):gI (l ++ [a]) i = if i < l.length then gI l i else if i = l.length then a else 0:=by
 by_cases h:i < l.length
 . simp only [gI,List.getD,List.getElem?_append_left h,if_pos h]
 . rw [if_neg h];by_cases h2:i = l.length
   . subst h2;simp [gI]
   . simp [gI,h2,List.getElem?_eq_none (by simp;omega:(l ++ [a]).length≤i)]
theorem vle_appI (l:List Int) (a:Int) (n:Nat) (hn:l.length = n) (i j:Nat) (hi:i < n + 1) (hj:j < 1) :
 VLe (fapp (shiftF 0 (vI l)) n (shiftF 0 (tab [[.int .i64 a]])) i j) (vI (l ++ [a]) i j):=by
 apply VLe.of_eq;subst hn;by_cases h:i < l.length
 . rw [fapp_lt h];simp only [shiftF,vI,getD_snocI,if_pos h]
 . rw [fapp_ge h];have:i = l.length:=by omega
   subst this;obtain rfl:j = 0:=by omega
   simp [shiftF,vI,getD_snocI,tab]
set_option maxHeartbeats 8000000 in
theorem nodes_ok (x:Net) (hx:x.Small) (most:Int) (h1:1≤most) (h2:most≤24) :
 CallF Tryz.prog 63 [x.v,.int .i64 most] [] KS fun v own' _=>v = gV1 (x.size most) (x.size most)∧own' = ownN x (x.size most):=by
 have hw:=within_ok x.n1 most (by omega);have hwr:=within_range x.n1 h1;have hn:1 + within x.n1 most = (x.size most:Nat):=by rw [Net.size];omega
 have hsz:1≤x.size most∧x.size most≤24:=by omega
 have hids:=hx.ids;generalize x.size most = n at *;refine call_post ?_;refine fn_rule mixed Tryz.func63 rfl hc63 hr63 rfl ?_
 repeat' ((conv=>whnf);first | (refine Ar.mk x.n1 rfl ?_) | (refine Ar.i64 (by omega) (by omega) ?_;rw [hn]) | (refine Bd.nat (by omega) ?_) | (refine Len.mk (by omega) ?_) | (refine MkS.vec ?_) | (refine hw.go ?_))
 all_goals (conv=>whnf)
 refine loop_u mixed [2,4,5,6] [4] [5,6,7,8,9,10,11,12,13,14,15,16,17,18,19,20,21,22,23,24,25,26,27,28,29] [4,3,2,1,0] (fun v:Nat=>[(7,.int .i64 v)]) (fun own v=>(4,.vec v 1 (vI (idsF x.ids v))) :: updO own 3 (.cells [.vec 4 1 0 v,.vec 2 1 0 n])) (fun m v=>m = n - v∧v≤n) n 0 ⟨rfl,by omega⟩ rfl (fun _=>rfl) ?_ ?_
 . exact weak_b (fun _ _=>[(0,some 0),(1,some 1),(2,some 2),(3,some 3),(4,none)])
 rintro m v ⟨hm,hv⟩;have hat:=at_ok x.ids hids v;have hw2:=within_ok (gI x.ids v) 256 (by omega);have hr2:=within_range (gI x.ids v) (b:=256) (by omega);have hil:=idsF_len x.ids v;have hsn:idsF x.ids (v + 1) = idsF x.ids v ++ [freeF (idsF x.ids v) 256 (within (gI x.ids v) 256)]:=rfl;have htz:=try_zero hr2.1 (by omega);generalize within (gI x.ids v) 256 = id0 at *;generalize hL:idsF x.ids v = L at *
 repeat' ((conv=>whnf);first | (refine Br.dec ?_ ?_ <;> intro _ <;> try omega) | (refine hat.go ?_) | (refine hw2.go ?_))
 all_goals (conv=>whnf)
 . refine loop_r mixed [2,4,5,6,7] (fun p:Nat × Nat=>[(8,.int .i64 (tryI id0 p.1)),(9,.int .i64 p.2)]) (fun m p=>m = (256 - p.1) * 25 + (v - p.2)∧p.1≤256∧p.2≤v∧(∀ j,j < p.1→tryI id0 j∈L)∧(∀ j,j < p.2→gI L j≠tryI id0 p.1)∧freeF L (256 - p.1) (tryI id0 p.1) = freeF L 256 id0) _ (0,0) ⟨rfl,by omega,by omega,fun j hj=>(by omega),fun j hj=>(by omega),(by show freeF L 256 (tryI id0 0) = _;rw [htz])⟩ ?_ ?_
   . refine weak_by (fun _ _=>[(0,some 0),(1,some 1),(2,some 2),(3,some 3),(4,some 4)]) ?_ ?_ rfl
     . repeat' (first | exact VRen.int htz.symm | exact True.intro | (refine ⟨⟨_,rfl,?_⟩,?_⟩) | exact VRen.kf rfl | exact VRen.loc rfl)
     . repeat' (first | exact True.intro | (refine ⟨⟨_,rfl,?_⟩,?_⟩) | exact VRen.kf rfl | exact VRen.vec rfl rfl rfl | (refine ⟨Nat.le_refl _,rfl,fun i j hi hj=>?_⟩) | exact VLe.rfl | (refine And.intro ?_ ?_))
   rintro m ⟨k,u⟩ ⟨hm2,hk,hu,hall,hne,hfr⟩;simp only at hm2 hk hu hall hne hfr;have htr:0≤tryI id0 k∧tryI id0 k≤255:=by rw [tryI];omega
   have htn:(tryI id0 k + 1).tmod 256 = tryI id0 (k + 1):=by rw [Int.tmod_eq_emod_of_nonneg (by omega),tryI_next]
   generalize hT:tryI id0 k = T at *
   repeat' ((conv=>whnf);first | (refine Br.dec ?_ ?_ <;> intro _ <;> try omega) | (refine Br.nbeq ?_ ?_ <;> intro _ <;> try omega) | (refine Ar.i64 (by omega) (by omega) ?_) | (refine Sv.mk _ rfl ?_) | (refine Nz.mk (by omega) ?_) | (refine Ix.nat (by omega) ?_) | (refine Len.mk (by omega) ?_) | (refine Ltn.mk (by omega) ?_))
   all_goals (conv=>whnf)
   . rename_i h3 h4;have hin:T∈L:=by rw [← h4];exact gI_mem (by omega)
     have hk2:k < 256:=by
      rcases Nat.lt_or_ge k 256 with h | h
      . exact h
      . exact (free_ends (l:=L) (by omega) id0 (fun j hj=>hall j (by omega))).elim
     refine ⟨_,(k + 1,0),?_,⟨rfl,by omega,by omega,fun j hj=>?_,fun j hj=>(by omega),?_⟩,?_⟩
     . simp only;omega
     . simp only at hj;by_cases e:j = k
       . subst e;rw [hT];exact hin
       . exact hall j (by omega)
     . simp only;rw [← hfr,show 256 - k = (256 - (k + 1)) + 1 by omega,freeF,if_pos hin,← hT,tryI_next]
     . refine weak_by (fun _ _=>[(0,some 0),(1,some 1),(2,some 2),(3,some 3),(4,some 4)]) ?_ ?_ rfl
       . repeat' (first | exact VRen.int htn | exact True.intro | (refine ⟨⟨_,rfl,?_⟩,?_⟩) | exact VRen.kf rfl | exact VRen.loc rfl)
       . repeat' (first | exact True.intro | (refine ⟨⟨_,rfl,?_⟩,?_⟩) | exact VRen.kf rfl | exact VRen.vec rfl rfl rfl | (refine ⟨Nat.le_refl _,rfl,fun i j hi hj=>?_⟩) | exact VLe.rfl | (refine And.intro ?_ ?_))
   . rename_i h3 h4;refine ⟨_,(k,u + 1),?_,⟨rfl,hk,by omega,hall,fun j hj=>?_,by rw [hT];exact hfr⟩,?_⟩
     . simp only;omega
     . simp only at hj ⊢;rw [hT];by_cases e:j = u
       . subst e;simpa using h4
       . exact hne j (by omega)
     . refine weak_by (fun _ _=>[(0,some 0),(1,some 1),(2,some 2),(3,some 3),(4,some 4)]) ?_ ?_ rfl
       . repeat' (first | exact VRen.int hT.symm | exact True.intro | (refine ⟨⟨_,rfl,?_⟩,?_⟩) | exact VRen.kf rfl | exact VRen.loc rfl)
       . repeat' (first | exact True.intro | (refine ⟨⟨_,rfl,?_⟩,?_⟩) | exact VRen.kf rfl | exact VRen.vec rfl rfl rfl | (refine ⟨Nat.le_refl _,rfl,fun i j hi hj=>?_⟩) | exact VLe.rfl | (refine And.intro ?_ ?_))
   . have hno:T ∉ L:=fun h=>by
      obtain ⟨j,j1,j2⟩:=gI_get h;exact hne j (by omega) j2
     have hfin:freeF L 256 id0 = T:=by
      rw [← hfr];cases h:256 - k with
      | zero=>rfl
      | succ f=>rw [freeF,if_neg hno]
     rw [hfin] at hsn
     repeat' ((conv=>whnf);first | fail)
     all_goals (conv=>whnf)
     all_goals
      refine ⟨n - (v + 1),v + 1,by omega,⟨rfl,by omega⟩,?_⟩;simp only [hsn];refine weak_by (fun env own=>[(0,some 0),(1,some 1),(2,some 2),(3,some 3),(4,ckeyo own 3 0)]) ?_ ?_ rfl
      . repeat' (first | exact True.intro | (refine ⟨⟨_,rfl,?_⟩,?_⟩) | exact VRen.kf rfl | exact VRen.loc rfl)
      . repeat' (first | (refine ⟨Nat.le_refl _,rfl,fun i j hi hj=>?_⟩) | exact vle_appI _ _ _ hil _ _ hi hj | exact True.intro | (refine ⟨⟨_,rfl,?_⟩,?_⟩) | exact VRen.kf rfl | exact VRen.vec rfl rfl rfl | exact VLe.rfl | (refine And.intro ?_ ?_))
 . have e:v = n:=by omega
   subst e;exact postR_byV (fun v o=>[(0,vkey v 0),(1,vkey v 1)]) _ _ ⟨rfl,rfl⟩ (VRen.agg ⟨VRen.vec rfl rfl rfl,VRen.vec rfl rfl rfl,True.intro⟩) ⟨⟨_,rfl,Nat.le_refl _,rfl,fun _ _ _ _=>VLe.of_eq (by rw [hL])⟩,⟨_,rfl,Nat.le_refl _,rfl,fun i j hi hj=>VLe.of_eq (by obtain rfl:j = 0:=(by omega);rfl)⟩,True.intro⟩ rfl
theorem mem_gR {p:Ps} {r:List (Int × Int)} (h:r∈p):∃ u,gR p u = r:=by
 obtain ⟨i,hi,e⟩:=List.mem_iff_getElem.1 h;exact ⟨i,by simp [gR,List.getD,hi,e]⟩
theorem small_of {g:G} (h1:g.ids.length≤1000) (h2:g.ports.length≤1000) (h3:∀ u,(gR g.ports u).length≤1000):g.Small :=
 ⟨by omega,by omega,fun r hr=>by obtain ⟨u,rfl⟩:=mem_gR hr;have:=h3 u;omega⟩
theorem linkP_len (bk:Bool) (p:Ps) (a b:Nat) (w:Int):(linkP bk p a b w).length = p.length:=by
 rw [linkP];split <;> simp
theorem linkP_row (bk:Bool) (p:Ps) {a b:Nat} (w:Int) (ha:a < p.length) (hb:b < p.length) (u:Nat):(gR (linkP bk p a b w) u).length≤(gR p u).length + 1:=by
 rw [linkP];split
 . omega
 . rename_i h;have hab:¬ a = b:=fun e=>h (.inl e);have hl:∀ r l,(addP bk r l).length = r.length + 1:=fun r l=>by rw [addP];split <;> simp
   rw [gR_set _ b _ (by simpa using hb),gR_set p a _ ha];split
   . rename_i e;subst e;rw [hl];omega
   . split
     . rename_i e;subst e;rw [hl];omega
     . omega
def wgt (x:Net) (i:Nat):Int:=1 + within (gI x.weights i) 15
def treeP (x:Net) (n:Nat):Nat→Ps
 | 0=>List.replicate n []
 | k + 1=>linkP x.back (treeP x n k) (within (gI x.links k) ((k:Int) + 1)).toNat (k + 1) (wgt x k)
theorem treeP_len (x:Net) (n:Nat):∀ k,(treeP x n k).length = n
 | 0=>by simp [treeP]
 | k + 1=>by rw [treeP,linkP_len,treeP_len x n k]
theorem treeP_to (x:Net) (k:Nat):(within (gI x.links k) ((k:Int) + 1)).toNat < k + 1:=by
 have:=within_range (gI x.links k) (b:=(k:Int) + 1) (by omega);omega
theorem rep_row (n u:Nat):gR (List.replicate n []) u = []:=by
 simp only [gR,List.getD,List.getElem?_replicate];split <;> rfl
theorem treeP_row (x:Net) (n:Nat):∀ k,k < n→∀ u,(gR (treeP x n k) u).length≤k
 | 0,_,u=>by rw [treeP,rep_row];simp
 | k + 1,hk,u=>by
   have h1:=treeP_to x k;have h2:=linkP_row x.back (treeP x n k) (wgt x k) (a:=(within (gI x.links k) ((k:Int) + 1)).toNat) (b:=k + 1) (by rw [treeP_len];omega) (by rw [treeP_len];exact hk) u;have h3:=treeP_row x n k (by omega) u;rw [treeP];omega
abbrev netOwn (I:List Int) (p:Ps):Own:=gOwn ⟨I,p⟩
theorem vec_fam (ρ:Rn) (n:Nat):BRen ρ (.vec n 1 fun _ _=>.nilslice) (famP (List.replicate n [])):=⟨by simp,rfl,rfl,fun i hi=>⟨rfl,by rw [lenP,rep_row];rfl⟩⟩
theorem fam_fam (ρ:Rn) (p:Ps):BRen ρ (famP p) (famP p):=⟨rfl,rfl,True.intro,fun i hi=>rfl,fun i j t hi hn hj ht=>VLe.rfl⟩
set_option maxHeartbeats 8000000 in
theorem tree_ok (x:Net) (hx:x.Small) (most:Int) (h1:1≤most) (h2:most≤24) :
 CallF Tryz.prog 31 [x.v,.int .i64 most] [] KS fun v own' _=>v = gV1 (x.size most) (x.size most)∧own' = netOwn (idsF x.ids (x.size most)) (treeP x (x.size most) (x.size most - 1)):=by
 have hn:=nodes_ok x hx most h1 h2;have hsz:1≤x.size most∧x.size most≤24:=by
  have:=within_range x.n1 h1;rw [Net.size];omega
 have hll:=hx.links;have hwl:=hx.weights;generalize x.size most = n at *;have hil:=idsF_len x.ids n;refine call_post ?_;refine fn_rule mixed Tryz.func31 rfl hc31 hr31 rfl ?_
 repeat' ((conv=>whnf);first | (refine call_by [] [0,1] (hn.mono ?_) ⟨VRen.kf rfl,VRen.kf rfl,True.intro⟩ True.intro rfl;rintro _ _ _ ⟨rfl,rfl⟩) | (refine Chk.mk rfl ?_))
 all_goals (conv=>whnf)
 refine loop_u mixed [2,4,5] [3] [5,6,7,8,9,10,11,12,13,14,15,16,17,18,19,20,21,22,23,24,25,26,27,28,29] [4,2,3,1,0] (fun k:Nat=>[(6,.int .i64 ((k:Int) + 1))]) (fun own k=>updO own 3 (famP (treeP x n k))) (fun m k=>m = n - 1 - k∧k≤n - 1) (n - 1) 0 ⟨rfl,by omega⟩ rfl (fun _=>rfl) ?_ ?_
 . refine weak_by (fun _ _=>[(0,some 0),(1,some 1),(2,some 2),(3,some 3),(4,some 4)]) ?_ ?_ rfl
   . repeat' (first | exact True.intro | (refine ⟨⟨_,rfl,?_⟩,?_⟩) | exact VRen.kf rfl | exact VRen.loc rfl)
   . repeat' (first | exact vec_fam _ _ | exact True.intro | (refine ⟨⟨_,rfl,?_⟩,?_⟩) | exact VRen.kf rfl | exact VRen.vec rfl rfl rfl | (refine ⟨Nat.le_refl _,rfl,fun i j hi hj=>?_⟩) | exact VLe.rfl | (refine And.intro ?_ ?_))
 rintro m k ⟨hm,hk⟩;have hln:=treeP_len x n k;by_cases hkn:k < n - 1
 . have ha1:=at_ok x.links hll k;have ha2:=at_ok x.weights hwl k;have hw1:=within_ok (gI x.links k) ((k:Int) + 1) (by omega);have hw2:=within_ok (gI x.weights k) 15 (by omega);have hr1:=within_range (gI x.links k) (b:=(k:Int) + 1) (by omega);have hr2:=within_range (gI x.weights k) (b:=15) (by omega);have hrow:=treeP_row x n k (by omega);have hl:=link_ok x ⟨idsF x.ids n,treeP x n k⟩ (small_of (by show (idsF x.ids n).length≤_;omega) (by show (treeP x n k).length≤_;omega) (fun u=>by have:=hrow u;show (gR (treeP x n k) u).length≤_;omega)) (fun u=>by have:=hrow u;show (gR (treeP x n k) u).length≤_;omega) (within (gI x.links k) ((k:Int) + 1)).toNat (k + 1) (by show _ < (treeP x n k).length;omega) (by show _ < (treeP x n k).length;omega) (wgt x k);have hnx:linkP x.back (treeP x n k) (within (gI x.links k) ((k:Int) + 1)).toNat (k + 1) (wgt x k) = treeP x n (k + 1):=rfl;have hwg:wgt x k = 1 + within (gI x.weights k) 15:=rfl;simp only [hnx,hil,hln] at hl;generalize within (gI x.links k) ((k:Int) + 1) = a at *;generalize within (gI x.weights k) 15 = w at *
   repeat' ((conv=>whnf);first | (refine Ar.i64 (by omega) (by omega) ?_;rw [show (k:Int) + 1 - 1 = (k:Int) by omega]) | (refine Br.dec ?_ ?_ <;> intro _ <;> try omega) | (refine Ar.i64 (by omega) (by omega) ?_) | (refine ha1.go ?_) | (refine ha2.go ?_) | (refine hw1.go ?_) | (refine hw2.go ?_) | (refine And.intro rfl ?_) | (refine call_by [(0,some 2),(1,some 3)] [] (hl.mono ?_) ⟨VRen.kf rfl,VRen.agg ⟨VRen.vec rfl rfl rfl,VRen.vec rfl rfl rfl,True.intro⟩,VRen.int (by omega),VRen.int (by omega),VRen.int (by omega),True.intro⟩ ⟨⟨_,rfl,Nat.le_of_eq hil,rfl,fun _ _ _ _=>VLe.rfl⟩,⟨_,rfl,fam_fam _ _⟩,True.intro⟩ rfl;rintro _ _ _ ⟨rfl,rfl⟩) | (refine Chk.mk rfl ?_))
   all_goals (conv=>whnf)
   all_goals
    refine ⟨n - 1 - (k + 1),k + 1,by omega,⟨rfl,by omega⟩,?_⟩;refine weak_by (fun _ _=>[(0,some 0),(1,some 1),(2,some 2),(3,some 3),(4,some 4)]) ?_ ?_ rfl
    . repeat' (first | exact True.intro | (refine ⟨⟨_,rfl,?_⟩,?_⟩) | exact VRen.kf rfl | exact VRen.loc rfl)
    . repeat' (first | exact fam_fam _ _ | exact ⟨Nat.le_of_eq hil.symm,rfl,fun _ _ _ _=>VLe.rfl⟩ | exact True.intro | (refine ⟨⟨_,rfl,?_⟩,?_⟩) | exact VRen.kf rfl | exact VRen.vec rfl rfl rfl | (refine And.intro ?_ ?_))
 . have e:k = n - 1:=by omega
   subst e
   repeat' ((conv=>whnf);first | (refine Br.dec ?_ ?_ <;> intro _ <;> try omega))
   all_goals (conv=>whnf)
   exact postR_byV (fun v o=>[(0,vkey v 0),(1,vkey v 1)]) _ _ ⟨rfl,rfl⟩ (VRen.agg ⟨VRen.vec rfl rfl rfl,VRen.vec rfl rfl rfl,True.intro⟩) ⟨⟨_,rfl,Nat.le_of_eq hil,rfl,fun _ _ _ _=>VLe.rfl⟩,⟨_,rfl,fam_fam _ _⟩,True.intro⟩ rfl
def moreP (x:Net) (n:Nat) (p:Ps):Nat→Ps
 | 0=>p
 | k + 1=>linkP x.back (moreP x n p k) (within (gI x.links (n + 2 * k)) n).toNat (within (gI x.links (n + 2 * k + 1)) n).toNat (wgt x (n + 2 * k))
def moreN (x:Net) (n:Nat):Nat:=min ((x.links.length - n) / 2) ((61 - n) / 2)
theorem moreP_len (x:Net) (n:Nat) (p:Ps):∀ k,(moreP x n p k).length = p.length
 | 0=>rfl
 | k + 1=>by rw [moreP,linkP_len,moreP_len x n p k]
theorem within_lt {a:Int} {n:Nat} (hn:1≤n):(within a n).toNat < n:=by
 have:=within_range a (b:=(n:Int)) (by omega);omega
theorem moreP_row (x:Net) (n:Nat) (p:Ps) (hn:1≤n) (hp:p.length = n):∀ k u,(gR (moreP x n p k) u).length≤(gR p u).length + k
 | 0,u=>by rw [moreP];omega
 | k + 1,u=>by
   have h2:=linkP_row x.back (moreP x n p k) (wgt x (n + 2 * k)) (a:=(within (gI x.links (n + 2 * k)) n).toNat) (b:=(within (gI x.links (n + 2 * k + 1)) n).toNat) (by rw [moreP_len,hp];exact within_lt hn) (by rw [moreP_len,hp];exact within_lt hn) u;have h3:=moreP_row x n p hn hp k u;rw [moreP];omega
set_option maxHeartbeats 8000000 in
theorem more_ok (x:Net) (hx:x.Small) (I:List Int) (p:Ps) (n:Nat) (hn:1≤n) (hn2:n≤24) (hI:I.length = n) (hp:p.length = n) (hr:∀ u,(gR p u).length≤100) :
 CallF Tryz.prog 30 [x.v,gV1 n n] (netOwn I p) KS4 fun v own' _=>v = gV1 n n∧own' = netOwn I (moreP x n p (moreN x n)):=by
 have hll:=hx.links;have hwl:=hx.weights;have hN:moreN x n≤31∧∀ k,k < moreN x n↔(n + 2 * k + 1 < x.links.length∧n + 2 * k < 60):=by
  rw [moreN];exact ⟨by omega,fun k=>by omega⟩
 refine call_post ?_;refine fn_rule mixed Tryz.func30 rfl hc30 hr30 rfl ?_
 repeat' ((conv=>whnf);first | fail)
 all_goals (conv=>whnf)
 refine loop_u mixed [2,3,4,5] [] [5,6,7,8,9,10,11,12,13,14,15,16,17,18,19,20,21,22,23,24,25,26,27,28,29] [4,3,2,0,1] (fun k:Nat=>[(6,.int .i64 ((n:Int) + 2 * k))]) (fun own k=>updO own 1 (famP (moreP x n p k))) (fun m k=>m = moreN x n - k∧k≤moreN x n) (moreN x n) 0 ⟨rfl,by omega⟩ rfl (fun _=>rfl) ?_ ?_
 . refine weak_by (fun _ _=>[(0,some 0),(1,some 1),(2,some 2),(3,some 3),(4,some 4)]) ?_ ?_ rfl
   . repeat' (first | exact True.intro | (refine ⟨⟨_,rfl,?_⟩,?_⟩) | exact VRen.kf rfl | exact VRen.loc rfl)
   . repeat' (first | exact fam_fam _ _ | exact True.intro | (refine ⟨⟨_,rfl,?_⟩,?_⟩) | exact VRen.kf rfl | exact VRen.vec rfl rfl rfl | (refine ⟨Nat.le_refl _,rfl,fun i j hi hj=>?_⟩) | exact VLe.rfl | (refine And.intro ?_ ?_))
 rintro m k ⟨hm,hk⟩;have hln:=(moreP_len x n p k).trans hp;have hk2:=hN.2 k;by_cases hkn:k < moreN x n
 . obtain ⟨c1,c2⟩:=hk2.1 hkn;have ha2:=at_ok x.weights hwl (n + 2 * k);have hw1:=within_ok (gI x.links (n + 2 * k)) n (by omega);have hw3:=within_ok (gI x.links (n + 2 * k + 1)) n (by omega);have hw2:=within_ok (gI x.weights (n + 2 * k)) 15 (by omega);have hr1:=within_range (gI x.links (n + 2 * k)) (b:=n) (by omega);have hr3:=within_range (gI x.links (n + 2 * k + 1)) (b:=n) (by omega);have hr2:=within_range (gI x.weights (n + 2 * k)) (b:=15) (by omega);have hrow:∀ u,(gR (moreP x n p k) u).length≤1000:=fun u=>by have:=moreP_row x n p hn hp k u;have:=hr u;omega
   have hl:=link_ok x ⟨I,moreP x n p k⟩ (small_of (by show I.length≤_;omega) (by show (moreP x n p k).length≤_;omega) hrow) hrow (within (gI x.links (n + 2 * k)) n).toNat (within (gI x.links (n + 2 * k + 1)) n).toNat (by show _ < (moreP x n p k).length;omega) (by show _ < (moreP x n p k).length;omega) (wgt x (n + 2 * k));have hnx:linkP x.back (moreP x n p k) (within (gI x.links (n + 2 * k)) n).toNat (within (gI x.links (n + 2 * k + 1)) n).toNat (wgt x (n + 2 * k)) = moreP x n p (k + 1):=rfl;have hwg:wgt x (n + 2 * k) = 1 + within (gI x.weights (n + 2 * k)) 15:=rfl;simp only [hnx,hI,hln] at hl;have e2k:((n + 2 * k:Nat):Int) = (n:Int) + 2 * k:=by omega
   rw [e2k] at ha2
   repeat' ((conv=>whnf);first | (refine Ix.mk (n + 2 * k) (by omega) (by omega) ?_;try rw [Nat.zero_add]) | (refine Ix.mk (n + 2 * k + 1) (by omega) (by omega) ?_;try rw [Nat.zero_add]) | (refine Br.dec ?_ ?_ <;> intro _ <;> try omega) | (refine Ar.i64 (by omega) (by omega) ?_) | (refine ha2.go ?_) | (refine hw1.go ?_) | (refine hw3.go ?_) | (refine hw2.go ?_) | (refine And.intro rfl ?_) | (refine call_by [(0,some 0),(1,some 1)] [] (hl.mono ?_) ⟨VRen.kf rfl,VRen.agg ⟨VRen.vec rfl rfl rfl,VRen.vec rfl rfl rfl,True.intro⟩,VRen.int (by omega),VRen.int (by omega),VRen.int (by omega),True.intro⟩ ⟨⟨_,rfl,Nat.le_of_eq (by first | rfl | exact hI | exact hI.symm),rfl,fun _ _ _ _=>VLe.rfl⟩,⟨_,rfl,fam_fam _ _⟩,True.intro⟩ rfl;rintro _ _ _ ⟨rfl,rfl⟩) | (refine Chk.mk rfl ?_))
   all_goals (conv=>whnf)
   all_goals
    refine ⟨moreN x n - (k + 1),k + 1,by omega,⟨rfl,by omega⟩,?_⟩;refine weak_by (fun _ _=>[(0,some 0),(1,some 1),(2,some 2),(3,some 3),(4,some 4)]) ?_ ?_ rfl
    . repeat' (first | exact True.intro | (refine ⟨⟨_,rfl,?_⟩,?_⟩) | exact VRen.kf rfl | exact VRen.loc rfl)
    . repeat' (first | exact fam_fam _ _ | exact ⟨Nat.le_refl _,rfl,fun _ _ _ _=>VLe.rfl⟩ | exact True.intro | (refine ⟨⟨_,rfl,?_⟩,?_⟩) | exact VRen.kf rfl | exact VRen.vec rfl rfl rfl | (refine And.intro ?_ ?_))
 . have e:k = moreN x n:=by omega
   subst e;by_cases h1:n + 2 * moreN x n + 1 < x.links.length
   all_goals
    repeat' ((conv=>whnf);first | (refine Br.dec ?_ ?_ <;> intro _ <;> try omega) | (refine Ar.i64 (by omega) (by omega) ?_))
    all_goals (conv=>whnf)
    all_goals exact postR_byV (fun v o=>[(0,vkey v 0),(1,vkey v 1)]) _ _ ⟨rfl,rfl⟩ (VRen.agg ⟨VRen.vec rfl rfl rfl,VRen.vec rfl rfl rfl,True.intro⟩) ⟨⟨_,rfl,Nat.le_refl _,rfl,fun _ _ _ _=>VLe.rfl⟩,⟨_,rfl,fam_fam _ _⟩,True.intro⟩ rfl
theorem size_ok (x:Net) {most:Int} (h1:1≤most):1≤x.size most∧(x.size most:Int)≤most:=by
 have:=within_range x.n1 h1;rw [Net.size];omega
def Net.con (x:Net) (most:Int):G:=⟨idsF x.ids (x.size most),moreP x (x.size most) (treeP x (x.size most) (x.size most - 1)) (moreN x (x.size most))⟩
def Net.any (x:Net) (most:Int):G:=if x.apart then ⟨idsF x.ids (x.size most),moreP x (x.size most) (List.replicate (x.size most) []) (moreN x (x.size most))⟩ else x.con most
theorem view_g {g:G} {n:Nat} (h1:g.ids.length = n) (h2:g.ports.length = n):VLe (V.agg [.fz n 1 false (shiftF 0 (vI g.ids)),.fz n 1 false fun i _=>.fz (lenP g.ports i) 2 false (rowP g.ports i)]) g.v:=by
 refine VLe.agg ⟨?_,?_,True.intro⟩
 . exact VLe.fz h1.symm (fun h=>h) (fun i j hi hj=>VLe.of_eq (by simp [shiftF]))
 . exact VLe.fz h2.symm (fun h=>h) (fun i j hi hj=>VLe.rfl)
theorem ret_g {g:G} {n:Nat} (h1:g.ids.length = n) (h2:g.ports.length = n):frzT (gOwn g) (gV1 n n) fun v=>VLe v g.v :=
 ⟨by rw [Nat.zero_add,h1];exact Nat.le_refl _,Nat.le_of_eq h2.symm,view_g h1 h2⟩
set_option maxHeartbeats 8000000 in
theorem connected_call (x:Net) (hx:x.Small) (most:Int) (h1:1≤most) (h2:most≤24) :
 CallF Tryz.prog 8 [x.v,.int .i64 most] [] KS fun v own' _=>v = gV1 (x.size most) (x.size most)∧own' = gOwn (x.con most):=by
 have ht:=tree_ok x hx most h1 h2;have hsz:=size_ok x h1;have hm:=more_ok x hx (idsF x.ids (x.size most)) (treeP x (x.size most) (x.size most - 1)) (x.size most) hsz.1 (by omega) (idsF_len _ _) (treeP_len _ _ _) (fun u=>by have:=treeP_row x (x.size most) (x.size most - 1) (by omega) u;omega);refine call_post ?_;refine fn_rule mixed Tryz.func8 rfl hc8 hr8 rfl ?_
 repeat' ((conv=>whnf);first | (refine call_by [] [0,1] (ht.mono ?_) ⟨VRen.kf rfl,VRen.kf rfl,True.intro⟩ True.intro rfl;rintro _ _ _ ⟨rfl,rfl⟩) | (refine call_by [(0,some 2),(1,some 3)] [] (hm.mono ?_) ⟨VRen.kf rfl,VRen.agg ⟨VRen.vec rfl rfl rfl,VRen.vec rfl rfl rfl,True.intro⟩,True.intro⟩ ⟨⟨_,rfl,Nat.le_refl _,rfl,fun _ _ _ _=>VLe.rfl⟩,⟨_,rfl,fam_fam _ _⟩,True.intro⟩ rfl;rintro _ _ _ ⟨rfl,rfl⟩) | (refine Chk.mk rfl ?_) | (refine And.intro rfl ?_))
 all_goals (conv=>whnf)
 exact postR_byV (fun v o=>[(0,vkey v 0),(1,vkey v 1)]) _ _ ⟨rfl,rfl⟩ (VRen.agg ⟨VRen.vec rfl rfl rfl,VRen.vec rfl rfl rfl,True.intro⟩) ⟨⟨_,rfl,Nat.le_refl _,rfl,fun _ _ _ _=>VLe.rfl⟩,⟨_,rfl,fam_fam _ _⟩,True.intro⟩ rfl
theorem con_len (x:Net) (most:Int):(x.con most).ids.length = x.size most∧(x.con most).ports.length = x.size most:=⟨idsF_len _ _,(moreP_len _ _ _ _).trans (treeP_len _ _ _)⟩
theorem connected_ok (x:Net) (hx:x.Small) (most:Int) (h1:1≤most) (h2:most≤24):Ret Tryz.prog 8 [x.v,.int .i64 most] (x.con most).v:=by
 refine ret_frz rfl ((connected_call x hx most h1 h2).mono ?_);rintro _ _ _ ⟨rfl,rfl⟩;exact ret_g (con_len x most).1 (con_len x most).2
structure PV (p:Ps):Prop where
 ok:∀ v,v < p.length→okR p.length v (gR p v) = true
 sym:∀ v,v < p.length→∀ l∈gR p v,((v:Int),l.2)∈gR p l.1.toNat
theorem mem_addP {bk:Bool} {r:List (Int × Int)} {x l:Int × Int}:l∈addP bk r x↔l = x∨l∈r:=by
 rw [addP];split
 . simp
 . simp only [List.mem_append,List.mem_singleton];exact ⟨Or.symm,Or.symm⟩
theorem nodup_addP {bk:Bool} {r:List (Int × Int)} {x:Int × Int} (h:(r.map (·.1)).Nodup) (hx:∀ l∈r,l.1≠x.1):((addP bk r x).map (·.1)).Nodup:=by
 have hn:x.1 ∉ r.map (·.1):=fun hm=>by
  obtain ⟨l,h1,h2⟩:=List.mem_map.1 hm;exact hx l h1 h2
 rw [addP];split
 . rw [List.map_cons,List.nodup_cons];exact ⟨hn,h⟩
 . rw [List.map_append,List.nodup_append];refine ⟨h,by simp,fun a ha b hb e=>hn ?_⟩;have:b = x.1:=by simpa using hb
   rw [← this,← e];exact ha
theorem pv_rep (n:Nat):PV (List.replicate n []):=⟨fun v _=>by rw [rep_row];rfl,fun v _ l hl=>by rw [rep_row] at hl;cases hl⟩
theorem pv_link {bk:Bool} {p:Ps} (h:PV p) {a b:Nat} {w:Int} (ha:a < p.length) (hb:b < p.length) (hw:1≤w∧w≤15):PV (linkP bk p a b w):=by
 have hlen:=linkP_len bk p a b w;rw [linkP] at hlen ⊢;split
 . exact h
 . rename_i hc;rw [if_neg hc] at hlen;have hab:a≠b:=fun e=>hc (.inl e);have hnl:∀ l∈gR p a,l.1≠b:=fun l hl e=>hc (.inr (by rw [lnk,List.any_eq_true];exact ⟨l,hl,by simpa using e⟩));have hnl2:∀ l∈gR p b,l.1≠a:=fun l hl e=>by
    have:=h.sym b hb l hl;rw [e] at this;exact hnl _ this rfl
   have hg:∀ v,gR ((p.set a (addP bk (gR p a) ((b:Int),w))).set b (addP bk (gR p b) ((a:Int),w))) v = if v = b then addP bk (gR p b) ((a:Int),w) else if v = a then addP bk (gR p a) ((b:Int),w) else gR p v:=fun v=>by
    rw [gR_set _ b _ (by simpa using hb),gR_set p a _ ha]
   constructor
   . intro v hv;rw [hlen] at hv ⊢;rw [hg];split
     . rename_i e;subst e;obtain ⟨o1,o2⟩:=okR_iff.1 (h.ok v hv);refine okR_iff.2 ⟨fun l hl=>?_,nodup_addP o2 hnl2⟩;rcases mem_addP.1 hl with rfl | hl
       . simp only;omega
       . exact o1 l hl
     . split
       . rename_i e;subst e;obtain ⟨o1,o2⟩:=okR_iff.1 (h.ok v hv);refine okR_iff.2 ⟨fun l hl=>?_,nodup_addP o2 hnl⟩;rcases mem_addP.1 hl with rfl | hl
         . simp only;omega
         . exact o1 l hl
       . exact h.ok v hv
   . intro v hv l hl;rw [hlen] at hv;have old:∀ u x,x∈gR p u→x∈gR ((p.set a (addP bk (gR p a) ((b:Int),w))).set b (addP bk (gR p b) ((a:Int),w))) u:=fun u x hx=>by
      rw [hg];split
      . rename_i e;subst e;exact mem_addP.2 (.inr hx)
      . split
        . rename_i e;subst e;exact mem_addP.2 (.inr hx)
        . exact hx
     rw [hg] at hl;split at hl
     . rename_i e;subst e;rcases mem_addP.1 hl with rfl | hl
       . simp only [Int.toNat_natCast];rw [hg,if_neg hab,if_pos rfl];exact mem_addP.2 (.inl rfl)
       . exact old _ _ (h.sym v hv l hl)
     . split at hl
       . rename_i e;subst e;rcases mem_addP.1 hl with rfl | hl
         . simp only [Int.toNat_natCast];rw [hg,if_pos rfl];exact mem_addP.2 (.inl rfl)
         . exact old _ _ (h.sym v hv l hl)
       . exact old _ _ (h.sym v hv l hl)
theorem wgt_ok (x:Net) (i:Nat):1≤wgt x i∧wgt x i≤15:=by
 have:=within_range (gI x.weights i) (b:=15) (by omega);rw [wgt];omega
theorem pv_tree (x:Net) (n:Nat):∀ k,k < n→PV (treeP x n k)
 | 0,_=>pv_rep n
 | k + 1,hk=>by
   have h1:=treeP_to x k;rw [treeP];exact pv_link (pv_tree x n k (by omega)) (by rw [treeP_len];omega) (by rw [treeP_len];exact hk) (wgt_ok x k)
theorem pv_more (x:Net) {n:Nat} (hn:1≤n) {p:Ps} (hp:p.length = n) (h:PV p):∀ k,PV (moreP x n p k)
 | 0=>h
 | k + 1=>by
   rw [moreP];exact pv_link (pv_more x hn hp h k) (by rw [moreP_len,hp];exact within_lt hn) (by rw [moreP_len,hp];exact within_lt hn) (wgt_ok x _)
theorem valid_of {I:List Int} {p:Ps} {n:Nat} (h1:1≤n) (h2:n≤24) (hI:I.length = n) (hp:p.length = n) (h3:∀ a∈I,0≤a∧a≤255) (h4:I.Nodup) (h:PV p):(⟨I,p⟩:G).valid = true:=by
 rw [G.valid,Bool.and_eq_true,Bool.and_eq_true,decide_eq_true_eq];refine ⟨⟨by show 1≤I.length;omega,by show I.length≤24;omega,by show p.length = I.length;omega⟩,(idsOk_iff _).2 ⟨h3,h4⟩,?_⟩;rw [portsOk,Bool.and_eq_true];exact ⟨rowsOk_iff.2 h.ok,symOk_iff.2 h.sym⟩
theorem con_valid (x:Net) {most:Int} (h1:1≤most) (h2:most≤24):(x.con most).valid = true:=by
 have hs:=size_ok x h1;have hi:=idsF_ok x.ids (x.size most) (by omega);exact valid_of hs.1 (by omega) (con_len x most).1 (con_len x most).2 hi.1 hi.2 (pv_more x hs.1 (treeP_len _ _ _) (pv_tree x _ _ (by omega)) _)
theorem valid_small {g:G} (h:g.valid = true):g.Small:=by
 obtain ⟨f1,f2,f3,f4,f5,f6,f7⟩:=val_facts h;refine small_of (by omega) (by omega) (fun u=>?_);by_cases hu:u < g.ports.length
 . have:=okR_len hu (f6 u hu);omega
 . have:gR g.ports u = []:=by simp [gR,List.getD,List.getElem?_eq_none (Nat.le_of_not_lt hu)]
   rw [this];simp
theorem linkP_get {bk:Bool} {p:Ps} {a b:Nat} {w:Int} (ha:a < p.length) (hb:b < p.length) (hc:¬ (a = b∨lnk p a b = true)) (v:Nat) :
 gR (linkP bk p a b w) v = if v = b then addP bk (gR p b) ((a:Int),w) else if v = a then addP bk (gR p a) ((b:Int),w) else gR p v:=by
 rw [linkP,if_neg hc,gR_set _ b _ (by simpa using hb),gR_set p a _ ha]
theorem linkP_keep {bk:Bool} {p:Ps} {a b:Nat} {w:Int} (ha:a < p.length) (hb:b < p.length) {v:Nat} {l:Int × Int} (hl:l∈gR p v):l∈gR (linkP bk p a b w) v:=by
 by_cases hc:a = b∨lnk p a b = true
 . rw [linkP,if_pos hc];exact hl
 . rw [linkP_get ha hb hc];split
   . rename_i e;subst e;exact mem_addP.2 (.inr hl)
   . split
     . rename_i e;subst e;exact mem_addP.2 (.inr hl)
     . exact hl
theorem linkP_new {bk:Bool} {p:Ps} (h:PV p) {a b:Nat} {w:Int} (ha:a < p.length) (hb:b < p.length) (hab:a≠b):∃ l∈gR (linkP bk p a b w) b,l.1 = (a:Int):=by
 by_cases hc:lnk p a b = true
 . rw [linkP,if_pos (.inr hc)];rw [lnk,List.any_eq_true] at hc;obtain ⟨l,hl,e⟩:=hc;have e:l.1 = (b:Int):=by simpa using e
   have:=h.sym a ha l hl;rw [e,Int.toNat_natCast] at this;exact ⟨_,this,rfl⟩
 . rw [linkP_get ha hb (by rintro (e | e);exact hab e;exact hc e),if_pos rfl];exact ⟨_,mem_addP.2 (.inl rfl),rfl⟩
def Anc (p:Ps) (k:Nat):Prop:=∀ v,1≤v→v≤k→∃ l∈gR p v,l.1.toNat < v
theorem anc_tree (x:Net) (n:Nat):∀ k,k < n→Anc (treeP x n k) k
 | 0,_=>fun v h1 h2=>by omega
 | k + 1,hk=>by
   intro v h1 h2;have ht:=treeP_to x k;have hpv:=pv_tree x n k (by omega);have hl:=treeP_len x n k;rw [treeP];by_cases e:v = k + 1
   . subst e;obtain ⟨l,hl1,e⟩:=linkP_new (bk:=x.back) (w:=wgt x k) hpv (a:=(within (gI x.links k) ((k:Int) + 1)).toNat) (b:=k + 1) (by omega) (by omega) (by omega);exact ⟨l,hl1,by rw [e,Int.toNat_natCast];exact ht⟩
   . obtain ⟨l,hl1,e2⟩:=anc_tree x n k (by omega) v h1 (by omega);exact ⟨l,linkP_keep (by omega) (by omega) hl1,e2⟩
theorem anc_more (x:Net) {n:Nat} (hn:1≤n) {p:Ps} (hp:p.length = n) {m:Nat} (h:Anc p m):∀ k,Anc (moreP x n p k) m
 | 0=>h
 | k + 1=>by
   intro v h1 h2;obtain ⟨l,hl,e⟩:=anc_more x hn hp h k v h1 h2;rw [moreP];exact ⟨l,linkP_keep (by rw [moreP_len,hp];exact within_lt hn) (by rw [moreP_len,hp];exact within_lt hn) hl,e⟩
theorem conn_of {g:G} (hg:g.valid = true) (ha:∀ v,1≤v→v < g.ports.length→∃ l∈gR g.ports v,l.1.toNat < v):g.conn = true:=by
 obtain ⟨f1,f2,f3,f4,f5,f6,f7⟩:=val_facts hg;have hF:=dst_found hg;have hu:=und_of hg;have key:∀ m v,v < m→v < g.ports.length→0≤gI (dst g 0) v:=by
  intro m
  induction m with
  | zero=>intro v h;omega
  | succ m ih =>
    intro v hm hv;by_cases h0:v = 0
    . subst h0;have:=hF.from_;have this:gI (dst g 0) 0 = 0:=this;omega
    . obtain ⟨l,hl,e⟩:=ha v (by omega) hv;have h1:=ih l.1.toNat (by omega) (by omega);obtain ⟨m',hm',em⟩:=hu.sym v hv l hl;have:=(hF.on l.1.toNat (by omega) h1 m' hm').1;rw [em] at this;exact this
 rw [G.conn,hg,Bool.true_and,negB_no.2 (fun a ham=>?_)]
 . rfl
 . obtain ⟨i,hi,e⟩:=List.mem_iff_getElem.1 ham;have:=key (i + 1) i (by omega) (by rw [dst_len] at hi;exact hi);rw [← e];simpa [gI,hi] using this
theorem con_conn (x:Net) {most:Int} (h1:1≤most) (h2:most≤24):(x.con most).conn = true:=by
 have hs:=size_ok x h1;refine conn_of (con_valid x h1 h2) fun v hv1 hv=>?_;rw [(con_len x most).2] at hv;exact anc_more x hs.1 (treeP_len _ _ _) (anc_tree x (x.size most) (x.size most - 1) (by omega)) _ v hv1 (by omega)
end Go.Proofs.YtgajaabakpfbbaaGreatDoor
