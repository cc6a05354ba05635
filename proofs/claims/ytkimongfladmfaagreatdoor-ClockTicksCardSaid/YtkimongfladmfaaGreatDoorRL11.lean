import Derived.Test.YtkimongfladmfaaGreatDoorDN11
import Derived.Test.YtkimongfladmfaaGreatDoorEvG
import Derived.Test.YtkimongfladmfaaGreatDoorEvB
import Derived.Test.YtkimongfladmfaaGreatDoorTKP
import Derived.Test.YtkimongfladmfaaGreatDoorCK2
namespace Go.Proofs.YtkimongfladmfaaGreatDoor
open Go.Eng
set_option maxRecDepth 100000
set_option linter.unusedVariables false
theorem len_le:∀ {l m:List Int},l.Nodup→(∀ a∈l,a∈m)→l.length≤m.length
 | [],m,_,_=>Nat.zero_le _
 | a :: l,m,hn,hs=>by
   rw [List.nodup_cons] at hn;have ham:=hs a (by simp);have h1:=len_le (l:=l) (m:=m.erase a) hn.2 (fun b hb=>(List.mem_erase_of_ne (fun e=>hn.1 (by rw [← e];exact hb))).2 (hs b (by simp [hb])));have h2:=List.length_erase_of_mem ham;have h3:=List.length_pos_of_mem ham;simp only [List.length_cons];omega
def freeF (l:List Int):Nat→Int→Int
 | 0,i=>i
 | f + 1,i=>if i∈l then freeF l f ((i + 1) % 256) else i
def tryI (i:Int) (k:Nat):Int:=(i + k) % 256
theorem tryI_next {i:Int} {k:Nat}:(tryI i k + 1) % 256 = tryI i (k + 1):=by rw [tryI,tryI];omega
theorem free_ends {l:List Int} (hl:l.length < 256) (i:Int):¬ ∀ j,j < 256→tryI i j∈l:=by
 intro h;have h1:((List.range 256).map (tryI i)).Nodup:=by
  rw [List.nodup_iff_pairwise_ne,List.pairwise_map];refine List.Pairwise.imp_of_mem ?_ List.nodup_range;intro a b ha hb hne e;rw [List.mem_range] at ha hb;rw [tryI,tryI] at e;omega
 have h2:=len_le h1 (fun a ha=>by
  obtain ⟨j,hj,rfl⟩:=List.mem_map.1 ha;exact h j (List.mem_range.1 hj))
 simp at h2;omega
def idsF (x:List Int):Nat→List Int
 | 0=>[]
 | v + 1=>idsF x v ++ [freeF (idsF x v) 256 (within (gI x v) 256)]
theorem idsF_len (x:List Int):∀ v,(idsF x v).length = v
 | 0=>rfl
 | v + 1=>by rw [idsF,List.length_append,idsF_len x v];rfl
theorem within_range (a:Int) {b:Int} (hb:1≤b):0≤within a b∧within a b < b:=by
 have h1:=Int.tmod_lt_of_pos a (show (0:Int) < b by omega);have h2:=Int.tmod_lt_of_pos (-a) (show (0:Int) < b by omega);rw [Int.neg_tmod] at h2;rw [within,if_neg (by omega)];split <;> omega
theorem free_spec {l:List Int} {i:Int} (h0:0≤i) (h1:i≤255):∀ f k,k + f = 256→(∀ j,j < k→tryI i j∈l)→l.length < 256→0≤freeF l f (tryI i k)∧freeF l f (tryI i k)≤255∧freeF l f (tryI i k) ∉ l
 | 0,k,hk,hall,hl=>(free_ends hl i (fun j hj=>hall j (by omega))).elim
 | f + 1,k,hk,hall,hl=>by
   rw [freeF];split
   . rename_i hm;rw [tryI_next];exact free_spec h0 h1 f (k + 1) (by omega) (fun j hj=>by
      by_cases e:j = k
      . subst e;exact hm
      . exact hall j (by omega)) hl
   . rename_i hm;refine ⟨?_,?_,hm⟩ <;> (rw [tryI];omega)
theorem try_zero {i:Int} (h0:0≤i) (h1:i≤255):tryI i 0 = i:=by rw [tryI];omega
theorem idsF_ok (x:List Int):∀ v,v≤255→(∀ a∈idsF x v,0≤a∧a≤255)∧(idsF x v).Nodup
 | 0,_=>⟨fun a h=>(by simp [idsF] at h),by simp [idsF]⟩
 | v + 1,hv=>by
   obtain ⟨i1,i2⟩:=idsF_ok x v (by omega);have hw:=within_range (gI x v) (b:=256) (by omega);have hf:=free_spec (l:=idsF x v) (i:=within (gI x v) 256) hw.1 (by omega) 256 0 rfl (fun j hj=>by omega) (by rw [idsF_len];omega);rw [try_zero hw.1 (by omega)] at hf;rw [idsF];refine ⟨fun a ha=>?_,?_⟩
   . rcases List.mem_append.1 ha with h | h
     . exact i1 a h
     . have:a = freeF (idsF x v) 256 (within (gI x v) 256):=by simpa using h
       rw [this];exact ⟨hf.1,hf.2.1⟩
   . rw [List.nodup_append];refine ⟨i2,by simp,fun a ha b hb e=>?_⟩;have:b = freeF (idsF x v) 256 (within (gI x v) 256):=by simpa using hb
     rw [← this,← e] at hf;exact hf.2.2 ha
def ownN (x:Net) (n:Nat):Own:=[(0,.vec n 1 (vI (idsF x.ids n))),(1,.vec n 1 fun _ _=>.nilslice)]
def Net.n1 (x:Net):Int:=IntKind.i64.wrap (x.n - 1)
def Net.size (x:Net) (most:Int):Nat:=(1 + within x.n1 most).toNat
theorem getD_snocI (l:List Int) (a:Int) (i:Nat):gI (l ++ [a]) i = if i < l.length then gI l i else if i = l.length then a else 0:=by
 by_cases h:i < l.length
 . simp only [gI,List.getD,List.getElem?_append_left h,if_pos h]
 . rw [if_neg h];by_cases h2:i = l.length
   . subst h2;simp [gI]
   . simp [gI,h2,List.getElem?_eq_none (by simp;omega:(l ++ [a]).length≤i)]
theorem vle_appI (l:List Int) (a:Int) (n:Nat) (hn:l.length = n) (i j:Nat) (hi:i < n + 1) (hj:j < 1) :
 VLe (fapp (shiftF 0 (vI l)) n (shiftF 0 (tab [[.int .i64 a]])) i j) (vI (l ++ [a]) i j):=by
 apply VLe.of_eq;subst hn;by_cases h:i < l.length
 . rw [fapp_lt h];simp only [shiftF,vI,getD_snocI,if_pos h]
 . rw [fapp_ge h];have:i = l.length:=by omega
   subst this;obtain rfl:j = 0:=by omega
   simp [shiftF,vI,getD_snocI,tab]
set_option maxHeartbeats 8000000 in
theorem nodes_ok (x:Net) (hx:x.Small) (most:Int) (h1:1≤most) (h2:most≤24) :
 CallF Tryz.prog 35 [x.v,.int .i64 most] [] KS fun v own' _=>v = gV1 (x.size most) (x.size most)∧own' = ownN x (x.size most):=by
 have hw:=within_ok x.n1 most (by omega);have hwr:=within_range x.n1 h1;have hn:1 + within x.n1 most = (x.size most:Nat):=by rw [Net.size];omega
 have hsz:1≤x.size most∧x.size most≤24:=by omega
 have hids:=hx.ids;generalize x.size most = n at *;refine call_post ?_;refine fn_rule mixed Tryz.func35 rfl hc35 hr35 rfl ?_
 repeat' ((conv=>whnf);first | (refine Ar.mk x.n1 rfl ?_) | (refine Ar.i64 (by omega) (by omega) ?_;rw [hn]) | (refine Bd.nat (by omega) ?_) | (refine Len.mk (by omega) ?_) | (refine MkS.vec ?_) | (refine hw.go ?_))
 all_goals (conv=>whnf)
 refine loop_u mixed [2,4,5,6] [4] [5,6,7,8,9,10,11,12,13,14,15,16,17,18,19,20,21,22,23,24,25,26,27,28,29] [4,3,2,1,0] (fun v:Nat=>[(7,.int .i64 v)]) (fun own v=>(4,.vec v 1 (vI (idsF x.ids v))) :: updO own 3 (.cells [.vec 4 1 0 v,.vec 2 1 0 n])) (fun m v=>m = n - v∧v≤n) n 0 ⟨rfl,by omega⟩ rfl (fun _=>rfl) ?_ ?_
 . exact weak_b (fun _ _=>[(0,some 0),(1,some 1),(2,some 2),(3,some 3),(4,none)])
 rintro m v ⟨hm,hv⟩;have hat:=at_ok x.ids hids v;have hw2:=within_ok (gI x.ids v) 256 (by omega);have hr2:=within_range (gI x.ids v) (b:=256) (by omega);have hil:=idsF_len x.ids v;have hsn:idsF x.ids (v + 1) = idsF x.ids v ++ [freeF (idsF x.ids v) 256 (within (gI x.ids v) 256)]:=rfl;have htz:=try_zero hr2.1 (by omega);generalize within (gI x.ids v) 256 = id0 at *;generalize hL:idsF x.ids v = L at *
 repeat' ((conv=>whnf);first | (refine Br.dec ?_ ?_ <;> intro _ <;> try omega) | (refine hat.go ?_) | (refine hw2.go ?_))
 all_goals (conv=>whnf)
 . refine loop_r mixed [2,4,5,6,7] (fun p:Nat × Nat=>[(8,.int .i64 (tryI id0 p.1)),(9,.int .i64 p.2)]) (fun m p=>m = (256 - p.1) * 25 + (v - p.2)∧p.1≤256∧p.2≤v∧(∀ j,j < p.1→tryI id0 j∈L)∧(∀ j,j < p.2→gI L j≠tryI id0 p.1)∧freeF L (256 - p.1) (tryI id0 p.1) = freeF L 256 id0) _ (0,0) ⟨rfl,by omega,by omega,fun j hj=>(by omega),fun j hj=>(by omega),(by show freeF L 256 (tryI id0 0) = _;rw [htz])⟩ ?_ ?_
   . refine weak_by (fun _ _=>[(0,some 0),(1,some 1),(2,some 2),(3,some 3),(4,some 4)]) ?_ ?_ rfl
     . repeat' (first | exact VRen.int htz.symm | exact True.intro | (refine ⟨⟨_,rfl,?_⟩,?_⟩) | exact VRen.kf rfl | exact VRen.loc rfl)
     . repeat' (first | exact True.intro | (refine ⟨⟨_,rfl,?_⟩,?_⟩) | exact VRen.kf rfl | exact VRen.vec rfl rfl rfl | (refine ⟨Nat.le_refl _,rfl,fun i j hi hj=>?_⟩) | exact VLe.rfl | (refine And.intro ?_ ?_))
   rintro m ⟨k,u⟩ ⟨hm2,hk,hu,hall,hne,hfr⟩;simp only at hm2 hk hu hall hne hfr;have htr:0≤tryI id0 k∧tryI id0 k≤255:=by rw [tryI];omega
   have htn:(tryI id0 k + 1).tmod 256 = tryI id0 (k + 1):=by rw [Int.tmod_eq_emod_of_nonneg (by omega),tryI_next]
   generalize hT:tryI id0 k = T at *
   repeat' ((conv=>whnf);first | (refine Br.dec ?_ ?_ <;> intro _ <;> try omega) | (refine Br.nbeq ?_ ?_ <;> intro _ <;> try omega) | (refine Ar.i64 (by omega) (by omega) ?_) | (refine Sv.mk _ rfl ?_) | (refine Nz.mk (by omega) ?_) | (refine Ix.nat (by omega) ?_) | (refine Len.mk (by omega) ?_) | (refine Ltn.mk (by omega) ?_))
   all_goals (conv=>whnf)
   . rename_i h3 h4;have hin:T∈L:=by rw [← h4];exact gI_mem (by omega)
     have hk2:k < 256:=by
      rcases Nat.lt_or_ge k 256 with h | h
      . exact h
      . exact (free_ends (l:=L) (by omega) id0 (fun j hj=>hall j (by omega))).elim
     refine ⟨_,(k + 1,0),?_,⟨rfl,by omega,by omega,fun j hj=>?_,fun j hj=>(by omega),?_⟩,?_⟩
     . simp only;omega
     . simp only at hj;by_cases e:j = k
       . subst e;rw [hT];exact hin
       . exact hall j (by omega)
     . simp only;rw [← hfr,show 256 - k = (256 - (k + 1)) + 1 by omega,freeF,if_pos hin,← hT,tryI_next]
     . refine weak_by (fun _ _=>[(0,some 0),(1,some 1),(2,some 2),(3,some 3),(4,some 4)]) ?_ ?_ rfl
       . repeat' (first | exact VRen.int htn | exact True.intro | (refine ⟨⟨_,rfl,?_⟩,?_⟩) | exact VRen.kf rfl | exact VRen.loc rfl)
       . repeat' (first | exact True.intro | (refine ⟨⟨_,rfl,?_⟩,?_⟩) | exact VRen.kf rfl | exact VRen.vec rfl rfl rfl | (refine ⟨Nat.le_refl _,rfl,fun i j hi hj=>?_⟩) | exact VLe.rfl | (refine And.intro ?_ ?_))
   . rename_i h3 h4;refine ⟨_,(k,u + 1),?_,⟨rfl,hk,by omega,hall,fun j hj=>?_,by rw [hT];exact hfr⟩,?_⟩
     . simp only;omega
     . simp only at hj ⊢;rw [hT];by_cases e:j = u
       . subst e;simpa using h4
       . exact hne j (by omega)
     . refine weak_by (fun _ _=>[(0,some 0),(1,some 1),(2,some 2),(3,some 3),(4,some 4)]) ?_ ?_ rfl
       . repeat' (first | exact VRen.int hT.symm | exact True.intro | (refine ⟨⟨_,rfl,?_⟩,?_⟩) | exact VRen.kf rfl | exact VRen.loc rfl)
       . repeat' (first | exact True.intro | (refine ⟨⟨_,rfl,?_⟩,?_⟩) | exact VRen.kf rfl | exact VRen.vec rfl rfl rfl | (refine ⟨Nat.le_refl _,rfl,fun i j hi hj=>?_⟩) | exact VLe.rfl | (refine And.intro ?_ ?_))
   . have hno:T ∉ L:=fun h=>by
      obtain ⟨j,j1,j2⟩:=gI_get h;exact hne j (by omega) j2
     have hfin:freeF L 256 id0 = T:=by
      rw [← hfr];cases h:256 - k with
      | zero=>rfl
      | succ f=>rw [freeF,if_neg hno]
     rw [hfin] at hsn
     repeat' ((conv=>whnf);first | fail)
     all_goals (conv=>whnf)
     all_goals
      refine ⟨n - (v + 1),v + 1,by omega,⟨rfl,by omega⟩,?_⟩;simp only [hsn];refine weak_by (fun env own=>[(0,some 0),(1,some 1),(2,some 2),(3,some 3),(4,ckeyo own 3 0)]) ?_ ?_ rfl
      . repeat' (first | exact True.intro | (refine ⟨⟨_,rfl,?_⟩,?_⟩) | exact VRen.kf rfl | exact VRen.loc rfl)
      . repeat' (first | (refine ⟨Nat.le_refl _,rfl,fun i j hi hj=>?_⟩) | exact vle_appI _ _ _ hil _ _ hi hj | exact True.intro | (refine ⟨⟨_,rfl,?_⟩,?_⟩) | exact VRen.kf rfl | exact VRen.vec rfl rfl rfl | exact VLe.rfl | (refine And.intro ?_ ?_))
 . have e:v = n:=by omega
   subst e;exact postR_byV (fun v o=>[(0,vkey v 0),(1,vkey v 1)]) _ _ ⟨rfl,rfl⟩ (VRen.agg ⟨VRen.vec rfl rfl rfl,VRen.vec rfl rfl rfl,True.intro⟩) ⟨⟨_,rfl,Nat.le_refl _,rfl,fun _ _ _ _=>VLe.of_eq (by rw [hL])⟩,⟨_,rfl,Nat.le_refl _,rfl,fun i j hi hj=>VLe.of_eq (by obtain rfl:j = 0:=(by omega);rfl)⟩,True.intro⟩ rfl
theorem mem_gR {p:Ps} {r:List (Int × Int)} (h:r∈p):∃ u,gR p u = r:=by
 obtain ⟨i,hi,e⟩:=List.mem_iff_getElem.1 h;exact ⟨i,by simp [gR,List.getD,hi,e]⟩
theorem small_of {g:G} (h1:g.ids.length≤1000) (h2:g.ports.length≤1000) (h3:∀ u,(gR g.ports u).length≤1000):g.Small :=
 ⟨by omega,by omega,fun r hr=>by obtain ⟨u,rfl⟩:=mem_gR hr;have:=h3 u;omega⟩
def cfgE (g:G) (vs:List Vr) (raw:List Int) (v i:Nat):Int:=(bV g vs v i).1 + within (gI raw (v * vs.length + i)) ((bV g vs v i).2 - (bV g vs v i).1 + 1)
def cfgR (g:G) (vs:List Vr) (raw:List Int) (v k:Nat):List Int:=(List.range k).map (cfgE g vs raw v)
def cfgC (g:G) (vs:List Vr) (raw:List Int) (k:Nat):Cf:=(List.range k).map fun v=>cfgR g vs raw v vs.length
def cfg (g:G) (vs:List Vr) (raw:List Int):Cf:=cfgC g vs raw g.ports.length
theorem cfgR_len (g:G) (vs:List Vr) (raw:List Int) (v k:Nat):(cfgR g vs raw v k).length = k:=by simp [cfgR]
theorem cfgC_len (g:G) (vs:List Vr) (raw:List Int) (k:Nat):(cfgC g vs raw k).length = k:=by simp [cfgC]
theorem cfgR_succ (g:G) (vs:List Vr) (raw:List Int) (v k:Nat):cfgR g vs raw v (k + 1) = cfgR g vs raw v k ++ [cfgE g vs raw v k]:=by simp [cfgR,List.range_succ]
theorem cfgC_succ (g:G) (vs:List Vr) (raw:List Int) (k:Nat):cfgC g vs raw (k + 1) = cfgC g vs raw k ++ [cfgR g vs raw k vs.length]:=by simp [cfgC,List.range_succ]
theorem gC_snoc (c:Cf) (r:List Int) (i:Nat):gC (c ++ [r]) i = if i < c.length then gC c i else if i = c.length then r else []:=by
 by_cases h:i < c.length
 . simp only [gC,List.getD,List.getElem?_append_left h,if_pos h]
 . rw [if_neg h];by_cases h2:i = c.length
   . subst h2;simp [gC]
   . simp [gC,h2,List.getElem?_eq_none (by simp;omega:(c ++ [r]).length≤i)]
theorem vle_appC (c:Cf) (r:List Int) (n m:Nat) (hn:c.length = n) (hr:r.length = m) (F:Nat→Nat→V) (hF:F 0 0 = .fz m 1 false (shiftF 0 (vI r))) (i j:Nat) (hi:i < n + 1) (hj:j < 1) :
 VLe (fapp (shiftF 0 (vC c)) n F i j) (vC (c ++ [r]) i j):=by
 subst hn hr;obtain rfl:j = 0:=by omega
 by_cases h:i < c.length
 . rw [fapp_lt h];apply VLe.of_eq;simp only [shiftF,vC,gC_snoc,if_pos h]
 . rw [fapp_ge h];have:i = c.length:=by omega
   subst this;rw [Nat.sub_self,hF];simp only [vC,gC_snoc,Nat.lt_irrefl,if_false,if_true];exact VLe.fz rfl (fun h=>h) (fun i j hi hj=>VLe.of_eq (by simp [shiftF]))
theorem mul_bound {a b A B:Int} (h0:0≤a) (h1:a≤A) (h2:0≤b) (h3:b≤B):0≤a * b∧a * b≤A * B :=
 ⟨Int.mul_nonneg h0 h2,Int.mul_le_mul h1 h3 h2 (by omega)⟩
set_option maxHeartbeats 16000000 in
theorem config_ok (g:G) (hg:g.valid = true) (vs:List Vr) (hv:VOk vs) (hlo:∀ x,0≤(gV vs x).lo∧(gV vs x).lo≤1000) (raw:List Int) (hraw:raw.length≤9223372036854775807) :
 Ret Tryz.prog 10 [g.v,.fz vs.length 6 false (vV vs),.fz raw.length 1 false (vI raw)] (cV (cfg g vs raw)):=by
 obtain ⟨f1,f2,f3,f4,f5,f6,f7⟩:=val_facts hg;have htop0:=maxL_ge g.ids 0;have htop1:=maxL_le g.ids 0 255 (by omega) (fun a ha=>(f4 a ha).2);have hvl:=hv.len;refine ret_frz rfl ?_;refine fn_rule mixed Tryz.func10 rfl hc10 hr10 rfl ?_
 repeat' ((conv=>whnf);first | fail)
 all_goals (conv=>whnf)
 refine loop_r mixed [1,2,3,7] (fun i:Nat=>[(8,.int .i64 (maxL (g.ids.take i) 0)),(9,.int .i64 i)]) (fun m i=>m = g.ports.length - i∧i≤g.ports.length) g.ports.length 0 ⟨rfl,Nat.zero_le _⟩ ?_ ?_
 . exact weak_b (fun _ _=>[(0,some 0)])
 rintro m i ⟨hm,hi⟩
 repeat' ((conv=>whnf);first | (refine Br.dec ?_ ?_ <;> intro _ <;> try omega) | (refine Ar.i64 (by omega) (by omega) ?_) | (refine Sv.mk _ rfl ?_) | (refine Ix.nat (by omega) ?_))
 all_goals (conv=>whnf)
 all_goals try
  (refine ⟨g.ports.length - (i + 1),i + 1,by omega,⟨rfl,by omega⟩,?_⟩
   simp only [gI_take g.ids i (by omega),maxL_snoc];refine weak_by (fun _ _=>[(0,some 0)]) ?_ ?_ rfl
   . repeat' (first | exact VRen.int (by split <;> omega) | exact True.intro | (refine ⟨⟨_,rfl,?_⟩,?_⟩) | exact VRen.kf rfl | exact VRen.loc rfl)
   . repeat' (first | exact True.intro | (refine ⟨⟨_,rfl,?_⟩,?_⟩) | exact VRen.kf rfl | (refine And.intro ?_ ?_)))
 have hti:g.ids.take i = g.ids:=List.take_of_length_le (by omega);simp only [hti];clear hti hm hi;generalize htop:maxL g.ids 0 = top at *;refine loop_u mixed [1,2,3,7,8] [1] [2,3,4,5,6,7,8,9,10,11,12,13,14,15,16,17,18,19,20,21,22,23,24,25,26,27,28,29] [1,0] (fun v:Nat=>[(10,.vec 1 1 0 v),(11,.int .i64 v)]) (fun own v=>(1,.vec v 1 (vC (cfgC g vs raw v))) :: own) (fun m v=>m = g.ports.length - v∧v≤g.ports.length) g.ports.length 0 ⟨rfl,Nat.zero_le _⟩ rfl (fun _=>rfl) ?_ ?_
 . exact weak_b (fun _ _=>[(0,some 0),(1,none)])
 rintro m v ⟨hm,hvn⟩;have hcl:=cfgC_len g vs raw v
 repeat' ((conv=>whnf);first | (refine Br.dec ?_ ?_ <;> intro _ <;> try omega) | (refine Len.mk (by omega) ?_))
 all_goals (conv=>whnf)
 . refine loop_u mixed [1,2,3,7,8,10,11] [2] [3,4,5,6,7,8,9,10,11,12,13,14,15,16,17,18,19,20,21,22,23,24,25,26,27,28,29] [2,1,0] (fun i:Nat=>[(12,.vec 2 1 0 i),(13,.int .i64 i)]) (fun own i=>(2,.vec i 1 (vI (cfgR g vs raw v i))) :: own) (fun m i=>m = vs.length - i∧i≤vs.length) vs.length 0 ⟨rfl,Nat.zero_le _⟩ rfl (fun _=>rfl) ?_ ?_
   . exact weak_b (fun _ _=>[(0,some 0),(1,some 1),(2,none)])
   rintro m i ⟨hm2,hi⟩;have hrl:=cfgR_len g vs raw v i;by_cases hil:i < vs.length
   . obtain ⟨b1,b2,b3,b4,b5,b6⟩:=hv.b i;obtain ⟨l1,l2⟩:=hlo i;have m1:=mul_bound b3 b4 (show (0:Int)≤g.ports.length by omega) (show (g.ports.length:Int)≤24 by omega);have m2:=mul_bound b5 b6 (show (0:Int)≤top by omega) (show top≤255 by omega);have m3:=mul_bound (show (0:Int)≤v by omega) (show (v:Int)≤24 by omega) (show (0:Int)≤vs.length by omega) (show (vs.length:Int)≤1000 by omega);have hrow:=okR_len (show v < g.ports.length by omega) (f6 v (by omega));have hat:=at_ok raw hraw (v * vs.length + i);have e1:((v * vs.length + i:Nat):Int) = (v:Int) * vs.length + i:=by rw [Int.natCast_add,Int.natCast_mul]
     rw [e1] at hat;have hE:cfgE g vs raw v i = (bV g vs v i).1 + within (gI raw (v * vs.length + i)) ((bV g vs v i).2 - (bV g vs v i).1 + 1):=rfl;generalize gI raw (v * vs.length + i) = q at *;have hsn:=cfgR_succ g vs raw v i;generalize cfgE g vs raw v i = E at *;generalize hp1:(gV vs i).pn * (g.ports.length:Int) = P1 at *;generalize hp2:(gV vs i).pid * top = P2 at *;generalize hp3:(v:Int) * (vs.length:Int) = P3 at *;by_cases k2:(gV vs i).kind = 2
     . have hb:bV g vs v i = (0,1):=by rw [bV,if_pos k2]
       rw [hb] at hE;have hw:=within_ok q (1 - 0 + 1) (by omega);have hwr:=within_range q (b:=1 - 0 + 1) (by omega);simp only at hE;generalize within q (1 - 0 + 1) = W at *
       repeat' ((conv=>whnf);first | (refine Ar.mk P1 (by rw [hp1];exact (wrap_i64 (by omega) (by omega)).symm) ?_) | (refine Ar.mk P2 (by rw [hp2];exact (wrap_i64 (by omega) (by omega)).symm) ?_) | (refine Ar.mk P3 (by rw [hp3];exact (wrap_i64 (by omega) (by omega)).symm) ?_) | (refine Br.dec ?_ ?_ <;> intro _ <;> try omega) | (refine Br.nbeq ?_ ?_ <;> intro _ <;> try omega) | (refine Ar.i64 (by omega) (by omega) ?_) | (refine Ix.nat (by omega) ?_) | (refine Len.mk (by omega) ?_) | (refine hat.go ?_) | (refine hw.go ?_) | (refine And.intro rfl ?_))
       all_goals (conv=>whnf)
       all_goals
        refine ⟨vs.length - (i + 1),i + 1,by omega,⟨rfl,by omega⟩,?_⟩;simp only [hsn];refine weak_by (fun env own=>[(0,some 0),(1,some 1),(2,ekey env 12)]) ?_ ?_ rfl
        . repeat' (first | exact True.intro | (refine ⟨⟨_,rfl,?_⟩,?_⟩) | exact VRen.kf rfl | exact VRen.loc rfl | exact VRen.vec rfl rfl rfl)
        . repeat' (first | (refine ⟨Nat.le_refl _,rfl,fun i j hi hj=>?_⟩) | (rw [hE];exact vle_appI _ _ _ hrl _ _ hi hj) | exact True.intro | (refine ⟨⟨_,rfl,?_⟩,?_⟩) | exact VRen.kf rfl | exact VLe.rfl | (refine And.intro ?_ ?_))
     . by_cases k3:(gV vs i).kind = 3
       . have hb:bV g vs v i = (-1,((gR g.ports v).length:Int) - 1):=by rw [bV,if_neg k2,if_pos k3]
         rw [hb] at hE;have hw:=within_ok q (((gR g.ports v).length:Int) - 1 - (-1) + 1) (by omega);have hwr:=within_range q (b:=((gR g.ports v).length:Int) - 1 - (-1) + 1) (by omega);simp only at hE;generalize within q (((gR g.ports v).length:Int) - 1 - (-1) + 1) = W at *
         repeat' ((conv=>whnf);first | (refine Ar.mk P1 (by rw [hp1];exact (wrap_i64 (by omega) (by omega)).symm) ?_) | (refine Ar.mk P2 (by rw [hp2];exact (wrap_i64 (by omega) (by omega)).symm) ?_) | (refine Ar.mk P3 (by rw [hp3];exact (wrap_i64 (by omega) (by omega)).symm) ?_) | (refine Br.dec ?_ ?_ <;> intro _ <;> try omega) | (refine Br.nbeq ?_ ?_ <;> intro _ <;> try omega) | (refine Ar.i64 (by omega) (by omega) ?_) | (refine Ix.nat (by omega) ?_) | (refine Len.mk (by omega) ?_) | (refine hat.go ?_) | (refine hw.go ?_) | (refine And.intro rfl ?_))
         all_goals (conv=>whnf)
         all_goals
          refine ⟨vs.length - (i + 1),i + 1,by omega,⟨rfl,by omega⟩,?_⟩;simp only [hsn];refine weak_by (fun env own=>[(0,some 0),(1,some 1),(2,ekey env 12)]) ?_ ?_ rfl
          . repeat' (first | exact True.intro | (refine ⟨⟨_,rfl,?_⟩,?_⟩) | exact VRen.kf rfl | exact VRen.loc rfl | exact VRen.vec rfl rfl rfl)
          . repeat' (first | (refine ⟨Nat.le_refl _,rfl,fun i j hi hj=>?_⟩) | (rw [hE];exact vle_appI _ _ _ hrl _ _ hi hj) | exact True.intro | (refine ⟨⟨_,rfl,?_⟩,?_⟩) | exact VRen.kf rfl | exact VLe.rfl | (refine And.intro ?_ ?_))
       . have hb:bV g vs v i = ((gV vs i).lo,(gV vs i).hi + P1 + P2):=by rw [bV,if_neg k2,if_neg k3,hp1,htop,hp2]
         rw [hb] at hE;have hw:=within_ok q ((gV vs i).hi + P1 + P2 - (gV vs i).lo + 1) (by omega);have hwr:-1≤within q ((gV vs i).hi + P1 + P2 - (gV vs i).lo + 1)∧within q ((gV vs i).hi + P1 + P2 - (gV vs i).lo + 1)≤1000000:=by
          by_cases h:1≤(gV vs i).hi + P1 + P2 - (gV vs i).lo + 1
          . have:=within_range q h;omega
          . rw [within,if_pos (by omega)];omega
         simp only at hE;generalize within q ((gV vs i).hi + P1 + P2 - (gV vs i).lo + 1) = W at *
         repeat' ((conv=>whnf);first | (refine Ar.mk P1 (by rw [hp1];exact (wrap_i64 (by omega) (by omega)).symm) ?_) | (refine Ar.mk P2 (by rw [hp2];exact (wrap_i64 (by omega) (by omega)).symm) ?_) | (refine Ar.mk P3 (by rw [hp3];exact (wrap_i64 (by omega) (by omega)).symm) ?_) | (refine Br.dec ?_ ?_ <;> intro _ <;> try omega) | (refine Br.nbeq ?_ ?_ <;> intro _ <;> try omega) | (refine Ar.i64 (by omega) (by omega) ?_) | (refine Ix.nat (by omega) ?_) | (refine Len.mk (by omega) ?_) | (refine hat.go ?_) | (refine hw.go ?_) | (refine And.intro rfl ?_))
         all_goals (conv=>whnf)
         all_goals
          refine ⟨vs.length - (i + 1),i + 1,by omega,⟨rfl,by omega⟩,?_⟩;simp only [hsn];refine weak_by (fun env own=>[(0,some 0),(1,some 1),(2,ekey env 12)]) ?_ ?_ rfl
          . repeat' (first | exact True.intro | (refine ⟨⟨_,rfl,?_⟩,?_⟩) | exact VRen.kf rfl | exact VRen.loc rfl | exact VRen.vec rfl rfl rfl)
          . repeat' (first | (refine ⟨Nat.le_refl _,rfl,fun i j hi hj=>?_⟩) | (rw [hE];exact vle_appI _ _ _ hrl _ _ hi hj) | exact True.intro | (refine ⟨⟨_,rfl,?_⟩,?_⟩) | exact VRen.kf rfl | exact VLe.rfl | (refine And.intro ?_ ?_))
   . have ei:i = vs.length:=by omega
     subst ei;have hsc:=cfgC_succ g vs raw v
     repeat' ((conv=>whnf);first | (refine Br.dec ?_ ?_ <;> intro _ <;> try omega) | (refine Br.nbeq ?_ ?_ <;> intro _ <;> try omega) | (refine Ar.i64 (by omega) (by omega) ?_) | (refine Len.mk (by omega) ?_))
     all_goals (conv=>whnf)
     all_goals
      refine ⟨g.ports.length - (v + 1),v + 1,by omega,⟨rfl,by omega⟩,?_⟩;simp only [hsc];refine weak_by (fun env own=>[(0,some 0),(1,ekey env 10)]) ?_ ?_ rfl
      . repeat' (first | exact True.intro | (refine ⟨⟨_,rfl,?_⟩,?_⟩) | exact VRen.kf rfl | exact VRen.loc rfl | exact VRen.vec rfl rfl rfl)
      . repeat' (first | (refine ⟨Nat.le_refl _,rfl,fun i j hi hj=>?_⟩) | exact vle_appC _ _ _ _ hcl hrl _ rfl _ _ hi hj | exact True.intro | (refine ⟨⟨_,rfl,?_⟩,?_⟩) | exact VRen.kf rfl | (refine And.intro ?_ ?_))
 . have e:v = g.ports.length:=by omega
   subst e;refine VLe.fz hcl.symm (fun h=>h) (fun i j hi hj=>VLe.of_eq ?_);simp [shiftF,cfg]
theorem ret_args {P:Program} {f:FuncId} {args args':List V} {X:V} (hk:allB V.kf args' = true) (hl:LLe args' args) (h:Ret P f args X):Ret P f args' X:=fun own ks=>by
 constructor;intro M w σ us hlen hd hh;obtain ⟨d1,d2⟩:=hl.dens (M:=M) (w:=w) (us:=us) hlen (fun i v u hv hu=>(hd i v u hv hu).kf (allB_mem hk v (List.mem_of_getElem? hv)) Sg.none);exact (h own ks).out M w σ us d1 (fun i v u hv hu=>(d2 i v u hv hu).mono (Ext.mk (fun _ _ h=>⟨h,rfl⟩) (Nat.le_refl _)) (Sg.none_le σ)) hh
theorem ret_res {P:Program} {f:FuncId} {args:List V} {X X':V} (hk:X.kf = true) (hl:VLe X X') (h:Ret P f args X):Ret P f args X':=fun own ks=>by
 constructor;intro M w σ us hlen hd hh;refine ((h own ks).out M w σ us hlen hd hh).mono ?_;rintro e w' ⟨M',σ',v,own',ks',u,rfl,hv,hh',tr,kd,rfl,rfl,rfl⟩;exact ⟨M',σ',X',_,_,u,rfl,(hl.out _ _ _ (hv.kf hk Sg.none)).mono (Ext.mk (fun _ _ h=>⟨h,rfl⟩) (Nat.le_refl _)) (Sg.none_le σ'),hh',tr,kd,rfl,rfl,rfl⟩
def AllLt:Nat→(Nat→Prop)→Prop
 | 0,_=>True
 | n + 1,P=>P 0∧AllLt n fun i=>P (i + 1)
theorem AllLt.out:∀ {n:Nat} {P:Nat→Prop},AllLt n P→∀ i,i < n→P i
 | n + 1,P,h,0,_=>h.1
 | n + 1,P,h,i + 1,hi=>AllLt.out h.2 i (by omega)
theorem vle_fzA {n s:Nat} {f g:Nat→Nat→V} (h:AllLt n fun i=>AllLt s fun j=>VLe (f i j) (g i j)):VLe (.fz n s false f) (.fz n s false g) :=
 VLe.fz rfl (fun h=>h) fun i j hi hj=>(h.out i hi).out j hj
theorem vle_str {a b:ByteArray} (h:a = b):VLe (.str a) (.str b):=by subst h;exact .rfl
theorem cfg_len (g:G) (vs:List Vr) (raw:List Int):(cfg g vs raw).length = g.ports.length:=cfgC_len _ _ _ _
theorem cfg_row (g:G) (vs:List Vr) (raw:List Int) {v:Nat} (hv:v < g.ports.length):gC (cfg g vs raw) v = cfgR g vs raw v vs.length:=by
 simp [gC,cfg,cfgC,List.getD,hv]
theorem cfgR_get (g:G) (vs:List Vr) (raw:List Int) (v k:Nat) {i:Nat} (hi:i < k):gI (cfgR g vs raw v k) i = cfgE g vs raw v i:=by
 simp [gI,cfgR,List.getD,hi]
theorem bV_bnd (p:Pr) (hp:PrOk p) (g:G) (hg:g.valid = true) (v x:Nat) (hx:x < p.vars.length):bV g p.vars v x = bnd g (gV p.vars x) v:=by
 obtain ⟨f1,f2,f3,f4,f5,f6,f7⟩:=val_facts hg;rw [bV,bnd,f3];rcases (hp.var x hx).kind with h | h | h
 . rw [if_neg (by omega),if_neg (by omega),if_pos h];rfl
 . rw [if_pos h,if_neg (by omega),if_pos h]
 . rw [if_neg (by omega),if_pos h,if_neg (by omega),if_neg (by omega)]
theorem cfg_conf (p:Pr) (hp:PrOk p) (g:G) (hg:g.valid = true) (raw:List Int):Conf p g (cfg g p.vars raw):=by
 obtain ⟨f1,f2,f3,f4,f5,f6,f7⟩:=val_facts hg;refine ⟨by rw [cfg_len];exact f3,fun v hv=>?_,fun v hv x hx=>?_⟩
 . rw [cfg_len] at hv;rw [cfg_row g _ raw hv,cfgR_len]
 . rw [cfg_len] at hv;rw [cfg_row g _ raw hv,cfgR_get _ _ _ _ _ hx,cfgE,bV_bnd p hp g hg v x hx];have hb:(bnd g (gV p.vars x) v).1≤(bnd g (gV p.vars x) v).2:=by
    have hx:=hp.var x hx;have h1:=bnd_in hg hx hv;rcases hx.kind with h | h | h
    . have:=h1.2.2.2.2 h;omega
    . rw [bnd,if_neg (by omega),if_pos h];decide
    . rw [bnd,if_neg (by omega),if_neg (by omega)];simp only;omega
   have hw:=within_range (gI raw (v * p.vars.length + x)) (b:=(bnd g (gV p.vars x) v).2 - (bnd g (gV p.vars x) v).1 + 1) (by omega);omega
theorem cpr_agg:VLe pClk.v aggC.v:=by
 repeat' (first | exact True.intro | exact VLe.rfl | exact vle_str (by kernel_rfl) | (refine VLe.agg ?_) | (refine vle_fzA ?_) | (refine And.intro ?_ ?_))
theorem agg_cpr:VLe aggC.v pClk.v:=by
 repeat' (first | exact True.intro | exact VLe.rfl | exact vle_str (by kernel_rfl) | (refine VLe.agg ?_) | (refine vle_fzA ?_) | (refine And.intro ?_ ?_))
theorem ccheck_ok:Ret Tryz.prog 91 [pClk.v] (.int .i64 0):=by
 have h:=ev_ret mixed tc_ok ev_check;exact ret_args (args:=[aggC.v]) rfl ⟨cpr_agg,True.intro⟩ (by simpa only [C.vs,C.v] using h)
theorem clk_types:Ret Tryz.prog 140 [pClk.v] (.bool true):=by
 refine ret_frz rfl ?_;refine fn_rule mixed Tryz.func140 rfl hc140 hr140 rfl ?_
 repeat' ((conv=>whnf);first | (refine Br.tt ?_) | (refine ccheck_ok.go ?_))
 all_goals (conv=>whnf)
 exact VLe.rfl
def txtB:ByteArray:=match textC with | .str l c=>bytesOf l c | _=>default
theorem text_ok:Ret Tryz.prog 27 [] (.str txtB):=by
 have:=ev_ret mixed ta_ok ev_text;simpa only [C.vs,C.v,textC,txtB] using this
theorem parse_ok:Ret Tryz.prog 53 [.str txtB] (.tup [aggC.v,.int .i64 0,.int .i64 0]):=by
 have:=ev_ret mixed tp_ok ev_parse;simpa only [C.vs,C.v,textC,txtB,progC] using this
theorem parse_ok2:Ret Tryz.prog 53 [.str txtB] (.tup [pClk.v,.int .i64 0,.int .i64 0]) :=
 ret_res (X:=.tup [aggC.v,.int .i64 0,.int .i64 0]) rfl (VLe.tup ⟨agg_cpr,VLe.rfl,VLe.rfl,True.intro⟩) parse_ok
theorem program_ok:Ret Tryz.prog 19 [.str txtB] pClk.v:=by
 refine ret_frz rfl ?_;refine fn_rule mixed Tryz.func19 rfl hc19 hr19 rfl ?_
 repeat' ((conv=>whnf);first | (refine parse_ok2.go ?_))
 all_goals (conv=>whnf)
 exact VLe.rfl
theorem clk_prOk:PrOk pClk where
 vlen:=by decide
 var:=fun i hi=>by
  rcases (show i = 0∨i = 1∨i = 2 by have:i < 3:=hi;omega) with rfl | rfl | rfl
  . exact ⟨.inl rfl,by decide,by decide,by decide,by decide,by decide⟩
  . exact ⟨.inr (.inr rfl),by decide,by decide,by decide,by decide,by decide⟩
  . exact ⟨.inl rfl,by decide,by decide,by decide,by decide,by decide⟩
 rlen:=by decide
 gd:=fun i hi=>by
  rcases (show i = 0∨i = 1∨i = 2∨i = 3 by have:i < 4:=hi;omega) with rfl | rfl | rfl | rfl
  . decide
  . decide
  . decide
  . decide
 slen:=fun i hi=>by
  rcases (show i = 0∨i = 1∨i = 2∨i = 3 by have:i < 4:=hi;omega) with rfl | rfl | rfl | rfl
  . decide
  . decide
  . decide
  . decide
 set:=fun i hi j hj=>by
  rcases (show i = 0∨i = 1∨i = 2∨i = 3 by have:i < 4:=hi;omega) with rfl | rfl | rfl | rfl
  . rcases (show j = 0∨j = 1 by have:j < 2:=hj;omega) with rfl | rfl <;> decide
  . rcases (show j = 0∨j = 1 by have:j < 2:=hj;omega) with rfl | rfl <;> decide
  . (obtain rfl:j = 0:=by have:j < 1:=hj;omega);decide
  . (obtain rfl:j = 0:=by have:j < 1:=hj;omega);decide
 types:=clk_types
theorem copyR_ok (c:Cf) (hc:c.length≤1000) (hr:∀ v,v < c.length→(gC c v).length≤1000):Ret Tryz.prog 76 [cV c] (cV c):=by
 refine ret_frz rfl ?_;refine (copy_ok c hc hr).mono ?_;rintro v own' _ ⟨rfl,rfl⟩
 conv=>whnf
 refine Len.mk (by omega) ?_;exact VLe.fz rfl (fun h=>h) (fun i j hi hj=>VLe.of_eq (by rw [shiftF_eq,Nat.zero_add]))
theorem rcheck_ok (p:Pr) (hp:PrOk p) (g:G) (hs:g.Small) (hg:g.valid = true) (c:Cf) (hc:Conf p g c) (k:Int) (hk:dk k = true) (n:Nat) (hn:n≤4096):Ret Tryz.prog 73 [p.v,g.v,.int .i64 k,cV c,.int .i64 n] (.int .i64 0):=by
 have h1:=check_ok p hp g hs hg c hc;have h2:=dvalid_ok k;rw [hk] at h2;refine ret_frz rfl ?_;refine fn_rule mixed Tryz.func73 rfl hc73 hr73 rfl ?_
 repeat' ((conv=>whnf);first | (refine Br.tt ?_) | (refine Br.ff ?_) | (refine Br.dec ?_ ?_ <;> intro _ <;> try omega) | (refine h1.go ?_) | (refine h2.go ?_))
 all_goals (conv=>whnf)
 all_goals exact VLe.rfl
def gT (l:List (Cf × Cnt)) (i:Nat):Cf × Cnt:=l.getD i default
def vCfs (l:List (Cf × Cnt)):Nat→Nat→V:=fun i _=>cV (gT l i).1
def vKs (l:List (Cf × Cnt)):Nat→Nat→V:=fun i j=>cntF (gT l i).2 j
def runV (L:List (Cf × Cnt)):V:=.tup [.fz L.length 1 false (vCfs L),.fz L.length 5 false (vKs L),.int .i64 0]
theorem en_and (p:Pr) {g:G} (hg:g.valid = true) (c:Cf):bitI .and .u32 (enN p g c:Int) (full g.ids.length:Nat) = (enN p g c:Nat):=by
 obtain ⟨f1,f2,f3,f4,f5,f6,f7⟩:=val_facts hg;rw [bit_and (en_32 p hg c) (by rw [full];exact nb_lt _ (by omega))];congr 1;apply Nat.eq_of_testBit_eq;intro i;rw [Nat.testBit_and];cases e:(enN p g c).testBit i with
 | false=>rfl
 | true =>
   have:=en_part p hg c i e;rw [f3] at this;rw [this];rfl
structure RunS where
 c:Cf
 n:Cnt
 pre:List (Cf × Cnt)
 ch:List Nat
 en:List Nat
structure RunI (p:Pr) (g:G) (k:Int) (c0:Cf) (n0:Cnt) (ws:List Nat) (x:RunS):Prop where
 le:x.ch.length≤ws.length
 conf:Conf p g x.c
 ok:x.n.Ok
 steps:x.n.steps = x.ch.length
 pl:x.pre.length = x.ch.length
 el:x.en.length = x.ch.length + 1
 tot:trc p g k c0 n0 ws = x.pre ++ trc p g k x.c x.n (ws.drop x.ch.length)
 cho:chsL p g k c0 ws = x.ch ++ chsL p g k x.c (ws.drop x.ch.length)
def cntC (k:Cnt):List V:=[.int .i64 k.steps,.int .i64 k.moves,.int .i64 k.rounds,.int .i64 k.begun,.int .u32 k.pend]
theorem ws_drop {ws:List Nat} {i:Nat} (h:i < ws.length):ws.drop i = ws.getD i 0 :: ws.drop (i + 1):=by
 rw [List.drop_eq_getElem_cons h];simp [List.getD,h]
theorem run_start {p:Pr} {g:G} (hg:g.valid = true) {k:Int} {c:Cf} (hc:Conf p g c) (ws:List Nat):RunI p g k c (cnt0 (enN p g c)) ws ⟨c,cnt0 (enN p g c),[],[],[enN p g c]⟩ :=
 ⟨Nat.zero_le _,hc,cnt0_ok (en_24 p hg c),rfl,rfl,rfl,rfl,rfl⟩
theorem run_next {p:Pr} (hp:PrOk p) {g:G} (hg:g.valid = true) {k:Int} (hk:dk k = true) {c0:Cf} {n0:Cnt} {ws:List Nat} (hl:ws.length≤4000) {x:RunS} (hx:RunI p g k c0 n0 ws x) (hi:x.ch.length < ws.length) (h0:enN p g x.c≠0) :
 RunI p g k c0 n0 ws ⟨nxC p g k x.c (ws.getD x.ch.length 0),nxK p g k x.c x.n (ws.getD x.ch.length 0),x.pre ++ [(x.c,x.n)],x.ch ++ [chC p g k x.c (ws.getD x.ch.length 0)],x.en ++ [enN p g (nxC p g k x.c (ws.getD x.ch.length 0))]⟩:=by
 obtain ⟨k1,k2⟩:=nx_ok hg hk hx.ok (by have:=hx.steps;omega) (ws.getD x.ch.length 0) h0 (k:=k);have ht:=hx.tot;have hc:=hx.cho;rw [ws_drop hi,trc,if_neg h0] at ht;rw [ws_drop hi,chsL,if_neg h0] at hc;refine ⟨by simp only [List.length_append,List.length_singleton];omega,nx_conf hp hg hk hx.conf _ h0,k1,?_,?_,?_,?_,?_⟩
 . simp only [List.length_append,List.length_singleton];rw [k2,hx.steps]
 . simp only [List.length_append,List.length_singleton];rw [hx.pl]
 . simp only [List.length_append,List.length_singleton];rw [hx.el]
 . simp only [List.length_append,List.length_singleton];rw [ht];simp
 . simp only [List.length_append,List.length_singleton];rw [hc];simp
theorem run_end {p:Pr} {g:G} {k:Int} {c0:Cf} {n0:Cnt} {ws:List Nat} {x:RunS} (hx:RunI p g k c0 n0 ws x) (h:x.ch.length = ws.length∨enN p g x.c = 0):trc p g k c0 n0 ws = x.pre ++ [(x.c,x.n)]∧chsL p g k c0 ws = x.ch:=by
 have ht:=hx.tot;have hc:=hx.cho;by_cases e:x.ch.length < ws.length
 . have h0:enN p g x.c = 0:=by rcases h with h | h;omega;exact h
   rw [ws_drop e,trc,if_pos h0] at ht;rw [ws_drop e,chsL,if_pos h0] at hc;exact ⟨ht,by simpa using hc⟩
 . rw [List.drop_of_length_le (by omega)] at ht hc;exact ⟨ht,by simpa [chsL] using hc⟩
theorem vle_appU7 (l:List Nat) (a:Nat) (F:Nat→Nat→V) (x:Int) (hF:F 0 0 = .int .u32 x) (hx:x = a) (i j:Nat) (hi:i < (l ++ [a]).length) (hj:j < 1):VLe (fapp (shiftF 0 (vU7 l)) l.length (shiftF 0 F) i j) (vU7 (l ++ [a]) i j):=by
 obtain rfl:j = 0:=by omega
 apply VLe.of_eq;simp only [List.length_append,List.length_singleton] at hi;by_cases h:i < l.length
 . rw [fapp_lt h,shiftF_eq,Nat.zero_add];simp [vU7,List.getD,List.getElem?_append_left h]
 . rw [fapp_ge h];have:i = l.length:=by omega
   subst this;simp [shiftF,hF,vU7,hx]
theorem gT_snoc (l:List (Cf × Cnt)) (a:Cf × Cnt) (i:Nat) (h:i < l.length + 1):gT (l ++ [a]) i = if i < l.length then gT l i else a:=by
 by_cases e:i < l.length
 . simp [gT,List.getD,e,List.getElem?_append_left e]
 . have:i = l.length:=by omega
   subst this;simp [gT,List.getD]
theorem vle_appCf (l:List (Cf × Cnt)) (a:Cf × Cnt) (F:Nat→Nat→V) (hF:F 0 0 = cV a.1) (n i j:Nat) (hn:n = l.length) (hi:i < l.length + 1) (hj:j < 1):VLe (fapp (shiftF 0 (vCfs l)) n (shiftF 0 F) i j) (vCfs (l ++ [a]) i j):=by
 obtain rfl:j = 0:=by omega
 subst hn;apply VLe.of_eq;rw [vCfs,gT_snoc l a i hi];by_cases h:i < l.length
 . rw [fapp_lt h,shiftF_eq,Nat.zero_add,if_pos h];rfl
 . rw [fapp_ge h,if_neg h];have:i = l.length:=by omega
   subst this;simp [shiftF,hF]
theorem vle_appCnt (l:List (Cf × Cnt)) (a:Cf × Cnt) (F:Nat→Nat→V) (hF:∀ j,j < 5→F 0 j = cntF a.2 j) (n i j:Nat) (hn:n = l.length) (hi:i < l.length + 1) (hj:j < 5):VLe (fapp (shiftF 0 (vKs l)) n (shiftF 0 F) i j) (vKs (l ++ [a]) i j):=by
 subst hn;apply VLe.of_eq;rw [vKs,gT_snoc l a i hi];by_cases h:i < l.length
 . rw [fapp_lt h,shiftF_eq,Nat.zero_add,if_pos h];rfl
 . rw [fapp_ge h,if_neg h];have:i = l.length:=by omega
   subst this;simp only [shiftF_eq,Nat.zero_add,Nat.sub_self];exact hF j hj
theorem five_cnt (k:Cnt) (F:Nat→Nat→V) (h0:F 0 0 = .int .i64 k.steps) (h1:F 0 1 = .int .i64 k.moves) (h2:F 0 2 = .int .i64 k.rounds) (h3:F 0 3 = .int .i64 k.begun) (h4:F 0 4 = .int .u32 k.pend):∀ j,j < 5→F 0 j = cntF k j:=fun j hj=>by
 rcases (show j = 0∨j = 1∨j = 2∨j = 3∨j = 4 by omega) with rfl | rfl | rfl | rfl | rfl
 . exact h0
 . exact h1
 . exact h2
 . exact h3
 . exact h4
theorem vle_e0 {X:V} {F:Nat→Nat→V} (h:F 0 0 = X) (i j:Nat) (hi:i < 1) (hj:j < 1):VLe (shiftF 0 (tab [[X]]) i j) (F i j):=by
 obtain rfl:i = 0:=by omega
 obtain rfl:j = 0:=by omega
 rw [h];exact VLe.rfl
theorem vle_k0 {k:Cnt} {F:Nat→Nat→V} (h:∀ j,F 0 j = cntF k j) (i j:Nat) (hi:i < 1) (hj:j < 5):VLe (shiftF 0 (tab [[.int .i64 k.steps,.int .i64 k.moves,.int .i64 k.rounds,.int .i64 k.begun,.int .u32 k.pend]]) i j) (F i j):=by
 obtain rfl:i = 0:=by omega
 rw [h];rcases (show j = 0∨j = 1∨j = 2∨j = 3∨j = 4 by omega) with rfl | rfl | rfl | rfl | rfl <;> exact VLe.rfl
theorem runV_end (L:List (Cf × Cnt)) (n:Nat) (hn:n = L.length):VLe (V.tup [.fz n 1 false (shiftF 0 (vCfs L)),.fz n 5 false (shiftF 0 (vKs L)),.int .i64 0]) (runV L):=by
 subst hn;refine VLe.tup ⟨VLe.fz rfl (fun h=>h) (fun i j _ _=>VLe.of_eq (by rw [shiftF_eq,Nat.zero_add])),VLe.fz rfl (fun h=>h) (fun i j _ _=>VLe.of_eq (by rw [shiftF_eq,Nat.zero_add])),VLe.rfl,True.intro⟩
set_option maxHeartbeats 16000000 in
theorem watch_ok (p:Pr) (hp:PrOk p) (g:G) (hs:g.Small) (hg:g.valid = true) (k:Int) (hk:dk k = true) (c:Cf) (hc:Conf p g c) (ws:List Nat) (hwl:ws.length≤1000) (hw:∀ w∈ws,w < 4294967296) :
 RG 40 [p.v,g.v,.int .i64 k,cV c,.fz ws.length 1 false (vU7 ws)] (runV (trc p g k c (cnt0 (enN p g c)) ws)):=by
 obtain ⟨f1,f2,f3,f4,f5,f6,f7⟩:=val_facts hg;have hcl:=hc.len;have hvl:=hp.vlen;have h1:=rcheck_ok p hp g hs hg c hc k hk ws.length (by omega);have h2:=mover_ok p hp g hg;have h3:=newnet_ok g hs hg;have h4:=all_ok g hg;have h5:=copyR_ok c (by omega) (fun v hv=>by have:=hc.row v hv;omega);have h6:=men_ok p hp g hg c hc;have h7:=begin_ok (enN p g c) (en_24 p hg c);have ha:=en_and p hg c;refine ret_frzG2 rfl ?_;refine fn_rule mixed Tryz.func40 rfl hc40 hr40 rfl ?_
 repeat' ((conv=>whnf);first | (refine Sv.mk _ ha.symm ?_) | (refine Br.ff ?_) | (refine Len.mk (by omega) ?_) | (refine h1.go ?_) | (refine h2.go ?_) | (refine h3.go ?_) | (refine h4.go ?_) | (refine h5.go ?_) | (refine h6.go ?_) | (refine h7.go ?_) | (refine fn_rule mixed Tryz.func74 rfl hc74 hr74 rfl ?_) | (refine fn_rule mixed Tryz.func77 rfl hc77 hr77 rfl ?_) | (refine fn_rule mixed Tryz.func105 rfl hc105 hr105 rfl ?_) | (refine fn_rule mixed Tryz.func75 rfl hc75 hr75 rfl ?_) | (refine Chk.mk (by kernel_rfl) ?_) | (refine And.intro rfl ?_))
 all_goals (conv=>whnf)
 refine loop_w mixed [3,4,8,10,12,39] [17,19,21,22] [23,24,25,26,27,28,29,30,31,32,33,34,35,36,37,38,39,40,41,42,43,44,45,46,47,48,49,50,51,52,53,54,55,56,57,58,59] [22,21,19,17,14,13,12,11,10,9,8,3,2,999] (fun x:RunS=>[(1,cV x.c),(11,.int .u32 (enN p g x.c:Nat)),(40,.int .i64 x.ch.length)]) (fun x=>[(22,.vec x.ch.length 1 (vU7 x.ch)),(21,.vec x.en.length 1 (vU7 x.en)),(19,.vec (x.pre.length + 1) 5 (vKs (x.pre ++ [(x.c,x.n)]))),(17,.vec (x.pre.length + 1) 1 (vCfs (x.pre ++ [(x.c,x.n)]))),(14,.cells (cntC x.n)),(13,.cells [.vec 22 1 0 x.ch.length,.vec 21 1 0 x.en.length,.nilslice,.int .i64 0,.int .i64 0,.int .i64 0,.int .i64 0,.int .u32 0]),(12,.cells [.nilslice,.nilslice,.nilslice,.int .i64 0,.int .i64 0,.int .i64 0,.int .i64 0,.int .u32 0]),(11,.cells [mvP p g,.fz g.ports.length 1 false (vNet g),.int .i64 k,.int .u32 (full g.ids.length:Nat),.fn (.func 75) false [.loc 2 0,.loc 3 0]]),(10,.cells [.nilslice,.nilslice,.nilslice,.int .i64 0,.int .i64 0,.int .i64 0,.int .i64 0,.int .u32 0]),(9,.cells [.fz ws.length 1 false (vU7 ws)]),(8,.cells [mvP p g,.fz g.ports.length 1 false (vNet g),.int .i64 k,.int .u32 (full g.ids.length:Nat),.fn (.func 75) false [.loc 2 0,.loc 3 0]]),(3,.cells [.vec 19 5 0 (x.pre.length + 1)]),(2,.cells [.vec 17 1 0 (x.pre.length + 1)]),(999,GB)]) (fun m x=>m = ws.length - x.ch.length∧RunI p g k c (cnt0 (enN p g c)) ws x) ws.length ⟨c,cnt0 (enN p g c),[],[],[enN p g c]⟩ ⟨rfl,run_start hg hc ws⟩ rfl (fun _=>rfl) ?_ ?_
 . refine weak_by (fun _ _=>[(14,some 14),(13,some 13),(12,some 12),(11,some 11),(10,some 10),(9,some 9),(8,some 8),(3,some 3),(2,some 2),(999,some 999),(17,some 17),(19,some 19),(21,some 21),(22,none)]) ?_ ?_ rfl
   . repeat' (first | exact True.intro | (refine VRen.fn ?_) | (refine ⟨⟨_,rfl,?_⟩,?_⟩) | exact VRen.kf rfl | exact VRen.loc rfl | (refine And.intro ?_ ?_))
   . repeat' (first | exact vle_e0 (by rfl) _ _ hi hj | exact vle_k0 (k:=cnt0 (enN p g c)) (fun _=>by rfl) _ _ hi hj | exact True.intro | (refine VRen.fn ?_) | exact ⟨rfl,rfl,rfl⟩ | (refine ⟨⟨_,rfl,?_⟩,?_⟩) | exact VRen.kf rfl | exact VRen.loc rfl | exact VRen.vec rfl rfl rfl | exact VRen.nil rfl rfl | (refine ⟨Nat.le_refl _,rfl,fun i j hi hj=>?_⟩) | (refine ⟨⟨_,_,rfl⟩,?_⟩) | (refine And.intro ?_ ?_))
 rintro m x ⟨hm,hx⟩;clear h5 h6 h7 ha;have hcx:=hx.conf;have hlx:=hcx.len;have hpl:=hx.pl;have hel:=hx.el;have hle:=hx.le;by_cases hi:x.ch.length < ws.length
 . have hwb:ws.getD x.ch.length 0 < 4294967296:=hw _ (by rw [List.getD_eq_getElem?_getD,List.getElem?_eq_getElem hi];exact List.getElem_mem hi);have hrs:=nresolve_ok g hg k (enN p g x.c) (ws.getD x.ch.length 0) (en_32 p hg x.c) hwb (en_part p hg x.c);change RG _ _ (.int .u32 (chC p g k x.c (ws.getD x.ch.length 0):Nat)) at hrs;by_cases h0:enN p g x.c = 0
   . obtain ⟨e1,e2⟩:=run_end hx (.inr h0);rw [e1]
     repeat' ((conv=>whnf);first | (refine Br.ff ?_) | (refine Br.dec ?_ ?_ <;> intro _ <;> try omega) | (refine Br.bne ?_ ?_ <;> intro _ <;> try omega) | (refine Ix.nat (by omega) ?_) | (refine Len.mk (by omega) ?_) | (refine hrs.gog ?_) | (refine fn_rule mixed Tryz.func106 rfl hc106 hr106 rfl ?_) | (refine Chk.mk (by kernel_rfl) ?_) | (refine And.intro rfl ?_))
     all_goals (conv=>whnf)
     all_goals exact runV_end _ _ (by simp)
   . have hnx:=run_next hp hg hk (by omega) hx hi h0;obtain ⟨c1,c2,c3,c4,c5,c6⟩:=ch_facts p hg hk x.c (ws.getD x.ch.length 0) h0;have hcn:=nx_conf hp hg hk hcx (ws.getD x.ch.length 0) h0;have hpm:=npermits_ok g hg k (enN p g x.c) (chC p g k x.c (ws.getD x.ch.length 0)) (en_32 p hg x.c) (by omega) (en_part p hg x.c);have hin:inner g k (enN p g x.c) (chC p g k x.c (ws.getD x.ch.length 0)) = true:=rs_inner hg hk (en_32 p hg x.c) (en_part p hg x.c) h0;rw [hin] at hpm;have hst:=mstep_ok p hp g hg x.c hcx (chC p g k x.c (ws.getD x.ch.length 0)) (by omega) (fun v hv hb=>by have:=c2 v hb;rw [en_bit,Bool.and_eq_true,decide_eq_true_eq,decide_eq_true_eq] at this;exact this.2);change Ret _ _ _ (cV (nxC p g k x.c (ws.getD x.ch.length 0))) at hst;have hen:=men_ok p hp g hg _ hcn;have ha:=en_and p hg (nxC p g k x.c (ws.getD x.ch.length 0));have hcp:=copyR_ok (nxC p g k x.c (ws.getD x.ch.length 0)) (by rw [hcn.len];omega) (fun v hv=>by have:=hcn.row v hv;omega);have had:=add_ok x.n hx.ok (by have:=hx.steps;omega) (chC p g k x.c (ws.getD x.ch.length 0)) (enN p g (nxC p g k x.c (ws.getD x.ch.length 0))) c1 c4 (en_24 p hg _);change Ret _ _ _ (.tup [(nxK p g k x.c x.n (ws.getD x.ch.length 0)).v,.int .i64 0]) at had;generalize nxK p g k x.c x.n (ws.getD x.ch.length 0) = n' at *;generalize nxC p g k x.c (ws.getD x.ch.length 0) = c' at *;generalize chC p g k x.c (ws.getD x.ch.length 0) = s at *;have e1:=en_32 p hg x.c
     repeat' ((conv=>whnf);first | (refine Sv.mk _ ha.symm ?_) | (refine Br.tt ?_) | (refine Br.dec ?_ ?_ <;> intro _ <;> try omega) | (refine Br.bne ?_ ?_ <;> intro _ <;> try omega) | (refine Br.nbeq ?_ ?_ <;> intro _ <;> try omega) | (refine Ar.i64 (by omega) (by omega) ?_) | (refine Ix.nat (by omega) ?_) | (refine Len.mk (by omega) ?_) | (refine hrs.gog ?_) | (refine hpm.gog ?_) | (refine hst.go ?_) | (refine hen.go ?_) | (refine hcp.go ?_) | (refine had.go ?_) | (refine fn_rule mixed Tryz.func75 rfl hc75 hr75 rfl ?_) | (refine fn_rule mixed Tryz.func106 rfl hc106 hr106 rfl ?_) | (refine Chk.mk (by kernel_rfl) ?_) | (refine And.intro rfl ?_))
     all_goals (conv=>whnf)
     refine ⟨_,_,?_,⟨rfl,hnx⟩,?_⟩
     . simp only [List.length_append,List.length_singleton];omega
     . refine weak_by (fun env own=>[(14,some 14),(13,some 13),(12,some 12),(11,some 11),(10,some 10),(9,some 9),(8,some 8),(3,some 3),(2,some 2),(999,some 999),(17,ckeyo own 2 0),(19,ckeyo own 3 0),(21,ckeyo own 13 1),(22,ckeyo own 13 0)]) ?_ ?_ rfl
       . repeat' (first | exact VRen.int (by simp only [List.length_append,List.length_singleton] <;> omega) | exact True.intro | (refine VRen.fn ?_) | (refine ⟨⟨_,rfl,?_⟩,?_⟩) | exact VRen.kf rfl | exact VRen.loc rfl | (refine And.intro ?_ ?_))
       . repeat' (first | exact VRen.vec rfl rfl (by simp only [List.length_append,List.length_singleton] <;> omega) | (refine ⟨by simp only [List.length_append,List.length_singleton] <;> omega,rfl,fun i j hi hj=>?_⟩) | exact VRen.int (by simp only [List.length_append,List.length_singleton] <;> omega) | exact vle_appU7 _ _ _ _ (by rfl) (by rfl) _ _ hi hj | exact vle_appCf _ _ _ (by rfl) _ _ _ (by simp) hi hj | exact vle_appCnt _ _ _ (five_cnt _ _ (by rfl) (by rfl) (by rfl) (by rfl) (by rfl)) _ _ _ (by simp) hi hj | exact True.intro | (refine VRen.fn ?_) | exact ⟨rfl,rfl,rfl⟩ | (refine ⟨⟨_,rfl,?_⟩,?_⟩) | exact VRen.kf rfl | exact VRen.loc rfl | (refine And.intro ?_ ?_))
 . obtain ⟨e1,e2⟩:=run_end hx (.inl (by omega));rw [e1]
   repeat' ((conv=>whnf);first | (refine Br.ff ?_) | (refine Br.dec ?_ ?_ <;> intro _ <;> try omega) | (refine Len.mk (by omega) ?_) | (refine And.intro rfl ?_))
   all_goals (conv=>whnf)
   all_goals exact runV_end _ _ (by simp)
theorem wrun_ok (t:ByteArray) (p:Pr) (hp:PrOk p) (hpr:Ret Tryz.prog 19 [.str t] p.v) (g:G) (hs:g.Small) (hg:g.valid = true) (k:Int) (hk:dk k = true) (c:Cf) (hc:Conf p g c) (ws:List Nat) (hwl:ws.length≤1000) (hw:∀ w∈ws,w < 4294967296) :
 RG 12 [.str t,g.v,.int .i64 k,cV c,.fz ws.length 1 false (vU7 ws)] (.tup [.fz (trc p g k c (cnt0 (enN p g c)) ws).length 1 false (vCfs (trc p g k c (cnt0 (enN p g c)) ws)),.fz (trc p g k c (cnt0 (enN p g c)) ws).length 5 false (vKs (trc p g k c (cnt0 (enN p g c)) ws)),.bool true]):=by
 have h1:=watch_ok p hp g hs hg k hk c hc ws hwl hw;have h2:=trc_ne p g k c (cnt0 (enN p g c)) ws;have h3:=trc_len p g k ws c (cnt0 (enN p g c));rw [runV] at h1;generalize trc p g k c (cnt0 (enN p g c)) ws = L at *;refine ret_frzG rfl ?_;refine fn_rule mixed Tryz.func12 rfl hc12 hr12 rfl ?_
 repeat' ((conv=>whnf);first | (refine Br.tt ?_) | (refine Br.dec ?_ ?_ <;> intro _ <;> try omega) | (refine h1.gog ?_) | (refine hpr.go ?_) | (refine And.intro rfl ?_))
 all_goals (conv=>whnf)
 all_goals exact VLe.rfl
theorem gT_mem {T:List (Cf × Cnt)} {i:Nat} (h:i < T.length):gT T i∈T:=by
 simp [gT,List.getD,h]
theorem csmall_of {p:Pr} (hp:PrOk p) {g:G} (hg:g.valid = true) {c:Cf} (h:Conf p g c):CSmall c:=by
 obtain ⟨f1,f2,f3,f4,f5,f6,f7⟩:=val_facts hg;have hl:=h.len;have hv:=hp.vlen;refine ⟨by omega,fun r hr=>?_⟩;obtain ⟨i,hi,e⟩:=List.mem_iff_getElem.1 hr;have h2:gC c i = r:=by simp [gC,List.getD,hi,e]
 have:=h.row i hi;rw [← h2];omega
structure StepAt (p:Pr) (g:G) (k:Int) (a:Cf × Cnt) (s:Nat) (b:Cf × Cnt):Prop where
 conf:Conf p g a.1
 ok:a.2.Ok
 en:enN p g a.1≠0
 ne:s≠0
 part:Part s (enN p g a.1)
 okc:okC g k (enN p g a.1) s = true
 lt:s < 16777216
 cf:b.1 = stepC p g a.1 s
 cn:b.2 = a.2.add s (enN p g b.1)
theorem trc_step {p:Pr} (hp:PrOk p) {g:G} (hg:g.valid = true) {k:Int} (hk:dk k = true):∀ (ws:List Nat) (c:Cf) (n:Cnt) (i:Nat),Conf p g c→n.Ok→n.steps + ws.length≤4096→i + 1 < (trc p g k c n ws).length →
 StepAt p g k (gT (trc p g k c n ws) i) ((chsL p g k c ws).getD i 0) (gT (trc p g k c n ws) (i + 1))
 | [],c,n,i,_,_,_,h=>by simp [trc] at h
 | w :: ws,c,n,i,hc,hn,hl,h=>by
   simp only [List.length_cons] at hl;by_cases h0:enN p g c = 0
   . rw [trc,if_pos h0] at h;simp at h
   . rw [trc,if_neg h0] at h ⊢;rw [chsL,if_neg h0];obtain ⟨c1,c2,c3,c4,c5,c6⟩:=ch_facts p hg hk c w h0;obtain ⟨k1,k2⟩:=nx_ok hg hk hn (by omega) w h0 (k:=k);have hcn:=nx_conf hp hg hk hc w h0;cases i with
     | zero =>
       have e:gT ((c,n) :: trc p g k (nxC p g k c w) (nxK p g k c n w) ws) (0 + 1) = (nxC p g k c w,nxK p g k c n w):=by
        cases ws <;> rfl
       rw [e];exact ⟨hc,hn,h0,c1,c2,c3,c4,rfl,rfl⟩
     | succ i =>
       have:=trc_step hp hg hk ws (nxC p g k c w) (nxK p g k c n w) i hcn k1 (by omega) (by simpa using h);exact this
theorem trc_zero (p:Pr) (g:G) (k:Int) (c:Cf) (n:Cnt) (ws:List Nat):gT (trc p g k c n ws) 0 = (c,n):=by
 cases ws <;> rfl
end Go.Proofs.YtkimongfladmfaaGreatDoor
namespace Go.Plain.Clock
variable {n:Nat} {par:Nat→Nat} {D:Nat→Nat} {E:Nat} {x:Nat→Int} {s p:Nat→Bool}
theorem Cert.step0 (hT:Tree n par D E) (hc:Ch n par x s) {p':Nat→Bool} (hp:∀ v,v < n→p v = true→s v = false→en n par (st par s x) v→p' v = true) (hs:s 0 = false) :
 ∀ j,Cert n par x p j 0→Cert n par (st par s x) p' j 0
 | 0,h=>h
 | 1,h=>by
   have hch:∀ c,child n par 0 c→¬ dif par (st par s x) c:=fun c hcc=>fall hc hcc.2.1 (h.2 c hcc) (by rw [hcc.2.2];exact hs);exact ⟨hp 0 hT.pos h.1 hs ⟨hch,fun q=>(q rfl).elim⟩,hch⟩
 | j + 2,h=>by
   intro c hcc hdc;have hd0:dif par x c:=Classical.byContradiction fun q=>fall hc hcc.2.1 q (by rw [hcc.2.2];exact hs) hdc;have hsc:s c = false:=by
    cases e:s c with
    | false=>rfl
    | true=>exact (moved hc hcc.1 hcc.2.1 e hdc).elim
   exact Cert.step hT hc hp (j + 1) c hcc.1 hcc.2.1 hd0 hsc (h c hcc hd0)
theorem Cert.round0 (hT:Tree n par D E) {q:Nat→Bool} (hz:∀ v,v < n→p v = false) (hq:∀ v,v < n→en n par x v→q v = true):∀ j,Cert n par x p (j + 1) 0→Cert n par x q j 0
 | 0,h=>by have:=h.1;rw [hz 0 hT.pos] at this;cases this
 | 1,h=>by
   have hch:∀ c,child n par 0 c→¬ dif par x c:=fun c hcc hdc=>by
    have:=(h c hcc hdc).1;rw [hz c hcc.1] at this;cases this
   exact ⟨hq 0 hT.pos ⟨hch,fun q=>(q rfl).elim⟩,hch⟩
 | j + 2,h=>fun c hcc hdc=>Cert.round hz hq (j + 1) c hcc.1 hcc.2.1 hdc (h c hcc hdc)
theorem Cert.start0 (hT:Tree n par D E) (hq:∀ v,v < n→en n par x v→p v = true):Cert n par x p (E + 1) 0:=by
 cases E with
 | zero =>
   have hch:∀ c,child n par 0 c→¬ dif par x c:=fun c hcc _=>by
    have h1:=hT.dep c hcc.1 hcc.2.1;have h2:=hT.top c hcc.1;omega
   exact ⟨hq 0 hT.pos ⟨hch,fun q=>(q rfl).elim⟩,hch⟩
 | succ E =>
   intro c hcc hdc;refine Cert.start hT hq (E + 1) c hcc.1 hcc.2.1 hdc ?_;have h1:=hT.dep c hcc.1 hcc.2.1;have h2:=hT.root;rw [hcc.2.2] at h1;omega
def Tk (n:Nat) (par:Nat→Nat) (E:Nat) (b:Nat) (x:Nat→Int) (p:Nat→Bool) (r:Nat):Prop :=
 r < b∨∃ j,1≤j∧r + j≤b + E + 1∧Cert n par x p j 0
theorem Tk.start (hT:Tree n par D E) {b r:Nat} (hr:r≤b) (hq:r = b→∀ v,v < n→en n par x v→p v = true):Tk n par E b x p r:=by
 by_cases h:r < b
 . exact .inl h
 . exact .inr ⟨E + 1,by omega,by omega,Cert.start0 hT (hq (by omega))⟩
theorem Tk.le {b r:Nat} (h:Tk n par E b x p r):r≤b + E:=by
 rcases h with h | ⟨j,h1,h2,_⟩ <;> omega
theorem Tk.step (hT:Tree n par D E) (hc:Ch n par x s) {p':Nat→Bool} (hp:∀ v,v < n→p v = true→s v = false→en n par (st par s x) v→p' v = true) (hs:s 0 = false) {b r:Nat} (h:Tk n par E b x p r):Tk n par E b (st par s x) p' r:=by
 rcases h with h | ⟨j,h1,h2,h3⟩
 . exact .inl h
 . exact .inr ⟨j,h1,h2,Cert.step0 hT hc hp hs j h3⟩
theorem Tk.round (hT:Tree n par D E) {q:Nat→Bool} (hz:∀ v,v < n→p v = false) (hq:∀ v,v < n→en n par x v→q v = true) {b r:Nat} (h:Tk n par E b x p r):Tk n par E b x q (r + 1):=by
 rcases h with h | ⟨j,h1,h2,h3⟩
 . exact Tk.start hT (by omega) (fun _=>hq)
 . obtain ⟨k,rfl⟩:∃ k,j = k + 1:=⟨j - 1,by omega⟩;have h4:=Cert.round0 hT hz hq k h3;cases k with
   | zero=>exact h4.elim
   | succ k=>exact .inr ⟨k + 1,by omega,by omega,h4⟩
end Go.Plain.Clock
namespace Go.Proofs.YtkimongfladmfaaGreatDoor
open Go.Eng
set_option maxRecDepth 100000
set_option linter.unusedVariables false
theorem trc_pend {p:Pr} (hp:PrOk p) {g:G} (hg:g.valid = true) {k:Int} (hk:dk k = true) (ws:List Nat) (c:Cf) (hc:Conf p g c) (hl:ws.length≤4000):∀ i,i < (trc p g k c (cnt0 (enN p g c)) ws).length →
 (gT (trc p g k c (cnt0 (enN p g c)) ws) i).2.rounds = (gT (trc p g k c (cnt0 (enN p g c)) ws) i).2.begun→(gT (trc p g k c (cnt0 (enN p g c)) ws) i).2.pend = enN p g (gT (trc p g k c (cnt0 (enN p g c)) ws) i).1
 | 0,_,_=>by rw [trc_zero];rfl
 | i + 1,h,e=>by
   have hst:=trc_step hp hg hk ws c (cnt0 (enN p g c)) i hc (cnt0_ok (en_24 _ hg c)) (by simp only [cnt0];omega) h;rw [hst.cn] at e ⊢;rw [Cnt.add] at e ⊢;split at e
   . rename_i hz;rw [if_pos hz]
   . simp only at e;have:=hst.ok.rb;omega
def TkC (g:G) (b:Nat) (x:Cf × Cnt):Prop:=Go.Plain.Clock.Tk g.ids.length (parI g) g.ecc.toNat b (xC x.1) (fun v=>x.2.pend.testBit v) x.2.rounds
theorem tk_start {g:G} (h:g.conn = true) {x:Cf × Cnt} (hc:Conf pClk g x.1) (hk:x.2.Ok) (hl:g.cleg x.1 = true) (hp:x.2.rounds = x.2.begun→x.2.pend = enN pClk g x.1):TkC g x.2.begun x:=by
 obtain ⟨ht,hb⟩:=(cleg_iff h hc).1 hl;exact Go.Plain.Clock.Tk.start (treeC h) hk.rb fun e v hv he=>by rw [hp e];exact (on_en h hc ht hv).2 he
theorem tk_step {g:G} (h:g.conn = true) {x y:Cf × Cnt} {s b:Nat} (hst:StepAt pClk g 3 x s y) (hc':Conf pClk g y.1) (hl:g.cleg x.1 = true) (h0:gI (gC y.1 0) 2 = gI (gC x.1 0) 2) (ht:TkC g b x):TkC g b y:=by
 obtain ⟨h1,h2⟩:=conn_facts h;obtain ⟨f1,f2,f3,f4,f5,f6,f7⟩:=val_facts h1;obtain ⟨htr,hb⟩:=(cleg_iff h hst.conf).1 hl;have hT:=treeC h;have htr':=tr_step h hst.conf htr hst.part;have hx:=clk_x h hst.conf htr hst.part;have hch:=clk_ch h hst.conf htr hst.part;have hcf:=hst.cf;have hcn:=hst.cn;rw [hcf] at hcn h0 hc';have hs0:s.testBit 0 = false:=by
  cases e:s.testBit 0 with
  | false=>rfl
  | true =>
    exfalso;have h3:xC (stepC pClk g x.1 s) 0 = xC x.1 0:=h0;rw [hx,Go.Plain.Clock.st,if_pos e,if_pos rfl] at h3;have:=(clk_rng hst.conf (v:=0) (by omega)).2.2.2.2.2;omega
 have hlf:∀ v,v < g.ids.length→((lft x.2 s (enN pClk g (stepC pClk g x.1 s))).testBit v = true↔(x.2.pend.testBit v = true∧s.testBit v = false)∧(enN pClk g (stepC pClk g x.1 s)).testBit v = true):=fun v hv=>by
  simp only [lft,Nat.testBit_and,ndiff_bit (show v < 32 by omega),Bool.and_eq_true,Bool.not_eq_true']
 have ht':=Go.Plain.Clock.Tk.step hT hch (p':=fun v=>(lft x.2 s (enN pClk g (stepC pClk g x.1 s))).testBit v) (fun v hv q1 q2 q3=>(hlf v hv).2 ⟨⟨q1,q2⟩,by rw [on_en h hc' htr' hv,hx];exact q3⟩) hs0 ht;rw [← hx] at ht';rw [TkC,hcn,hcf,Cnt.add];by_cases hz:lft x.2 s (enN pClk g (stepC pClk g x.1 s)) = 0
 . rw [if_pos hz];exact ht'.round hT (fun v hv=>by simp only [hz];simp) (fun u hu he=>(on_en h hc' htr' hu).2 he)
 . rw [if_neg hz];exact ht'
end Go.Proofs.YtkimongfladmfaaGreatDoor
namespace Go.Proofs.YtkimongfladmfaaGreatDoor
open Go.Eng
set_option maxRecDepth 100000
set_option linter.unusedVariables false
end Go.Proofs.YtkimongfladmfaaGreatDoor
namespace Go.Proofs.YtkimongfladmfaaGreatDoor
open Go.Eng
set_option maxRecDepth 100000
set_option linter.unusedVariables false
def clmC (e:Int) (k:Int):V:=.agg [.int .i64 k,.bool true,.bool false,.int .i64 (e + 1 + (e * (e + 1)).tdiv 2),.int .i64 (-1)]
theorem e_facts {e:Int} (h0:0≤e) (h:e≤23):0≤e * (e + 1)∧e * (e + 1)≤576∧0≤(e * (e + 1)).tdiv 2∧(e * (e + 1)).tdiv 2≤576:=by
 have a3:0≤e * (e + 1):=Int.mul_nonneg (by omega) (by omega);have a4:e * (e + 1)≤576:=Int.le_trans (Int.mul_le_mul (show e≤24 by omega) (show e + 1≤24 by omega) (by omega) (by omega)) (by omega);refine ⟨a3,a4,?_,?_⟩
 . rw [Int.tdiv_eq_ediv_of_nonneg a3];omega
 . rw [Int.tdiv_eq_ediv_of_nonneg a3];omega
theorem cclaim_ok (g:G) (hs:g.Small) (hgc:g.conn = true):Ret Tryz.prog 28 [g.v] (clmC g.ecc 3):=by
 have hf:=cfit_ok g hs;have he:=ecc_ok g hs;obtain ⟨r1,r2⟩:=ecc_range g hgc;obtain ⟨q1,q2,q3,q4⟩:=e_facts r1 r2;rw [hgc] at hf;refine ret_frz rfl ?_;refine fn_rule mixed Tryz.func28 rfl hc28 hr28 rfl ?_
 repeat' ((conv=>whnf);first | (refine Br.tt ?_) | (refine Ar.i64 (by omega) (by omega) ?_) | (refine Nz.mk (by omega) ?_) | (refine hf.go ?_) | (refine he.go ?_))
 all_goals (conv=>whnf)
 exact VLe.rfl
end Go.Proofs.YtkimongfladmfaaGreatDoor
namespace Go.Proofs.YtkimongfladmfaaGreatDoor
open Go.Eng
set_option maxRecDepth 100000
set_option linter.unusedVariables false
def l01:List Int:=[0,1]
def netL (n:Int) (l:List Int):V:=.agg [.int .i64 n,.fz l.length 1 false (vI l),.nilslice,.nilslice,.bool false,.bool false]
def t3:G:=⟨[0,1,2],[[(1,1)],[(0,1),(2,1)],[(1,1)]]⟩
theorem at01_0:Ret Tryz.prog 37 [.fz 2 1 false (vI l01),.int .i64 0] (.int .i64 0):=at_ok l01 (by decide) 0
theorem at01_1:Ret Tryz.prog 37 [.fz 2 1 false (vI l01),.int .i64 1] (.int .i64 1):=at_ok l01 (by decide) 1
theorem w_0_1:Ret Tryz.prog 36 [.int .i64 0,.int .i64 1] (.int .i64 0):=within_ok 0 1 (by decide)
theorem w_1_2:Ret Tryz.prog 36 [.int .i64 1,.int .i64 2] (.int .i64 1):=within_ok 1 2 (by decide)
set_option maxHeartbeats 4000000 in
theorem tree3:Ret Tryz.prog 54 [netL 3 l01,.int .i64 3] t3.v:=by
 refine ret_frz2 rfl ?_;refine fn_rule mixed Tryz.func54 rfl hc54 hr54 rfl ?_
 repeat' ((conv=>whnf);first | (refine MkS.cells ?_) | (refine Bd.mk 3 (by decide) (by omega) ?_) | (refine Sv.mk 1 (by decide) ?_) | (refine Sv.mk 2 (by decide) ?_) | (refine Br.tt ?_) | (refine Br.ff ?_) | (refine Ar.i64 (by omega) (by omega) ?_) | (refine Nz.mk (by omega) ?_) | (refine Ix.mk 0 rfl (by omega) ?_) | (refine Ix.mk 1 rfl (by omega) ?_) | (refine Ix.int (by omega) (by omega) ?_) | (refine Len.mk (by omega) ?_) | (refine Ltn.mk (by omega) ?_) | (refine And.intro rfl ?_) | (refine fn_rule mixed Tryz.func35 rfl hc35 hr35 rfl ?_) | (refine fn_rule mixed Tryz.func72 rfl hc72 hr72 rfl ?_) | (refine fn_rule mixed Tryz.func102 rfl hc102 hr102 rfl ?_) | (refine w_2_3.go ?_) | (refine w_0_256.go ?_) | (refine w_0_15.go ?_) | (refine w_0_1.go ?_) | (refine w_1_2.go ?_) | (refine at01_0.go ?_) | (refine at01_1.go ?_) | (refine loop_fuel mixed 20 ?_) | (refine call_frz [] (at_nil 0) ⟨VLe.nilfz rfl,VLe.int (by omega),True.intro⟩ ?_) | (refine call_frz [] (at_nil 1) ⟨VLe.nilfz rfl,VLe.int (by omega),True.intro⟩ ?_) | (refine call_frz [] (at_nil 2) ⟨VLe.nilfz rfl,VLe.int (by omega),True.intro⟩ ?_))
 all_goals (conv=>whnf)
 refine VLe.agg ⟨VLe.fz rfl (fun h=>h) (fun i j hi hj=>?_),VLe.fz rfl (fun h=>h) (fun i j hi hj=>?_),True.intro⟩
 . rcases i with _ | _ | _ | i
   all_goals first | (exfalso;omega) | (rcases j with _ | j;exact VLe.rfl;exfalso;omega)
 . rcases i with _ | _ | _ | i
   all_goals first | (exfalso;omega) | skip
   all_goals
    obtain rfl:j = 0:=by omega
    conv=>arg 1;whnf
    conv=>arg 2;whnf
    refine VLe.fz rfl (fun h=>h) (fun i j hi hj=>?_);rcases i with _ | _ | i
    all_goals first | (exfalso;omega) | (rcases j with _ | _ | j;exact VLe.rfl;exact VLe.rfl;exfalso;omega)
theorem t3_small:t3.Small:=⟨by decide,by decide,by decide⟩
theorem two_le (a b:Int) (f:Nat→Nat→V) (h0:f 0 0 = .int .i64 a) (h1:f 1 0 = .int .i64 b):∀ i j:Nat,i < 2→j < 1→VLe (f i j) (vI [a,b] i j):=by
 intro i j hi hj;have e':j = 0:=by omega
 subst e';rcases i with _ | _ | i
 . rw [h0];exact VLe.rfl
 . rw [h1];exact VLe.rfl
 . exfalso;omega
end Go.Proofs.YtkimongfladmfaaGreatDoor
namespace Go.Proofs.YtkimongfladmfaaGreatDoor
open Go.Eng
set_option maxRecDepth 100000
set_option linter.unusedVariables false
theorem same36_ok (a b:List Int) (ha:a.length≤1000000) (hb:b.length≤1000000):Ret Tryz.prog 68 [.fz a.length 1 false (vI a),.fz b.length 1 false (vI b)] (.bool (decide (a = b))):=by
 refine ret_frz rfl ?_;refine fn_rule mixed Tryz.func68 rfl hc68 hr68 rfl ?_
 repeat' ((conv=>whnf);first | (refine Br.bne ?_ ?_ <;> intro _ <;> try omega))
 all_goals (conv=>whnf)
 . exact VLe.bool (by rw [decide_eq_false (fun h=>by subst h;omega)])
 refine loop_r mixed [0,1] (fun i:Nat=>[(5,.int .i64 i)]) (fun m i=>m = a.length - i∧i≤a.length∧∀ j,j < i→gI a j = gI b j) a.length 0 ⟨rfl,Nat.zero_le _,fun j hj=>by omega⟩ ?_ ?_
 . exact weak_b (fun _ _=>[])
 rintro m i ⟨hm,hi,hall⟩
 repeat' ((conv=>whnf);first | (refine Br.dec ?_ ?_ <;> intro _ <;> try omega) | (refine Br.bne ?_ ?_ <;> intro _ <;> try omega) | (refine Ar.i64 (by omega) (by omega) ?_) | (refine Ix.nat (by omega) ?_))
 all_goals (conv=>whnf)
 . rename_i hne;exact VLe.bool (by rw [decide_eq_false (fun h=>by subst h;exact hne rfl)])
 . refine ⟨a.length - (i + 1),i + 1,by omega,⟨rfl,by omega,fun j hj=>?_⟩,?_⟩
   . by_cases e:j = i
     . subst e;assumption
     . exact hall j (by omega)
   . exact weak_b (fun _ _=>[])
 . have e:a = b:=List.ext_getElem (by omega) (fun j h1 h2=>by
    have:=hall j (by omega);simpa [gI,List.getD,List.getElem?_eq_getElem h1,List.getElem?_eq_getElem h2] using this)
   exact VLe.bool (by rw [decide_eq_true e])
def phs (c:Cf):List Int:=c.map fun r=>gI r 2
theorem phs_len (c:Cf):(phs c).length = c.length:=by simp [phs]
theorem phs_get (c:Cf) {v:Nat} (h:v < c.length):gI (phs c) v = gI (gC c v) 2:=by
 simp [phs,gI,gC,List.getD,h]
def G.phL (g:G) (c:Cf):List Int:=if g.conn && g.cconf c then phs c else []
def phF (c:Cf) (v:Nat):Nat→Nat→V:=fun i _=>.int .i64 (if i < v then gI (phs c) i else 0)
theorem phF_set (c:Cf) (v i t:Nat) (x:Int) (hx:x = gI (phs c) v) (ht:t < 1):VLe (fset (phF c v) v 0 [.int .i64 x] i t) (phF c (v + 1) i t):=by
 obtain rfl:t = 0:=by omega
 apply VLe.of_eq;by_cases e:i = v
 . subst e;simp [fset,phF,hx]
 . have:(i < v + 1) = (i < v):=by simp;omega
   simp [fset,phF,e,this]
set_option maxHeartbeats 4000000 in
theorem phases_ok (g:G) (hs:g.Small) (c:Cf) (hc:CSmall c):Ret Tryz.prog 69 [g.v,cV c] (.fz (g.phL c).length 1 false (vI (g.phL c))):=by
 have hcf:=cconfiguration_ok g hs c hc;have hcl:=hc.len;refine ret_frz rfl ?_;refine fn_rule mixed Tryz.func69 rfl hc69 hr69 rfl ?_;by_cases h:(g.conn && g.cconf c) = true
 . rw [h] at hcf;rw [G.phL,if_pos h,phs_len];rw [Bool.and_eq_true] at h;obtain ⟨e1,e2⟩:=cconf_facts h.2;obtain ⟨f1,f2,f3,f4,f5,f6,f7⟩:=val_facts (conn_facts h.1).1
   repeat' ((conv=>whnf);first | (refine Br.tt ?_) | (refine Bd.nat (by omega) ?_) | (refine Len.mk (by omega) ?_) | (refine MkS.vec ?_) | (refine hcf.go ?_))
   all_goals (conv=>whnf)
   refine loop_u mixed [5,15,16] [] [2,3,4,5,6,7,8,9,10,11,12,13,14,15,16,17,18,19,20,21,22,23,24,25,26,27,28,29] [1,0] (fun v:Nat=>[(17,.int .i64 v)]) (fun own v=>updO own 1 (.vec c.length 1 (phF c v))) (fun m v=>m = c.length - v∧v≤c.length) c.length 0 ⟨rfl,Nat.zero_le _⟩ rfl (fun _=>rfl) ?_ ?_
   . refine weak_by (fun _ _=>[(0,some 0),(1,some 1)]) ?_ ?_ rfl
     . repeat' (first | exact True.intro | (refine ⟨⟨_,rfl,?_⟩,?_⟩) | exact VRen.kf rfl | exact VRen.vec rfl rfl rfl)
     . repeat' (first | (refine ⟨Nat.le_refl _,rfl,fun i j hi hj=>VLe.of_eq ?_⟩;obtain rfl:j = 0:=(by omega);rfl) | exact True.intro | (refine ⟨⟨_,rfl,?_⟩,?_⟩) | exact VRen.kf rfl | (refine And.intro ?_ ?_))
   rintro m v ⟨hm,hv⟩;by_cases hvl:v < c.length
   . have hr:=e2 v hvl
     repeat' ((conv=>whnf);first | (refine Ix.mk 2 rfl (by omega) ?_) | (refine Br.dec ?_ ?_ <;> intro _ <;> try omega) | (refine Ar.i64 (by omega) (by omega) ?_) | (refine Ix.nat (by omega) ?_) | (refine Ltn.mk (by omega) ?_))
     all_goals (conv=>whnf)
     refine ⟨c.length - (v + 1),v + 1,by omega,⟨rfl,by omega⟩,?_⟩;refine weak_by (fun _ _=>[(0,some 0),(1,some 1)]) ?_ ?_ rfl
     . repeat' (first | exact True.intro | (refine ⟨⟨_,rfl,?_⟩,?_⟩) | exact VRen.kf rfl | exact VRen.vec rfl rfl rfl)
     . repeat' (first | (refine ⟨Nat.le_refl _,rfl,fun i j hi hj=>?_⟩;simp only [Nat.zero_add];exact phF_set c v i j _ (phs_get c hvl).symm hj) | exact True.intro | (refine ⟨⟨_,rfl,?_⟩,?_⟩) | exact VRen.kf rfl | (refine And.intro ?_ ?_))
   . have ev:v = c.length:=by omega
     subst ev
     repeat' ((conv=>whnf);first | (refine Br.dec ?_ ?_ <;> intro _ <;> try omega) | (refine Len.mk (by omega) ?_))
     all_goals (conv=>whnf)
     refine VLe.fz rfl (fun h=>h) (fun i j hi hj=>VLe.of_eq ?_);obtain rfl:j = 0:=by omega
     rw [shiftF_eq,Nat.zero_add,phF,if_pos hi];rfl
 . rw [G.phL,if_neg h];simp only [Bool.not_eq_true] at h;rw [h] at hcf
   repeat' ((conv=>whnf);first | (refine Br.ff ?_) | (refine hcf.go ?_))
   all_goals (conv=>whnf)
   exact VLe.nilfz rfl
theorem cf3_smallC (a b d a' b' d' a'' b'' d'':Int):CSmall [[a,a',a''],[b,b',b''],[d,d',d'']]:=⟨by simp,by simp⟩
theorem cf33_le {a b d a' b' d' a'' b'' d'':Int} {k1 k2 k3:Nat→Nat→V} (h1:k1 0 0 = .int .i64 a) (h2:k2 0 0 = .int .i64 b) (h3:k3 0 0 = .int .i64 d) (h1':k1 1 0 = .int .i64 a') (h2':k2 1 0 = .int .i64 b') (h3':k3 1 0 = .int .i64 d')
 (h1'':k1 2 0 = .int .i64 a'') (h2'':k2 2 0 = .int .i64 b'') (h3'':k3 2 0 = .int .i64 d'') {f:Nat→Nat→V}
 (f0:f 0 0 = .fz 3 1 false k1) (f1:f 1 0 = .fz 3 1 false k2) (f2:f 2 0 = .fz 3 1 false k3):VLe (.fz 3 1 false f) (cV [[a,a',a''],[b,b',b''],[d,d',d'']]):=by
 refine VLe.fz rfl (fun h=>h) (fun i j hi hj=>?_);have e:j = 0:=by omega
 subst e;rcases i with _ | _ | _ | i
 . rw [f0];exact VLe.fz rfl (fun h=>h) (three_le _ _ _ _ h1 h1' h1'')
 . rw [f1];exact VLe.fz rfl (fun h=>h) (three_le _ _ _ _ h2 h2' h2'')
 . rw [f2];exact VLe.fz rfl (fun h=>h) (three_le _ _ _ _ h3 h3' h3'')
 . exfalso;omega
def cA:Cf:=[[0,-1,2],[1,0,1],[2,0,0]]
def cD:Cf:=[[0,-1,2],[1,0,1],[2,0,1]]
theorem conf_ofB {g:G} {c:Cf} (h1:c.length = g.ids.length) (h2:(List.range c.length).all (fun v=>decide ((gC c v).length = 3) && (List.range 3).all fun x=>decide ((bnd g (gV pClk.vars x) v).1≤gI (gC c v) x∧gI (gC c v) x≤(bnd g (gV pClk.vars x) v).2)) = true):Conf pClk g c:=by
 simp only [List.all_eq_true,List.mem_range,Bool.and_eq_true,decide_eq_true_eq] at h2;exact ⟨h1,fun v hv=>(h2 v hv).1,fun v hv x hx=>(h2 v hv).2 x hx⟩
theorem confA:Conf pClk t3 cA:=conf_ofB rfl (by decide +kernel)
theorem confD:Conf pClk t3 cD:=conf_ofB rfl (by decide +kernel)
theorem legA:(t3.conn && t3.cconf cA && treeB t3 cA && phB t3 cA) = true:=by decide +kernel
theorem enA:enN pClk t3 cA = 4:=by decide +kernel
theorem enD:enN pClk t3 cD = 2:=by decide +kernel
theorem ec3:t3.ecc = 2:=by decide +kernel
theorem phA:t3.phL cA = [2,1,0]:=by decide +kernel
set_option maxHeartbeats 4000000 in
theorem known36_ok:Ret Tryz.prog 31 [] (.bool true):=by
 have hg:t3.valid = true:=by decide +kernel
 have h1:=clegit_ok t3 t3_small cA (cf3_smallC 0 1 2 (-1) 0 0 2 1 0);have h2:=senabled_ok pClk clk_prOk t3 t3_small hg cA confA;have h3:=senabled_ok pClk clk_prOk t3 t3_small hg cD confD;have h4:=cclaim_ok t3 t3_small (by decide +kernel);have h5:=phases_ok t3 t3_small cA (cf3_smallC 0 1 2 (-1) 0 0 2 1 0);have h6:=same36_ok [2,1,0] [2,1,0] (by decide) (by decide);rw [legA] at h1;rw [enA] at h2;rw [enD] at h3;rw [ec3,clmC] at h4;rw [phA] at h5;rw [decide_eq_true rfl] at h6;have htx:=text_ok;have hpr:=program_ok;refine ret_frz2 rfl ?_;refine fn_rule mixed Tryz.func31 rfl hc31 hr31 rfl ?_
 repeat' ((conv=>whnf);first | (refine Br.tt ?_) | (refine call_frz [0] tree3 ⟨by decide,VLe.agg ⟨VLe.rfl,VLe.fz rfl (fun h=>h) (two_le _ _ _ rfl rfl),VLe.rfl,VLe.rfl,VLe.rfl,VLe.rfl,True.intro⟩,VLe.rfl,True.intro⟩ ?_) | (refine htx.go ?_) | (refine hpr.go ?_) | (refine h4.go ?_) | (refine call_lend h1 rfl ⟨by decide,by decide,by decide,VLe.rfl,cf33_le rfl rfl rfl rfl rfl rfl rfl rfl rfl rfl rfl rfl,True.intro⟩ ?_) | (refine call_lend h2 rfl ⟨by decide,by decide,by decide,VLe.rfl,VLe.rfl,cf33_le rfl rfl rfl rfl rfl rfl rfl rfl rfl rfl rfl rfl,True.intro⟩ ?_) | (refine call_lend h3 rfl ⟨by decide,by decide,by decide,VLe.rfl,VLe.rfl,cf33_le rfl rfl rfl rfl rfl rfl rfl rfl rfl rfl rfl rfl,True.intro⟩ ?_) | (refine call_frz [3,4,5,6] h5 ⟨by decide,by decide,by decide,VLe.rfl,cf33_le rfl rfl rfl rfl rfl rfl rfl rfl rfl rfl rfl rfl,True.intro⟩ ?_) | (refine call_lend h6 rfl ⟨by decide,VLe.rfl,VLe.fz rfl (fun h=>h) (three_le _ _ _ _ rfl rfl rfl),True.intro⟩ ?_))
 all_goals (conv=>whnf)
 all_goals exact VLe.rfl
end Go.Proofs.YtkimongfladmfaaGreatDoor
namespace Go.Proofs.YtkimongfladmfaaGreatDoor
open Go.Eng
set_option maxRecDepth 100000
set_option linter.unusedVariables false
theorem linkP_len (bk:Bool) (p:Ps) (a b:Nat) (w:Int):(linkP bk p a b w).length = p.length:=by
 rw [linkP];split <;> simp
theorem linkP_row (bk:Bool) (p:Ps) {a b:Nat} (w:Int) (ha:a < p.length) (hb:b < p.length) (u:Nat):(gR (linkP bk p a b w) u).length≤(gR p u).length + 1:=by
 rw [linkP];split
 . omega
 . rename_i h;have hab:¬ a = b:=fun e=>h (.inl e);have hl:∀ r l,(addP bk r l).length = r.length + 1:=fun r l=>by rw [addP];split <;> simp
   rw [gR_set _ b _ (by simpa using hb),gR_set p a _ ha];split
   . rename_i e;subst e;rw [hl];omega
   . split
     . rename_i e;subst e;rw [hl];omega
     . omega
def wgt (x:Net) (i:Nat):Int:=1 + within (gI x.weights i) 15
def treeP (x:Net) (n:Nat):Nat→Ps
 | 0=>List.replicate n []
 | k + 1=>linkP x.back (treeP x n k) (within (gI x.links k) ((k:Int) + 1)).toNat (k + 1) (wgt x k)
theorem treeP_len (x:Net) (n:Nat):∀ k,(treeP x n k).length = n
 | 0=>by simp [treeP]
 | k + 1=>by rw [treeP,linkP_len,treeP_len x n k]
theorem treeP_to (x:Net) (k:Nat):(within (gI x.links k) ((k:Int) + 1)).toNat < k + 1:=by
 have:=within_range (gI x.links k) (b:=(k:Int) + 1) (by omega);omega
theorem rep_row (n u:Nat):gR (List.replicate n []) u = []:=by
 simp only [gR,List.getD,List.getElem?_replicate];split <;> rfl
theorem treeP_row (x:Net) (n:Nat):∀ k,k < n→∀ u,(gR (treeP x n k) u).length≤k
 | 0,_,u=>by rw [treeP,rep_row];simp
 | k + 1,hk,u=>by
   have h1:=treeP_to x k;have h2:=linkP_row x.back (treeP x n k) (wgt x k) (a:=(within (gI x.links k) ((k:Int) + 1)).toNat) (b:=k + 1) (by rw [treeP_len];omega) (by rw [treeP_len];exact hk) u;have h3:=treeP_row x n k (by omega) u;rw [treeP];omega
abbrev netOwn (I:List Int) (p:Ps):Own:=gOwn ⟨I,p⟩
theorem vec_fam (ρ:Rn) (n:Nat):BRen ρ (.vec n 1 fun _ _=>.nilslice) (famP (List.replicate n [])):=⟨by simp,rfl,rfl,fun i hi=>⟨rfl,by rw [lenP,rep_row];rfl⟩⟩
theorem fam_fam (ρ:Rn) (p:Ps):BRen ρ (famP p) (famP p):=⟨rfl,rfl,True.intro,fun i hi=>rfl,fun i j t hi hn hj ht=>VLe.rfl⟩
set_option maxHeartbeats 8000000 in
theorem tree_ok (x:Net) (hx:x.Small) (most:Int) (h1:1≤most) (h2:most≤24) :
 CallF Tryz.prog 54 [x.v,.int .i64 most] [] KS fun v own' _=>v = gV1 (x.size most) (x.size most)∧own' = netOwn (idsF x.ids (x.size most)) (treeP x (x.size most) (x.size most - 1)):=by
 have hn:=nodes_ok x hx most h1 h2;have hsz:1≤x.size most∧x.size most≤24:=by
  have:=within_range x.n1 h1;rw [Net.size];omega
 have hll:=hx.links;have hwl:=hx.weights;generalize x.size most = n at *;have hil:=idsF_len x.ids n;refine call_post ?_;refine fn_rule mixed Tryz.func54 rfl hc54 hr54 rfl ?_
 repeat' ((conv=>whnf);first | (refine call_by [] [0,1] (hn.mono ?_) ⟨VRen.kf rfl,VRen.kf rfl,True.intro⟩ True.intro rfl;rintro _ _ _ ⟨rfl,rfl⟩) | (refine Chk.mk rfl ?_))
 all_goals (conv=>whnf)
 refine loop_u mixed [2,4,5] [3] [5,6,7,8,9,10,11,12,13,14,15,16,17,18,19,20,21,22,23,24,25,26,27,28,29] [4,2,3,1,0] (fun k:Nat=>[(6,.int .i64 ((k:Int) + 1))]) (fun own k=>updO own 3 (famP (treeP x n k))) (fun m k=>m = n - 1 - k∧k≤n - 1) (n - 1) 0 ⟨rfl,by omega⟩ rfl (fun _=>rfl) ?_ ?_
 . refine weak_by (fun _ _=>[(0,some 0),(1,some 1),(2,some 2),(3,some 3),(4,some 4)]) ?_ ?_ rfl
   . repeat' (first | exact True.intro | (refine ⟨⟨_,rfl,?_⟩,?_⟩) | exact VRen.kf rfl | exact VRen.loc rfl)
   . repeat' (first | exact vec_fam _ _ | exact True.intro | (refine ⟨⟨_,rfl,?_⟩,?_⟩) | exact VRen.kf rfl | exact VRen.vec rfl rfl rfl | (refine ⟨Nat.le_refl _,rfl,fun i j hi hj=>?_⟩) | exact VLe.rfl | (refine And.intro ?_ ?_))
 rintro m k ⟨hm,hk⟩;have hln:=treeP_len x n k;by_cases hkn:k < n - 1
 . have ha1:=at_ok x.links hll k;have ha2:=at_ok x.weights hwl k;have hw1:=within_ok (gI x.links k) ((k:Int) + 1) (by omega);have hw2:=within_ok (gI x.weights k) 15 (by omega);have hr1:=within_range (gI x.links k) (b:=(k:Int) + 1) (by omega);have hr2:=within_range (gI x.weights k) (b:=15) (by omega);have hrow:=treeP_row x n k (by omega);have hl:=link_ok x ⟨idsF x.ids n,treeP x n k⟩ (small_of (by show (idsF x.ids n).length≤_;omega) (by show (treeP x n k).length≤_;omega) (fun u=>by have:=hrow u;show (gR (treeP x n k) u).length≤_;omega)) (fun u=>by have:=hrow u;show (gR (treeP x n k) u).length≤_;omega) (within (gI x.links k) ((k:Int) + 1)).toNat (k + 1) (by show _ < (treeP x n k).length;omega) (by show _ < (treeP x n k).length;omega) (wgt x k);have hnx:linkP x.back (treeP x n k) (within (gI x.links k) ((k:Int) + 1)).toNat (k + 1) (wgt x k) = treeP x n (k + 1):=rfl;have hwg:wgt x k = 1 + within (gI x.weights k) 15:=rfl;simp only [hnx,hil,hln] at hl;generalize within (gI x.links k) ((k:Int) + 1) = a at *;generalize within (gI x.weights k) 15 = w at *
   repeat' ((conv=>whnf);first | (refine Ar.i64 (by omega) (by omega) ?_;rw [show (k:Int) + 1 - 1 = (k:Int) by omega]) | (refine Br.dec ?_ ?_ <;> intro _ <;> try omega) | (refine Ar.i64 (by omega) (by omega) ?_) | (refine ha1.go ?_) | (refine ha2.go ?_) | (refine hw1.go ?_) | (refine hw2.go ?_) | (refine And.intro rfl ?_) | (refine call_by [(0,some 2),(1,some 3)] [] (hl.mono ?_) ⟨VRen.kf rfl,VRen.agg ⟨VRen.vec rfl rfl rfl,VRen.vec rfl rfl rfl,True.intro⟩,VRen.int (by omega),VRen.int (by omega),VRen.int (by omega),True.intro⟩ ⟨⟨_,rfl,Nat.le_of_eq hil,rfl,fun _ _ _ _=>VLe.rfl⟩,⟨_,rfl,fam_fam _ _⟩,True.intro⟩ rfl;rintro _ _ _ ⟨rfl,rfl⟩) | (refine Chk.mk rfl ?_))
   all_goals (conv=>whnf)
   all_goals
    refine ⟨n - 1 - (k + 1),k + 1,by omega,⟨rfl,by omega⟩,?_⟩;refine weak_by (fun _ _=>[(0,some 0),(1,some 1),(2,some 2),(3,some 3),(4,some 4)]) ?_ ?_ rfl
    . repeat' (first | exact True.intro | (refine ⟨⟨_,rfl,?_⟩,?_⟩) | exact VRen.kf rfl | exact VRen.loc rfl)
    . repeat' (first | exact fam_fam _ _ | exact ⟨Nat.le_of_eq hil.symm,rfl,fun _ _ _ _=>VLe.rfl⟩ | exact True.intro | (refine ⟨⟨_,rfl,?_⟩,?_⟩) | exact VRen.kf rfl | exact VRen.vec rfl rfl rfl | (refine And.intro ?_ ?_))
 . have e:k = n - 1:=by omega
   subst e
   repeat' ((conv=>whnf);first | (refine Br.dec ?_ ?_ <;> intro _ <;> try omega))
   all_goals (conv=>whnf)
   exact postR_byV (fun v o=>[(0,vkey v 0),(1,vkey v 1)]) _ _ ⟨rfl,rfl⟩ (VRen.agg ⟨VRen.vec rfl rfl rfl,VRen.vec rfl rfl rfl,True.intro⟩) ⟨⟨_,rfl,Nat.le_of_eq hil,rfl,fun _ _ _ _=>VLe.rfl⟩,⟨_,rfl,fam_fam _ _⟩,True.intro⟩ rfl
end Go.Proofs.YtkimongfladmfaaGreatDoor
namespace Go.Proofs.YtkimongfladmfaaGreatDoor
open Go.Eng
set_option maxRecDepth 100000
set_option linter.unusedVariables false
def moreP (x:Net) (n:Nat) (p:Ps):Nat→Ps
 | 0=>p
 | k + 1=>linkP x.back (moreP x n p k) (within (gI x.links (n + 2 * k)) n).toNat (within (gI x.links (n + 2 * k + 1)) n).toNat (wgt x (n + 2 * k))
def moreN (x:Net) (n:Nat):Nat:=min ((x.links.length - n) / 2) ((61 - n) / 2)
theorem moreP_len (x:Net) (n:Nat) (p:Ps):∀ k,(moreP x n p k).length = p.length
 | 0=>rfl
 | k + 1=>by rw [moreP,linkP_len,moreP_len x n p k]
theorem within_lt {a:Int} {n:Nat} (hn:1≤n):(within a n).toNat < n:=by
 have:=within_range a (b:=(n:Int)) (by omega);omega
theorem moreP_row (x:Net) (n:Nat) (p:Ps) (hn:1≤n) (hp:p.length = n):∀ k u,(gR (moreP x n p k) u).length≤(gR p u).length + k
 | 0,u=>by rw [moreP];omega
 | k + 1,u=>by
   have h2:=linkP_row x.back (moreP x n p k) (wgt x (n + 2 * k)) (a:=(within (gI x.links (n + 2 * k)) n).toNat) (b:=(within (gI x.links (n + 2 * k + 1)) n).toNat) (by rw [moreP_len,hp];exact within_lt hn) (by rw [moreP_len,hp];exact within_lt hn) u;have h3:=moreP_row x n p hn hp k u;rw [moreP];omega
set_option maxHeartbeats 8000000 in
theorem more_ok (x:Net) (hx:x.Small) (I:List Int) (p:Ps) (n:Nat) (hn:1≤n) (hn2:n≤24) (hI:I.length = n) (hp:p.length = n) (hr:∀ u,(gR p u).length≤100) :
 CallF Tryz.prog 34 [x.v,gV1 n n] (netOwn I p) KS4 fun v own' _=>v = gV1 n n∧own' = netOwn I (moreP x n p (moreN x n)):=by
 have hll:=hx.links;have hwl:=hx.weights;have hN:moreN x n≤31∧∀ k,k < moreN x n↔(n + 2 * k + 1 < x.links.length∧n + 2 * k < 60):=by
  rw [moreN];exact ⟨by omega,fun k=>by omega⟩
 refine call_post ?_;refine fn_rule mixed Tryz.func34 rfl hc34 hr34 rfl ?_
 repeat' ((conv=>whnf);first | fail)
 all_goals (conv=>whnf)
 refine loop_u mixed [2,3,4,5] [] [5,6,7,8,9,10,11,12,13,14,15,16,17,18,19,20,21,22,23,24,25,26,27,28,29] [4,3,2,0,1] (fun k:Nat=>[(6,.int .i64 ((n:Int) + 2 * k))]) (fun own k=>updO own 1 (famP (moreP x n p k))) (fun m k=>m = moreN x n - k∧k≤moreN x n) (moreN x n) 0 ⟨rfl,by omega⟩ rfl (fun _=>rfl) ?_ ?_
 . refine weak_by (fun _ _=>[(0,some 0),(1,some 1),(2,some 2),(3,some 3),(4,some 4)]) ?_ ?_ rfl
   . repeat' (first | exact True.intro | (refine ⟨⟨_,rfl,?_⟩,?_⟩) | exact VRen.kf rfl | exact VRen.loc rfl)
   . repeat' (first | exact fam_fam _ _ | exact True.intro | (refine ⟨⟨_,rfl,?_⟩,?_⟩) | exact VRen.kf rfl | exact VRen.vec rfl rfl rfl | (refine ⟨Nat.le_refl _,rfl,fun i j hi hj=>?_⟩) | exact VLe.rfl | (refine And.intro ?_ ?_))
 rintro m k ⟨hm,hk⟩;have hln:=(moreP_len x n p k).trans hp;have hk2:=hN.2 k;by_cases hkn:k < moreN x n
 . obtain ⟨c1,c2⟩:=hk2.1 hkn;have ha2:=at_ok x.weights hwl (n + 2 * k);have hw1:=within_ok (gI x.links (n + 2 * k)) n (by omega);have hw3:=within_ok (gI x.links (n + 2 * k + 1)) n (by omega);have hw2:=within_ok (gI x.weights (n + 2 * k)) 15 (by omega);have hr1:=within_range (gI x.links (n + 2 * k)) (b:=n) (by omega);have hr3:=within_range (gI x.links (n + 2 * k + 1)) (b:=n) (by omega);have hr2:=within_range (gI x.weights (n + 2 * k)) (b:=15) (by omega);have hrow:∀ u,(gR (moreP x n p k) u).length≤1000:=fun u=>by have:=moreP_row x n p hn hp k u;have:=hr u;omega
   have hl:=link_ok x ⟨I,moreP x n p k⟩ (small_of (by show I.length≤_;omega) (by show (moreP x n p k).length≤_;omega) hrow) hrow (within (gI x.links (n + 2 * k)) n).toNat (within (gI x.links (n + 2 * k + 1)) n).toNat (by show _ < (moreP x n p k).length;omega) (by show _ < (moreP x n p k).length;omega) (wgt x (n + 2 * k));have hnx:linkP x.back (moreP x n p k) (within (gI x.links (n + 2 * k)) n).toNat (within (gI x.links (n + 2 * k + 1)) n).toNat (wgt x (n + 2 * k)) = moreP x n p (k + 1):=rfl;have hwg:wgt x (n + 2 * k) = 1 + within (gI x.weights (n + 2 * k)) 15:=rfl;simp only [hnx,hI,hln] at hl;have e2k:((n + 2 * k:Nat):Int) = (n:Int) + 2 * k:=by omega
   rw [e2k] at ha2
   repeat' ((conv=>whnf);first | (refine Ix.mk (n + 2 * k) (by omega) (by omega) ?_;try rw [Nat.zero_add]) | (refine Ix.mk (n + 2 * k + 1) (by omega) (by omega) ?_;try rw [Nat.zero_add]) | (refine Br.dec ?_ ?_ <;> intro _ <;> try omega) | (refine Ar.i64 (by omega) (by omega) ?_) | (refine ha2.go ?_) | (refine hw1.go ?_) | (refine hw3.go ?_) | (refine hw2.go ?_) | (refine And.intro rfl ?_) | (refine call_by [(0,some 0),(1,some 1)] [] (hl.mono ?_) ⟨VRen.kf rfl,VRen.agg ⟨VRen.vec rfl rfl rfl,VRen.vec rfl rfl rfl,True.intro⟩,VRen.int (by omega),VRen.int (by omega),VRen.int (by omega),True.intro⟩ ⟨⟨_,rfl,Nat.le_of_eq (by first | rfl | exact hI | exact hI.symm),rfl,fun _ _ _ _=>VLe.rfl⟩,⟨_,rfl,fam_fam _ _⟩,True.intro⟩ rfl;rintro _ _ _ ⟨rfl,rfl⟩) | (refine Chk.mk rfl ?_))
   all_goals (conv=>whnf)
   all_goals
    refine ⟨moreN x n - (k + 1),k + 1,by omega,⟨rfl,by omega⟩,?_⟩;refine weak_by (fun _ _=>[(0,some 0),(1,some 1),(2,some 2),(3,some 3),(4,some 4)]) ?_ ?_ rfl
    . repeat' (first | exact True.intro | (refine ⟨⟨_,rfl,?_⟩,?_⟩) | exact VRen.kf rfl | exact VRen.loc rfl)
    . repeat' (first | exact fam_fam _ _ | exact ⟨Nat.le_refl _,rfl,fun _ _ _ _=>VLe.rfl⟩ | exact True.intro | (refine ⟨⟨_,rfl,?_⟩,?_⟩) | exact VRen.kf rfl | exact VRen.vec rfl rfl rfl | (refine And.intro ?_ ?_))
 . have e:k = moreN x n:=by omega
   subst e;by_cases h1:n + 2 * moreN x n + 1 < x.links.length
   all_goals
    repeat' ((conv=>whnf);first | (refine Br.dec ?_ ?_ <;> intro _ <;> try omega) | (refine Ar.i64 (by omega) (by omega) ?_))
    all_goals (conv=>whnf)
    all_goals exact postR_byV (fun v o=>[(0,vkey v 0),(1,vkey v 1)]) _ _ ⟨rfl,rfl⟩ (VRen.agg ⟨VRen.vec rfl rfl rfl,VRen.vec rfl rfl rfl,True.intro⟩) ⟨⟨_,rfl,Nat.le_refl _,rfl,fun _ _ _ _=>VLe.rfl⟩,⟨_,rfl,fam_fam _ _⟩,True.intro⟩ rfl
theorem size_ok (x:Net) {most:Int} (h1:1≤most):1≤x.size most∧(x.size most:Int)≤most:=by
 have:=within_range x.n1 h1;rw [Net.size];omega
def Net.con (x:Net) (most:Int):G:=⟨idsF x.ids (x.size most),moreP x (x.size most) (treeP x (x.size most) (x.size most - 1)) (moreN x (x.size most))⟩
def Net.any (x:Net) (most:Int):G:=if x.apart then ⟨idsF x.ids (x.size most),moreP x (x.size most) (List.replicate (x.size most) []) (moreN x (x.size most))⟩ else x.con most
theorem view_g {g:G} {n:Nat} (h1:g.ids.length = n) (h2:g.ports.length = n):VLe (V.agg [.fz n 1 false (shiftF 0 (vI g.ids)),.fz n 1 false fun i _=>.fz (lenP g.ports i) 2 false (rowP g.ports i)]) g.v:=by
 refine VLe.agg ⟨?_,?_,True.intro⟩
 . exact VLe.fz h1.symm (fun h=>h) (fun i j hi hj=>VLe.of_eq (by simp [shiftF]))
 . exact VLe.fz h2.symm (fun h=>h) (fun i j hi hj=>VLe.rfl)
theorem ret_g {g:G} {n:Nat} (h1:g.ids.length = n) (h2:g.ports.length = n):frzT (gOwn g) (gV1 n n) fun v=>VLe v g.v :=
 ⟨by rw [Nat.zero_add,h1];exact Nat.le_refl _,Nat.le_of_eq h2.symm,view_g h1 h2⟩
set_option maxHeartbeats 8000000 in
theorem connected_call (x:Net) (hx:x.Small) (most:Int) (h1:1≤most) (h2:most≤24) :
 CallF Tryz.prog 25 [x.v,.int .i64 most] [] KS fun v own' _=>v = gV1 (x.size most) (x.size most)∧own' = gOwn (x.con most):=by
 have ht:=tree_ok x hx most h1 h2;have hsz:=size_ok x h1;have hm:=more_ok x hx (idsF x.ids (x.size most)) (treeP x (x.size most) (x.size most - 1)) (x.size most) hsz.1 (by omega) (idsF_len _ _) (treeP_len _ _ _) (fun u=>by have:=treeP_row x (x.size most) (x.size most - 1) (by omega) u;omega);refine call_post ?_;refine fn_rule mixed Tryz.func25 rfl hc25 hr25 rfl ?_
 repeat' ((conv=>whnf);first | (refine call_by [] [0,1] (ht.mono ?_) ⟨VRen.kf rfl,VRen.kf rfl,True.intro⟩ True.intro rfl;rintro _ _ _ ⟨rfl,rfl⟩) | (refine call_by [(0,some 2),(1,some 3)] [] (hm.mono ?_) ⟨VRen.kf rfl,VRen.agg ⟨VRen.vec rfl rfl rfl,VRen.vec rfl rfl rfl,True.intro⟩,True.intro⟩ ⟨⟨_,rfl,Nat.le_refl _,rfl,fun _ _ _ _=>VLe.rfl⟩,⟨_,rfl,fam_fam _ _⟩,True.intro⟩ rfl;rintro _ _ _ ⟨rfl,rfl⟩) | (refine Chk.mk rfl ?_) | (refine And.intro rfl ?_))
 all_goals (conv=>whnf)
 exact postR_byV (fun v o=>[(0,vkey v 0),(1,vkey v 1)]) _ _ ⟨rfl,rfl⟩ (VRen.agg ⟨VRen.vec rfl rfl rfl,VRen.vec rfl rfl rfl,True.intro⟩) ⟨⟨_,rfl,Nat.le_refl _,rfl,fun _ _ _ _=>VLe.rfl⟩,⟨_,rfl,fam_fam _ _⟩,True.intro⟩ rfl
theorem con_len (x:Net) (most:Int):(x.con most).ids.length = x.size most∧(x.con most).ports.length = x.size most:=⟨idsF_len _ _,(moreP_len _ _ _ _).trans (treeP_len _ _ _)⟩
theorem connected_ok (x:Net) (hx:x.Small) (most:Int) (h1:1≤most) (h2:most≤24):Ret Tryz.prog 25 [x.v,.int .i64 most] (x.con most).v:=by
 refine ret_frz rfl ((connected_call x hx most h1 h2).mono ?_);rintro _ _ _ ⟨rfl,rfl⟩;exact ret_g (con_len x most).1 (con_len x most).2
end Go.Proofs.YtkimongfladmfaaGreatDoor
namespace Go.Proofs.YtkimongfladmfaaGreatDoor
open Go.Eng
set_option maxRecDepth 100000
set_option linter.unusedVariables false
structure PV (p:Ps):Prop where
 ok:∀ v,v < p.length→okR p.length v (gR p v) = true
 sym:∀ v,v < p.length→∀ l∈gR p v,((v:Int),l.2)∈gR p l.1.toNat
theorem mem_addP {bk:Bool} {r:List (Int × Int)} {x l:Int × Int}:l∈addP bk r x↔l = x∨l∈r:=by
 rw [addP];split
 . simp
 . simp only [List.mem_append,List.mem_singleton];exact ⟨Or.symm,Or.symm⟩
theorem nodup_addP {bk:Bool} {r:List (Int × Int)} {x:Int × Int} (h:(r.map (·.1)).Nodup) (hx:∀ l∈r,l.1≠x.1):((addP bk r x).map (·.1)).Nodup:=by
 have hn:x.1 ∉ r.map (·.1):=fun hm=>by
  obtain ⟨l,h1,h2⟩:=List.mem_map.1 hm;exact hx l h1 h2
 rw [addP];split
 . rw [List.map_cons,List.nodup_cons];exact ⟨hn,h⟩
 . rw [List.map_append,List.nodup_append];refine ⟨h,by simp,fun a ha b hb e=>hn ?_⟩;have:b = x.1:=by simpa using hb
   rw [← this,← e];exact ha
theorem pv_rep (n:Nat):PV (List.replicate n []):=⟨fun v _=>by rw [rep_row];rfl,fun v _ l hl=>by rw [rep_row] at hl;cases hl⟩
theorem pv_link {bk:Bool} {p:Ps} (h:PV p) {a b:Nat} {w:Int} (ha:a < p.length) (hb:b < p.length) (hw:1≤w∧w≤15):PV (linkP bk p a b w):=by
 have hlen:=linkP_len bk p a b w;rw [linkP] at hlen ⊢;split
 . exact h
 . rename_i hc;rw [if_neg hc] at hlen;have hab:a≠b:=fun e=>hc (.inl e);have hnl:∀ l∈gR p a,l.1≠b:=fun l hl e=>hc (.inr (by rw [lnk,List.any_eq_true];exact ⟨l,hl,by simpa using e⟩));have hnl2:∀ l∈gR p b,l.1≠a:=fun l hl e=>by
    have:=h.sym b hb l hl;rw [e] at this;exact hnl _ this rfl
   have hg:∀ v,gR ((p.set a (addP bk (gR p a) ((b:Int),w))).set b (addP bk (gR p b) ((a:Int),w))) v = if v = b then addP bk (gR p b) ((a:Int),w) else if v = a then addP bk (gR p a) ((b:Int),w) else gR p v:=fun v=>by
    rw [gR_set _ b _ (by simpa using hb),gR_set p a _ ha]
   constructor
   . intro v hv;rw [hlen] at hv ⊢;rw [hg];split
     . rename_i e;subst e;obtain ⟨o1,o2⟩:=okR_iff.1 (h.ok v hv);refine okR_iff.2 ⟨fun l hl=>?_,nodup_addP o2 hnl2⟩;rcases mem_addP.1 hl with rfl | hl
       . simp only;omega
       . exact o1 l hl
     . split
       . rename_i e;subst e;obtain ⟨o1,o2⟩:=okR_iff.1 (h.ok v hv);refine okR_iff.2 ⟨fun l hl=>?_,nodup_addP o2 hnl⟩;rcases mem_addP.1 hl with rfl | hl
         . simp only;omega
         . exact o1 l hl
       . exact h.ok v hv
   . intro v hv l hl;rw [hlen] at hv;have old:∀ u x,x∈gR p u→x∈gR ((p.set a (addP bk (gR p a) ((b:Int),w))).set b (addP bk (gR p b) ((a:Int),w))) u:=fun u x hx=>by
      rw [hg];split
      . rename_i e;subst e;exact mem_addP.2 (.inr hx)
      . split
        . rename_i e;subst e;exact mem_addP.2 (.inr hx)
        . exact hx
     rw [hg] at hl;split at hl
     . rename_i e;subst e;rcases mem_addP.1 hl with rfl | hl
       . simp only [Int.toNat_natCast];rw [hg,if_neg hab,if_pos rfl];exact mem_addP.2 (.inl rfl)
       . exact old _ _ (h.sym v hv l hl)
     . split at hl
       . rename_i e;subst e;rcases mem_addP.1 hl with rfl | hl
         . simp only [Int.toNat_natCast];rw [hg,if_pos rfl];exact mem_addP.2 (.inl rfl)
         . exact old _ _ (h.sym v hv l hl)
       . exact old _ _ (h.sym v hv l hl)
theorem wgt_ok (x:Net) (i:Nat):1≤wgt x i∧wgt x i≤15:=by
 have:=within_range (gI x.weights i) (b:=15) (by omega);rw [wgt];omega
theorem pv_tree (x:Net) (n:Nat):∀ k,k < n→PV (treeP x n k)
 | 0,_=>pv_rep n
 | k + 1,hk=>by
   have h1:=treeP_to x k;rw [treeP];exact pv_link (pv_tree x n k (by omega)) (by rw [treeP_len];omega) (by rw [treeP_len];exact hk) (wgt_ok x k)
theorem pv_more (x:Net) {n:Nat} (hn:1≤n) {p:Ps} (hp:p.length = n) (h:PV p):∀ k,PV (moreP x n p k)
 | 0=>h
 | k + 1=>by
   rw [moreP];exact pv_link (pv_more x hn hp h k) (by rw [moreP_len,hp];exact within_lt hn) (by rw [moreP_len,hp];exact within_lt hn) (wgt_ok x _)
theorem valid_of {I:List Int} {p:Ps} {n:Nat} (h1:1≤n) (h2:n≤24) (hI:I.length = n) (hp:p.length = n) (h3:∀ a∈I,0≤a∧a≤255) (h4:I.Nodup) (h:PV p):(⟨I,p⟩:G).valid = true:=by
 rw [G.valid,Bool.and_eq_true,Bool.and_eq_true,decide_eq_true_eq];refine ⟨⟨by show 1≤I.length;omega,by show I.length≤24;omega,by show p.length = I.length;omega⟩,(idsOk_iff _).2 ⟨h3,h4⟩,?_⟩;rw [portsOk,Bool.and_eq_true];exact ⟨rowsOk_iff.2 h.ok,symOk_iff.2 h.sym⟩
theorem con_valid (x:Net) {most:Int} (h1:1≤most) (h2:most≤24):(x.con most).valid = true:=by
 have hs:=size_ok x h1;have hi:=idsF_ok x.ids (x.size most) (by omega);exact valid_of hs.1 (by omega) (con_len x most).1 (con_len x most).2 hi.1 hi.2 (pv_more x hs.1 (treeP_len _ _ _) (pv_tree x _ _ (by omega)) _)
theorem valid_small {g:G} (h:g.valid = true):g.Small:=by
 obtain ⟨f1,f2,f3,f4,f5,f6,f7⟩:=val_facts h;refine small_of (by omega) (by omega) (fun u=>?_);by_cases hu:u < g.ports.length
 . have:=okR_len hu (f6 u hu);omega
 . have:gR g.ports u = []:=by simp [gR,List.getD,List.getElem?_eq_none (Nat.le_of_not_lt hu)]
   rw [this];simp
end Go.Proofs.YtkimongfladmfaaGreatDoor
namespace Go.Proofs.YtkimongfladmfaaGreatDoor
open Go.Eng
set_option maxRecDepth 100000
set_option linter.unusedVariables false
theorem linkP_get {bk:Bool} {p:Ps} {a b:Nat} {w:Int} (ha:a < p.length) (hb:b < p.length) (hc:¬ (a = b∨lnk p a b = true)) (v:Nat) :
 gR (linkP bk p a b w) v = if v = b then addP bk (gR p b) ((a:Int),w) else if v = a then addP bk (gR p a) ((b:Int),w) else gR p v:=by
 rw [linkP,if_neg hc,gR_set _ b _ (by simpa using hb),gR_set p a _ ha]
theorem linkP_keep {bk:Bool} {p:Ps} {a b:Nat} {w:Int} (ha:a < p.length) (hb:b < p.length) {v:Nat} {l:Int × Int} (hl:l∈gR p v):l∈gR (linkP bk p a b w) v:=by
 by_cases hc:a = b∨lnk p a b = true
 . rw [linkP,if_pos hc];exact hl
 . rw [linkP_get ha hb hc];split
   . rename_i e;subst e;exact mem_addP.2 (.inr hl)
   . split
     . rename_i e;subst e;exact mem_addP.2 (.inr hl)
     . exact hl
theorem linkP_new {bk:Bool} {p:Ps} (h:PV p) {a b:Nat} {w:Int} (ha:a < p.length) (hb:b < p.length) (hab:a≠b):∃ l∈gR (linkP bk p a b w) b,l.1 = (a:Int):=by
 by_cases hc:lnk p a b = true
 . rw [linkP,if_pos (.inr hc)];rw [lnk,List.any_eq_true] at hc;obtain ⟨l,hl,e⟩:=hc;have e:l.1 = (b:Int):=by simpa using e
   have:=h.sym a ha l hl;rw [e,Int.toNat_natCast] at this;exact ⟨_,this,rfl⟩
 . rw [linkP_get ha hb (by rintro (e | e);exact hab e;exact hc e),if_pos rfl];exact ⟨_,mem_addP.2 (.inl rfl),rfl⟩
def Anc (p:Ps) (k:Nat):Prop:=∀ v,1≤v→v≤k→∃ l∈gR p v,l.1.toNat < v
theorem anc_tree (x:Net) (n:Nat):∀ k,k < n→Anc (treeP x n k) k
 | 0,_=>fun v h1 h2=>by omega
 | k + 1,hk=>by
   intro v h1 h2;have ht:=treeP_to x k;have hpv:=pv_tree x n k (by omega);have hl:=treeP_len x n k;rw [treeP];by_cases e:v = k + 1
   . subst e;obtain ⟨l,hl1,e⟩:=linkP_new (bk:=x.back) (w:=wgt x k) hpv (a:=(within (gI x.links k) ((k:Int) + 1)).toNat) (b:=k + 1) (by omega) (by omega) (by omega);exact ⟨l,hl1,by rw [e,Int.toNat_natCast];exact ht⟩
   . obtain ⟨l,hl1,e2⟩:=anc_tree x n k (by omega) v h1 (by omega);exact ⟨l,linkP_keep (by omega) (by omega) hl1,e2⟩
theorem anc_more (x:Net) {n:Nat} (hn:1≤n) {p:Ps} (hp:p.length = n) {m:Nat} (h:Anc p m):∀ k,Anc (moreP x n p k) m
 | 0=>h
 | k + 1=>by
   intro v h1 h2;obtain ⟨l,hl,e⟩:=anc_more x hn hp h k v h1 h2;rw [moreP];exact ⟨l,linkP_keep (by rw [moreP_len,hp];exact within_lt hn) (by rw [moreP_len,hp];exact within_lt hn) hl,e⟩
theorem conn_of {g:G} (hg:g.valid = true) (ha:∀ v,1≤v→v < g.ports.length→∃ l∈gR g.ports v,l.1.toNat < v):g.conn = true:=by
 obtain ⟨f1,f2,f3,f4,f5,f6,f7⟩:=val_facts hg;have hF:=dst_found hg;have hu:=und_of hg;have key:∀ m v,v < m→v < g.ports.length→0≤gI (dst g 0) v:=by
  intro m
  induction m with
  | zero=>intro v h;omega
  | succ m ih =>
    intro v hm hv;by_cases h0:v = 0
    . subst h0;have:=hF.from_;have this:gI (dst g 0) 0 = 0:=this;omega
    . obtain ⟨l,hl,e⟩:=ha v (by omega) hv;have h1:=ih l.1.toNat (by omega) (by omega);obtain ⟨m',hm',em⟩:=hu.sym v hv l hl;have:=(hF.on l.1.toNat (by omega) h1 m' hm').1;rw [em] at this;exact this
 rw [G.conn,hg,Bool.true_and,negB_no.2 (fun a ham=>?_)]
 . rfl
 . obtain ⟨i,hi,e⟩:=List.mem_iff_getElem.1 ham;have:=key (i + 1) i (by omega) (by rw [dst_len] at hi;exact hi);rw [← e];simpa [gI,hi] using this
theorem con_conn (x:Net) {most:Int} (h1:1≤most) (h2:most≤24):(x.con most).conn = true:=by
 have hs:=size_ok x h1;refine conn_of (con_valid x h1 h2) fun v hv1 hv=>?_;rw [(con_len x most).2] at hv;exact anc_more x hs.1 (treeP_len _ _ _) (anc_tree x (x.size most) (x.size most - 1) (by omega)) _ v hv1 (by omega)
end Go.Proofs.YtkimongfladmfaaGreatDoor
namespace Go.Proofs.YtkimongfladmfaaGreatDoor
open Go.Eng
set_option maxRecDepth 100000
set_option linter.unusedVariables false
theorem vC_lo' (x:Nat):0≤(gV vC' x).lo∧(gV vC' x).lo≤1000:=by
 rcases x with _ | _ | _ | x
 . exact ⟨by decide,by decide⟩
 . exact ⟨by decide,by decide⟩
 . exact ⟨by decide,by decide⟩
 . have:gV vC' (x + 3) = default:=by simp [gV,vC',List.getD]
   rw [this];exact ⟨by decide,by decide⟩
theorem cleg_next {g:G} (h:g.conn = true) {x y:Cf × Cnt} {s:Nat} (hst:StepAt pClk g 3 x s y) (hl:g.cleg x.1 = true):g.cleg y.1 = true:=by
 rw [hst.cf];exact cleg_step h hst.conf hl hst.part (step_conf clk_prOk (conn_facts h).1 hst.conf hst.part)
def TkI (g:G) (T:List (Cf × Cnt)) (i:Nat) (last:Int):Prop :=
 (last = -1∧(i = 0∨g.cleg (gT T (i - 1)).1 = false))∨∃ l:Nat,last = (l:Int)∧l < i∧g.cleg (gT T (i - 1)).1 = true∧TkC g (gT T l).2.begun (gT T (i - 1))
set_option maxHeartbeats 16000000 in
theorem lawCTicks (x:Net) (hx:x.Small) (raw:List Int) (hraw:raw.length≤9223372036854775807) (wi:List Int) (hwi:wi.length≤9223372036854775807) :
 RG 8 [x.v,.fz raw.length 1 false (vI raw),.fz wi.length 1 false (vUI wi)] (.bool true):=by
 have h0:=connected_ok x hx 6 (by omega) (by omega);have hgc:=con_conn x (most:=6) (by omega) (by omega);generalize x.con 6 = g at *;obtain ⟨hg,_⟩:=conn_facts hgc;obtain ⟨f1,f2,f3,f4,f5,f6,f7⟩:=val_facts hg;have hs:=valid_small hg;have hcf:=config_ok g hg vC' vC_ok vC_lo' raw hraw;have hc:=cfg_conf pClk clk_prOk g hg raw;change Conf pClk g (cfg g vC' raw) at hc;generalize cfg g vC' raw = c at *;have hv:=cvars_ok;have hk:=known36_ok;have htx:=text_ok;have hpr:=program_ok;have hwi:=wishes_ok wi hwi 200 (by omega);have hwl:=wsL_len wi 200;have hwlt:=wsL_lt wi 200;generalize wsL wi 200 = ws at *;have hrun:=wrun_ok txtB pClk clk_prOk program_ok g hs hg 3 (by decide) c hc ws (by omega) hwlt;have hall:=trc_all clk_prOk hg (k:=3) (by decide) ws c (cnt0 (enN pClk g c)) hc (cnt0_ok (en_24 _ hg c)) (by simp only [cnt0];omega);have hne:=trc_ne pClk g 3 c (cnt0 (enN pClk g c)) ws;have hlen:=trc_len pClk g 3 ws c (cnt0 (enN pClk g c));have hstep:=fun i=>trc_step clk_prOk hg (k:=3) (by decide) ws c (cnt0 (enN pClk g c)) i hc (cnt0_ok (en_24 _ hg c)) (by simp only [cnt0];omega);have hpe:=trc_pend clk_prOk hg (k:=3) (by decide) ws c hc (by omega);have hec:=recc_ok g hs hgc;obtain ⟨e1,e2⟩:=ecc_range g hgc;generalize trc pClk g 3 c (cnt0 (enN pClk g c)) ws = T at *;generalize chsL pClk g 3 c ws = ch at *;refine ret_frzG rfl ?_;refine fn_rule mixed Tryz.func8 rfl hc8 hr8 rfl ?_
 repeat' ((conv=>whnf);first | (refine Br.tt ?_) | (refine h0.go ?_) | (refine hcf.go ?_) | (refine hv.go ?_) | (refine htx.go ?_) | (refine hec.go ?_) | (refine hwi.go ?_) | (refine hrun.gog ?_) | (refine And.intro rfl ?_))
 all_goals (conv=>whnf)
 refine loop_r mixed [7,8,9,10,11] (fun x:Nat × Int=>[(12,.int .i64 x.2),(13,.int .i64 x.1)]) (fun m x=>m = T.length - x.1∧x.1≤T.length∧TkI g T x.1 x.2) T.length (0,-1) ⟨rfl,Nat.zero_le _,.inl ⟨rfl,.inl rfl⟩⟩ ?_ ?_
 . exact weak_b (fun _ _=>[(0,some 0),(1,some 1),(999,some 999)])
 rintro m ⟨i,last⟩ ⟨hm,hi,hinv⟩;simp only at hm hi hinv ⊢;by_cases hil:i < T.length
 . have hci:=(hall _ (gT_mem hil)).1;have hki:=(hall _ (gT_mem hil)).2;have hlg:Ret Tryz.prog 30 [g.v,cV (gT T i).1] (.bool (g.cleg (gT T i).1)):=clegit_ok g hs _ (csmall_of clk_prOk hg hci);have hcl:=hci.len;have k1:=hki.rb;have k2:=hki.bs;have k3:=hki.steps;have r1:=clk_rng hci (v:=0) (by omega);have rc1:(gC (gT T i).1 0).length = 3:=r1.1;cases hl:g.cleg (gT T i).1 with
   | false =>
     rw [hl] at hlg;have hnew:TkI g T (i + 1) last:=by
      rcases hinv with ⟨h1,h2⟩ | ⟨l,h1,h2,h3,h4⟩
      . exact .inl ⟨h1,.inr hl⟩
      . exfalso;have hst:=hstep (i - 1) (by omega);rw [show i - 1 + 1 = i by omega] at hst;rw [cleg_next hgc hst h3] at hl;cases hl
     repeat' ((conv=>whnf);first | (refine Br.ff ?_) | (refine Br.dec ?_ ?_ <;> intro _ <;> try omega) | (refine Ar.i64 (by omega) (by omega) ?_) | (refine Ix.nat (by omega) ?_) | (refine hlg.go ?_))
     all_goals (conv=>whnf)
     all_goals
      refine ⟨T.length - (i + 1),(i + 1,last),by omega,⟨rfl,(show i + 1≤T.length by omega),hnew⟩,?_⟩;exact weak_b (fun _ _=>[(0,some 0),(1,some 1),(999,some 999)])
   | true =>
     rw [hl] at hlg;have hnew:TkI g T (i + 1) i:=.inr ⟨i,rfl,by omega,hl,tk_start hgc hci hki hl (hpe i hil)⟩;rcases hinv with ⟨h1,h2⟩ | ⟨l,h1,h2,h3,h4⟩
     . subst h1
       repeat' ((conv=>whnf);first | (refine Br.tt ?_) | (refine Br.dec ?_ ?_ <;> intro _ <;> try omega) | (refine Ar.i64 (by omega) (by omega) ?_) | (refine Ix.nat (by omega) ?_) | (refine hlg.go ?_))
       all_goals (conv=>whnf)
       all_goals first
        | (exfalso;omega)
        | (refine ⟨T.length - (i + 1),(i + 1,(i:Int)),by omega,⟨rfl,(show i + 1≤T.length by omega),hnew⟩,?_⟩
           exact weak_b (fun _ _=>[(0,some 0),(1,some 1),(999,some 999)]))
     . subst h1;have hst:=hstep (i - 1) (by omega);rw [show i - 1 + 1 = i by omega] at hst;have hcp:=hst.conf;have hlp:Ret Tryz.prog 30 [g.v,cV (gT T (i - 1)).1] (.bool (g.cleg (gT T (i - 1)).1)):=clegit_ok g hs _ (csmall_of clk_prOk hg hcp);rw [h3] at hlp;have hpl:=hcp.len;have r2:=clk_rng hcp (v:=0) (by omega);have rp1:(gC (gT T (i - 1)).1 0).length = 3:=r2.1;have hkl:=(hall _ (gT_mem (i:=l) (by omega))).2;have l1:=hkl.rb;have l2:=hkl.bs;have l3:=hkl.steps;by_cases hq:gI (gC (gT T i).1 0) (Int.toNat 2) = gI (gC (gT T (i - 1)).1 0) (Int.toNat 2)
       . have hT:=tk_step hgc hst hci h3 hq h4;have hle:=Go.Plain.Clock.Tk.le hT;have hnew2:TkI g T (i + 1) l:=.inr ⟨l,rfl,by omega,hl,hT⟩
         repeat' ((conv=>whnf);first | (refine Ix.mk (i - 1) (by omega) (by omega) ?_) | (refine Ix.mk l (by omega) (by omega) ?_) | (refine Br.tt ?_) | (refine Br.ff ?_) | (refine Br.dec ?_ ?_ <;> intro _ <;> try omega) | (refine Br.bne ?_ ?_ <;> intro _ <;> try omega) | (refine Ar.i64 (by omega) (by omega) ?_) | (refine Ix.nat (by omega) ?_) | (refine Ix.mk 0 rfl (by omega) ?_) | (refine Ix.int (by omega) (by omega) ?_) | (refine hlg.go ?_) | (refine hlp.go ?_))
         all_goals (conv=>whnf)
         all_goals first
          | (exfalso;omega)
          | (refine ⟨T.length - (i + 1),(i + 1,(l:Int)),by omega,⟨rfl,(show i + 1≤T.length by omega),hnew2⟩,?_⟩
             exact weak_b (fun _ _=>[(0,some 0),(1,some 1),(999,some 999)]))
       . repeat' ((conv=>whnf);first | (refine Ix.mk (i - 1) (by omega) (by omega) ?_) | (refine Br.tt ?_) | (refine Br.ff ?_) | (refine Br.dec ?_ ?_ <;> intro _ <;> try omega) | (refine Br.bne ?_ ?_ <;> intro _ <;> try omega) | (refine Ar.i64 (by omega) (by omega) ?_) | (refine Ix.nat (by omega) ?_) | (refine Ix.mk 0 rfl (by omega) ?_) | (refine Ix.int (by omega) (by omega) ?_) | (refine hlg.go ?_) | (refine hlp.go ?_))
         all_goals (conv=>whnf)
         all_goals first
          | (exfalso;omega)
          | (refine ⟨T.length - (i + 1),(i + 1,(i:Int)),by omega,⟨rfl,(show i + 1≤T.length by omega),hnew⟩,?_⟩
             exact weak_b (fun _ _=>[(0,some 0),(1,some 1),(999,some 999)]))
 . repeat' ((conv=>whnf);first | (refine Br.tt ?_) | (refine Br.dec ?_ ?_ <;> intro _ <;> try omega) | (refine hk.go ?_))
   all_goals (conv=>whnf)
   all_goals exact VLe.rfl
end Go.Proofs.YtkimongfladmfaaGreatDoor
