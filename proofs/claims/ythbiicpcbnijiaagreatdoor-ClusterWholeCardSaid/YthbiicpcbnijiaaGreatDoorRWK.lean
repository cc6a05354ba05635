import Derived.Test.YthbiicpcbnijiaaGreatDoorAN1
import Derived.Test.YthbiicpcbnijiaaGreatDoorEvX2
import Derived.Test.YthbiicpcbnijiaaGreatDoorSBK
import Derived.Test.YthbiicpcbnijiaaGreatDoorCA2
namespace Go.Proofs.YthbiicpcbnijiaaGreatDoor
open Go.Eng
set_option maxRecDepth 100000
set_option linter.unusedVariables false
theorem len_le:∀ {l m:List Int},l.Nodup→(∀ a∈l,a∈m)→l.length≤m.length
 | [],m,_,_=>Nat.zero_le _
 | a :: l,m,hn,hs=>by
   rw [List.nodup_cons] at hn;have ham:=hs a (by simp);have h1:=len_le (l:=l) (m:=m.erase a) hn.2 (fun b hb=>(List.mem_erase_of_ne (fun e=>hn.1 (by rw [← e];exact hb))).2 (hs b (by simp [hb])));have h2:=List.length_erase_of_mem ham;have h3:=List.length_pos_of_mem ham;simp only [List.length_cons];omega
def freeF (l:List Int):Nat→Int→Int
 | 0,i=>i
 | f + 1,i=>if i∈l then freeF l f ((i + 1) % 256) else i
def tryI (i:Int) (k:Nat):Int:=(i + k) % 256
theorem tryI_next {i:Int} {k:Nat}:(tryI i k + 1) % 256 = tryI i (k + 1):=by rw [tryI,tryI];omega
theorem free_ends {l:List Int} (hl:l.length < 256) (i:Int):¬ ∀ j,j < 256→tryI i j∈l:=by
 intro h;have h1:((List.range 256).map (tryI i)).Nodup:=by
  rw [List.nodup_iff_pairwise_ne,List.pairwise_map];refine List.Pairwise.imp_of_mem ?_ List.nodup_range;intro a b ha hb hne e;rw [List.mem_range] at ha hb;rw [tryI,tryI] at e;omega
 have h2:=len_le h1 (fun a ha=>by
  obtain ⟨j,hj,rfl⟩:=List.mem_map.1 ha;exact h j (List.mem_range.1 hj))
 simp at h2;omega
def idsF (x:List Int):Nat→List Int
 | 0=>[]
 | v + 1=>idsF x v ++ [freeF (idsF x v) 256 (within (gI x v) 256)]
theorem idsF_len (x:List Int):∀ v,(idsF x v).length = v
 | 0=>rfl
 | v + 1=>by rw [idsF,List.length_append,idsF_len x v];rfl
theorem within_range (a:Int) {b:Int} (hb:1≤b):0≤within a b∧within a b < b:=by
 have h1:=Int.tmod_lt_of_pos a (show (0:Int) < b by omega);have h2:=Int.tmod_lt_of_pos (-a) (show (0:Int) < b by omega);rw [Int.neg_tmod] at h2;rw [within,if_neg (by omega)];split <;> omega
theorem free_spec {l:List Int} {i:Int} (h0:0≤i) (h1:i≤255):∀ f k,k + f = 256→(∀ j,j < k→tryI i j∈l)→l.length < 256→0≤freeF l f (tryI i k)∧freeF l f (tryI i k)≤255∧freeF l f (tryI i k) ∉ l
 | 0,k,hk,hall,hl=>(free_ends hl i (fun j hj=>hall j (by omega))).elim
 | f + 1,k,hk,hall,hl=>by
   rw [freeF];split
   . rename_i hm;rw [tryI_next];exact free_spec h0 h1 f (k + 1) (by omega) (fun j hj=>by
      by_cases e:j = k
      . subst e;exact hm
      . exact hall j (by omega)) hl
   . rename_i hm;refine ⟨?_,?_,hm⟩ <;> (rw [tryI];omega)
theorem try_zero {i:Int} (h0:0≤i) (h1:i≤255):tryI i 0 = i:=by rw [tryI];omega
theorem idsF_ok (x:List Int):∀ v,v≤255→(∀ a∈idsF x v,0≤a∧a≤255)∧(idsF x v).Nodup
 | 0,_=>⟨fun a h=>(by simp [idsF] at h),by simp [idsF]⟩
 | v + 1,hv=>by
   obtain ⟨i1,i2⟩:=idsF_ok x v (by omega);have hw:=within_range (gI x v) (b:=256) (by omega);have hf:=free_spec (l:=idsF x v) (i:=within (gI x v) 256) hw.1 (by omega) 256 0 rfl (fun j hj=>by omega) (by rw [idsF_len];omega);rw [try_zero hw.1 (by omega)] at hf;rw [idsF];refine ⟨fun a ha=>?_,?_⟩
   . rcases List.mem_append.1 ha with h | h
     . exact i1 a h
     . have:a = freeF (idsF x v) 256 (within (gI x v) 256):=by simpa using h
       rw [this];exact ⟨hf.1,hf.2.1⟩
   . rw [List.nodup_append];refine ⟨i2,by simp,fun a ha b hb e=>?_⟩;have:b = freeF (idsF x v) 256 (within (gI x v) 256):=by simpa using hb
     rw [← this,← e] at hf;exact hf.2.2 ha
def ownN (x:Net) (n:Nat):Own:=[(0,.vec n 1 (vI (idsF x.ids n))),(1,.vec n 1 fun _ _=>.nilslice)]
def Net.n1 (x:Net):Int:=IntKind.i64.wrap (x.n - 1)
def Net.size (x:Net) (most:Int):Nat:=(1 + within x.n1 most).toNat
theorem getD_snocI (l:List Int) (a:Int) (i:Nat):gI (l ++ [a]) i = if i < l.length then gI l i else if i = l.length then a else 0:=by
 by_cases h:i < l.length
 . simp only [gI,List.getD,List.getElem?_append_left h,if_pos h]
 . rw [if_neg h];by_cases h2:i = l.length
   . subst h2;simp [gI]
   . simp [gI,h2,List.getElem?_eq_none (by simp;omega:(l ++ [a]).length≤i)]
theorem vle_appI (l:List Int) (a:Int) (n:Nat) (hn:l.length = n) (i j:Nat) (hi:i < n + 1) (hj:j < 1) :
 VLe (fapp (shiftF 0 (vI l)) n (shiftF 0 (tab [[.int .i64 a]])) i j) (vI (l ++ [a]) i j):=by
 apply VLe.of_eq;subst hn;by_cases h:i < l.length
 . rw [fapp_lt h];simp only [shiftF,vI,getD_snocI,if_pos h]
 . rw [fapp_ge h];have:i = l.length:=by omega
   subst this;obtain rfl:j = 0:=by omega
   simp [shiftF,vI,getD_snocI,tab]
set_option maxHeartbeats 8000000 in
theorem nodes_ok (x:Net) (hx:x.Small) (most:Int) (h1:1≤most) (h2:most≤24) :
 CallF Tryz.prog 27 [x.v,.int .i64 most] [] KS fun v own' _=>v = gV1 (x.size most) (x.size most)∧own' = ownN x (x.size most):=by
 have hw:=within_ok x.n1 most (by omega);have hwr:=within_range x.n1 h1;have hn:1 + within x.n1 most = (x.size most:Nat):=by rw [Net.size];omega
 have hsz:1≤x.size most∧x.size most≤24:=by omega
 have hids:=hx.ids;generalize x.size most = n at *;refine call_post ?_;refine fn_rule mixed Tryz.func27 rfl hc27 hr27 rfl ?_
 repeat' ((conv=>whnf);first | (refine Ar.mk x.n1 rfl ?_) | (refine Ar.i64 (by omega) (by omega) ?_;rw [hn]) | (refine Bd.nat (by omega) ?_) | (refine Len.mk (by omega) ?_) | (refine MkS.vec ?_) | (refine hw.go ?_))
 all_goals (conv=>whnf)
 refine loop_u mixed [2,4,5,6] [4] [5,6,7,8,9,10,11,12,13,14,15,16,17,18,19,20,21,22,23,24,25,26,27,28,29] [4,3,2,1,0] (fun v:Nat=>[(7,.int .i64 v)]) (fun own v=>(4,.vec v 1 (vI (idsF x.ids v))) :: updO own 3 (.cells [.vec 4 1 0 v,.vec 2 1 0 n])) (fun m v=>m = n - v∧v≤n) n 0 ⟨rfl,by omega⟩ rfl (fun _=>rfl) ?_ ?_
 . exact weak_b (fun _ _=>[(0,some 0),(1,some 1),(2,some 2),(3,some 3),(4,none)])
 rintro m v ⟨hm,hv⟩;have hat:=at_ok x.ids hids v;have hw2:=within_ok (gI x.ids v) 256 (by omega);have hr2:=within_range (gI x.ids v) (b:=256) (by omega);have hil:=idsF_len x.ids v;have hsn:idsF x.ids (v + 1) = idsF x.ids v ++ [freeF (idsF x.ids v) 256 (within (gI x.ids v) 256)]:=rfl;have htz:=try_zero hr2.1 (by omega);generalize within (gI x.ids v) 256 = id0 at *;generalize hL:idsF x.ids v = L at *
 repeat' ((conv=>whnf);first | (refine Br.dec ?_ ?_ <;> intro _ <;> try omega) | (refine hat.go ?_) | (refine hw2.go ?_))
 all_goals (conv=>whnf)
 . refine loop_r mixed [2,4,5,6,7] (fun p:Nat × Nat=>[(8,.int .i64 (tryI id0 p.1)),(9,.int .i64 p.2)]) (fun m p=>m = (256 - p.1) * 25 + (v - p.2)∧p.1≤256∧p.2≤v∧(∀ j,j < p.1→tryI id0 j∈L)∧(∀ j,j < p.2→gI L j≠tryI id0 p.1)∧freeF L (256 - p.1) (tryI id0 p.1) = freeF L 256 id0) _ (0,0) ⟨rfl,by omega,by omega,fun j hj=>(by omega),fun j hj=>(by omega),(by show freeF L 256 (tryI id0 0) = _;rw [htz])⟩ ?_ ?_
   . refine weak_by (fun _ _=>[(0,some 0),(1,some 1),(2,some 2),(3,some 3),(4,some 4)]) ?_ ?_ rfl
     . repeat' (first | exact VRen.int htz.symm | exact True.intro | (refine ⟨⟨_,rfl,?_⟩,?_⟩) | exact VRen.kf rfl | exact VRen.loc rfl)
     . repeat' (first | exact True.intro | (refine ⟨⟨_,rfl,?_⟩,?_⟩) | exact VRen.kf rfl | exact VRen.vec rfl rfl rfl | (refine ⟨Nat.le_refl _,rfl,fun i j hi hj=>?_⟩) | exact VLe.rfl | (refine And.intro ?_ ?_))
   rintro m ⟨k,u⟩ ⟨hm2,hk,hu,hall,hne,hfr⟩;simp only at hm2 hk hu hall hne hfr;have htr:0≤tryI id0 k∧tryI id0 k≤255:=by rw [tryI];omega
   have htn:(tryI id0 k + 1).tmod 256 = tryI id0 (k + 1):=by rw [Int.tmod_eq_emod_of_nonneg (by omega),tryI_next]
   generalize hT:tryI id0 k = T at *
   repeat' ((conv=>whnf);first | (refine Br.dec ?_ ?_ <;> intro _ <;> try omega) | (refine Br.nbeq ?_ ?_ <;> intro _ <;> try omega) | (refine Ar.i64 (by omega) (by omega) ?_) | (refine Sv.mk _ rfl ?_) | (refine Nz.mk (by omega) ?_) | (refine Ix.nat (by omega) ?_) | (refine Len.mk (by omega) ?_) | (refine Ltn.mk (by omega) ?_))
   all_goals (conv=>whnf)
   . rename_i h3 h4;have hin:T∈L:=by rw [← h4];exact gI_mem (by omega)
     have hk2:k < 256:=by
      rcases Nat.lt_or_ge k 256 with h | h
      . exact h
      . exact (free_ends (l:=L) (by omega) id0 (fun j hj=>hall j (by omega))).elim
     refine ⟨_,(k + 1,0),?_,⟨rfl,by omega,by omega,fun j hj=>?_,fun j hj=>(by omega),?_⟩,?_⟩
     . simp only;omega
     . simp only at hj;by_cases e:j = k
       . subst e;rw [hT];exact hin
       . exact hall j (by omega)
     . simp only;rw [← hfr,show 256 - k = (256 - (k + 1)) + 1 by omega,freeF,if_pos hin,← hT,tryI_next]
     . refine weak_by (fun _ _=>[(0,some 0),(1,some 1),(2,some 2),(3,some 3),(4,some 4)]) ?_ ?_ rfl
       . repeat' (first | exact VRen.int htn | exact True.intro | (refine ⟨⟨_,rfl,?_⟩,?_⟩) | exact VRen.kf rfl | exact VRen.loc rfl)
       . repeat' (first | exact True.intro | (refine ⟨⟨_,rfl,?_⟩,?_⟩) | exact VRen.kf rfl | exact VRen.vec rfl rfl rfl | (refine ⟨Nat.le_refl _,rfl,fun i j hi hj=>?_⟩) | exact VLe.rfl | (refine And.intro ?_ ?_))
   . rename_i h3 h4;refine ⟨_,(k,u + 1),?_,⟨rfl,hk,by omega,hall,fun j hj=>?_,by rw [hT];exact hfr⟩,?_⟩
     . simp only;omega
     . simp only at hj ⊢;rw [hT];by_cases e:j = u
       . subst e;simpa using h4
       . exact hne j (by omega)
     . refine weak_by (fun _ _=>[(0,some 0),(1,some 1),(2,some 2),(3,some 3),(4,some 4)]) ?_ ?_ rfl
       . repeat' (first | exact VRen.int hT.symm | exact True.intro | (refine ⟨⟨_,rfl,?_⟩,?_⟩) | exact VRen.kf rfl | exact VRen.loc rfl)
       . repeat' (first | exact True.intro | (refine ⟨⟨_,rfl,?_⟩,?_⟩) | exact VRen.kf rfl | exact VRen.vec rfl rfl rfl | (refine ⟨Nat.le_refl _,rfl,fun i j hi hj=>?_⟩) | exact VLe.rfl | (refine And.intro ?_ ?_))
   . have hno:T ∉ L:=fun h=>by
      obtain ⟨j,j1,j2⟩:=gI_get h;exact hne j (by omega) j2
     have hfin:freeF L 256 id0 = T:=by
      rw [← hfr];cases h:256 - k with
      | zero=>rfl
      | succ f=>rw [freeF,if_neg hno]
     rw [hfin] at hsn
     repeat' ((conv=>whnf);first | fail)
     all_goals (conv=>whnf)
     all_goals
      refine ⟨n - (v + 1),v + 1,by omega,⟨rfl,by omega⟩,?_⟩;simp only [hsn];refine weak_by (fun env own=>[(0,some 0),(1,some 1),(2,some 2),(3,some 3),(4,ckeyo own 3 0)]) ?_ ?_ rfl
      . repeat' (first | exact True.intro | (refine ⟨⟨_,rfl,?_⟩,?_⟩) | exact VRen.kf rfl | exact VRen.loc rfl)
      . repeat' (first | (refine ⟨Nat.le_refl _,rfl,fun i j hi hj=>?_⟩) | exact vle_appI _ _ _ hil _ _ hi hj | exact True.intro | (refine ⟨⟨_,rfl,?_⟩,?_⟩) | exact VRen.kf rfl | exact VRen.vec rfl rfl rfl | exact VLe.rfl | (refine And.intro ?_ ?_))
 . have e:v = n:=by omega
   subst e;exact postR_byV (fun v o=>[(0,vkey v 0),(1,vkey v 1)]) _ _ ⟨rfl,rfl⟩ (VRen.agg ⟨VRen.vec rfl rfl rfl,VRen.vec rfl rfl rfl,True.intro⟩) ⟨⟨_,rfl,Nat.le_refl _,rfl,fun _ _ _ _=>VLe.of_eq (by rw [hL])⟩,⟨_,rfl,Nat.le_refl _,rfl,fun i j hi hj=>VLe.of_eq (by obtain rfl:j = 0:=(by omega);rfl)⟩,True.intro⟩ rfl
theorem mem_gR {p:Ps} {r:List (Int × Int)} (h:r∈p):∃ u,gR p u = r:=by
 obtain ⟨i,hi,e⟩:=List.mem_iff_getElem.1 h;exact ⟨i,by simp [gR,List.getD,hi,e]⟩
theorem small_of {g:G} (h1:g.ids.length≤1000) (h2:g.ports.length≤1000) (h3:∀ u,(gR g.ports u).length≤1000):g.Small :=
 ⟨by omega,by omega,fun r hr=>by obtain ⟨u,rfl⟩:=mem_gR hr;have:=h3 u;omega⟩
theorem ret_args {P:Program} {f:FuncId} {args args':List V} {X:V} (hk:allB V.kf args' = true) (hl:LLe args' args) (h:Ret P f args X):Ret P f args' X:=fun own ks=>by
 constructor;intro M w σ us hlen hd hh;obtain ⟨d1,d2⟩:=hl.dens (M:=M) (w:=w) (us:=us) hlen (fun i v u hv hu=>(hd i v u hv hu).kf (allB_mem hk v (List.mem_of_getElem? hv)) Sg.none);exact (h own ks).out M w σ us d1 (fun i v u hv hu=>(d2 i v u hv hu).mono (Ext.mk (fun _ _ h=>⟨h,rfl⟩) (Nat.le_refl _)) (Sg.none_le σ)) hh
theorem ret_res {P:Program} {f:FuncId} {args:List V} {X X':V} (hk:X.kf = true) (hl:VLe X X') (h:Ret P f args X):Ret P f args X':=fun own ks=>by
 constructor;intro M w σ us hlen hd hh;refine ((h own ks).out M w σ us hlen hd hh).mono ?_;rintro e w' ⟨M',σ',v,own',ks',u,rfl,hv,hh',tr,kd,rfl,rfl,rfl⟩;exact ⟨M',σ',X',_,_,u,rfl,(hl.out _ _ _ (hv.kf hk Sg.none)).mono (Ext.mk (fun _ _ h=>⟨h,rfl⟩) (Nat.le_refl _)) (Sg.none_le σ'),hh',tr,kd,rfl,rfl,rfl⟩
def AllLt:Nat→(Nat→Prop)→Prop
 | 0,_=>True
 | n + 1,P=>P 0∧AllLt n fun i=>P (i + 1)
theorem AllLt.out:∀ {n:Nat} {P:Nat→Prop},AllLt n P→∀ i,i < n→P i
 | n + 1,P,h,0,_=>h.1
 | n + 1,P,h,i + 1,hi=>AllLt.out h.2 i (by omega)
theorem vle_fzA {n s:Nat} {f g:Nat→Nat→V} (h:AllLt n fun i=>AllLt s fun j=>VLe (f i j) (g i j)):VLe (.fz n s false f) (.fz n s false g) :=
 VLe.fz rfl (fun h=>h) fun i j hi hj=>(h.out i hi).out j hj
theorem vle_str {a b:ByteArray} (h:a = b):VLe (.str a) (.str b):=by subst h;exact .rfl
theorem pr_agg:VLe pClu.v aggC.v:=by
 repeat' (first | exact True.intro | exact VLe.rfl | exact vle_str (by kernel_rfl) | (refine VLe.agg ?_) | (refine vle_fzA ?_) | (refine And.intro ?_ ?_))
theorem agg_pr:VLe aggC.v pClu.v:=by
 repeat' (first | exact True.intro | exact VLe.rfl | exact vle_str (by kernel_rfl) | (refine VLe.agg ?_) | (refine vle_fzA ?_) | (refine And.intro ?_ ?_))
theorem clu_types:Ret Tryz.prog 81 [pClu.v] (.bool true):=by
 have h:=ev_ret mixed tb_ok ev_types;exact ret_args (args:=[aggC.v]) rfl ⟨pr_agg,True.intro⟩ (by simpa only [C.vs,C.v] using h)
def txtB:ByteArray:=match textC with | .str l c=>bytesOf l c | _=>default
theorem text_ok:Ret Tryz.prog 23 [] (.str txtB):=by
 have:=ev_ret mixed tb_ok ev_text;simpa only [C.vs,C.v,textC,txtB] using this
theorem parse_ok:Ret Tryz.prog 30 [.str txtB] (.tup [aggC.v,.int .i64 0,.int .i64 0]):=by
 have:=ev_ret mixed tb_ok ev_parse;simpa only [C.vs,C.v,textC,txtB,progC] using this
theorem parse_ok2:Ret Tryz.prog 30 [.str txtB] (.tup [pClu.v,.int .i64 0,.int .i64 0]) :=
 ret_res (X:=.tup [aggC.v,.int .i64 0,.int .i64 0]) rfl (VLe.tup ⟨agg_pr,VLe.rfl,VLe.rfl,True.intro⟩) parse_ok
theorem program_ok:Ret Tryz.prog 7 [.str txtB] pClu.v:=by
 refine ret_frz rfl ?_;refine fn_rule mixed Tryz.func7 rfl hc7 hr7 rfl ?_
 repeat' ((conv=>whnf);first | (refine parse_ok2.go ?_))
 all_goals (conv=>whnf)
 exact VLe.rfl
theorem clu_prOk:PrOk pClu where
 vlen:=by decide
 var:=fun i hi=>by
  rcases (show i = 0∨i = 1 by have:i < 2:=hi;omega) with rfl | rfl
  . exact ⟨.inr (.inl rfl),by decide,by decide,by decide,by decide,by decide⟩
  . exact ⟨.inr (.inr rfl),by decide,by decide,by decide,by decide,by decide⟩
 rlen:=by decide
 gd:=fun i hi=>by
  rcases (show i = 0∨i = 1∨i = 2 by have:i < 3:=hi;omega) with rfl | rfl | rfl
  . decide
  . decide
  . decide
 slen:=fun i hi=>by
  rcases (show i = 0∨i = 1∨i = 2 by have:i < 3:=hi;omega) with rfl | rfl | rfl
  . decide
  . decide
  . decide
 set:=fun i hi j hj=>by
  rcases (show i = 0∨i = 1∨i = 2 by have:i < 3:=hi;omega) with rfl | rfl | rfl
  . (obtain rfl:j = 0:=by have:j < 1:=hj;omega);decide
  . (obtain rfl:j = 0:=by have:j < 1:=hj;omega);decide
  . (obtain rfl:j = 0:=by have:j < 1:=hj;omega);decide
 types:=clu_types
def tw (g:G) (c:Cf) (v:Nat):Int:=if 0≤gI (gC c v) 1 then (gF (gR g.ports v) (gI (gC c v) 1).toNat).1 else -1
def hdv (g:G) (c:Cf) (v:Nat):Int:=if gI (gC c v) 0 = 1 then v else tw g c v
def G.kheads (g:G) (c:Cf):List Int:=if g.valid && g.kconf c then (List.range c.length).map (hdv g c) else []
def arr (h d:Nat→Int) (v:Nat):Nat→Nat→V:=fun i _=>.int .i64 (if i < v then h i else d i)
theorem arr_upd {h d:Nat→Int} {v i j:Nat} {F:Nat→Nat→V} (hj:j < 1) (hF:∀ i,i≠v→F i 0 = arr h d v i 0) (hv:F v 0 = .int .i64 (h v)):VLe (F i j) (arr h d (v + 1) i j):=by
 obtain rfl:j = 0:=by omega
 apply VLe.of_eq;by_cases e:i = v
 . subst e;rw [hv,arr,if_pos (by omega)]
 . rw [hF i e,arr,arr];by_cases h2:i < v
   . rw [if_pos h2,if_pos (by omega)]
   . rw [if_neg h2,if_neg (by omega)]
theorem arr_skip {h d:Nat→Int} {v i j:Nat} (hv:h v = d v):VLe (arr h d v i j) (arr h d (v + 1) i j):=by
 apply VLe.of_eq;rw [arr,arr];by_cases h2:i < v
 . rw [if_pos h2,if_pos (by omega)]
 . by_cases e:i = v
   . subst e;rw [if_neg h2,if_pos (by omega),hv]
   . rw [if_neg h2,if_neg (by omega)]
theorem arr_zero {h:Nat→Int} {i j:Nat} (hj:j < 1):VLe ((fun (x:Nat) (j:Nat)=>[V.int .i64 0].getD j default) i j) (arr h (fun _=>0) 0 i j):=by
 obtain rfl:j = 0:=by omega
 apply VLe.of_eq;rw [arr,if_neg (by omega)];rfl
theorem arr_next {h d h2:Nat→Int} {n i j:Nat} (hi:i < n):VLe (arr h d n i j) (arr h2 h 0 i j):=by
 apply VLe.of_eq;rw [arr,arr,if_pos hi,if_neg (by omega)]
theorem gI_range {h:Nat→Int} {n i:Nat} (hi:i < n):gI ((List.range n).map h) i = h i:=by
 simp [gI,hi]
theorem arr_end {h d:Nat→Int} {n:Nat}:VLe (.fz n 1 false (shiftF 0 (arr h d n))) (.fz ((List.range n).map h).length 1 false (vI ((List.range n).map h))):=by
 refine VLe.fz (by simp) (fun h=>h) (fun i j hi hj=>VLe.of_eq ?_);simp only [shiftF,arr,vI]
 try simp only [Nat.add_zero]
 try simp only [Nat.zero_add]
 rw [if_pos hi,gI_range hi]
set_option maxHeartbeats 8000000 in
theorem heads_ok (g:G) (hs:g.Small) (c:Cf) (hc:CSmall c):Ret Tryz.prog 68 [g.v,cV c] (.fz (g.kheads c).length 1 false (vI (g.kheads c))):=by
 have h1:=kconfiguration_ok g hs c hc;refine ret_frz rfl ?_;refine fn_rule mixed Tryz.func68 rfl hc68 hr68 rfl ?_;rw [G.kheads];by_cases hg:(g.valid && g.kconf c) = true
 . rw [hg] at h1 ⊢;rw [if_pos rfl];rw [Bool.and_eq_true] at hg;obtain ⟨f1,f2,f3,f4,f5,f6,f7⟩:=val_facts hg.1;obtain ⟨e1,e2⟩:=kconf_facts hg.2
   repeat' ((conv=>whnf);first | (refine Br.tt ?_) | (refine Bd.nat (by omega) ?_) | (refine Len.mk (by omega) ?_) | (refine MkS.vec ?_) | (refine h1.go ?_) | (refine fn_rule mixed Tryz.func93 rfl hc93 hr93 rfl ?_))
   all_goals (conv=>whnf)
   refine loop_u mixed [2,3,7,13,14] [] [3,4,5,6,7,8,9,10,11,12,13,14,15,16,17,18,19,20,21,22,23,24,25,26,27,28,29] [2,1,0] (fun i:Nat=>[(15,.int .i64 i)]) (fun own v=>updO own 2 (.vec c.length 1 (arr (tw g c) (fun _=>0) v))) (fun m v=>m = c.length - v∧v≤c.length) c.length 0 ⟨rfl,Nat.zero_le _⟩ rfl (fun _=>rfl) ?_ ?_
   . refine weak_by (fun _ _=>[(0,some 0),(1,some 1),(2,some 2)]) ?_ ?_ rfl
     . repeat' (first | exact True.intro | (refine ⟨⟨_,rfl,?_⟩,?_⟩) | exact VRen.kf rfl | exact VRen.loc rfl | exact VRen.vec rfl rfl rfl)
     . repeat' (first | exact arr_zero hj | exact True.intro | (refine ⟨⟨_,rfl,?_⟩,?_⟩) | exact VRen.kf rfl | (refine ⟨Nat.le_refl _,rfl,fun i j hi hj=>?_⟩) | (refine And.intro ?_ ?_))
   rintro m v ⟨hm,hv⟩;have e2v:=e2 v;have hrl:=gR_len hs.rows v
   repeat' ((conv=>whnf);first | (refine Br.dec ?_ ?_ <;> intro _ <;> try omega) | (refine Ar.i64 (by omega) (by omega) ?_) | (refine Ix.nat (by omega) ?_) | (refine Ix.mk 1 rfl (by omega) ?_) | (refine Ix.int (by omega) (by omega) ?_) | (refine Ltn.mk (by omega) ?_))
   all_goals (conv=>whnf)
   . have htw:tw g c v = (gF (gR g.ports v) (gI (gC c v) 1).toNat).1:=by rw [tw,if_pos (by assumption)]
     refine ⟨c.length - (v + 1),v + 1,by omega,⟨rfl,by omega⟩,?_⟩;refine weak_by (fun _ _=>[(0,some 0),(1,some 1),(2,some 2)]) ?_ ?_ rfl
     . repeat' (first | exact True.intro | (refine ⟨⟨_,rfl,?_⟩,?_⟩) | exact VRen.kf rfl | exact VRen.loc rfl | exact VRen.vec rfl rfl rfl)
     . repeat' (first | exact arr_upd hj (fun i hne=>by simp [fset,hne]) (by simp [fset,htw]) | exact True.intro | (refine ⟨⟨_,rfl,?_⟩,?_⟩) | exact VRen.kf rfl | (refine ⟨Nat.le_refl _,rfl,fun i j hi hj=>?_⟩) | (refine And.intro ?_ ?_))
   . have htw:tw g c v = -1:=by rw [tw,if_neg (by assumption)]
     refine ⟨c.length - (v + 1),v + 1,by omega,⟨rfl,by omega⟩,?_⟩;refine weak_by (fun _ _=>[(0,some 0),(1,some 1),(2,some 2)]) ?_ ?_ rfl
     . repeat' (first | exact True.intro | (refine ⟨⟨_,rfl,?_⟩,?_⟩) | exact VRen.kf rfl | exact VRen.loc rfl | exact VRen.vec rfl rfl rfl)
     . repeat' (first | exact arr_upd hj (fun i hne=>by simp [fset,hne]) (by simp [fset,htw]) | exact True.intro | (refine ⟨⟨_,rfl,?_⟩,?_⟩) | exact VRen.kf rfl | (refine ⟨Nat.le_refl _,rfl,fun i j hi hj=>?_⟩) | (refine And.intro ?_ ?_))
   have e:v = c.length:=by omega
   subst e;refine loop_u mixed [5,15,16] [] [3,4,5,6,7,8,9,10,11,12,13,14,15,16,17,18,19,20,21,22,23,24,25,26,27,28,29] [2,1,0] (fun i:Nat=>[(17,.int .i64 i)]) (fun own v=>updO own 2 (.vec c.length 1 (arr (hdv g c) (tw g c) v))) (fun m v=>m = c.length - v∧v≤c.length) c.length 0 ⟨rfl,Nat.zero_le _⟩ rfl (fun _=>rfl) ?_ ?_
   . refine weak_by (fun _ _=>[(0,some 0),(1,some 1),(2,some 2)]) ?_ ?_ rfl
     . repeat' (first | exact True.intro | (refine ⟨⟨_,rfl,?_⟩,?_⟩) | exact VRen.kf rfl | exact VRen.vec rfl rfl rfl)
     . repeat' (first | exact arr_next hi | exact True.intro | (refine ⟨⟨_,rfl,?_⟩,?_⟩) | exact VRen.kf rfl | (refine ⟨Nat.le_refl _,rfl,fun i j hi hj=>?_⟩) | (refine And.intro ?_ ?_))
   rintro m v ⟨hm,hv⟩;have e2v:=e2 v
   repeat' ((conv=>whnf);first | (refine Br.dec ?_ ?_ <;> intro _ <;> try omega) | (refine Ar.i64 (by omega) (by omega) ?_) | (refine Ix.nat (by omega) ?_) | (refine Ix.mk 0 rfl (by omega) ?_) | (refine Len.mk (by omega) ?_) | (refine Ltn.mk (by omega) ?_))
   all_goals (conv=>whnf)
   . have hh:hdv g c v = v:=by rw [hdv,if_pos (by assumption)]
     refine ⟨c.length - (v + 1),v + 1,by omega,⟨rfl,by omega⟩,?_⟩;refine weak_by (fun _ _=>[(0,some 0),(1,some 1),(2,some 2)]) ?_ ?_ rfl
     . repeat' (first | exact True.intro | (refine ⟨⟨_,rfl,?_⟩,?_⟩) | exact VRen.kf rfl | exact VRen.vec rfl rfl rfl)
     . repeat' (first | exact arr_upd hj (fun i hne=>by simp [fset,hne]) (by simp [fset,hh]) | exact True.intro | (refine ⟨⟨_,rfl,?_⟩,?_⟩) | exact VRen.kf rfl | (refine ⟨Nat.le_refl _,rfl,fun i j hi hj=>?_⟩) | (refine And.intro ?_ ?_))
   . have hh:hdv g c v = tw g c v:=by rw [hdv,if_neg (by assumption)]
     refine ⟨c.length - (v + 1),v + 1,by omega,⟨rfl,by omega⟩,?_⟩;refine weak_by (fun _ _=>[(0,some 0),(1,some 1),(2,some 2)]) ?_ ?_ rfl
     . repeat' (first | exact True.intro | (refine ⟨⟨_,rfl,?_⟩,?_⟩) | exact VRen.kf rfl | exact VRen.vec rfl rfl rfl)
     . repeat' (first | exact arr_skip hh | exact True.intro | (refine ⟨⟨_,rfl,?_⟩,?_⟩) | exact VRen.kf rfl | (refine ⟨Nat.le_refl _,rfl,fun i j hi hj=>?_⟩) | (refine And.intro ?_ ?_))
   . have e:v = c.length:=by omega
     subst e;exact arr_end
 . simp only [Bool.not_eq_true] at hg;rw [hg] at h1 ⊢;rw [if_neg (by simp)]
   repeat' ((conv=>whnf);first | (refine Br.ff ?_) | (refine h1.go ?_))
   all_goals (conv=>whnf)
   all_goals exact VLe.nilfz rfl
theorem cf2_small (a b d a' b' d':Int):CSmall [[a,a'],[b,b'],[d,d']]:=⟨by simp,by simp⟩
theorem cf32_le {a b d a' b' d':Int} {k1 k2 k3:Nat→Nat→V} (h1:k1 0 0 = .int .i64 a) (h2:k2 0 0 = .int .i64 b) (h3:k3 0 0 = .int .i64 d) (h1':k1 1 0 = .int .i64 a') (h2':k2 1 0 = .int .i64 b') (h3':k3 1 0 = .int .i64 d') {f:Nat→Nat→V}
 (f0:f 0 0 = .fz 2 1 false k1) (f1:f 1 0 = .fz 2 1 false k2) (f2:f 2 0 = .fz 2 1 false k3):VLe (.fz 3 1 false f) (cV [[a,a'],[b,b'],[d,d']]):=by
 refine VLe.fz rfl (fun h=>h) (fun i j hi hj=>?_);have e:j = 0:=by omega
 subst e;rcases i with _ | _ | _ | i
 . rw [f0];exact VLe.fz rfl (fun h=>h) (two_le _ _ _ h1 h1')
 . rw [f1];exact VLe.fz rfl (fun h=>h) (two_le _ _ _ h2 h2')
 . rw [f2];exact VLe.fz rfl (fun h=>h) (two_le _ _ _ h3 h3')
 . exfalso;omega
theorem three_le (a b d:Int) (f:Nat→Nat→V) (h0:f 0 0 = .int .i64 a) (h1:f 1 0 = .int .i64 b) (h2:f 2 0 = .int .i64 d):∀ i j:Nat,i < 3→j < 1→VLe (f i j) (vI [a,b,d] i j):=by
 intro i j hi hj;have e':j = 0:=by omega
 subst e';rcases i with _ | _ | _ | i
 . rw [h0];exact VLe.rfl
 . rw [h1];exact VLe.rfl
 . rw [h2];exact VLe.rfl
 . exfalso;omega
theorem k1:t3.klegit [[0,0],[1,-1],[0,0]] = true:=by decide +kernel
theorem k2:t3.klegit [[0,0],[1,0],[0,0]] = false:=by decide +kernel
theorem k3:t3.kheads [[0,0],[1,-1],[0,0]] = [1,1,1]:=by decide +kernel
set_option maxHeartbeats 4000000 in
theorem known34_ok:Ret Tryz.prog 26 [] (.bool true):=by
 have h1:=klegit_ok t3 t3_small _ (cf2_small 0 1 0 0 (-1) 0);have h2:=klegit_ok t3 t3_small _ (cf2_small 0 1 0 0 0 0);have h3:=heads_ok t3 t3_small _ (cf2_small 0 1 0 0 (-1) 0);have h4:=same34_ok [1,1,1] [1,1,1] (by decide) (by decide);rw [k1] at h1;rw [k2] at h2;rw [k3] at h3;rw [decide_eq_true rfl] at h4;refine ret_frz2 rfl ?_;refine fn_rule mixed Tryz.func26 rfl hc26 hr26 rfl ?_
 repeat' ((conv=>whnf);first | (refine Br.tt ?_) | (refine Br.ff ?_) | (refine call_frz [0] tree3 ⟨by decide,VLe.agg ⟨VLe.rfl,VLe.fz rfl (fun h=>h) (two_le _ _ _ rfl rfl),VLe.rfl,VLe.rfl,VLe.rfl,VLe.rfl,True.intro⟩,VLe.rfl,True.intro⟩ ?_) | (refine call_lend h1 rfl ⟨by decide,by decide,by decide,VLe.rfl,cf32_le rfl rfl rfl rfl rfl rfl rfl rfl rfl,True.intro⟩ ?_) | (refine call_frz [2,3,4,5] h3 ⟨by decide,by decide,by decide,VLe.rfl,cf32_le rfl rfl rfl rfl rfl rfl rfl rfl rfl,True.intro⟩ ?_) | (refine call_frz [6] h4 ⟨by decide,VLe.rfl,VLe.fz rfl (fun h=>h) (three_le _ _ _ _ rfl rfl rfl),True.intro⟩ ?_) | (refine call_frz [7,8,9,10] h2 ⟨by decide,by decide,by decide,VLe.rfl,cf32_le rfl rfl rfl rfl rfl rfl rfl rfl rfl,True.intro⟩ ?_))
 all_goals (conv=>whnf)
 all_goals exact VLe.rfl
theorem linkP_len (bk:Bool) (p:Ps) (a b:Nat) (w:Int):(linkP bk p a b w).length = p.length:=by
 rw [linkP];split <;> simp
theorem linkP_row (bk:Bool) (p:Ps) {a b:Nat} (w:Int) (ha:a < p.length) (hb:b < p.length) (u:Nat):(gR (linkP bk p a b w) u).length≤(gR p u).length + 1:=by
 rw [linkP];split
 . omega
 . rename_i h;have hab:¬ a = b:=fun e=>h (.inl e);have hl:∀ r l,(addP bk r l).length = r.length + 1:=fun r l=>by rw [addP];split <;> simp
   rw [gR_set _ b _ (by simpa using hb),gR_set p a _ ha];split
   . rename_i e;subst e;rw [hl];omega
   . split
     . rename_i e;subst e;rw [hl];omega
     . omega
def wgt (x:Net) (i:Nat):Int:=1 + within (gI x.weights i) 15
def treeP (x:Net) (n:Nat):Nat→Ps
 | 0=>List.replicate n []
 | k + 1=>linkP x.back (treeP x n k) (within (gI x.links k) ((k:Int) + 1)).toNat (k + 1) (wgt x k)
theorem treeP_len (x:Net) (n:Nat):∀ k,(treeP x n k).length = n
 | 0=>by simp [treeP]
 | k + 1=>by rw [treeP,linkP_len,treeP_len x n k]
theorem treeP_to (x:Net) (k:Nat):(within (gI x.links k) ((k:Int) + 1)).toNat < k + 1:=by
 have:=within_range (gI x.links k) (b:=(k:Int) + 1) (by omega);omega
theorem rep_row (n u:Nat):gR (List.replicate n []) u = []:=by
 simp only [gR,List.getD,List.getElem?_replicate];split <;> rfl
theorem treeP_row (x:Net) (n:Nat):∀ k,k < n→∀ u,(gR (treeP x n k) u).length≤k
 | 0,_,u=>by rw [treeP,rep_row];simp
 | k + 1,hk,u=>by
   have h1:=treeP_to x k;have h2:=linkP_row x.back (treeP x n k) (wgt x k) (a:=(within (gI x.links k) ((k:Int) + 1)).toNat) (b:=k + 1) (by rw [treeP_len];omega) (by rw [treeP_len];exact hk) u;have h3:=treeP_row x n k (by omega) u;rw [treeP];omega
abbrev netOwn (I:List Int) (p:Ps):Own:=gOwn ⟨I,p⟩
theorem vec_fam (ρ:Rn) (n:Nat):BRen ρ (.vec n 1 fun _ _=>.nilslice) (famP (List.replicate n [])):=⟨by simp,rfl,rfl,fun i hi=>⟨rfl,by rw [lenP,rep_row];rfl⟩⟩
theorem fam_fam (ρ:Rn) (p:Ps):BRen ρ (famP p) (famP p):=⟨rfl,rfl,True.intro,fun i hi=>rfl,fun i j t hi hn hj ht=>VLe.rfl⟩
set_option maxHeartbeats 8000000 in
theorem tree_ok (x:Net) (hx:x.Small) (most:Int) (h1:1≤most) (h2:most≤24) :
 CallF Tryz.prog 60 [x.v,.int .i64 most] [] KS fun v own' _=>v = gV1 (x.size most) (x.size most)∧own' = netOwn (idsF x.ids (x.size most)) (treeP x (x.size most) (x.size most - 1)):=by
 have hn:=nodes_ok x hx most h1 h2;have hsz:1≤x.size most∧x.size most≤24:=by
  have:=within_range x.n1 h1;rw [Net.size];omega
 have hll:=hx.links;have hwl:=hx.weights;generalize x.size most = n at *;have hil:=idsF_len x.ids n;refine call_post ?_;refine fn_rule mixed Tryz.func60 rfl hc60 hr60 rfl ?_
 repeat' ((conv=>whnf);first | (refine call_by [] [0,1] (hn.mono ?_) ⟨VRen.kf rfl,VRen.kf rfl,True.intro⟩ True.intro rfl;rintro _ _ _ ⟨rfl,rfl⟩) | (refine Chk.mk rfl ?_))
 all_goals (conv=>whnf)
 refine loop_u mixed [2,4,5] [3] [5,6,7,8,9,10,11,12,13,14,15,16,17,18,19,20,21,22,23,24,25,26,27,28,29] [4,2,3,1,0] (fun k:Nat=>[(6,.int .i64 ((k:Int) + 1))]) (fun own k=>updO own 3 (famP (treeP x n k))) (fun m k=>m = n - 1 - k∧k≤n - 1) (n - 1) 0 ⟨rfl,by omega⟩ rfl (fun _=>rfl) ?_ ?_
 . refine weak_by (fun _ _=>[(0,some 0),(1,some 1),(2,some 2),(3,some 3),(4,some 4)]) ?_ ?_ rfl
   . repeat' (first | exact True.intro | (refine ⟨⟨_,rfl,?_⟩,?_⟩) | exact VRen.kf rfl | exact VRen.loc rfl)
   . repeat' (first | exact vec_fam _ _ | exact True.intro | (refine ⟨⟨_,rfl,?_⟩,?_⟩) | exact VRen.kf rfl | exact VRen.vec rfl rfl rfl | (refine ⟨Nat.le_refl _,rfl,fun i j hi hj=>?_⟩) | exact VLe.rfl | (refine And.intro ?_ ?_))
 rintro m k ⟨hm,hk⟩;have hln:=treeP_len x n k;by_cases hkn:k < n - 1
 . have ha1:=at_ok x.links hll k;have ha2:=at_ok x.weights hwl k;have hw1:=within_ok (gI x.links k) ((k:Int) + 1) (by omega);have hw2:=within_ok (gI x.weights k) 15 (by omega);have hr1:=within_range (gI x.links k) (b:=(k:Int) + 1) (by omega);have hr2:=within_range (gI x.weights k) (b:=15) (by omega);have hrow:=treeP_row x n k (by omega);have hl:=link_ok x ⟨idsF x.ids n,treeP x n k⟩ (small_of (by show (idsF x.ids n).length≤_;omega) (by show (treeP x n k).length≤_;omega) (fun u=>by have:=hrow u;show (gR (treeP x n k) u).length≤_;omega)) (fun u=>by have:=hrow u;show (gR (treeP x n k) u).length≤_;omega) (within (gI x.links k) ((k:Int) + 1)).toNat (k + 1) (by show _ < (treeP x n k).length;omega) (by show _ < (treeP x n k).length;omega) (wgt x k);have hnx:linkP x.back (treeP x n k) (within (gI x.links k) ((k:Int) + 1)).toNat (k + 1) (wgt x k) = treeP x n (k + 1):=rfl;have hwg:wgt x k = 1 + within (gI x.weights k) 15:=rfl;simp only [hnx,hil,hln] at hl;generalize within (gI x.links k) ((k:Int) + 1) = a at *;generalize within (gI x.weights k) 15 = w at *
   repeat' ((conv=>whnf);first | (refine Ar.i64 (by omega) (by omega) ?_;rw [show (k:Int) + 1 - 1 = (k:Int) by omega]) | (refine Br.dec ?_ ?_ <;> intro _ <;> try omega) | (refine Ar.i64 (by omega) (by omega) ?_) | (refine ha1.go ?_) | (refine ha2.go ?_) | (refine hw1.go ?_) | (refine hw2.go ?_) | (refine And.intro rfl ?_) | (refine call_by [(0,some 2),(1,some 3)] [] (hl.mono ?_) ⟨VRen.kf rfl,VRen.agg ⟨VRen.vec rfl rfl rfl,VRen.vec rfl rfl rfl,True.intro⟩,VRen.int (by omega),VRen.int (by omega),VRen.int (by omega),True.intro⟩ ⟨⟨_,rfl,Nat.le_of_eq hil,rfl,fun _ _ _ _=>VLe.rfl⟩,⟨_,rfl,fam_fam _ _⟩,True.intro⟩ rfl;rintro _ _ _ ⟨rfl,rfl⟩) | (refine Chk.mk rfl ?_))
   all_goals (conv=>whnf)
   all_goals
    refine ⟨n - 1 - (k + 1),k + 1,by omega,⟨rfl,by omega⟩,?_⟩;refine weak_by (fun _ _=>[(0,some 0),(1,some 1),(2,some 2),(3,some 3),(4,some 4)]) ?_ ?_ rfl
    . repeat' (first | exact True.intro | (refine ⟨⟨_,rfl,?_⟩,?_⟩) | exact VRen.kf rfl | exact VRen.loc rfl)
    . repeat' (first | exact fam_fam _ _ | exact ⟨Nat.le_of_eq hil.symm,rfl,fun _ _ _ _=>VLe.rfl⟩ | exact True.intro | (refine ⟨⟨_,rfl,?_⟩,?_⟩) | exact VRen.kf rfl | exact VRen.vec rfl rfl rfl | (refine And.intro ?_ ?_))
 . have e:k = n - 1:=by omega
   subst e
   repeat' ((conv=>whnf);first | (refine Br.dec ?_ ?_ <;> intro _ <;> try omega))
   all_goals (conv=>whnf)
   exact postR_byV (fun v o=>[(0,vkey v 0),(1,vkey v 1)]) _ _ ⟨rfl,rfl⟩ (VRen.agg ⟨VRen.vec rfl rfl rfl,VRen.vec rfl rfl rfl,True.intro⟩) ⟨⟨_,rfl,Nat.le_of_eq hil,rfl,fun _ _ _ _=>VLe.rfl⟩,⟨_,rfl,fam_fam _ _⟩,True.intro⟩ rfl
def moreP (x:Net) (n:Nat) (p:Ps):Nat→Ps
 | 0=>p
 | k + 1=>linkP x.back (moreP x n p k) (within (gI x.links (n + 2 * k)) n).toNat (within (gI x.links (n + 2 * k + 1)) n).toNat (wgt x (n + 2 * k))
def moreN (x:Net) (n:Nat):Nat:=min ((x.links.length - n) / 2) ((61 - n) / 2)
theorem moreP_len (x:Net) (n:Nat) (p:Ps):∀ k,(moreP x n p k).length = p.length
 | 0=>rfl
 | k + 1=>by rw [moreP,linkP_len,moreP_len x n p k]
theorem within_lt {a:Int} {n:Nat} (hn:1≤n):(within a n).toNat < n:=by
 have:=within_range a (b:=(n:Int)) (by omega);omega
theorem moreP_row (x:Net) (n:Nat) (p:Ps) (hn:1≤n) (hp:p.length = n):∀ k u,(gR (moreP x n p k) u).length≤(gR p u).length + k
 | 0,u=>by rw [moreP];omega
 | k + 1,u=>by
   have h2:=linkP_row x.back (moreP x n p k) (wgt x (n + 2 * k)) (a:=(within (gI x.links (n + 2 * k)) n).toNat) (b:=(within (gI x.links (n + 2 * k + 1)) n).toNat) (by rw [moreP_len,hp];exact within_lt hn) (by rw [moreP_len,hp];exact within_lt hn) u;have h3:=moreP_row x n p hn hp k u;rw [moreP];omega
set_option maxHeartbeats 8000000 in
theorem more_ok (x:Net) (hx:x.Small) (I:List Int) (p:Ps) (n:Nat) (hn:1≤n) (hn2:n≤24) (hI:I.length = n) (hp:p.length = n) (hr:∀ u,(gR p u).length≤100) :
 CallF Tryz.prog 55 [x.v,gV1 n n] (netOwn I p) KS4 fun v own' _=>v = gV1 n n∧own' = netOwn I (moreP x n p (moreN x n)):=by
 have hll:=hx.links;have hwl:=hx.weights;have hN:moreN x n≤31∧∀ k,k < moreN x n↔(n + 2 * k + 1 < x.links.length∧n + 2 * k < 60):=by
  rw [moreN];exact ⟨by omega,fun k=>by omega⟩
 refine call_post ?_;refine fn_rule mixed Tryz.func55 rfl hc55 hr55 rfl ?_
 repeat' ((conv=>whnf);first | fail)
 all_goals (conv=>whnf)
 refine loop_u mixed [2,3,4,5] [] [5,6,7,8,9,10,11,12,13,14,15,16,17,18,19,20,21,22,23,24,25,26,27,28,29] [4,3,2,0,1] (fun k:Nat=>[(6,.int .i64 ((n:Int) + 2 * k))]) (fun own k=>updO own 1 (famP (moreP x n p k))) (fun m k=>m = moreN x n - k∧k≤moreN x n) (moreN x n) 0 ⟨rfl,by omega⟩ rfl (fun _=>rfl) ?_ ?_
 . refine weak_by (fun _ _=>[(0,some 0),(1,some 1),(2,some 2),(3,some 3),(4,some 4)]) ?_ ?_ rfl
   . repeat' (first | exact True.intro | (refine ⟨⟨_,rfl,?_⟩,?_⟩) | exact VRen.kf rfl | exact VRen.loc rfl)
   . repeat' (first | exact fam_fam _ _ | exact True.intro | (refine ⟨⟨_,rfl,?_⟩,?_⟩) | exact VRen.kf rfl | exact VRen.vec rfl rfl rfl | (refine ⟨Nat.le_refl _,rfl,fun i j hi hj=>?_⟩) | exact VLe.rfl | (refine And.intro ?_ ?_))
 rintro m k ⟨hm,hk⟩;have hln:=(moreP_len x n p k).trans hp;have hk2:=hN.2 k;by_cases hkn:k < moreN x n
 . obtain ⟨c1,c2⟩:=hk2.1 hkn;have ha2:=at_ok x.weights hwl (n + 2 * k);have hw1:=within_ok (gI x.links (n + 2 * k)) n (by omega);have hw3:=within_ok (gI x.links (n + 2 * k + 1)) n (by omega);have hw2:=within_ok (gI x.weights (n + 2 * k)) 15 (by omega);have hr1:=within_range (gI x.links (n + 2 * k)) (b:=n) (by omega);have hr3:=within_range (gI x.links (n + 2 * k + 1)) (b:=n) (by omega);have hr2:=within_range (gI x.weights (n + 2 * k)) (b:=15) (by omega);have hrow:∀ u,(gR (moreP x n p k) u).length≤1000:=fun u=>by have:=moreP_row x n p hn hp k u;have:=hr u;omega
   have hl:=link_ok x ⟨I,moreP x n p k⟩ (small_of (by show I.length≤_;omega) (by show (moreP x n p k).length≤_;omega) hrow) hrow (within (gI x.links (n + 2 * k)) n).toNat (within (gI x.links (n + 2 * k + 1)) n).toNat (by show _ < (moreP x n p k).length;omega) (by show _ < (moreP x n p k).length;omega) (wgt x (n + 2 * k));have hnx:linkP x.back (moreP x n p k) (within (gI x.links (n + 2 * k)) n).toNat (within (gI x.links (n + 2 * k + 1)) n).toNat (wgt x (n + 2 * k)) = moreP x n p (k + 1):=rfl;have hwg:wgt x (n + 2 * k) = 1 + within (gI x.weights (n + 2 * k)) 15:=rfl;simp only [hnx,hI,hln] at hl;have e2k:((n + 2 * k:Nat):Int) = (n:Int) + 2 * k:=by omega
   rw [e2k] at ha2
   repeat' ((conv=>whnf);first | (refine Ix.mk (n + 2 * k) (by omega) (by omega) ?_;try rw [Nat.zero_add]) | (refine Ix.mk (n + 2 * k + 1) (by omega) (by omega) ?_;try rw [Nat.zero_add]) | (refine Br.dec ?_ ?_ <;> intro _ <;> try omega) | (refine Ar.i64 (by omega) (by omega) ?_) | (refine ha2.go ?_) | (refine hw1.go ?_) | (refine hw3.go ?_) | (refine hw2.go ?_) | (refine And.intro rfl ?_) | (refine call_by [(0,some 0),(1,some 1)] [] (hl.mono ?_) ⟨VRen.kf rfl,VRen.agg ⟨VRen.vec rfl rfl rfl,VRen.vec rfl rfl rfl,True.intro⟩,VRen.int (by omega),VRen.int (by omega),VRen.int (by omega),True.intro⟩ ⟨⟨_,rfl,Nat.le_of_eq (by first | rfl | exact hI | exact hI.symm),rfl,fun _ _ _ _=>VLe.rfl⟩,⟨_,rfl,fam_fam _ _⟩,True.intro⟩ rfl;rintro _ _ _ ⟨rfl,rfl⟩) | (refine Chk.mk rfl ?_))
   all_goals (conv=>whnf)
   all_goals
    refine ⟨moreN x n - (k + 1),k + 1,by omega,⟨rfl,by omega⟩,?_⟩;refine weak_by (fun _ _=>[(0,some 0),(1,some 1),(2,some 2),(3,some 3),(4,some 4)]) ?_ ?_ rfl
    . repeat' (first | exact True.intro | (refine ⟨⟨_,rfl,?_⟩,?_⟩) | exact VRen.kf rfl | exact VRen.loc rfl)
    . repeat' (first | exact fam_fam _ _ | exact ⟨Nat.le_refl _,rfl,fun _ _ _ _=>VLe.rfl⟩ | exact True.intro | (refine ⟨⟨_,rfl,?_⟩,?_⟩) | exact VRen.kf rfl | exact VRen.vec rfl rfl rfl | (refine And.intro ?_ ?_))
 . have e:k = moreN x n:=by omega
   subst e;by_cases h1:n + 2 * moreN x n + 1 < x.links.length
   all_goals
    repeat' ((conv=>whnf);first | (refine Br.dec ?_ ?_ <;> intro _ <;> try omega) | (refine Ar.i64 (by omega) (by omega) ?_))
    all_goals (conv=>whnf)
    all_goals exact postR_byV (fun v o=>[(0,vkey v 0),(1,vkey v 1)]) _ _ ⟨rfl,rfl⟩ (VRen.agg ⟨VRen.vec rfl rfl rfl,VRen.vec rfl rfl rfl,True.intro⟩) ⟨⟨_,rfl,Nat.le_refl _,rfl,fun _ _ _ _=>VLe.rfl⟩,⟨_,rfl,fam_fam _ _⟩,True.intro⟩ rfl
theorem size_ok (x:Net) {most:Int} (h1:1≤most):1≤x.size most∧(x.size most:Int)≤most:=by
 have:=within_range x.n1 h1;rw [Net.size];omega
def Net.con (x:Net) (most:Int):G:=⟨idsF x.ids (x.size most),moreP x (x.size most) (treeP x (x.size most) (x.size most - 1)) (moreN x (x.size most))⟩
def Net.any (x:Net) (most:Int):G:=if x.apart then ⟨idsF x.ids (x.size most),moreP x (x.size most) (List.replicate (x.size most) []) (moreN x (x.size most))⟩ else x.con most
theorem view_g {g:G} {n:Nat} (h1:g.ids.length = n) (h2:g.ports.length = n):VLe (V.agg [.fz n 1 false (shiftF 0 (vI g.ids)),.fz n 1 false fun i _=>.fz (lenP g.ports i) 2 false (rowP g.ports i)]) g.v:=by
 refine VLe.agg ⟨?_,?_,True.intro⟩
 . exact VLe.fz h1.symm (fun h=>h) (fun i j hi hj=>VLe.of_eq (by simp [shiftF]))
 . exact VLe.fz h2.symm (fun h=>h) (fun i j hi hj=>VLe.rfl)
set_option maxHeartbeats 8000000 in
theorem connected_call (x:Net) (hx:x.Small) (most:Int) (h1:1≤most) (h2:most≤24) :
 CallF Tryz.prog 54 [x.v,.int .i64 most] [] KS fun v own' _=>v = gV1 (x.size most) (x.size most)∧own' = gOwn (x.con most):=by
 have ht:=tree_ok x hx most h1 h2;have hsz:=size_ok x h1;have hm:=more_ok x hx (idsF x.ids (x.size most)) (treeP x (x.size most) (x.size most - 1)) (x.size most) hsz.1 (by omega) (idsF_len _ _) (treeP_len _ _ _) (fun u=>by have:=treeP_row x (x.size most) (x.size most - 1) (by omega) u;omega);refine call_post ?_;refine fn_rule mixed Tryz.func54 rfl hc54 hr54 rfl ?_
 repeat' ((conv=>whnf);first | (refine call_by [] [0,1] (ht.mono ?_) ⟨VRen.kf rfl,VRen.kf rfl,True.intro⟩ True.intro rfl;rintro _ _ _ ⟨rfl,rfl⟩) | (refine call_by [(0,some 2),(1,some 3)] [] (hm.mono ?_) ⟨VRen.kf rfl,VRen.agg ⟨VRen.vec rfl rfl rfl,VRen.vec rfl rfl rfl,True.intro⟩,True.intro⟩ ⟨⟨_,rfl,Nat.le_refl _,rfl,fun _ _ _ _=>VLe.rfl⟩,⟨_,rfl,fam_fam _ _⟩,True.intro⟩ rfl;rintro _ _ _ ⟨rfl,rfl⟩) | (refine Chk.mk rfl ?_) | (refine And.intro rfl ?_))
 all_goals (conv=>whnf)
 exact postR_byV (fun v o=>[(0,vkey v 0),(1,vkey v 1)]) _ _ ⟨rfl,rfl⟩ (VRen.agg ⟨VRen.vec rfl rfl rfl,VRen.vec rfl rfl rfl,True.intro⟩) ⟨⟨_,rfl,Nat.le_refl _,rfl,fun _ _ _ _=>VLe.rfl⟩,⟨_,rfl,fam_fam _ _⟩,True.intro⟩ rfl
theorem con_len (x:Net) (most:Int):(x.con most).ids.length = x.size most∧(x.con most).ports.length = x.size most:=⟨idsF_len _ _,(moreP_len _ _ _ _).trans (treeP_len _ _ _)⟩
theorem any_len (x:Net) (most:Int):(x.any most).ids.length = x.size most∧(x.any most).ports.length = x.size most:=by
 rw [Net.any];split
 . exact ⟨idsF_len _ _,(moreP_len _ _ _ _).trans (by simp)⟩
 . exact con_len x most
set_option maxHeartbeats 8000000 in
theorem any_ok (x:Net) (hx:x.Small) (most:Int) (h1:1≤most) (h2:most≤24):Ret Tryz.prog 18 [x.v,.int .i64 most] (x.any most).v:=by
 have hc:=connected_call x hx most h1 h2;have ht:=nodes_ok x hx most h1 h2;have hsz:=size_ok x h1;have hm:=more_ok x hx (idsF x.ids (x.size most)) (List.replicate (x.size most) []) (x.size most) hsz.1 (by omega) (idsF_len _ _) (by simp) (fun u=>by rw [rep_row];simp);have hl:=any_len x most;refine ret_frz rfl ?_;refine fn_rule mixed Tryz.func18 rfl hc18 hr18 rfl ?_;cases hap:x.apart with
 | false =>
   have he:x.any most = x.con most:=by rw [Net.any,hap];rfl
   rw [he] at hl ⊢;obtain ⟨xn,xl,xw,xi,xa,xb⟩:=x;simp only at hap;subst hap
   repeat' ((conv=>whnf);first | (refine Br.ff ?_) | (refine Len.mk (by omega) ?_) | (refine call_by [] [0,1] (hc.mono ?_) ⟨VRen.kf rfl,VRen.kf rfl,True.intro⟩ True.intro rfl;rintro _ _ _ ⟨rfl,rfl⟩) | (refine Chk.mk rfl ?_))
   all_goals (conv=>whnf)
   exact view_g hl.1 hl.2
 | true =>
   have he:x.any most = ⟨idsF x.ids (x.size most),moreP x (x.size most) (List.replicate (x.size most) []) (moreN x (x.size most))⟩:=by rw [Net.any,hap];rfl
   rw [he] at hl ⊢;obtain ⟨xn,xl,xw,xi,xa,xb⟩:=x;simp only at hap;subst hap
   repeat' ((conv=>whnf);first | (refine Br.tt ?_) | (refine Len.mk (by omega) ?_) | (refine call_by [] [0,1] (ht.mono ?_) ⟨VRen.kf rfl,VRen.kf rfl,True.intro⟩ True.intro rfl;rintro _ _ _ ⟨rfl,rfl⟩) | (refine call_by [(0,some 2),(1,some 3)] [] (hm.mono ?_) ⟨VRen.kf rfl,VRen.agg ⟨VRen.vec rfl rfl rfl,VRen.vec rfl rfl rfl,True.intro⟩,True.intro⟩ ⟨⟨_,rfl,Nat.le_of_eq (idsF_len _ _),rfl,fun _ _ _ _=>VLe.rfl⟩,⟨_,rfl,vec_fam _ _⟩,True.intro⟩ rfl;rintro _ _ _ ⟨rfl,rfl⟩) | (refine Chk.mk rfl ?_) | (refine And.intro rfl ?_))
   all_goals (conv=>whnf)
   exact view_g hl.1 hl.2
structure PV (p:Ps):Prop where
 ok:∀ v,v < p.length→okR p.length v (gR p v) = true
 sym:∀ v,v < p.length→∀ l∈gR p v,((v:Int),l.2)∈gR p l.1.toNat
theorem mem_addP {bk:Bool} {r:List (Int × Int)} {x l:Int × Int}:l∈addP bk r x↔l = x∨l∈r:=by
 rw [addP];split
 . simp
 . simp only [List.mem_append,List.mem_singleton];exact ⟨Or.symm,Or.symm⟩
theorem nodup_addP {bk:Bool} {r:List (Int × Int)} {x:Int × Int} (h:(r.map (·.1)).Nodup) (hx:∀ l∈r,l.1≠x.1):((addP bk r x).map (·.1)).Nodup:=by
 have hn:x.1 ∉ r.map (·.1):=fun hm=>by
  obtain ⟨l,h1,h2⟩:=List.mem_map.1 hm;exact hx l h1 h2
 rw [addP];split
 . rw [List.map_cons,List.nodup_cons];exact ⟨hn,h⟩
 . rw [List.map_append,List.nodup_append];refine ⟨h,by simp,fun a ha b hb e=>hn ?_⟩;have:b = x.1:=by simpa using hb
   rw [← this,← e];exact ha
theorem pv_rep (n:Nat):PV (List.replicate n []):=⟨fun v _=>by rw [rep_row];rfl,fun v _ l hl=>by rw [rep_row] at hl;cases hl⟩
theorem pv_link {bk:Bool} {p:Ps} (h:PV p) {a b:Nat} {w:Int} (ha:a < p.length) (hb:b < p.length) (hw:1≤w∧w≤15):PV (linkP bk p a b w):=by
 have hlen:=linkP_len bk p a b w;rw [linkP] at hlen ⊢;split
 . exact h
 . rename_i hc;rw [if_neg hc] at hlen;have hab:a≠b:=fun e=>hc (.inl e);have hnl:∀ l∈gR p a,l.1≠b:=fun l hl e=>hc (.inr (by rw [lnk,List.any_eq_true];exact ⟨l,hl,by simpa using e⟩));have hnl2:∀ l∈gR p b,l.1≠a:=fun l hl e=>by
    have:=h.sym b hb l hl;rw [e] at this;exact hnl _ this rfl
   have hg:∀ v,gR ((p.set a (addP bk (gR p a) ((b:Int),w))).set b (addP bk (gR p b) ((a:Int),w))) v = if v = b then addP bk (gR p b) ((a:Int),w) else if v = a then addP bk (gR p a) ((b:Int),w) else gR p v:=fun v=>by
    rw [gR_set _ b _ (by simpa using hb),gR_set p a _ ha]
   constructor
   . intro v hv;rw [hlen] at hv ⊢;rw [hg];split
     . rename_i e;subst e;obtain ⟨o1,o2⟩:=okR_iff.1 (h.ok v hv);refine okR_iff.2 ⟨fun l hl=>?_,nodup_addP o2 hnl2⟩;rcases mem_addP.1 hl with rfl | hl
       . simp only;omega
       . exact o1 l hl
     . split
       . rename_i e;subst e;obtain ⟨o1,o2⟩:=okR_iff.1 (h.ok v hv);refine okR_iff.2 ⟨fun l hl=>?_,nodup_addP o2 hnl⟩;rcases mem_addP.1 hl with rfl | hl
         . simp only;omega
         . exact o1 l hl
       . exact h.ok v hv
   . intro v hv l hl;rw [hlen] at hv;have old:∀ u x,x∈gR p u→x∈gR ((p.set a (addP bk (gR p a) ((b:Int),w))).set b (addP bk (gR p b) ((a:Int),w))) u:=fun u x hx=>by
      rw [hg];split
      . rename_i e;subst e;exact mem_addP.2 (.inr hx)
      . split
        . rename_i e;subst e;exact mem_addP.2 (.inr hx)
        . exact hx
     rw [hg] at hl;split at hl
     . rename_i e;subst e;rcases mem_addP.1 hl with rfl | hl
       . simp only [Int.toNat_natCast];rw [hg,if_neg hab,if_pos rfl];exact mem_addP.2 (.inl rfl)
       . exact old _ _ (h.sym v hv l hl)
     . split at hl
       . rename_i e;subst e;rcases mem_addP.1 hl with rfl | hl
         . simp only [Int.toNat_natCast];rw [hg,if_pos rfl];exact mem_addP.2 (.inl rfl)
         . exact old _ _ (h.sym v hv l hl)
       . exact old _ _ (h.sym v hv l hl)
theorem wgt_ok (x:Net) (i:Nat):1≤wgt x i∧wgt x i≤15:=by
 have:=within_range (gI x.weights i) (b:=15) (by omega);rw [wgt];omega
theorem pv_tree (x:Net) (n:Nat):∀ k,k < n→PV (treeP x n k)
 | 0,_=>pv_rep n
 | k + 1,hk=>by
   have h1:=treeP_to x k;rw [treeP];exact pv_link (pv_tree x n k (by omega)) (by rw [treeP_len];omega) (by rw [treeP_len];exact hk) (wgt_ok x k)
theorem pv_more (x:Net) {n:Nat} (hn:1≤n) {p:Ps} (hp:p.length = n) (h:PV p):∀ k,PV (moreP x n p k)
 | 0=>h
 | k + 1=>by
   rw [moreP];exact pv_link (pv_more x hn hp h k) (by rw [moreP_len,hp];exact within_lt hn) (by rw [moreP_len,hp];exact within_lt hn) (wgt_ok x _)
theorem valid_of {I:List Int} {p:Ps} {n:Nat} (h1:1≤n) (h2:n≤24) (hI:I.length = n) (hp:p.length = n) (h3:∀ a∈I,0≤a∧a≤255) (h4:I.Nodup) (h:PV p):(⟨I,p⟩:G).valid = true:=by
 rw [G.valid,Bool.and_eq_true,Bool.and_eq_true,decide_eq_true_eq];refine ⟨⟨by show 1≤I.length;omega,by show I.length≤24;omega,by show p.length = I.length;omega⟩,(idsOk_iff _).2 ⟨h3,h4⟩,?_⟩;rw [portsOk,Bool.and_eq_true];exact ⟨rowsOk_iff.2 h.ok,symOk_iff.2 h.sym⟩
theorem con_valid (x:Net) {most:Int} (h1:1≤most) (h2:most≤24):(x.con most).valid = true:=by
 have hs:=size_ok x h1;have hi:=idsF_ok x.ids (x.size most) (by omega);exact valid_of hs.1 (by omega) (con_len x most).1 (con_len x most).2 hi.1 hi.2 (pv_more x hs.1 (treeP_len _ _ _) (pv_tree x _ _ (by omega)) _)
theorem any_valid (x:Net) {most:Int} (h1:1≤most) (h2:most≤24):(x.any most).valid = true:=by
 have hs:=size_ok x h1;have hi:=idsF_ok x.ids (x.size most) (by omega);have hl:=any_len x most;rw [Net.any] at hl ⊢;split
 . rename_i h;rw [if_pos h] at hl;exact valid_of hs.1 (by omega) hl.1 hl.2 hi.1 hi.2 (pv_more x hs.1 (by simp) (pv_rep _) _)
 . exact con_valid x h1 h2
theorem valid_small {g:G} (h:g.valid = true):g.Small:=by
 obtain ⟨f1,f2,f3,f4,f5,f6,f7⟩:=val_facts h;refine small_of (by omega) (by omega) (fun u=>?_);by_cases hu:u < g.ports.length
 . have:=okR_len hu (f6 u hu);omega
 . have:gR g.ports u = []:=by simp [gR,List.getD,List.getElem?_eq_none (Nat.le_of_not_lt hu)]
   rw [this];simp
end Go.Proofs.YthbiicpcbnijiaaGreatDoor
namespace Go.Proofs.YthbiicpcbnijiaaGreatDoor
open Go.Eng Go.Plain
set_option maxRecDepth 100000
set_option linter.unusedVariables false
theorem clu_cnt {g:G} (hg:g.valid = true) (h:g.ids.length≤3):cntP pClu g≤512:=by
 obtain ⟨f1,f2,f3,f4,f5,f6,f7⟩:=val_facts hg;refine Nat.le_trans (cnt_rows (B:=8) fun v hv=>?_) (Nat.pow_le_pow_right (n:=8) (by omega) h);show szP pClu g (v * 2) * (szP pClu g (v * 2 + 1) * 1)≤8;have e:=szP_ix pClu g (v:=v) (x:=0) (show 0 < 2 by omega);have e1:=szP_ix pClu g (v:=v) (x:=1) (show 1 < 2 by omega);change szP pClu g (v * 2 + 0) = _ at e;change szP pClu g (v * 2 + 1) = _ at e1;rw [Nat.add_zero] at e;have hd:=deg_le hg (v:=v) (by omega);rw [Nat.mul_one,e,e1];have a:szX pClu g v 0 = 2:=rfl;have b:szX pClu g v 1 = (((gR g.ports v).length:Int) - 1 - -1).toNat + 1:=rfl;rw [a,b];omega
set_option maxHeartbeats 16000000 in
theorem lawKWhole (x:Net) (hx:x.Small):RG 5 [x.v] (.bool true):=by
 have h0:=any_ok x hx 3 (by omega) (by omega);have hg:=any_valid x (most:=3) (by omega) (by omega);have hlen:(x.any 3).ids.length≤3:=by
  rw [(any_len x 3).1];have hw:=within_range x.n1 (b:=3) (by omega);rw [Net.size];omega
 generalize x.any 3 = g at *;obtain ⟨f1,f2,f3,f4,f5,f6,f7⟩:=val_facts hg;have hs:=valid_small hg;have hclm:=kclaim_ok g hs;rw [G.kclaim,if_pos hg] at hclm;have hS:=clu_srv clu_prOk hg;have h10:g.ids.length≤10:=by omega
 have hcn:=clu_cnt hg hlen;have hpw:2 ^ g.ids.length≤8:=Nat.pow_le_pow_right (n:=2) (by omega) hlen;have hN:cntP pClu g≤32768:=by omega
 have hNm:cntP pClu g * 2 ^ g.ids.length≤262144:=Nat.le_trans (Nat.mul_le_mul hcn hpw) (by decide);have hprk:=clu_prOk;have hb:=whole_build hprk hs hg (kd:=2) rfl h10 hN hNm;have hco:=whole_core hprk hs hg (kd:=2) rfl hS h10 hN hNm;have hcl:=whole_closed hprk hs hg (kd:=2) rfl hS h10 hN hNm;have hro:=whole_rounds hprk hs hg (kd:=2) rfl hS h10 hN hNm (by omega);have hmo:=whole_moves hprk hs hg (kd:=2) rfl hS h10 hN hNm;have hpos:=cntP_pos pClu g;have hun:=fun k hk=>munrank_ok pClu hprk g hs hg hN k hk;have hlg:=fun k=>klegit_ok g hs (cfK pClu g k) (csmallW hprk hg (cfK_conf hprk hg k));have htx:=text_ok;have hpr:=program_ok;have hkn:=known34_ok;have hsn:(sysP pClu g 2).n = cntP pClu g:=rfl;generalize 5 * (g.ids.length:Int) + 4 * ((sumR g.ports g.ports.length:Int).tdiv 2) = M at *;refine ret_frzG rfl ?_;refine call_sem Tryz.func5 rfl hc5 hr5 rfl ?_;refine sem_seq (sem_vc mixed ?_)
 repeat' ((conv=>whnf);first | fail)
 all_goals (conv=>whnf)
 refine sem_seq (sem_vc mixed ?_)
 repeat' ((conv=>whnf);first | (refine h0.go ?_))
 all_goals (conv=>whnf)
 refine sem_seq (sem_vc mixed ?_)
 repeat' ((conv=>whnf);first | (refine htx.go ?_) | (refine hpr.go ?_))
 all_goals (conv=>whnf)
 refine sem_seq (sem_vc mixed ?_)
 repeat' ((conv=>whnf);first | (refine hclm.go ?_))
 all_goals (conv=>whnf)
 refine sem_seq (sem_vc mixed ?_)
 repeat' ((conv=>whnf);first | (refine hb.gog ?_))
 all_goals (conv=>whnf)
 refine sem_seq (sem_vc mixed ?_)
 repeat' ((conv=>whnf);first | (refine Br.ff ?_) | (refine Br.dec ?_ ?_ <;> intro _ <;> try omega))
 all_goals (conv=>whnf)
 refine sem_seq (sem_vc mixed ?_)
 repeat' ((conv=>whnf);first | fail)
 all_goals (conv=>whnf)
 refine sem_seq (sem_vc mixed ?_)
 repeat' ((conv=>whnf);first | fail)
 all_goals (conv=>whnf)
 refine loop_u mixed [3,4,5,6] [5] [6,7,8,9,10,11,12,13,14,15,16,17,18,19,20,21,22,23,24,25,26,27,28,29] [5,4,3,2,1,0,999] (fun i:Nat=>[(8,.vec 5 1 0 i),(9,.int .i64 i)]) (fun own i=>(5,.vec i 1 (vBl (legK pClu g g.klegit))) :: own) (fun m i=>m = cntP pClu g - i∧i≤cntP pClu g) (cntP pClu g) 0 ⟨rfl,Nat.zero_le _⟩ rfl (fun _=>rfl) ?_ ?_
 . exact weak_b (fun _ _=>[(0,some 0),(1,some 1),(2,some 2),(3,some 3),(4,some 4),(5,none),(999,some 999)])
 rintro m i ⟨hm,hi⟩;by_cases hil:i < cntP pClu g
 . have hui:=hun i hil;have hli:=hlg i;change Ret _ _ _ (.bool (legK pClu g g.klegit i)) at hli
   repeat' ((conv=>whnf);first | (refine Br.ff ?_) | (refine Br.dec ?_ ?_ <;> intro _ <;> try omega) | (refine Br.nbeq ?_ ?_ <;> intro _ <;> try omega) | (refine Ar.i64 (by omega) (by omega) ?_) | (refine Len.mk (by omega) ?_) | (refine hui.go ?_) | (refine hli.go ?_) | (refine Br.any (fun _=>?_) (fun _=>?_)))
   all_goals (conv=>whnf)
   all_goals
    refine ⟨cntP pClu g - (i + 1),i + 1,by omega,⟨rfl,by omega⟩,?_⟩;refine weak_by (fun env own=>[(0,some 0),(1,some 1),(2,some 2),(3,some 3),(4,some 4),(5,ekey env 8),(999,some 999)]) ?_ ?_ rfl
    . repeat' (first | exact True.intro | (refine ⟨⟨_,rfl,?_⟩,?_⟩) | exact VRen.kf rfl | exact VRen.loc rfl | exact VRen.vec rfl rfl rfl)
    . repeat' (first | exact vle_appL _ _ _ _ _ rfl hi hj _ _ (by rfl) (by first | rfl | (symm;assumption)) | exact True.intro | exact ⟨rfl,rfl,rfl⟩ | (refine ⟨⟨_,rfl,?_⟩,?_⟩) | exact VRen.kf rfl | (refine ⟨Nat.le_refl _,rfl,fun i j hi hj=>?_⟩) | (refine And.intro ?_ ?_))
 have ei:i = cntP pClu g:=by omega
 subst ei
 repeat' ((conv=>whnf);first | (refine Br.dec ?_ ?_ <;> intro _ <;> try omega))
 all_goals (conv=>whnf)
 refine sem_frz 8 (v':=blW (cntP pClu g) (legK pClu g g.klegit)) rfl (by (conv=>whnf);exact ⟨by omega,rfl,rfl⟩) (sem_vc mixed ?_)
 repeat' ((conv=>whnf);first | (refine Br.tt ?_) | (refine Br.ff ?_) | (refine Br.bne ?_ ?_ <;> intro _ <;> try omega) | (refine hco.go ?_) | (refine hcl.go ?_))
 all_goals (conv=>whnf)
 refine loop_r mixed [5,6,8,12] (fun i:Nat=>[(16,.int .i64 i)]) (fun m i=>m = cntP pClu g - i∧i≤cntP pClu g) (cntP pClu g) 0 ⟨rfl,Nat.zero_le _⟩ ?_ ?_
 . exact weak_b (fun _ _=>[(0,some 0),(1,some 1),(2,some 2),(3,some 3),(4,some 4),(999,some 999)])
 rintro m i ⟨hm,hi⟩;by_cases hil:i < cntP pClu g
 . repeat' ((conv=>whnf);first | (refine Br.ff ?_) | (refine Br.dec ?_ ?_ <;> intro _ <;> try omega) | (refine Ar.i64 (by omega) (by omega) ?_) | (refine Ix.nat (by omega) ?_))
   all_goals (conv=>whnf)
   refine ⟨cntP pClu g - (i + 1),i + 1,by omega,⟨rfl,by omega⟩,?_⟩;exact weak_b (fun _ _=>[(0,some 0),(1,some 1),(2,some 2),(3,some 3),(4,some 4),(999,some 999)])
 repeat' ((conv=>whnf);first | (refine Br.ff ?_) | (refine Br.dec ?_ ?_ <;> intro _ <;> try omega) | (refine Br.bne ?_ ?_ <;> intro _ <;> try omega) | (refine hro.go ?_;rintro _ ⟨r,hr,rfl⟩) | (refine hmo.go ?_;rintro _ ⟨t,ht,rfl⟩))
 all_goals (conv=>whnf)
 refine loop_r mixed [5,17,19] (fun i:Nat=>[(21,.int .i64 i)]) (fun m i=>m = cntP pClu g - i∧i≤cntP pClu g) (cntP pClu g) 0 ⟨rfl,Nat.zero_le _⟩ ?_ ?_
 . exact weak_b (fun _ _=>[(0,some 0),(1,some 1),(2,some 2),(3,some 3),(4,some 4),(999,some 999)])
 rintro m i ⟨hm,hi⟩;by_cases hil:i < cntP pClu g
 . have hri:=hr i hil;by_cases hM0:0≤M
   . have hti:=ht hM0 i hil
     repeat' ((conv=>whnf);first | (refine Br.dec ?_ ?_ <;> intro _ <;> try omega) | (refine Ar.i64 (by omega) (by omega) ?_) | (refine Ix.nat (by omega) ?_))
     all_goals (conv=>whnf)
     all_goals
      refine ⟨cntP pClu g - (i + 1),i + 1,by omega,⟨rfl,by omega⟩,?_⟩;exact weak_b (fun _ _=>[(0,some 0),(1,some 1),(2,some 2),(3,some 3),(4,some 4),(999,some 999)])
   . repeat' ((conv=>whnf);first | (refine Br.dec ?_ ?_ <;> intro _ <;> try omega) | (refine Ar.i64 (by omega) (by omega) ?_) | (refine Ix.nat (by omega) ?_))
     all_goals (conv=>whnf)
     all_goals
      refine ⟨cntP pClu g - (i + 1),i + 1,by omega,⟨rfl,by omega⟩,?_⟩;exact weak_b (fun _ _=>[(0,some 0),(1,some 1),(2,some 2),(3,some 3),(4,some 4),(999,some 999)])
 repeat' ((conv=>whnf);first | (refine Br.tt ?_) | (refine Br.dec ?_ ?_ <;> intro _ <;> try omega) | (refine hkn.go ?_))
 all_goals (conv=>whnf)
 all_goals exact VLe.rfl
end Go.Proofs.YthbiicpcbnijiaaGreatDoor
