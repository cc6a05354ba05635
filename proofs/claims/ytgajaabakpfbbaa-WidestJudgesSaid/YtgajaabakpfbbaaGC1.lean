import Derived.Test.YtgajaabakpfbbaaWXH
import Derived.Test.YtgajaabakpfbbaaWX3
import Derived.Test.YtgajaabakpfbbaaEngZ
namespace Go.Proofs.Ytgajaabakpfbbaa
open Go.Eng
set_option maxRecDepth 100000
set_option linter.unusedVariables false
def lnTb (n:Nat):Int:=if n = 0 then 0 else if n = 1 then 1 else if n≤3 then 2 else if n≤7 then 3 else 4
theorem ar_u8 {n:Int} {K:Int→Prop} (h1:0≤n) (h2:n≤255) (hK:K n):Ar .u8 n K:=⟨n,by simp [IntKind.wrap,IntKind.bits,IntKind.signed];omega,hK⟩
theorem blen64_ok (n:Nat) (h:n≤12):Ret Try.prog 83 [.int .u64 n] (.int .i64 (lnTb n)):=by
 rcases (show n = 0∨n = 1∨n = 2∨n = 3∨n = 4∨n = 5∨n = 6∨n = 7∨n = 8∨n = 9∨n = 10∨n = 11∨n = 12 by omega) with rfl | rfl | rfl | rfl | rfl | rfl | rfl | rfl | rfl | rfl | rfl | rfl | rfl
 all_goals
  refine ret_frz rfl ?_;refine fn_rule mixed Try.func83 rfl hc83 hr83 rfl ?_
  repeat' ((conv=>whnf);first | (refine Br.ff ?_) | (refine ar_u8 (by omega) (by omega) ?_) | (refine Ix.nat (by decide) ?_) | (refine Ar.i64 (by decide) (by decide) ?_))
  all_goals (conv=>whnf)
  first
   | (refine VLe.int ?_;decide)
   | (refine VLe.int ?_;rfl)
   | exact VLe.of_eq rfl
theorem blen_ok (n:Nat) (h:n≤12):Ret Try.prog 70 [.int .u64 n] (.int .i64 (lnTb n)):=by
 have h1:=blen64_ok n h;refine ret_frz rfl ?_;refine fn_rule mixed Try.func70 rfl hc70 hr70 rfl ?_
 repeat' ((conv=>whnf);first | (refine h1.go ?_))
 all_goals (conv=>whnf)
 exact VLe.rfl
abbrev ks29:List Nat:=[1,2,3,4,5,6,7,8,9,10,11,12,13,14,15,16,17,18,19,20,21,22,23,24,25,26,27,28,29]
theorem pdq_ok (cl:FuncId) (hcl:callable Try.prog cl = true) (cf:Ed→Ed→Int) (hcf:∀ x y,Ret Try.prog cl [edV x,edV y] (.int .i64 (cf x y))) (lt:Ed→Ed→Prop) (hw:Wo lt) (hlt:∀ x y,cf x y < 0↔lt x y) (L0:List Ed) (hL:L0.length≤12) (lim:Int) :
 CallF Try.prog 69 [.vec 0 3 0 L0.length,.int .i64 0,.int .i64 L0.length,.int .i64 lim,.fn (.func cl) false []] [(0,.vec L0.length 3 (eF L0))] ks29
  fun v own' _=>∃ L:List Ed,(L.Perm L0∧SoI lt L L.length)∧v = .tup []∧own' = [(0,.vec L0.length 3 (eF L))]:=by
 have hi:=ins_ok cl hcl cf hcf lt hw hlt L0 (by omega);refine fn_rule mixed Try.func69 rfl hc69 hr69 rfl ?_
 repeat' ((conv=>whnf);first | fail)
 all_goals (conv=>whnf)
 refine loop_fuel mixed 1 ?_
 repeat' ((conv=>whnf);first | (refine Br.dec ?_ ?_ <;> intro _ <;> try omega) | (refine Ar.i64 (by omega) (by omega) ?_) | (refine hi.mono ?_;rintro _ _ _ ⟨L,hp,rfl,rfl⟩))
 all_goals (conv=>whnf)
 exact ⟨L,hp,rfl,rfl⟩
theorem sortf_ok (cl:FuncId) (hcl:callable Try.prog cl = true) (cf:Ed→Ed→Int) (hcf:∀ x y,Ret Try.prog cl [edV x,edV y] (.int .i64 (cf x y))) (lt:Ed→Ed→Prop) (hw:Wo lt) (hlt:∀ x y,cf x y < 0↔lt x y) (L0:List Ed) (hL:L0.length≤12) :
 CallF Try.prog 49 [.vec 0 3 0 L0.length,.fn (.func cl) false []] [(0,.vec L0.length 3 (eF L0))] ks29
  fun v own' _=>∃ L:List Ed,(L.Perm L0∧SoI lt L L.length)∧v = .tup []∧own' = [(0,.vec L0.length 3 (eF L))]:=by
 have hb:=blen_ok L0.length hL;have hi:=pdq_ok cl hcl cf hcf lt hw hlt L0 hL (lnTb L0.length);refine fn_rule mixed Try.func49 rfl hc49 hr49 rfl ?_
 repeat' ((conv=>whnf);first | (refine Ar.u64 (by omega) (by omega) ?_) | (refine hb.go ?_) | (refine hi.mono ?_;rintro _ _ _ ⟨L,hp,rfl,rfl⟩))
 all_goals (conv=>whnf)
 exact ⟨L,hp,rfl,rfl⟩
theorem stable_ok (cl:FuncId) (hcl:callable Try.prog cl = true) (cf:Ed→Ed→Int) (hcf:∀ x y,Ret Try.prog cl [edV x,edV y] (.int .i64 (cf x y))) (lt:Ed→Ed→Prop) (hw:Wo lt) (hlt:∀ x y,cf x y < 0↔lt x y) (L0:List Ed) (hL:L0.length≤12) :
 CallF Try.prog 52 [.vec 0 3 0 L0.length,.int .i64 L0.length,.fn (.func cl) false []] [(0,.vec L0.length 3 (eF L0))] ks29
  fun v own' _=>∃ L:List Ed,(L.Perm L0∧SoI lt L L.length)∧v = .tup []∧own' = [(0,.vec L0.length 3 (eF L))]:=by
 have hi:=ins_ok cl hcl cf hcf lt hw hlt L0 (by omega);refine fn_rule mixed Try.func52 rfl hc52 hr52 rfl ?_
 repeat' ((conv=>whnf);first | fail)
 all_goals (conv=>whnf)
 refine loop_fuel mixed 1 ?_
 repeat' ((conv=>whnf);first | (refine Br.dec ?_ ?_ <;> intro _ <;> try omega) | (refine hi.mono ?_;rintro _ _ _ ⟨L,hp,rfl,rfl⟩))
 all_goals (conv=>whnf)
 refine loop_fuel mixed 1 ?_
 repeat' ((conv=>whnf);first | (refine Br.dec ?_ ?_ <;> intro _ <;> try omega))
 all_goals (conv=>whnf)
 exact ⟨L,hp,rfl,rfl⟩
theorem sorts_ok (cl:FuncId) (hcl:callable Try.prog cl = true) (cf:Ed→Ed→Int) (hcf:∀ x y,Ret Try.prog cl [edV x,edV y] (.int .i64 (cf x y))) (lt:Ed→Ed→Prop) (hw:Wo lt) (hlt:∀ x y,cf x y < 0↔lt x y) (L0:List Ed) (hL:L0.length≤12) :
 CallF Try.prog 25 [.vec 0 3 0 L0.length,.fn (.func cl) false []] [(0,.vec L0.length 3 (eF L0))] ks29
  fun v own' _=>∃ L:List Ed,(L.Perm L0∧SoI lt L L.length)∧v = .tup []∧own' = [(0,.vec L0.length 3 (eF L))]:=by
 have hi:=stable_ok cl hcl cf hcf lt hw hlt L0 hL;refine fn_rule mixed Try.func25 rfl hc25 hr25 rfl ?_
 repeat' ((conv=>whnf);first | (refine hi.mono ?_;rintro _ _ _ ⟨L,hp,rfl,rfl⟩))
 all_goals (conv=>whnf)
 exact ⟨L,hp,rfl,rfl⟩
def rawP (g:G) (v i:Nat):List Ed:=((List.range v).flatMap fun v=>(gR g.ports v).filterMap (rawE v)) ++ ((gR g.ports v).take i).filterMap (rawE v)
theorem rawP_row (g:G) (v:Nat):rawP g v (gR g.ports v).length = rawP g (v + 1) 0:=by
 rw [rawP,rawP,List.take_length,List.range_succ,List.flatMap_append];simp
theorem rawP_end (g:G):rawP g g.ids.length 0 = rawL g:=by simp [rawP,rawL]
theorem rawP_zero (g:G):rawP g 0 0 = []:=by simp [rawP]
theorem rawP_next (g:G) (v:Nat) {i:Nat} (hi:i < (gR g.ports v).length):rawP g v (i + 1) = rawP g v i ++ (rawE v (gF (gR g.ports v) i)).toList:=by
 rw [rawP,rawP,gF_take _ i hi,List.filterMap_append,← List.append_assoc];congr 1
theorem flat_len {α β:Type} (f:α→List β):∀ {l m:List α},l.Sublist m→(l.flatMap f).length≤(m.flatMap f).length:=fun h=>by
 induction h with
 | slnil=>simp
 | cons a _ ih=>simp only [List.flatMap_cons,List.length_append];omega
 | cons_cons a _ ih=>simp only [List.flatMap_cons,List.length_append];omega
theorem rawP_le (g:G) {v i:Nat} (hv:v < g.ids.length):(rawP g v i).length≤(rawL g).length:=by
 have h1:(rawP g v i).length≤(rawP g (v + 1) 0).length:=by
  rw [← rawP_row,rawP,rawP,List.take_length];simp only [List.length_append];have:=(List.Sublist.filterMap (rawE v) (List.take_sublist i (gR g.ports v))).length_le;omega
 have h2:(rawP g (v + 1) 0).length≤(rawL g).length:=by
  simp only [rawP,rawL,List.take_zero,List.filterMap_nil,List.append_nil];exact flat_len _ (List.range_sublist.2 (by omega))
 omega
theorem vle_appE (L:List Ed) (e:Ed) (n i j:Nat) (hn:L.length = n) (f:Nat→Nat→V) (h0:f 0 0 = .int .i64 e.a) (h1:f 0 1 = .int .i64 e.b) (h2:f 0 2 = .int .i64 e.w) (hi:i < n + 1) (hj:j < 3) :
 VLe (fapp (shiftF 0 (eF L)) n (shiftF 0 f) i j) (eF (L ++ [e]) i j):=by
 subst hn;apply VLe.of_eq;by_cases h:i < L.length
 . rw [fapp_lt h,sh_at,Nat.zero_add];have:gE (L ++ [e]) i = gE L i:=by simp [gE,List.getD,List.getElem?_append_left h]
   rw [edC_get _ j hj _ i this,edC_get _ j hj _ i rfl]
 . rw [fapp_ge h,sh_at,Nat.zero_add];have hil:i = L.length:=by omega
   subst hil;have:gE (L ++ [e]) L.length = e:=by simp [gE,List.getD]
   rw [edC_get _ j hj _ _ this,Nat.sub_self];rcases (show j = 0∨j = 1∨j = 2 by omega) with rfl | rfl | rfl
   . rw [h0];rfl
   . rw [h1];rfl
   . rw [h2];rfl
set_option maxHeartbeats 16000000 in
theorem edges_ok (g:G) (hs:g.Small) (hg:g.valid = true) (h12:(rawL g).length≤12):Ret Try.prog 23 [g.v] (.fz (edgesL g).length 3 false (eF (edgesL g))):=by
 obtain ⟨f1,f2,f3,f4,f5,f6,f7⟩:=val_facts hg;refine ret_frz rfl ?_;refine fn_rule mixed Try.func23 rfl hc23 hr23 rfl ?_
 repeat' ((conv=>whnf);first | (refine fn_rule mixed Try.func48 rfl hc48 hr48 rfl ?_) | (refine range_rule ?_) | (refine Chk.mk (by kernel_rfl) ?_) | (refine fn_rule mixed Try.func68 rfl hc68 hr68 rfl ?_))
 all_goals (conv=>whnf)
 refine loop_u mixed [0,8,9] [4] [5,6,7,8,9,10,11,12,13,14,15,16,17,18,19,20,21,22,23,24,25,26,27,28,29] [4,3,2,1,0] (fun v:Nat=>[(10,.int .i64 v)]) (fun own v=>clO ((4,.vec (rawP g v 0).length 3 (eF (rawP g v 0))) :: updO own 1 (.cells [.vec 4 3 0 (rawP g v 0).length]))) (fun m v=>m = g.ids.length - v∧v≤g.ids.length) g.ids.length 0 ⟨rfl,Nat.zero_le _⟩ rfl (fun _=>rfl) ?_ ?_
 . simp only [rawP_zero];refine weak_by (fun _ _=>[(0,some 0),(1,some 1),(2,some 2),(3,some 3),(4,none)]) ?_ ?_ rfl
   . repeat' (first | exact VRen.yld rfl | exact True.intro | (refine ⟨⟨_,rfl,?_⟩,?_⟩) | exact VRen.kf rfl)
   . repeat' (first | (refine VRen.fn ?_) | (refine ⟨rfl,rfl,rfl,rfl,rfl,?_⟩) | exact True.intro | (refine ⟨⟨_,rfl,?_⟩,?_⟩) | exact VRen.kf rfl | exact VRen.loc rfl | exact VRen.nil rfl rfl | (refine ⟨⟨_,_,rfl⟩,?_⟩) | (refine And.intro ?_ ?_))
 rintro m v ⟨hm,hv⟩;by_cases hvn:v < g.ids.length
 . have hrl:=row_le' hg v
   repeat' ((conv=>whnf);first | (refine Br.dec ?_ ?_ <;> intro _ <;> try omega) | (refine Ix.nat (by omega) ?_))
   all_goals (conv=>whnf)
   refine loop_u mixed [0,3,8,9,10,15,16] [4] [5,6,7,8,9,10,11,12,13,14,15,16,17,18,19,20,21,22,23,24,25,26,27,28,29] [4,3,2,1,0] (fun i:Nat=>[(17,.int .i64 i)]) (fun own i=>clO (updO (updO own 4 (.vec (rawP g v i).length 3 (eF (rawP g v i)))) 1 (.cells [.vec 4 3 0 (rawP g v i).length]))) (fun m i=>m = (gR g.ports v).length - i∧i≤(gR g.ports v).length) (gR g.ports v).length 0 ⟨rfl,Nat.zero_le _⟩ rfl (fun _=>rfl) ?_ ?_
   . refine weak_by (fun _ _=>[(0,some 0),(1,some 1),(2,some 2),(3,some 3),(4,some 4)]) ?_ ?_ rfl
     . repeat' (first | exact VRen.yld rfl | exact True.intro | (refine ⟨⟨_,rfl,?_⟩,?_⟩) | exact VRen.kf rfl)
     . repeat' (first | (refine VRen.fn ?_) | (refine ⟨rfl,rfl,rfl,rfl,rfl,?_⟩) | exact True.intro | (refine ⟨⟨_,rfl,?_⟩,?_⟩) | exact VRen.kf rfl | exact VRen.loc rfl | exact VRen.vec rfl rfl rfl | (refine ⟨Nat.le_refl _,rfl,fun i j hi hj=>?_⟩) | exact VLe.rfl | (refine And.intro ?_ ?_))
   rintro m i ⟨hm2,hi⟩;by_cases hin:i < (gR g.ports v).length
   . have hok:=(okR_iff.1 (f6 v (by omega))).1 _ (gF_mem hin);have hnx:=rawP_next g v hin;have hle:=rawP_le g (v:=v) (i:=i) hvn;by_cases hlt:(v:Int) < (gF (gR g.ports v) i).1
     . have hre:rawE v (gF (gR g.ports v) i) = some ⟨v,(gF (gR g.ports v) i).1.toNat,(gF (gR g.ports v) i).2⟩:=if_pos hlt;rw [hre,Option.toList_some] at hnx
       repeat' ((conv=>whnf);first | (refine Br.tt ?_) | (refine Br.dec ?_ ?_ <;> intro _ <;> try omega) | (refine Br.nbeq ?_ ?_ <;> intro _ <;> try omega) | (refine Ar.i64 (by omega) (by omega) ?_) | (refine Ix.nat (by omega) ?_) | (refine Len.mk (by omega) ?_) | (refine yield_rule mixed rfl rfl ?_))
       all_goals (conv=>whnf)
       refine ⟨(gR g.ports v).length - (i + 1),i + 1,by omega,⟨rfl,by omega⟩,?_⟩;simp only [hnx,List.length_append,List.length_singleton];refine weak_by (fun _ own=>[(0,some 0),(1,some 1),(2,some 2),(3,some 3),(4,ckeyo own 1 0)]) ?_ ?_ rfl
       . repeat' (first | exact VRen.yld rfl | exact True.intro | (refine ⟨⟨_,rfl,?_⟩,?_⟩) | exact VRen.kf rfl)
       . repeat' (first | (refine VRen.fn ?_) | (refine ⟨rfl,rfl,rfl,rfl,rfl,?_⟩) | (refine ⟨Nat.le_refl _,rfl,fun i j hi hj=>?_⟩) | exact vle_appE _ _ _ _ _ rfl _ rfl (by show V.int .i64 _ = V.int .i64 _;rw [Int.toNat_of_nonneg (by omega)]) rfl hi hj | exact True.intro | (refine ⟨⟨_,rfl,?_⟩,?_⟩) | exact VRen.kf rfl | exact VRen.loc rfl | exact VRen.vec rfl rfl rfl | (refine And.intro ?_ ?_))
     . have hre:rawE v (gF (gR g.ports v) i) = none:=if_neg hlt;rw [hre,Option.toList_none,List.append_nil] at hnx
       repeat' ((conv=>whnf);first | (refine Br.tt ?_) | (refine Br.dec ?_ ?_ <;> intro _ <;> try omega) | (refine Ar.i64 (by omega) (by omega) ?_) | (refine Ix.nat (by omega) ?_) | (refine yield_rule mixed rfl rfl ?_))
       all_goals (conv=>whnf)
       refine ⟨(gR g.ports v).length - (i + 1),i + 1,by omega,⟨rfl,by omega⟩,?_⟩;simp only [hnx];refine weak_by (fun _ _=>[(0,some 0),(1,some 1),(2,some 2),(3,some 3),(4,some 4)]) ?_ ?_ rfl
       . repeat' (first | exact VRen.yld rfl | exact True.intro | (refine ⟨⟨_,rfl,?_⟩,?_⟩) | exact VRen.kf rfl)
       . repeat' (first | (refine VRen.fn ?_) | (refine ⟨rfl,rfl,rfl,rfl,rfl,?_⟩) | exact True.intro | (refine ⟨⟨_,rfl,?_⟩,?_⟩) | exact VRen.kf rfl | exact VRen.loc rfl | exact VRen.vec rfl rfl rfl | (refine ⟨Nat.le_refl _,rfl,fun i j hi hj=>?_⟩) | exact VLe.rfl | (refine And.intro ?_ ?_))
   . repeat' ((conv=>whnf);first | (refine Br.dec ?_ ?_ <;> intro _ <;> try omega) | (refine Ar.i64 (by omega) (by omega) ?_))
     all_goals (conv=>whnf)
     refine ⟨g.ids.length - (v + 1),v + 1,by omega,⟨rfl,by omega⟩,?_⟩;have e:i = (gR g.ports v).length:=by omega
     subst e;simp only [← rawP_row];refine weak_by (fun _ _=>[(0,some 0),(1,some 1),(2,some 2),(3,some 3),(4,some 4)]) ?_ ?_ rfl
     . repeat' (first | exact VRen.yld rfl | exact True.intro | (refine ⟨⟨_,rfl,?_⟩,?_⟩) | exact VRen.kf rfl)
     . repeat' (first | (refine VRen.fn ?_) | (refine ⟨rfl,rfl,rfl,rfl,rfl,?_⟩) | exact True.intro | (refine ⟨⟨_,rfl,?_⟩,?_⟩) | exact VRen.kf rfl | exact VRen.loc rfl | exact VRen.vec rfl rfl rfl | (refine ⟨Nat.le_refl _,rfl,fun i j hi hj=>?_⟩) | exact VLe.rfl | (refine And.intro ?_ ?_))
 . have ev:v = g.ids.length:=by omega
   subst ev;simp only [rawP_end];have hso:=sortf_ok 50 (by kernel_rfl) cfE edges1_ok Ed.lt wo_lt cfE_lt (rawL g) h12
   repeat' ((conv=>whnf);first | (refine Br.dec ?_ ?_ <;> intro _ <;> try omega) | (refine Len.mk (by omega) ?_) | (refine call_by [(0,some 4)] [] (hso.mono ?_) ⟨VRen.vec rfl rfl rfl,VRen.fn True.intro,True.intro⟩ (by repeat' (first | exact True.intro | (refine ⟨⟨_,rfl,?_⟩,?_⟩) | (refine ⟨Nat.le_refl _,rfl,fun i j hi hj=>?_⟩) | exact VLe.rfl)) rfl;rintro _ _ _ ⟨L,⟨hp,hsl⟩,rfl,rfl⟩) | (refine Chk.mk rfl ?_))
   all_goals (conv=>whnf)
   have hE:=sorted_edges hg hp hsl.pairwise;subst hE;exact VLe.fz hp.length_eq.symm (fun h=>h) (fun i j hi hj=>VLe.of_eq (by rw [sh_at,Nat.zero_add]))
def pF (p:Nat→Int):Nat→Nat→V:=fun i _=>.int .i64 (p i)
theorem pf_set (p:Nat→Int) (v:Nat) (x:Int) (n i j:Nat) (hi:i < n) (hj:j < 1):VLe (fset (pF p) v 0 [.int .i64 x] i j) (pF (fun u=>if u = v then x else p u) i j):=by
 apply VLe.of_eq;obtain rfl:j = 0:=by omega
 simp only [pF,fset];by_cases h:i = v
 . subst h;simp
 . simp [h]
structure JoS (p:Nat→Int) (a b v:Nat) (q:Nat→Int):Prop where
 lo:∀ u,u < v→q u = joP p a b u
 hi:∀ u,v≤u→q u = p u
theorem JoS.start {p:Nat→Int} {a b:Nat}:JoS p a b 0 p:=⟨fun u h=>by omega,fun _ _=>rfl⟩
theorem JoS.yes {p:Nat→Int} {a b v:Nat} {q:Nat→Int} (h:JoS p a b v q) (he:p v = max (p a) (p b)):JoS p a b (v + 1) (fun u=>if u = v then min (p a) (p b) else q u):=by
 refine ⟨fun u hu=>?_,fun u hu=>?_⟩
 . show (if u = v then _ else q u) = _;by_cases e:u = v
   . subst e;rw [if_pos rfl,joP,if_pos he]
   . rw [if_neg e];exact h.lo u (by omega)
 . show (if u = v then _ else q u) = _;rw [if_neg (by omega)];exact h.hi u (by omega)
theorem JoS.no {p:Nat→Int} {a b v:Nat} {q:Nat→Int} (h:JoS p a b v q) (he:¬ p v = max (p a) (p b)):JoS p a b (v + 1) q:=by
 refine ⟨fun u hu=>?_,fun u hu=>h.hi u (by omega)⟩;by_cases e:u = v
 . subst e;rw [joP,if_neg he];exact h.hi u (Nat.le_refl _)
 . exact h.lo u (by omega)
theorem mxR (x y:Int):(if y > x then y else x) = max x y:=by
 rw [Int.max_def];split <;> split <;> omega
theorem mnR (x y:Int):(if y < x then y else x) = min x y:=by
 rw [Int.min_def];split <;> split <;> omega
set_option maxHeartbeats 8000000 in
theorem join_ok (n:Nat) (hn:n≤1000000) (p:Nat→Int) (a b:Nat) (ha:a < n) (hb:b < n) :
 CallF Try.prog 28 [.vec 0 1 0 n,.int .i64 a,.int .i64 b] [(0,.vec n 1 (pF p))] ks29
  fun v own' _=>∃ q:Nat→Int,(∀ u,u < n→q u = joP p a b u)∧v = .tup []∧own' = [(0,.vec n 1 (pF q))]:=by
 refine fn_rule mixed Try.func28 rfl hc28 hr28 rfl ?_
 repeat' ((conv=>whnf);first | (refine Ix.mk a (by omega) (by omega) ?_) | (refine Ix.mk b (by omega) (by omega) ?_) | (refine Sv.mk _ rfl ?_) | (refine Ltn.mk (by omega) ?_) | (refine And.intro (Ltn.mk (by omega) rfl) ?_))
 all_goals (conv=>whnf)
 refine loop_u mixed [0,6,7,28] [] ks29 [0] (fun s:Nat × (Nat→Int)=>[(29,.int .i64 s.1)]) (fun own s=>updO own 0 (.vec n 1 (pF s.2))) (fun m s=>m = n - s.1∧s.1≤n∧JoS p a b s.1 s.2) n (0,p) ⟨rfl,Nat.zero_le _,JoS.start⟩ rfl (fun _=>rfl) ?_ ?_
 . exact weak_b (fun _ _=>[(0,some 0)])
 rintro m ⟨v,q⟩ ⟨hm,hv,hJ⟩;simp only at hm hv hJ;by_cases hvn:v < n
 . dsimp only;have hqv:=hJ.hi v (Nat.le_refl _);have z0:0 + a = a:=Nat.zero_add _;have z1:0 + b = b:=Nat.zero_add _;have z2:0 + v = v:=Nat.zero_add _;by_cases hc:q (0 + v) = (if p (0 + b) > p (0 + a) then p (0 + b) else p (0 + a))
   . repeat' ((conv=>whnf);first | (refine Br.dec ?_ ?_ <;> intro _ <;> try omega) | (refine Ar.i64 (by omega) (by omega) ?_) | (refine Ix.nat (by omega) ?_) | (refine Ltn.mk (by omega) ?_))
     all_goals (conv=>whnf)
     rw [mxR,z0,z1,z2,hqv] at hc;refine ⟨n - (v + 1),(v + 1,fun u=>if u = v then (if p (0 + b) < p (0 + a) then p (0 + b) else p (0 + a)) else q u),by omega,⟨rfl,by omega,?_⟩,?_⟩
     . rw [mnR,z0,z1];exact hJ.yes hc
     . refine weak_by (fun _ _=>[(0,some 0)]) ?_ ?_ rfl
       . repeat' (first | exact True.intro | (refine ⟨⟨_,rfl,?_⟩,?_⟩) | exact VRen.kf rfl | exact VRen.vec rfl rfl rfl)
       . repeat' (first | exact ⟨Nat.le_refl _,rfl,fun i t hi ht=>by simp only [Nat.zero_add];exact pf_set q v _ n i t (by omega) ht⟩ | exact True.intro | (refine ⟨⟨_,rfl,?_⟩,?_⟩))
   . repeat' ((conv=>whnf);first | (refine Br.dec ?_ ?_ <;> intro _ <;> try omega) | (refine Ar.i64 (by omega) (by omega) ?_) | (refine Ix.nat (by omega) ?_) | (refine Ltn.mk (by omega) ?_))
     all_goals (conv=>whnf)
     rw [mxR,z0,z1,z2,hqv] at hc;refine ⟨n - (v + 1),(v + 1,q),by omega,⟨rfl,by omega,hJ.no hc⟩,?_⟩;exact weak_b (fun _ _=>[(0,some 0)])
 . dsimp only
   repeat' ((conv=>whnf);first | (refine Br.dec ?_ ?_ <;> intro _ <;> try omega))
   all_goals (conv=>whnf)
   exact ⟨q,fun u hu=>hJ.lo u (by omega),rfl,rfl⟩
def sF (L:List (Nat × Nat)):Nat→Nat→V:=fun i j=>match j with
 | 0=>.int .i64 (L.getD i (0,0)).1
 | _ + 1=>.int .i64 (L.getD i (0,0)).2
theorem edges_len {g:G} (hg:g.valid = true):(edgesL g).length = (rawL g).length:=by
 refine List.Perm.length_eq ?_;refine (List.perm_ext_iff_of_nodup ?_ (raw_nodup hg)).2 fun e=>by rw [edges_mem hg,raw_mem hg]
 rw [List.nodup_iff_pairwise_ne];exact (edges_sorted g).imp fun {e f} hl q=>by subst q;exact lt_as _ _ hl hl
theorem pf_next (n v i j:Nat) (hj:j < 1):VLe (fset (pF fun u=>if u < v then (u:Int) else 0) v 0 [.int .i64 v] i j) (pF (fun u=>if u < v + 1 then (u:Int) else 0) i j):=by
 refine (pf_set _ v (v:Int) (i + 1) i j (by omega) hj).trans (VLe.of_eq ?_);show V.int .i64 _ = V.int .i64 _;congr 1;show (if i = v then (v:Int) else if i < v then (i:Int) else 0) = if i < v + 1 then (i:Int) else 0
 by_cases h:i = v
 . subst h;simp
 . rw [if_neg h];by_cases q:i < v
   . rw [if_pos q,if_pos (by omega)]
   . rw [if_neg q,if_neg (by omega)]
theorem PtI.congr {n:Nat} {D:List (Nat × Nat)} {p q:Nat→Int} (h:PtI n D p) (he:∀ u,u < n→q u = p u):PtI n D q:=fun u v hu hv=>by rw [he u hu,he v hv];exact h u v hu hv
noncomputable def selT (g:G) (i:Nat):List (Nat × Nat):=(((edgesL g).take i).filter (chE g)).map fun e=>(e.a,e.b)
theorem selT_len (g:G) (i:Nat):(selT g i).length≤i:=by
 rw [selT,List.length_map];exact Nat.le_trans (List.length_filter_le _ _) (by simp;omega)
theorem selT_yes {g:G} {i:Nat} (hi:i < (edgesL g).length) (h:chE g (gE (edgesL g) i) = true):selT g (i + 1) = selT g i ++ [((gE (edgesL g) i).a,(gE (edgesL g) i).b)]:=by
 rw [selT,take_gE hi,List.filter_append,List.map_append,List.filter_cons,if_pos h];rfl
theorem selT_no {g:G} {i:Nat} (hi:i < (edgesL g).length) (h:chE g (gE (edgesL g) i) = false):selT g (i + 1) = selT g i:=by
 rw [selT,take_gE hi,List.filter_append,List.map_append,List.filter_cons,if_neg (by rw [h];decide)];simp [selT]
theorem selT_end (g:G):selT g (edgesL g).length = spanL g:=by rw [selT,List.take_length,span_edges]
theorem vle_appS (L:List (Nat × Nat)) (a b:Nat) (n i j:Nat) (hn:L.length = n) (f:Nat→Nat→V) (h0:f 0 0 = .int .i64 a) (h1:f 0 1 = .int .i64 b) (hi:i < n + 1) (hj:j < 2):VLe (fapp (shiftF 0 (sF L)) n (shiftF 0 f) i j) (sF (L ++ [(a,b)]) i j):=by
 subst hn;apply VLe.of_eq;by_cases h:i < L.length
 . rw [fapp_lt h,shiftF_eq,Nat.zero_add];have e:(L ++ [(a,b)]).getD i (0,0) = L.getD i (0,0):=by simp [List.getD,List.getElem?_append_left h]
   rcases j with _ | j
   . show V.int .i64 _ = V.int .i64 _;rw [e]
   . show V.int .i64 _ = V.int .i64 _;rw [e]
 . rw [fapp_ge h];obtain rfl:i = L.length:=by omega
   have e:(L ++ [(a,b)]).getD L.length (0,0) = (a,b):=by simp [List.getD]
   rw [Nat.sub_self,shiftF_eq];rcases j with _ | _ | j
   . show f 0 0 = V.int .i64 _;rw [e,h0]
   . show f 0 1 = V.int .i64 _;rw [e,h1]
   . omega
theorem MGet.of {o:Option V} {v:V} {A:V→Prop} {B:Prop} (h:o = some v) (hA:A v):MGet o A B:=⟨fun w hw=>by rw [h] at hw;cases hw;exact hA,fun hn=>by rw [h] at hn;cases hn⟩
set_option maxHeartbeats 16000000 in
theorem spanning_ok (g:G) (hs:g.Small) (hgc:g.conn = true) (h12:(rawL g).length≤12) (h0:0 < (edgesL g).length):Ret Try.prog 7 [g.v] (.tup [.fz (spanL g).length 2 false (sF (spanL g)),.int .i64 0]):=by
 obtain ⟨hg,_⟩:=conn_facts hgc;obtain ⟨f1,f2,f3,f4,f5,f6,f7⟩:=val_facts hg;have hcn:=conn_ok g hs;rw [hgc] at hcn;have hed:=edges_ok g hs hg h12;refine ret_frz rfl ?_;refine fn_rule mixed Try.func7 rfl hc7 hr7 rfl ?_;have hle:=edges_len hg;have hso:=sorts_ok 26 (by kernel_rfl) (fun x y=>cpI x.w y.w) span1_ok ltW wo_w cpW_lt (edgesL g) (by omega)
 repeat' ((conv=>whnf);first | (refine Br.tt ?_) | (refine Br.nbeq ?_ ?_ <;> intro _ <;> try omega) | (refine Bd.nat (by omega) ?_) | (refine Len.mk (by omega) ?_) | (refine MkS.vec ?_) | (refine hcn.go ?_) | (refine hed.go ?_) | (refine Chk.mk (by kernel_rfl) ?_) | (refine fn_rule mixed Try.func24 rfl hc24 hr24 rfl ?_) | (refine call_by [(0,some 2)] [] (hso.mono ?_) ⟨VRen.vec rfl rfl (Nat.zero_add _),VRen.fn True.intro,True.intro⟩ (by repeat' (first | exact True.intro | (refine ⟨⟨_,rfl,?_⟩,?_⟩) | (refine ⟨by omega,rfl,fun i j hi hj=>?_⟩) | exact VLe.rfl)) rfl;rintro _ _ _ ⟨B,⟨hp,hsl⟩,rfl,rfl⟩))
 all_goals (conv=>whnf)
 have hBl:=hp.length_eq;have hB:ByW g B:=⟨hp,hsl⟩;refine loop_u mixed [2,3,4,5,6,31] [] [4,5,6,7,8,9,10,11,12,13,14,15,16,17,18,19,20,21,22,23,24,25,26,27,28,29] [3,2,0] (fun v:Nat=>[(32,.int .i64 v)]) (fun own v=>updO own 3 (.vec g.ids.length 1 (pF fun u=>if u < v then (u:Int) else 0))) (fun m v=>m = g.ids.length - v∧v≤g.ids.length) g.ids.length 0 ⟨rfl,Nat.zero_le _⟩ rfl (fun _=>rfl) ?_ ?_
 . refine weak_by (fun _ _=>[(0,some 0),(2,some 2),(3,some 3)]) ?_ ?_ rfl
   . repeat' (first | exact True.intro | (refine ⟨⟨_,rfl,?_⟩,?_⟩) | exact VRen.kf rfl | exact VRen.vec rfl rfl rfl)
   . repeat' (first | exact ⟨Nat.le_refl _,rfl,fun i j hi hj=>VLe.of_eq (by obtain rfl:j = 0:=(by omega);rfl)⟩ | exact True.intro | (refine ⟨⟨_,rfl,?_⟩,?_⟩) | exact VRen.kf rfl | (refine ⟨Nat.le_refl _,rfl,fun i j hi hj=>?_⟩) | exact VLe.rfl | (refine And.intro ?_ ?_))
 rintro m v ⟨hm,hv⟩;by_cases hvn:v < g.ids.length
 . repeat' ((conv=>whnf);first | (refine Ix.mk v (by omega) (by omega) ?_) | (refine Br.dec ?_ ?_ <;> intro _ <;> try omega) | (refine Ar.i64 (by omega) (by omega) ?_) | (refine Ltn.mk (by omega) ?_))
   all_goals (conv=>whnf)
   refine ⟨g.ids.length - (v + 1),v + 1,by omega,⟨rfl,by omega⟩,?_⟩;refine weak_by (fun _ _=>[(0,some 0),(2,some 2),(3,some 3)]) ?_ ?_ rfl
   . repeat' (first | exact True.intro | (refine ⟨⟨_,rfl,?_⟩,?_⟩) | exact VRen.kf rfl | exact VRen.vec rfl rfl rfl)
   . repeat' (first | exact ⟨Nat.le_refl _,rfl,fun i t hi ht=>by simp only [Nat.zero_add];exact pf_next g.ids.length v i t ht⟩ | exact True.intro | (refine ⟨⟨_,rfl,?_⟩,?_⟩) | exact VRen.kf rfl | (refine ⟨Nat.le_refl _,rfl,fun i j hi hj=>?_⟩) | exact VLe.rfl | (refine And.intro ?_ ?_))
 have ev:v = g.ids.length:=by omega
 subst ev
 repeat' ((conv=>whnf);first | (refine Br.dec ?_ ?_ <;> intro _ <;> try omega))
 all_goals (conv=>whnf)
 refine loop_u mixed [2,3,4,5,6,8] [] [5,6,7,8,9,10,11,12,13,14,15,16,17,18,19,20,21,22,23,24,25,26,27,28,29] [4,3,2,0] (fun s:Nat × (Nat→Int)=>[(9,.int .i64 s.1)]) (fun own s=>updO (updO own 3 (.vec g.ids.length 1 (pF s.2))) 4 (.map (.st KE) (enM g (B.take s.1)))) (fun m s=>m = B.length - s.1∧Cls g B s.1 s.2) B.length (0,fun v=>(v:Int)) ⟨rfl,Cls.start B⟩ rfl (fun _=>rfl) ?_ ?_
 . refine weak_by (fun _ _=>[(0,some 0),(2,some 2),(3,some 3),(4,some 4)]) ?_ ?_ rfl
   . repeat' (first | exact True.intro | exact VRen.map rfl | (refine ⟨⟨_,rfl,?_⟩,?_⟩) | exact VRen.kf rfl | exact VRen.vec rfl rfl rfl)
   . repeat' (first | exact ⟨Nat.le_refl _,rfl,fun i j hi hj=>VLe.of_eq (by obtain rfl:j = 0:=(by omega);show V.int .i64 (if i < g.ids.length then (i:Int) else 0) = V.int .i64 _;rw [if_pos hi])⟩ | exact True.intro | exact ⟨rfl,rfl⟩ | (refine ⟨⟨_,rfl,?_⟩,?_⟩) | exact VRen.kf rfl | (refine ⟨Nat.le_refl _,rfl,fun i j hi hj=>?_⟩) | exact VLe.rfl | (refine And.intro ?_ ?_))
 rintro m ⟨a,p⟩ ⟨hm,hC⟩;simp only at hm hC;have hal:=hC.le;by_cases hab:a < B.length
 . dsimp only
   repeat' ((conv=>whnf);first | (refine Br.dec ?_ ?_ <;> intro _ <;> try omega))
   all_goals (conv=>whnf)
   refine loop_u mixed [2,3,4,5,6,8,9] [] [5,6,7,8,9,10,11,12,13,14,15,16,17,18,19,20,21,22,23,24,25,26,27,28,29] [4,3,2,0] (fun k:Nat=>[(10,.int .i64 k)]) (fun own k=>updO own 4 (.map (.st KE) (enM g (B.take k)))) (fun m k=>m = B.length - k∧a≤k∧k≤B.length∧∀ j,a≤j→j < k→(gE B j).w = (gE B a).w) (B.length - a) a ⟨rfl,Nat.le_refl _,hal,fun j h1 h2=>by omega⟩ rfl (fun _=>rfl) ?_ ?_
   . exact weak_b (fun _ _=>[(0,some 0),(2,some 2),(3,some 3),(4,some 4)])
   rintro m k ⟨hm2,hak,hk,hw⟩;have z1:0 + k = k:=Nat.zero_add _;have z2:0 + a = a:=Nat.zero_add _;by_cases hgo:k < B.length∧(gE B (0 + k)).w = (gE B (0 + a)).w
   . obtain ⟨hkn,hwk⟩:=hgo;have he:=(hB.edge hg hkn).2;have h1:(gE B (0 + k)).a < g.ids.length:=by rw [z1];exact he.lu
     have h2:(gE B (0 + k)).b < g.ids.length:=by rw [z1];exact he.lv
     have hch:=hC.ch hg hB hak hkn (by rw [z1,z2] at hwk;exact hwk);have hput:∀ b:Bool,b = chE g (gE B k)→mput (enM g (B.take k)) (keyE (gE B (0 + k))) (.bool b) = enM g (B.take (k + 1)):=fun b hb=>by
      rw [z1];exact enM_put g (hB.nodup hg) hkn (by rw [hb])
     have hw':∀ j,a≤j→j < k + 1→(gE B j).w = (gE B a).w:=fun j h3 h4=>by
      by_cases e:j = k
      . subst e;rw [z1,z2] at hwk;exact hwk
      . exact hw j h3 (by omega)
     by_cases hpp:p (0 + (gE B (0 + k)).a) = p (0 + (gE B (0 + k)).b)
     . have hb:false = chE g (gE B k):=by
        rw [← hch,decide_eq_true (by simpa only [Nat.zero_add] using hpp)];rfl
       repeat' ((conv=>whnf);first | (refine Ix.mk k (by omega) (by omega) ?_) | (refine Ix.mk a (by omega) (by omega) ?_) | (refine Ix.mk (gE B (0 + k)).a rfl h1 ?_) | (refine Ix.mk (gE B (0 + k)).b rfl h2 ?_) | (refine Br.dec ?_ ?_ <;> intro _ <;> try omega) | (refine Br.bne ?_ ?_ <;> intro _ <;> try omega) | (refine Ar.i64 (by omega) (by omega) ?_) | (refine Ltn.mk (by omega) ?_))
       all_goals (conv=>whnf)
       refine ⟨B.length - (k + 1),k + 1,by omega,⟨rfl,by omega,by omega,hw'⟩,?_⟩;refine weak_by (fun _ _=>[(0,some 0),(2,some 2),(3,some 3),(4,some 4)]) ?_ ?_ rfl
       . repeat' (first | exact True.intro | exact VRen.map rfl | (refine ⟨⟨_,rfl,?_⟩,?_⟩) | exact VRen.kf rfl | exact VRen.vec rfl rfl rfl)
       . repeat' (first | exact ⟨rfl,(hput _ hb).symm⟩ | exact True.intro | (refine ⟨⟨_,rfl,?_⟩,?_⟩) | exact VRen.kf rfl | (refine ⟨Nat.le_refl _,rfl,fun i j hi hj=>?_⟩) | exact VLe.rfl | (refine And.intro ?_ ?_))
     . have hb:true = chE g (gE B k):=by
        rw [← hch,decide_eq_false (by simpa only [Nat.zero_add] using hpp)];rfl
       repeat' ((conv=>whnf);first | (refine Ix.mk k (by omega) (by omega) ?_) | (refine Ix.mk a (by omega) (by omega) ?_) | (refine Ix.mk (gE B (0 + k)).a rfl h1 ?_) | (refine Ix.mk (gE B (0 + k)).b rfl h2 ?_) | (refine Br.dec ?_ ?_ <;> intro _ <;> try omega) | (refine Br.bne ?_ ?_ <;> intro _ <;> try omega) | (refine Ar.i64 (by omega) (by omega) ?_) | (refine Ltn.mk (by omega) ?_))
       all_goals (conv=>whnf)
       refine ⟨B.length - (k + 1),k + 1,by omega,⟨rfl,by omega,by omega,hw'⟩,?_⟩;refine weak_by (fun _ _=>[(0,some 0),(2,some 2),(3,some 3),(4,some 4)]) ?_ ?_ rfl
       . repeat' (first | exact True.intro | exact VRen.map rfl | (refine ⟨⟨_,rfl,?_⟩,?_⟩) | exact VRen.kf rfl | exact VRen.vec rfl rfl rfl)
       . repeat' (first | exact ⟨rfl,(hput _ hb).symm⟩ | exact True.intro | (refine ⟨⟨_,rfl,?_⟩,?_⟩) | exact VRen.kf rfl | (refine ⟨Nat.le_refl _,rfl,fun i j hi hj=>?_⟩) | exact VLe.rfl | (refine And.intro ?_ ?_))
   . have hkn':k < B.length→(gE B k).w≠(gE B a).w:=fun h q=>hgo ⟨h,by rw [z1,z2];exact q⟩;have hka:a < k:=by
      by_cases e:a = k
      . subst e;exact (hkn' hab rfl).elim
      . omega
     repeat' ((conv=>whnf);first | (refine Ix.mk k (by omega) (by omega) ?_) | (refine Ix.mk a (by omega) (by omega) ?_) | (refine Br.dec ?_ ?_ <;> intro _ <;> try omega) | (refine Br.nble ?_ ?_ <;> intro _ <;> try omega) | (refine Bd.nat (by omega) ?_) | (refine Ltn.mk (by omega) ?_))
     all_goals (conv=>whnf)
     all_goals
      refine loop_u mixed [2,3,4,5,6,8,10,85,86] [] [5,6,7,8,9,10,11,12,13,14,15,16,17,18,19,20,21,22,23,24,25,26,27,28,29] [4,3,2,0] (fun s:Nat × (Nat→Int)=>[(87,.int .i64 s.1)]) (fun own s=>updO own 3 (.vec g.ids.length 1 (pF s.2))) (fun m s=>m = (k - a) - s.1∧s.1≤k - a∧Jng g B a k (a + s.1) s.2) (k - a) (0,p) ⟨rfl,Nat.zero_le _,⟨⟨Nat.le_refl _,hak,hk⟩,hC.pt⟩⟩ rfl (fun _=>rfl) ?_ ?_
      . exact weak_b (fun _ _=>[(0,some 0),(2,some 2),(3,some 3),(4,some 4)])
      rintro m3 ⟨i,q⟩ ⟨hm3,hi,hJ⟩;simp only at hm3 hi hJ;by_cases hik:i < k - a
      . dsimp only;have e0:0 + a + i = a + i:=by omega
        have he:=(hB.edge hg (i:=a + i) (by omega)).2;have h1:(gE B (0 + a + i)).a < g.ids.length:=by rw [e0];exact he.lu
        have h2:(gE B (0 + a + i)).b < g.ids.length:=by rw [e0];exact he.lv
        have hjo:=join_ok g.ids.length (by omega) q (gE B (0 + a + i)).a (gE B (0 + a + i)).b h1 h2
        repeat' ((conv=>whnf);first | (refine Ix.mk i (by omega) (by omega) ?_) | (refine Br.dec ?_ ?_ <;> intro _ <;> try omega) | (refine Ar.i64 (by omega) (by omega) ?_) | (refine Ltn.mk (by omega) ?_) | (refine Chk.mk (by kernel_rfl) ?_) | (refine call_by [(0,some 3)] [] (hjo.mono ?_) ⟨VRen.vec rfl rfl rfl,VRen.int rfl,VRen.int rfl,True.intro⟩ (by repeat' (first | exact True.intro | (refine ⟨⟨_,rfl,?_⟩,?_⟩) | (refine ⟨Nat.le_refl _,rfl,fun i j hi hj=>?_⟩) | exact VLe.rfl)) rfl;rintro _ _ _ ⟨q',hq',rfl,rfl⟩))
        all_goals (conv=>whnf)
        rename_i q' hq';refine ⟨(k - a) - (i + 1),(i + 1,q'),by omega,⟨rfl,by omega,⟨⟨by omega,by omega,hk⟩,?_⟩⟩,?_⟩
        . have:=(hJ.step hg hB (by omega)).pt;rw [e0] at hq';exact this.congr hq'
        . exact weak_b (fun _ _=>[(0,some 0),(2,some 2),(3,some 3),(4,some 4)])
      . have ei:i = k - a:=by omega
        subst ei;have hJ':Jng g B a k k q:=by have:=hJ;rwa [show a + (k - a) = k by omega] at this
        dsimp only
        repeat' ((conv=>whnf);first | (refine Br.dec ?_ ?_ <;> intro _ <;> try omega))
        all_goals (conv=>whnf)
        refine ⟨B.length - k,(k,q),by omega,⟨rfl,hJ'.next hB hka hw hkn'⟩,?_⟩;exact weak_b (fun _ _=>[(0,some 0),(2,some 2),(3,some 3),(4,some 4)])
 . have ea:a = B.length:=by omega
   subst ea;dsimp only;simp only [List.take_length]
   repeat' ((conv=>whnf);first | (refine Br.dec ?_ ?_ <;> intro _ <;> try omega))
   all_goals (conv=>whnf)
   refine loop_u mixed [2,3,8,99,100] [5] [6,7,8,9,10,11,12,13,14,15,16,17,18,19,20,21,22,23,24,25,26,27,28,29] [5,4,3,2,0] (fun i:Nat=>[(14,.vec 5 2 0 (selT g i).length),(101,.int .i64 i)]) (fun own i=>(5,.vec (selT g i).length 2 (sF (selT g i))) :: own) (fun m i=>m = (edgesL g).length - i∧i≤(edgesL g).length) (edgesL g).length 0 ⟨rfl,Nat.zero_le _⟩ rfl (fun _=>rfl) ?_ ?_
   . exact weak_b (fun _ _=>[(0,some 0),(2,some 2),(3,some 3),(4,some 4),(5,none)])
   rintro m i ⟨hm,hi⟩;by_cases hin:i < (edgesL g).length
   . have hmem:gE (edgesL g) i∈B:=by rw [hp.mem_iff,← gE_of hin];exact List.getElem_mem hin
     have hfi:=enM_find g hmem;have hln:=selT_len g i;cases hch:chE g (gE (edgesL g) i) with
     | true =>
       rw [hch] at hfi;have hse:=selT_yes hin hch;have hsl:=selT_len g (i + 1);have hsl2:(selT g (i + 1)).length = (selT g i).length + 1:=by rw [hse,List.length_append];rfl
       repeat' ((conv=>whnf);first | (refine Ix.mk i (by omega) (by omega) ?_) | (refine Br.dec ?_ ?_ <;> intro _ <;> try omega) | (refine Br.nbeq ?_ ?_ <;> intro _ <;> try omega) | (refine Ar.i64 (by omega) (by omega) ?_) | (refine Len.mk (by omega) ?_) | (refine MGet.of hfi ?_))
       all_goals (conv=>whnf)
       refine ⟨(edgesL g).length - (i + 1),i + 1,by omega,⟨rfl,by omega⟩,?_⟩;dsimp only;rw [hsl2,hse];refine weak_by (fun env own=>[(0,some 0),(2,some 2),(3,some 3),(4,some 4),(5,ekey env 14)]) ?_ ?_ rfl
       . repeat' (first | exact True.intro | exact VRen.map rfl | (refine ⟨⟨_,rfl,?_⟩,?_⟩) | exact VRen.kf rfl | exact VRen.vec rfl rfl rfl)
       . repeat' (first | exact ⟨Nat.le_refl _,rfl,fun a b ha hb=>vle_appS (selT g i) _ _ _ a b rfl _ rfl rfl ha hb⟩ | exact True.intro | exact ⟨rfl,rfl⟩ | (refine ⟨⟨_,rfl,?_⟩,?_⟩) | exact VRen.kf rfl | (refine ⟨Nat.le_refl _,rfl,fun i j hi hj=>?_⟩) | exact VLe.rfl | (refine And.intro ?_ ?_))
     | false =>
       rw [hch] at hfi;have hse:=selT_no hin hch
       repeat' ((conv=>whnf);first | (refine Ix.mk i (by omega) (by omega) ?_) | (refine Br.dec ?_ ?_ <;> intro _ <;> try omega) | (refine Ar.i64 (by omega) (by omega) ?_) | (refine MGet.of hfi ?_))
       all_goals (conv=>whnf)
       refine ⟨(edgesL g).length - (i + 1),i + 1,by omega,⟨rfl,by omega⟩,?_⟩;dsimp only;rw [hse];exact weak_b (fun _ _=>[(0,some 0),(2,some 2),(3,some 3),(4,some 4),(5,some 5)])
   . have ei:i = (edgesL g).length:=by omega
     subst ei
     repeat' ((conv=>whnf);first | (refine Br.dec ?_ ?_ <;> intro _ <;> try omega) | (refine Len.mk (by omega) ?_))
     all_goals (conv=>whnf)
     rw [selT_end];exact VLe.tup ⟨VLe.fz rfl (fun h=>h) (fun i j hi hj=>VLe.of_eq (by rw [shiftF_eq,Nat.zero_add])),VLe.rfl,True.intro⟩
structure Net where
 n:Int
 links:List Int
 weights:List Int
 ids:List Int
 apart:Bool
 back:Bool
def Net.v (x:Net):V:=.agg [.int .i64 x.n,.fz x.links.length 1 false (vI x.links),.fz x.weights.length 1 false (vI x.weights),.fz x.ids.length 1 false (vI x.ids),.bool x.apart,.bool x.back]
structure Net.Small (x:Net):Prop where
 links:x.links.length≤9223372036854775807
 weights:x.weights.length≤9223372036854775807
 ids:x.ids.length≤9223372036854775807
abbrev Ps:=List (List (Int × Int))
def lnk (p:Ps) (a:Nat) (b:Int):Bool:=(gR p a).any fun l=>decide (l.1 = b)
theorem linked_ok (g:G) (hs:g.Small) (a:Nat) (b:Int) (ha:a < g.ports.length):Ret Try.prog 74 [g.v,.int .i64 a,.int .i64 b] (.bool (lnk g.ports a b)):=by
 have hrl:=gR_len hs.rows a;refine ret_frz rfl ?_;refine fn_rule mixed Try.func74 rfl hc74 hr74 rfl ?_
 repeat' ((conv=>whnf);first | fail)
 all_goals (conv=>whnf)
 refine loop_r mixed [1,2,3] (fun i:Nat=>[(7,.int .i64 i)]) (fun m i=>m = (gR g.ports a).length - i∧i≤(gR g.ports a).length∧((gR g.ports a).take i).any (fun l=>decide (l.1 = b)) = false) (gR g.ports a).length 0 ⟨rfl,Nat.zero_le _,rfl⟩ ?_ ?_
 . exact weak_b (fun _ _=>[(0,some 0)])
 rintro m i ⟨hm,hi,hall⟩
 repeat' ((conv=>whnf);first | (refine Br.dec ?_ ?_ <;> intro _ <;> try omega) | (refine Ar.i64 (by omega) (by omega) ?_) | (refine Ix.nat (by omega) ?_))
 all_goals (conv=>whnf)
 . refine VLe.bool ?_;symm;rw [lnk,List.any_eq_true];exact ⟨_,gF_mem (show i < (gR g.ports a).length by omega),by simp;omega⟩
 . refine ⟨(gR g.ports a).length - (i + 1),i + 1,by omega,⟨rfl,by omega,?_⟩,?_⟩
   . rw [gF_take _ _ (by omega),List.any_append,hall];simp;omega
   . exact weak_b (fun _ _=>[(0,some 0)])
 . refine VLe.bool ?_;rw [lnk,← hall,List.take_of_length_le (by omega)]
def addP (bk:Bool) (r:List (Int × Int)) (l:Int × Int):List (Int × Int):=if bk then l :: r else r ++ [l]
def linkP (bk:Bool) (p:Ps) (a b:Nat) (w:Int):Ps:=if a = b∨lnk p a b = true then p else (p.set a (addP bk (gR p a) ((b:Int),w))).set b (addP bk (gR p b) ((a:Int),w))
def lenP (p:Ps) (i:Nat):Nat:=(gR p i).length
def rowP (p:Ps) (i:Nat):Nat→Nat→V:=vF (gR p i)
abbrev famP (p:Ps):Blk:=.fam p.length 2 (lenP p) (rowP p) []
def KS4:List Nat:=[2,3,4,5,6,7,8,9,10,11,12,13,14,15,16,17,18,19,20,21,22,23,24,25,26,27,28,29]
def gOwn (g:G):Own:=[(0,.vec g.ids.length 1 (vI g.ids)),(1,famP g.ports)]
abbrev gV1 (i n:Nat):V:=.agg [.vec 0 1 0 i,.vec 1 1 0 n]
theorem lend_g (g:G):VLe (V.agg [.fz g.ids.length 1 false (shiftF 0 (vI g.ids)),.fz g.ports.length 1 false fun i _=>.fz (lenP g.ports i) 2 false (rowP g.ports i)]) g.v:=by
 refine VLe.agg ⟨VLe.fz rfl (fun h=>h) (fun i j hi hj=>VLe.of_eq ?_),VLe.rfl,True.intro⟩;simp [shiftF]
theorem lend_g2 (g:G) (a b:Nat):VLe (V.agg [.fz g.ids.length 1 false (shiftF 0 (vI g.ids)),.fz g.ports.length 1 false fun i _=>.fz (lenP g.ports i) 2 false (setF (setF (rowP g.ports) a (rowP g.ports a)) b (rowP g.ports b) i)]) g.v:=by
 have e:setF (setF (rowP g.ports) a (rowP g.ports a)) b (rowP g.ports b) = rowP g.ports:=by
  funext i;simp only [setF];split
  . rename_i h;rw [h]
  . split
    . rename_i h;rw [h]
    . rfl
 rw [e];exact lend_g g
theorem gR_set (p:Ps) (a:Nat) (A:List (Int × Int)) (ha:a < p.length) (i:Nat):gR (p.set a A) i = if i = a then A else gR p i:=by
 simp only [gR,List.getD,List.getElem?_set];by_cases h:a = i
 . subst h;simp [ha]
 . have:¬ i = a:=fun e=>h e.symm;simp [h,this]
theorem getD_snocF (l:List (Int × Int)) (x:Int × Int) (i:Nat):gF (l ++ [x]) i = if i < l.length then gF l i else if i = l.length then x else (0,0):=by
 by_cases h:i < l.length
 . simp only [gF,List.getD,List.getElem?_append_left h,if_pos h]
 . rw [if_neg h];by_cases h2:i = l.length
   . subst h2;simp [gF]
   . simp [gF,h2,List.getElem?_eq_none (by simp;omega:(l ++ [x]).length≤i)]
theorem vle_appF (l:List (Int × Int)) (a b:Int) (i j:Nat) (hi:i < l.length + 1) (hj:j < 2) :
 VLe (fapp (shiftF 0 (vF l)) l.length (shiftF 0 (tab [[.int .i64 a,.int .i64 b]])) i j) (vF (l ++ [(a,b)]) i j):=by
 apply VLe.of_eq;by_cases h:i < l.length
 . rw [fapp_lt h];obtain rfl | rfl:j = 0∨j = 1:=by omega
   . simp [shiftF,vF,getD_snocF,h]
   . simp [shiftF,vF,getD_snocF,h]
 . rw [fapp_ge h];have:i = l.length:=by omega
   subst this;obtain rfl | rfl:j = 0∨j = 1:=by omega
   . simp [shiftF,vF,getD_snocF,tab]
   . simp [shiftF,vF,getD_snocF,tab]
theorem vle_preF (l:List (Int × Int)) (a b:Int) (i j:Nat) (hi:i < 1 + l.length) (hj:j < 2) :
 VLe (fapp (shiftF 0 (tab [[.int .i64 a,.int .i64 b]])) 1 (shiftF 0 (vF l)) i j) (vF ((a,b) :: l) i j):=by
 apply VLe.of_eq;cases i with
 | zero =>
   rw [fapp_lt (by omega)];obtain rfl | rfl:j = 0∨j = 1:=by omega
   . simp [shiftF,vF,gF,tab]
   . simp [shiftF,vF,gF,tab]
 | succ i =>
   rw [fapp_ge (by omega)];obtain rfl | rfl:j = 0∨j = 1:=by omega
   . simp [shiftF,vF,gF]
   . simp [shiftF,vF,gF]
theorem rows2 {p:Ps} {a b:Nat} (ha:a < p.length) (hb:b < p.length) (hab:a≠b) {A B:List (Int × Int)} {fa fb:Nat→Nat→V} {la lb:Nat} (h1:A.length = la) (h2:B.length = lb)
 (h3:∀ j t,j < la→t < 2→VLe (fa j t) (vF A j t)) (h4:∀ j t,j < lb→t < 2→VLe (fb j t) (vF B j t)) (ρ:Rn) :
 BRen ρ (.fam p.length 2 (setN (setN (lenP p) a la) b lb) (setF (setF (rowP p) a fa) b fb) []) (famP ((p.set a A).set b B)):=by
 refine ⟨by simp,rfl,True.intro,fun i hi=>?_,fun i j t hi hn hj ht=>?_⟩
 . show (gR ((p.set a A).set b B) i).length = _;rw [gR_set _ b B (by simpa using hb),gR_set p a A ha];simp only [setN];split
   . exact h2
   . split
     . exact h1
     . rfl
 . simp only [setN] at hj;show VLe _ (vF (gR ((p.set a A).set b B) i) j t);rw [gR_set _ b B (by simpa using hb),gR_set p a A ha];simp only [setF];split
   . rename_i e;rw [if_pos e] at hj;exact h4 j t hj ht
   . rename_i e;rw [if_neg e] at hj;split
     . rename_i e;rw [if_pos e] at hj;exact h3 j t hj ht
     . exact VLe.rfl
set_option maxHeartbeats 8000000 in
theorem link_ok (x:Net) (g:G) (hs:g.Small) (hr:∀ v,(gR g.ports v).length≤1000) (a b:Nat) (ha:a < g.ports.length) (hb:b < g.ports.length) (w:Int) :
 CallF Try.prog 62 [x.v,gV1 g.ids.length g.ports.length,.int .i64 a,.int .i64 b,.int .i64 w] (gOwn g) KS4 fun v own' _=>v = .tup []∧own' = gOwn ⟨g.ids,linkP x.back g.ports a b w⟩:=by
 have hl:=linked_ok g hs a b ha;have ra:lenP g.ports a≤1000:=hr a;have rb:lenP g.ports b≤1000:=hr b;refine call_post (call_step ?_);by_cases hab:a = b
 . rw [linkP,if_pos (.inl hab)];refine fn_rule mixed Try.func62 rfl hc62 hr62 rfl ?_
   repeat' ((conv=>whnf);first | (refine Br.dec ?_ ?_ <;> intro _ <;> try omega))
   all_goals (conv=>whnf)
   exact ⟨_,OwnStep.refl _,postR_by (fun _=>[(0,some 0),(1,some 1)]) _ _ ⟨rfl,rfl⟩ (VRen.kf rfl) (by repeat' (first | (refine ⟨rfl,rfl,True.intro,fun i hi=>rfl,fun i j t hi hn hj ht=>VLe.rfl⟩) | exact True.intro | (refine ⟨⟨_,rfl,?_⟩,?_⟩) | (refine ⟨Nat.le_refl _,rfl,fun i j hi hj=>?_⟩) | exact VLe.rfl)) rfl⟩
 cases hk:lnk g.ports a b with
 | true =>
   rw [hk] at hl;rw [linkP,if_pos (.inr hk)];refine fn_rule mixed Try.func62 rfl hc62 hr62 rfl ?_
   repeat' ((conv=>whnf);first | (refine Br.tt ?_) | (refine Br.dec ?_ ?_ <;> intro _ <;> try omega) | (refine call_lend hl rfl ⟨by omega,by omega,lend_g g,VLe.rfl,VLe.rfl,True.intro⟩ ?_))
   all_goals (conv=>whnf)
   exact ⟨_,OwnStep.refl _,postR_by (fun _=>[(0,some 0),(1,some 1)]) _ _ ⟨rfl,rfl⟩ (VRen.kf rfl) (by repeat' (first | (refine ⟨rfl,rfl,True.intro,fun i hi=>rfl,fun i j t hi hn hj ht=>VLe.rfl⟩) | exact True.intro | (refine ⟨⟨_,rfl,?_⟩,?_⟩) | (refine ⟨Nat.le_refl _,rfl,fun i j hi hj=>?_⟩) | exact VLe.rfl)) rfl⟩
 | false =>
   rw [hk] at hl;rw [linkP,if_neg (fun h=>h.elim hab (fun h=>by rw [hk] at h;cases h))];refine call_open 28 1 a rfl rfl ha rfl ?_;refine call_open 29 1 b rfl rfl hb (look_there hab) ?_;show CallF Try.prog _ _ [(29,.vec (lenP g.ports b) 2 (rowP g.ports b)),(28,.vec (lenP g.ports a) 2 (rowP g.ports a)),(0,.vec g.ids.length 1 (vI g.ids)),(1,.fam g.ports.length 2 (lenP g.ports) (rowP g.ports) [(b,29),(a,28)])] [2,3,4,5,6,7,8,9,10,11,12,13,14,15,16,17,18,19,20,21,22,23,24,25,26,27] _;refine fn_rule mixed Try.func62 rfl hc62 hr62 rfl ?_;obtain ⟨xn,xl,xw,xi,xa,xb⟩:=x;cases xb
   . repeat' ((conv=>whnf);first | (refine Br.ff ?_) | (refine Br.dec ?_ ?_ <;> intro _ <;> try omega) | (refine Br.nbeq ?_ ?_ <;> intro _ <;> try omega) | (refine Ix.nat (by omega) ?_) | (refine Len.mk (by omega) ?_) | (refine Ltn.mk (by omega) ?_) | (refine call_lend hl rfl ⟨by omega,by omega,Nat.le_refl _,Nat.le_refl _,lend_g2 g a b,VLe.rfl,VLe.rfl,True.intro⟩ ?_) | (refine Opn.hd (by omega) ?_) | (refine Opn.tl (by omega) (Opn.hd (by omega) ?_)) | (refine And.intro rfl ?_) | (refine And.intro (Ltn.mk (by omega) (Opn.hd (by omega) rfl)) ?_) | (refine OpnSet.hd (by omega) ?_) | (refine OpnSet.tl (by omega) (OpnSet.hd (by omega) ?_)))
     all_goals (conv=>whnf)
     all_goals exact ⟨_,close2 hab ha hb rfl rfl rfl rfl (by simp [setN,hab]) (by simp [setN]),postR_by (fun _=>[(0,some 0),(1,some 1)]) _ _ ⟨rfl,rfl⟩ (VRen.kf rfl) ⟨⟨_,rfl,Nat.le_refl _,rfl,fun _ _ _ _=>VLe.rfl⟩,⟨_,rfl,rows2 ha hb hab (by simp [addP,lenP]) (by simp [lenP]) (fun j t hj ht=>vle_appF _ _ _ _ _ hj ht) (fun j t hj ht=>vle_appF _ _ _ _ _ hj ht) _⟩,True.intro⟩ rfl⟩
   . repeat' ((conv=>whnf);first | (refine Br.tt ?_) | (refine Br.ff ?_) | (refine Br.dec ?_ ?_ <;> intro _ <;> try omega) | (refine Ix.nat (by omega) ?_) | (refine Len.mk (by omega) ?_) | (refine Ltn.mk (by omega) ?_) | (refine call_lend hl rfl ⟨by omega,by omega,Nat.le_refl _,Nat.le_refl _,lend_g2 g a b,VLe.rfl,VLe.rfl,True.intro⟩ ?_) | (refine Opn.hdl (by omega) (show setN _ _ _ _ = lenP g.ports b from if_neg (by omega)) ?_) | (refine Opn.tl (by omega) (Opn.hd (by omega) ?_)) | (refine And.intro rfl ?_) | (refine OpnSet.hd (by omega) ?_) | (refine OpnSet.tl (by omega) (OpnSet.hd (by omega) ?_)))
     all_goals (conv=>whnf)
     all_goals exact ⟨_,close2 hab ha hb rfl rfl rfl rfl (by simp [setN,hab]) (by simp [setN]),postR_by (fun _=>[(0,some 0),(1,some 1)]) _ _ ⟨rfl,rfl⟩ (VRen.kf rfl) ⟨⟨_,rfl,Nat.le_refl _,rfl,fun _ _ _ _=>VLe.rfl⟩,⟨_,rfl,rows2 ha hb hab (by simp [addP,lenP];omega) (by simp [lenP];omega) (fun j t hj ht=>vle_preF _ _ _ _ _ hj ht) (fun j t hj ht=>vle_preF _ _ _ _ _ hj ht) _⟩,True.intro⟩ rfl⟩
theorem len_le:∀ {l m:List Int},l.Nodup→(∀ a∈l,a∈m)→l.length≤m.length
 | [],m,_,_=>Nat.zero_le _
 | a :: l,m,hn,hs=>by
   rw [List.nodup_cons] at hn;have ham:=hs a (by simp);have h1:=len_le (l:=l) (m:=m.erase a) hn.2 (fun b hb=>(List.mem_erase_of_ne (fun e=>hn.1 (by rw [← e];exact hb))).2 (hs b (by simp [hb])));have h2:=List.length_erase_of_mem ham;have h3:=List.length_pos_of_mem ham;simp only [List.length_cons];omega
def freeF (l:List Int):Nat→Int→Int
 | 0,i=>i
 | f + 1,i=>if i∈l then freeF l f ((i + 1) % 256) else i
def tryI (i:Int) (k:Nat):Int:=(i + k) % 256
theorem tryI_next {i:Int} {k:Nat}:(tryI i k + 1) % 256 = tryI i (k + 1):=by rw [tryI,tryI];omega
theorem free_ends {l:List Int} (hl:l.length < 256) (i:Int):¬ ∀ j,j < 256→tryI i j∈l:=by
 intro h;have h1:((List.range 256).map (tryI i)).Nodup:=by
  rw [List.nodup_iff_pairwise_ne,List.pairwise_map];refine List.Pairwise.imp_of_mem ?_ List.nodup_range;intro a b ha hb hne e;rw [List.mem_range] at ha hb;rw [tryI,tryI] at e;omega
 have h2:=len_le h1 (fun a ha=>by
  obtain ⟨j,hj,rfl⟩:=List.mem_map.1 ha;exact h j (List.mem_range.1 hj))
 simp at h2;omega
def idsF (x:List Int):Nat→List Int
 | 0=>[]
 | v + 1=>idsF x v ++ [freeF (idsF x v) 256 (within (gI x v) 256)]
theorem idsF_len (x:List Int):∀ v,(idsF x v).length = v
 | 0=>rfl
 | v + 1=>by rw [idsF,List.length_append,idsF_len x v];rfl
theorem within_range (a:Int) {b:Int} (hb:1≤b):0≤within a b∧within a b < b:=by
 have h1:=Int.tmod_lt_of_pos a (show (0:Int) < b by omega);have h2:=Int.tmod_lt_of_pos (-a) (show (0:Int) < b by omega);rw [Int.neg_tmod] at h2;rw [within,if_neg (by omega)];split <;> omega
theorem try_zero {i:Int} (h0:0≤i) (h1:i≤255):tryI i 0 = i:=by rw [tryI];omega
def ownN (x:Net) (n:Nat):Own:=[(0,.vec n 1 (vI (idsF x.ids n))),(1,.vec n 1 fun _ _=>.nilslice)]
def Net.n1 (x:Net):Int:=IntKind.i64.wrap (x.n - 1)
def Net.size (x:Net) (most:Int):Nat:=(1 + within x.n1 most).toNat
theorem getD_snocI (l:List Int) (a:Int) (i:Nat):gI (l ++ [a]) i = if i < l.length then gI l i else if i = l.length then a else 0:=by
 by_cases h:i < l.length
 . simp only [gI,List.getD,List.getElem?_append_left h,if_pos h]
 . rw [if_neg h];by_cases h2:i = l.length
   . subst h2;simp [gI]
   . simp [gI,h2,List.getElem?_eq_none (by simp;omega:(l ++ [a]).length≤i)]
theorem vle_appI (l:List Int) (a:Int) (n:Nat) (hn:l.length = n) (i j:Nat) (hi:i < n + 1) (hj:j < 1) :
 VLe (fapp (shiftF 0 (vI l)) n (shiftF 0 (tab [[.int .i64 a]])) i j) (vI (l ++ [a]) i j):=by
 apply VLe.of_eq;subst hn;by_cases h:i < l.length
 . rw [fapp_lt h];simp only [shiftF,vI,getD_snocI,if_pos h]
 . rw [fapp_ge h];have:i = l.length:=by omega
   subst this;obtain rfl:j = 0:=by omega
   simp [shiftF,vI,getD_snocI,tab]
set_option maxHeartbeats 8000000 in
theorem nodes_ok (x:Net) (hx:x.Small) (most:Int) (h1:1≤most) (h2:most≤24) :
 CallF Try.prog 65 [x.v,.int .i64 most] [] KS fun v own' _=>v = gV1 (x.size most) (x.size most)∧own' = ownN x (x.size most):=by
 have hw:=within_ok x.n1 most (by omega);have hwr:=within_range x.n1 h1;have hn:1 + within x.n1 most = (x.size most:Nat):=by rw [Net.size];omega
 have hsz:1≤x.size most∧x.size most≤24:=by omega
 have hids:=hx.ids;generalize x.size most = n at *;refine call_post ?_;refine fn_rule mixed Try.func65 rfl hc65 hr65 rfl ?_
 repeat' ((conv=>whnf);first | (refine Ar.mk x.n1 rfl ?_) | (refine Ar.i64 (by omega) (by omega) ?_;rw [hn]) | (refine Bd.nat (by omega) ?_) | (refine Len.mk (by omega) ?_) | (refine MkS.vec ?_) | (refine hw.go ?_))
 all_goals (conv=>whnf)
 refine loop_u mixed [2,4,5,6] [4] [5,6,7,8,9,10,11,12,13,14,15,16,17,18,19,20,21,22,23,24,25,26,27,28,29] [4,3,2,1,0] (fun v:Nat=>[(7,.int .i64 v)]) (fun own v=>(4,.vec v 1 (vI (idsF x.ids v))) :: updO own 3 (.cells [.vec 4 1 0 v,.vec 2 1 0 n])) (fun m v=>m = n - v∧v≤n) n 0 ⟨rfl,by omega⟩ rfl (fun _=>rfl) ?_ ?_
 . exact weak_b (fun _ _=>[(0,some 0),(1,some 1),(2,some 2),(3,some 3),(4,none)])
 rintro m v ⟨hm,hv⟩;have hat:=at_ok x.ids hids v;have hw2:=within_ok (gI x.ids v) 256 (by omega);have hr2:=within_range (gI x.ids v) (b:=256) (by omega);have hil:=idsF_len x.ids v;have hsn:idsF x.ids (v + 1) = idsF x.ids v ++ [freeF (idsF x.ids v) 256 (within (gI x.ids v) 256)]:=rfl;have htz:=try_zero hr2.1 (by omega);generalize within (gI x.ids v) 256 = id0 at *;generalize hL:idsF x.ids v = L at *
 repeat' ((conv=>whnf);first | (refine Br.dec ?_ ?_ <;> intro _ <;> try omega) | (refine hat.go ?_) | (refine hw2.go ?_))
 all_goals (conv=>whnf)
 . refine loop_r mixed [2,4,5,6,7] (fun p:Nat × Nat=>[(8,.int .i64 (tryI id0 p.1)),(9,.int .i64 p.2)]) (fun m p=>m = (256 - p.1) * 25 + (v - p.2)∧p.1≤256∧p.2≤v∧(∀ j,j < p.1→tryI id0 j∈L)∧(∀ j,j < p.2→gI L j≠tryI id0 p.1)∧freeF L (256 - p.1) (tryI id0 p.1) = freeF L 256 id0) _ (0,0) ⟨rfl,by omega,by omega,fun j hj=>(by omega),fun j hj=>(by omega),(by show freeF L 256 (tryI id0 0) = _;rw [htz])⟩ ?_ ?_
   . refine weak_by (fun _ _=>[(0,some 0),(1,some 1),(2,some 2),(3,some 3),(4,some 4)]) ?_ ?_ rfl
     . repeat' (first | exact VRen.int htz.symm | exact True.intro | (refine ⟨⟨_,rfl,?_⟩,?_⟩) | exact VRen.kf rfl | exact VRen.loc rfl)
     . repeat' (first | exact True.intro | (refine ⟨⟨_,rfl,?_⟩,?_⟩) | exact VRen.kf rfl | exact VRen.vec rfl rfl rfl | (refine ⟨Nat.le_refl _,rfl,fun i j hi hj=>?_⟩) | exact VLe.rfl | (refine And.intro ?_ ?_))
   rintro m ⟨k,u⟩ ⟨hm2,hk,hu,hall,hne,hfr⟩;simp only at hm2 hk hu hall hne hfr;have htr:0≤tryI id0 k∧tryI id0 k≤255:=by rw [tryI];omega
   have htn:(tryI id0 k + 1).tmod 256 = tryI id0 (k + 1):=by rw [Int.tmod_eq_emod_of_nonneg (by omega),tryI_next]
   generalize hT:tryI id0 k = T at *
   repeat' ((conv=>whnf);first | (refine Br.dec ?_ ?_ <;> intro _ <;> try omega) | (refine Br.nbeq ?_ ?_ <;> intro _ <;> try omega) | (refine Ar.i64 (by omega) (by omega) ?_) | (refine Sv.mk _ rfl ?_) | (refine Nz.mk (by omega) ?_) | (refine Ix.nat (by omega) ?_) | (refine Len.mk (by omega) ?_) | (refine Ltn.mk (by omega) ?_))
   all_goals (conv=>whnf)
   . rename_i h3 h4;have hin:T∈L:=by rw [← h4];exact gI_mem (by omega)
     have hk2:k < 256:=by
      rcases Nat.lt_or_ge k 256 with h | h
      . exact h
      . exact (free_ends (l:=L) (by omega) id0 (fun j hj=>hall j (by omega))).elim
     refine ⟨_,(k + 1,0),?_,⟨rfl,by omega,by omega,fun j hj=>?_,fun j hj=>(by omega),?_⟩,?_⟩
     . simp only;omega
     . simp only at hj;by_cases e:j = k
       . subst e;rw [hT];exact hin
       . exact hall j (by omega)
     . simp only;rw [← hfr,show 256 - k = (256 - (k + 1)) + 1 by omega,freeF,if_pos hin,← hT,tryI_next]
     . refine weak_by (fun _ _=>[(0,some 0),(1,some 1),(2,some 2),(3,some 3),(4,some 4)]) ?_ ?_ rfl
       . repeat' (first | exact VRen.int htn | exact True.intro | (refine ⟨⟨_,rfl,?_⟩,?_⟩) | exact VRen.kf rfl | exact VRen.loc rfl)
       . repeat' (first | exact True.intro | (refine ⟨⟨_,rfl,?_⟩,?_⟩) | exact VRen.kf rfl | exact VRen.vec rfl rfl rfl | (refine ⟨Nat.le_refl _,rfl,fun i j hi hj=>?_⟩) | exact VLe.rfl | (refine And.intro ?_ ?_))
   . rename_i h3 h4;refine ⟨_,(k,u + 1),?_,⟨rfl,hk,by omega,hall,fun j hj=>?_,by rw [hT];exact hfr⟩,?_⟩
     . simp only;omega
     . simp only at hj ⊢;rw [hT];by_cases e:j = u
       . subst e;simpa using h4
       . exact hne j (by omega)
     . refine weak_by (fun _ _=>[(0,some 0),(1,some 1),(2,some 2),(3,some 3),(4,some 4)]) ?_ ?_ rfl
       . repeat' (first | exact VRen.int hT.symm | exact True.intro | (refine ⟨⟨_,rfl,?_⟩,?_⟩) | exact VRen.kf rfl | exact VRen.loc rfl)
       . repeat' (first | exact True.intro | (refine ⟨⟨_,rfl,?_⟩,?_⟩) | exact VRen.kf rfl | exact VRen.vec rfl rfl rfl | (refine ⟨Nat.le_refl _,rfl,fun i j hi hj=>?_⟩) | exact VLe.rfl | (refine And.intro ?_ ?_))
   . have hno:T ∉ L:=fun h=>by
      obtain ⟨j,j1,j2⟩:=gI_get h;exact hne j (by omega) j2
     have hfin:freeF L 256 id0 = T:=by
      rw [← hfr];cases h:256 - k with
      | zero=>rfl
      | succ f=>rw [freeF,if_neg hno]
     rw [hfin] at hsn
     repeat' ((conv=>whnf);first | fail)
     all_goals (conv=>whnf)
     all_goals
      refine ⟨n - (v + 1),v + 1,by omega,⟨rfl,by omega⟩,?_⟩;simp only [hsn];refine weak_by (fun env own=>[(0,some 0),(1,some 1),(2,some 2),(3,some 3),(4,ckeyo own 3 0)]) ?_ ?_ rfl
      . repeat' (first | exact True.intro | (refine ⟨⟨_,rfl,?_⟩,?_⟩) | exact VRen.kf rfl | exact VRen.loc rfl)
      . repeat' (first | (refine ⟨Nat.le_refl _,rfl,fun i j hi hj=>?_⟩) | exact vle_appI _ _ _ hil _ _ hi hj | exact True.intro | (refine ⟨⟨_,rfl,?_⟩,?_⟩) | exact VRen.kf rfl | exact VRen.vec rfl rfl rfl | exact VLe.rfl | (refine And.intro ?_ ?_))
 . have e:v = n:=by omega
   subst e;exact postR_byV (fun v o=>[(0,vkey v 0),(1,vkey v 1)]) _ _ ⟨rfl,rfl⟩ (VRen.agg ⟨VRen.vec rfl rfl rfl,VRen.vec rfl rfl rfl,True.intro⟩) ⟨⟨_,rfl,Nat.le_refl _,rfl,fun _ _ _ _=>VLe.of_eq (by rw [hL])⟩,⟨_,rfl,Nat.le_refl _,rfl,fun i j hi hj=>VLe.of_eq (by obtain rfl:j = 0:=(by omega);rfl)⟩,True.intro⟩ rfl
theorem mem_gR {p:Ps} {r:List (Int × Int)} (h:r∈p):∃ u,gR p u = r:=by
 obtain ⟨i,hi,e⟩:=List.mem_iff_getElem.1 h;exact ⟨i,by simp [gR,List.getD,hi,e]⟩
theorem small_of {g:G} (h1:g.ids.length≤1000) (h2:g.ports.length≤1000) (h3:∀ u,(gR g.ports u).length≤1000):g.Small :=
 ⟨by omega,by omega,fun r hr=>by obtain ⟨u,rfl⟩:=mem_gR hr;have:=h3 u;omega⟩
theorem linkP_len (bk:Bool) (p:Ps) (a b:Nat) (w:Int):(linkP bk p a b w).length = p.length:=by
 rw [linkP];split <;> simp
theorem linkP_row (bk:Bool) (p:Ps) {a b:Nat} (w:Int) (ha:a < p.length) (hb:b < p.length) (u:Nat):(gR (linkP bk p a b w) u).length≤(gR p u).length + 1:=by
 rw [linkP];split
 . omega
 . rename_i h;have hab:¬ a = b:=fun e=>h (.inl e);have hl:∀ r l,(addP bk r l).length = r.length + 1:=fun r l=>by rw [addP];split <;> simp
   rw [gR_set _ b _ (by simpa using hb),gR_set p a _ ha];split
   . rename_i e;subst e;rw [hl];omega
   . split
     . rename_i e;subst e;rw [hl];omega
     . omega
def wgt (x:Net) (i:Nat):Int:=1 + within (gI x.weights i) 15
def treeP (x:Net) (n:Nat):Nat→Ps
 | 0=>List.replicate n []
 | k + 1=>linkP x.back (treeP x n k) (within (gI x.links k) ((k:Int) + 1)).toNat (k + 1) (wgt x k)
theorem treeP_len (x:Net) (n:Nat):∀ k,(treeP x n k).length = n
 | 0=>by simp [treeP]
 | k + 1=>by rw [treeP,linkP_len,treeP_len x n k]
theorem treeP_to (x:Net) (k:Nat):(within (gI x.links k) ((k:Int) + 1)).toNat < k + 1:=by
 have:=within_range (gI x.links k) (b:=(k:Int) + 1) (by omega);omega
theorem rep_row (n u:Nat):gR (List.replicate n []) u = []:=by
 simp only [gR,List.getD,List.getElem?_replicate];split <;> rfl
theorem treeP_row (x:Net) (n:Nat):∀ k,k < n→∀ u,(gR (treeP x n k) u).length≤k
 | 0,_,u=>by rw [treeP,rep_row];simp
 | k + 1,hk,u=>by
   have h1:=treeP_to x k;have h2:=linkP_row x.back (treeP x n k) (wgt x k) (a:=(within (gI x.links k) ((k:Int) + 1)).toNat) (b:=k + 1) (by rw [treeP_len];omega) (by rw [treeP_len];exact hk) u;have h3:=treeP_row x n k (by omega) u;rw [treeP];omega
abbrev netOwn (I:List Int) (p:Ps):Own:=gOwn ⟨I,p⟩
theorem vec_fam (ρ:Rn) (n:Nat):BRen ρ (.vec n 1 fun _ _=>.nilslice) (famP (List.replicate n [])):=⟨by simp,rfl,rfl,fun i hi=>⟨rfl,by rw [lenP,rep_row];rfl⟩⟩
theorem fam_fam (ρ:Rn) (p:Ps):BRen ρ (famP p) (famP p):=⟨rfl,rfl,True.intro,fun i hi=>rfl,fun i j t hi hn hj ht=>VLe.rfl⟩
set_option maxHeartbeats 8000000 in
theorem tree_ok (x:Net) (hx:x.Small) (most:Int) (h1:1≤most) (h2:most≤24) :
 CallF Try.prog 45 [x.v,.int .i64 most] [] KS fun v own' _=>v = gV1 (x.size most) (x.size most)∧own' = netOwn (idsF x.ids (x.size most)) (treeP x (x.size most) (x.size most - 1)):=by
 have hn:=nodes_ok x hx most h1 h2;have hsz:1≤x.size most∧x.size most≤24:=by
  have:=within_range x.n1 h1;rw [Net.size];omega
 have hll:=hx.links;have hwl:=hx.weights;generalize x.size most = n at *;have hil:=idsF_len x.ids n;refine call_post ?_;refine fn_rule mixed Try.func45 rfl hc45 hr45 rfl ?_
 repeat' ((conv=>whnf);first | (refine call_by [] [0,1] (hn.mono ?_) ⟨VRen.kf rfl,VRen.kf rfl,True.intro⟩ True.intro rfl;rintro _ _ _ ⟨rfl,rfl⟩) | (refine Chk.mk rfl ?_))
 all_goals (conv=>whnf)
 refine loop_u mixed [2,4,5] [3] [5,6,7,8,9,10,11,12,13,14,15,16,17,18,19,20,21,22,23,24,25,26,27,28,29] [4,2,3,1,0] (fun k:Nat=>[(6,.int .i64 ((k:Int) + 1))]) (fun own k=>updO own 3 (famP (treeP x n k))) (fun m k=>m = n - 1 - k∧k≤n - 1) (n - 1) 0 ⟨rfl,by omega⟩ rfl (fun _=>rfl) ?_ ?_
 . refine weak_by (fun _ _=>[(0,some 0),(1,some 1),(2,some 2),(3,some 3),(4,some 4)]) ?_ ?_ rfl
   . repeat' (first | exact True.intro | (refine ⟨⟨_,rfl,?_⟩,?_⟩) | exact VRen.kf rfl | exact VRen.loc rfl)
   . repeat' (first | exact vec_fam _ _ | exact True.intro | (refine ⟨⟨_,rfl,?_⟩,?_⟩) | exact VRen.kf rfl | exact VRen.vec rfl rfl rfl | (refine ⟨Nat.le_refl _,rfl,fun i j hi hj=>?_⟩) | exact VLe.rfl | (refine And.intro ?_ ?_))
 rintro m k ⟨hm,hk⟩;have hln:=treeP_len x n k;by_cases hkn:k < n - 1
 . have ha1:=at_ok x.links hll k;have ha2:=at_ok x.weights hwl k;have hw1:=within_ok (gI x.links k) ((k:Int) + 1) (by omega);have hw2:=within_ok (gI x.weights k) 15 (by omega);have hr1:=within_range (gI x.links k) (b:=(k:Int) + 1) (by omega);have hr2:=within_range (gI x.weights k) (b:=15) (by omega);have hrow:=treeP_row x n k (by omega);have hl:=link_ok x ⟨idsF x.ids n,treeP x n k⟩ (small_of (by show (idsF x.ids n).length≤_;omega) (by show (treeP x n k).length≤_;omega) (fun u=>by have:=hrow u;show (gR (treeP x n k) u).length≤_;omega)) (fun u=>by have:=hrow u;show (gR (treeP x n k) u).length≤_;omega) (within (gI x.links k) ((k:Int) + 1)).toNat (k + 1) (by show _ < (treeP x n k).length;omega) (by show _ < (treeP x n k).length;omega) (wgt x k);have hnx:linkP x.back (treeP x n k) (within (gI x.links k) ((k:Int) + 1)).toNat (k + 1) (wgt x k) = treeP x n (k + 1):=rfl;have hwg:wgt x k = 1 + within (gI x.weights k) 15:=rfl;simp only [hnx,hil,hln] at hl;generalize within (gI x.links k) ((k:Int) + 1) = a at *;generalize within (gI x.weights k) 15 = w at *
   repeat' ((conv=>whnf);first | (refine Ar.i64 (by omega) (by omega) ?_;rw [show (k:Int) + 1 - 1 = (k:Int) by omega]) | (refine Br.dec ?_ ?_ <;> intro _ <;> try omega) | (refine Ar.i64 (by omega) (by omega) ?_) | (refine ha1.go ?_) | (refine ha2.go ?_) | (refine hw1.go ?_) | (refine hw2.go ?_) | (refine And.intro rfl ?_) | (refine call_by [(0,some 2),(1,some 3)] [] (hl.mono ?_) ⟨VRen.kf rfl,VRen.agg ⟨VRen.vec rfl rfl rfl,VRen.vec rfl rfl rfl,True.intro⟩,VRen.int (by omega),VRen.int (by omega),VRen.int (by omega),True.intro⟩ ⟨⟨_,rfl,Nat.le_of_eq hil,rfl,fun _ _ _ _=>VLe.rfl⟩,⟨_,rfl,fam_fam _ _⟩,True.intro⟩ rfl;rintro _ _ _ ⟨rfl,rfl⟩) | (refine Chk.mk rfl ?_))
   all_goals (conv=>whnf)
   all_goals
    refine ⟨n - 1 - (k + 1),k + 1,by omega,⟨rfl,by omega⟩,?_⟩;refine weak_by (fun _ _=>[(0,some 0),(1,some 1),(2,some 2),(3,some 3),(4,some 4)]) ?_ ?_ rfl
    . repeat' (first | exact True.intro | (refine ⟨⟨_,rfl,?_⟩,?_⟩) | exact VRen.kf rfl | exact VRen.loc rfl)
    . repeat' (first | exact fam_fam _ _ | exact ⟨Nat.le_of_eq hil.symm,rfl,fun _ _ _ _=>VLe.rfl⟩ | exact True.intro | (refine ⟨⟨_,rfl,?_⟩,?_⟩) | exact VRen.kf rfl | exact VRen.vec rfl rfl rfl | (refine And.intro ?_ ?_))
 . have e:k = n - 1:=by omega
   subst e
   repeat' ((conv=>whnf);first | (refine Br.dec ?_ ?_ <;> intro _ <;> try omega))
   all_goals (conv=>whnf)
   exact postR_byV (fun v o=>[(0,vkey v 0),(1,vkey v 1)]) _ _ ⟨rfl,rfl⟩ (VRen.agg ⟨VRen.vec rfl rfl rfl,VRen.vec rfl rfl rfl,True.intro⟩) ⟨⟨_,rfl,Nat.le_of_eq hil,rfl,fun _ _ _ _=>VLe.rfl⟩,⟨_,rfl,fam_fam _ _⟩,True.intro⟩ rfl
def moreP (x:Net) (n:Nat) (p:Ps):Nat→Ps
 | 0=>p
 | k + 1=>linkP x.back (moreP x n p k) (within (gI x.links (n + 2 * k)) n).toNat (within (gI x.links (n + 2 * k + 1)) n).toNat (wgt x (n + 2 * k))
def moreN (x:Net) (n:Nat):Nat:=min ((x.links.length - n) / 2) ((61 - n) / 2)
theorem moreP_len (x:Net) (n:Nat) (p:Ps):∀ k,(moreP x n p k).length = p.length
 | 0=>rfl
 | k + 1=>by rw [moreP,linkP_len,moreP_len x n p k]
theorem within_lt {a:Int} {n:Nat} (hn:1≤n):(within a n).toNat < n:=by
 have:=within_range a (b:=(n:Int)) (by omega);omega
theorem moreP_row (x:Net) (n:Nat) (p:Ps) (hn:1≤n) (hp:p.length = n):∀ k u,(gR (moreP x n p k) u).length≤(gR p u).length + k
 | 0,u=>by rw [moreP];omega
 | k + 1,u=>by
   have h2:=linkP_row x.back (moreP x n p k) (wgt x (n + 2 * k)) (a:=(within (gI x.links (n + 2 * k)) n).toNat) (b:=(within (gI x.links (n + 2 * k + 1)) n).toNat) (by rw [moreP_len,hp];exact within_lt hn) (by rw [moreP_len,hp];exact within_lt hn) u;have h3:=moreP_row x n p hn hp k u;rw [moreP];omega
set_option maxHeartbeats 8000000 in
theorem more_ok (x:Net) (hx:x.Small) (I:List Int) (p:Ps) (n:Nat) (hn:1≤n) (hn2:n≤24) (hI:I.length = n) (hp:p.length = n) (hr:∀ u,(gR p u).length≤100) :
 CallF Try.prog 44 [x.v,gV1 n n] (netOwn I p) KS4 fun v own' _=>v = gV1 n n∧own' = netOwn I (moreP x n p (moreN x n)):=by
 have hll:=hx.links;have hwl:=hx.weights;have hN:moreN x n≤31∧∀ k,k < moreN x n↔(n + 2 * k + 1 < x.links.length∧n + 2 * k < 60):=by
  rw [moreN];exact ⟨by omega,fun k=>by omega⟩
 refine call_post ?_;refine fn_rule mixed Try.func44 rfl hc44 hr44 rfl ?_
 repeat' ((conv=>whnf);first | fail)
 all_goals (conv=>whnf)
 refine loop_u mixed [2,3,4,5] [] [5,6,7,8,9,10,11,12,13,14,15,16,17,18,19,20,21,22,23,24,25,26,27,28,29] [4,3,2,0,1] (fun k:Nat=>[(6,.int .i64 ((n:Int) + 2 * k))]) (fun own k=>updO own 1 (famP (moreP x n p k))) (fun m k=>m = moreN x n - k∧k≤moreN x n) (moreN x n) 0 ⟨rfl,by omega⟩ rfl (fun _=>rfl) ?_ ?_
 . refine weak_by (fun _ _=>[(0,some 0),(1,some 1),(2,some 2),(3,some 3),(4,some 4)]) ?_ ?_ rfl
   . repeat' (first | exact True.intro | (refine ⟨⟨_,rfl,?_⟩,?_⟩) | exact VRen.kf rfl | exact VRen.loc rfl)
   . repeat' (first | exact fam_fam _ _ | exact True.intro | (refine ⟨⟨_,rfl,?_⟩,?_⟩) | exact VRen.kf rfl | exact VRen.vec rfl rfl rfl | (refine ⟨Nat.le_refl _,rfl,fun i j hi hj=>?_⟩) | exact VLe.rfl | (refine And.intro ?_ ?_))
 rintro m k ⟨hm,hk⟩;have hln:=(moreP_len x n p k).trans hp;have hk2:=hN.2 k;by_cases hkn:k < moreN x n
 . obtain ⟨c1,c2⟩:=hk2.1 hkn;have ha2:=at_ok x.weights hwl (n + 2 * k);have hw1:=within_ok (gI x.links (n + 2 * k)) n (by omega);have hw3:=within_ok (gI x.links (n + 2 * k + 1)) n (by omega);have hw2:=within_ok (gI x.weights (n + 2 * k)) 15 (by omega);have hr1:=within_range (gI x.links (n + 2 * k)) (b:=n) (by omega);have hr3:=within_range (gI x.links (n + 2 * k + 1)) (b:=n) (by omega);have hr2:=within_range (gI x.weights (n + 2 * k)) (b:=15) (by omega);have hrow:∀ u,(gR (moreP x n p k) u).length≤1000:=fun u=>by have:=moreP_row x n p hn hp k u;have:=hr u;omega
   have hl:=link_ok x ⟨I,moreP x n p k⟩ (small_of (by show I.length≤_;omega) (by show (moreP x n p k).length≤_;omega) hrow) hrow (within (gI x.links (n + 2 * k)) n).toNat (within (gI x.links (n + 2 * k + 1)) n).toNat (by show _ < (moreP x n p k).length;omega) (by show _ < (moreP x n p k).length;omega) (wgt x (n + 2 * k));have hnx:linkP x.back (moreP x n p k) (within (gI x.links (n + 2 * k)) n).toNat (within (gI x.links (n + 2 * k + 1)) n).toNat (wgt x (n + 2 * k)) = moreP x n p (k + 1):=rfl;have hwg:wgt x (n + 2 * k) = 1 + within (gI x.weights (n + 2 * k)) 15:=rfl;simp only [hnx,hI,hln] at hl;have e2k:((n + 2 * k:Nat):Int) = (n:Int) + 2 * k:=by omega
   rw [e2k] at ha2
   repeat' ((conv=>whnf);first | (refine Ix.mk (n + 2 * k) (by omega) (by omega) ?_;try rw [Nat.zero_add]) | (refine Ix.mk (n + 2 * k + 1) (by omega) (by omega) ?_;try rw [Nat.zero_add]) | (refine Br.dec ?_ ?_ <;> intro _ <;> try omega) | (refine Ar.i64 (by omega) (by omega) ?_) | (refine ha2.go ?_) | (refine hw1.go ?_) | (refine hw3.go ?_) | (refine hw2.go ?_) | (refine And.intro rfl ?_) | (refine call_by [(0,some 0),(1,some 1)] [] (hl.mono ?_) ⟨VRen.kf rfl,VRen.agg ⟨VRen.vec rfl rfl rfl,VRen.vec rfl rfl rfl,True.intro⟩,VRen.int (by omega),VRen.int (by omega),VRen.int (by omega),True.intro⟩ ⟨⟨_,rfl,Nat.le_of_eq (by first | rfl | exact hI | exact hI.symm),rfl,fun _ _ _ _=>VLe.rfl⟩,⟨_,rfl,fam_fam _ _⟩,True.intro⟩ rfl;rintro _ _ _ ⟨rfl,rfl⟩) | (refine Chk.mk rfl ?_))
   all_goals (conv=>whnf)
   all_goals
    refine ⟨moreN x n - (k + 1),k + 1,by omega,⟨rfl,by omega⟩,?_⟩;refine weak_by (fun _ _=>[(0,some 0),(1,some 1),(2,some 2),(3,some 3),(4,some 4)]) ?_ ?_ rfl
    . repeat' (first | exact True.intro | (refine ⟨⟨_,rfl,?_⟩,?_⟩) | exact VRen.kf rfl | exact VRen.loc rfl)
    . repeat' (first | exact fam_fam _ _ | exact ⟨Nat.le_refl _,rfl,fun _ _ _ _=>VLe.rfl⟩ | exact True.intro | (refine ⟨⟨_,rfl,?_⟩,?_⟩) | exact VRen.kf rfl | exact VRen.vec rfl rfl rfl | (refine And.intro ?_ ?_))
 . have e:k = moreN x n:=by omega
   subst e;by_cases h1:n + 2 * moreN x n + 1 < x.links.length
   all_goals
    repeat' ((conv=>whnf);first | (refine Br.dec ?_ ?_ <;> intro _ <;> try omega) | (refine Ar.i64 (by omega) (by omega) ?_))
    all_goals (conv=>whnf)
    all_goals exact postR_byV (fun v o=>[(0,vkey v 0),(1,vkey v 1)]) _ _ ⟨rfl,rfl⟩ (VRen.agg ⟨VRen.vec rfl rfl rfl,VRen.vec rfl rfl rfl,True.intro⟩) ⟨⟨_,rfl,Nat.le_refl _,rfl,fun _ _ _ _=>VLe.rfl⟩,⟨_,rfl,fam_fam _ _⟩,True.intro⟩ rfl
theorem size_ok (x:Net) {most:Int} (h1:1≤most):1≤x.size most∧(x.size most:Int)≤most:=by
 have:=within_range x.n1 h1;rw [Net.size];omega
def Net.con (x:Net) (most:Int):G:=⟨idsF x.ids (x.size most),moreP x (x.size most) (treeP x (x.size most) (x.size most - 1)) (moreN x (x.size most))⟩
def Net.any (x:Net) (most:Int):G:=if x.apart then ⟨idsF x.ids (x.size most),moreP x (x.size most) (List.replicate (x.size most) []) (moreN x (x.size most))⟩ else x.con most
theorem view_g {g:G} {n:Nat} (h1:g.ids.length = n) (h2:g.ports.length = n):VLe (V.agg [.fz n 1 false (shiftF 0 (vI g.ids)),.fz n 1 false fun i _=>.fz (lenP g.ports i) 2 false (rowP g.ports i)]) g.v:=by
 refine VLe.agg ⟨?_,?_,True.intro⟩
 . exact VLe.fz h1.symm (fun h=>h) (fun i j hi hj=>VLe.of_eq (by simp [shiftF]))
 . exact VLe.fz h2.symm (fun h=>h) (fun i j hi hj=>VLe.rfl)
theorem ret_g {g:G} {n:Nat} (h1:g.ids.length = n) (h2:g.ports.length = n):frzT (gOwn g) (gV1 n n) fun v=>VLe v g.v :=
 ⟨by rw [Nat.zero_add,h1];exact Nat.le_refl _,Nat.le_of_eq h2.symm,view_g h1 h2⟩
set_option maxHeartbeats 8000000 in
theorem connected_call (x:Net) (hx:x.Small) (most:Int) (h1:1≤most) (h2:most≤24) :
 CallF Try.prog 21 [x.v,.int .i64 most] [] KS fun v own' _=>v = gV1 (x.size most) (x.size most)∧own' = gOwn (x.con most):=by
 have ht:=tree_ok x hx most h1 h2;have hsz:=size_ok x h1;have hm:=more_ok x hx (idsF x.ids (x.size most)) (treeP x (x.size most) (x.size most - 1)) (x.size most) hsz.1 (by omega) (idsF_len _ _) (treeP_len _ _ _) (fun u=>by have:=treeP_row x (x.size most) (x.size most - 1) (by omega) u;omega);refine call_post ?_;refine fn_rule mixed Try.func21 rfl hc21 hr21 rfl ?_
 repeat' ((conv=>whnf);first | (refine call_by [] [0,1] (ht.mono ?_) ⟨VRen.kf rfl,VRen.kf rfl,True.intro⟩ True.intro rfl;rintro _ _ _ ⟨rfl,rfl⟩) | (refine call_by [(0,some 2),(1,some 3)] [] (hm.mono ?_) ⟨VRen.kf rfl,VRen.agg ⟨VRen.vec rfl rfl rfl,VRen.vec rfl rfl rfl,True.intro⟩,True.intro⟩ ⟨⟨_,rfl,Nat.le_refl _,rfl,fun _ _ _ _=>VLe.rfl⟩,⟨_,rfl,fam_fam _ _⟩,True.intro⟩ rfl;rintro _ _ _ ⟨rfl,rfl⟩) | (refine Chk.mk rfl ?_) | (refine And.intro rfl ?_))
 all_goals (conv=>whnf)
 exact postR_byV (fun v o=>[(0,vkey v 0),(1,vkey v 1)]) _ _ ⟨rfl,rfl⟩ (VRen.agg ⟨VRen.vec rfl rfl rfl,VRen.vec rfl rfl rfl,True.intro⟩) ⟨⟨_,rfl,Nat.le_refl _,rfl,fun _ _ _ _=>VLe.rfl⟩,⟨_,rfl,fam_fam _ _⟩,True.intro⟩ rfl
theorem con_len (x:Net) (most:Int):(x.con most).ids.length = x.size most∧(x.con most).ports.length = x.size most:=⟨idsF_len _ _,(moreP_len _ _ _ _).trans (treeP_len _ _ _)⟩
theorem connected_ok (x:Net) (hx:x.Small) (most:Int) (h1:1≤most) (h2:most≤24):Ret Try.prog 21 [x.v,.int .i64 most] (x.con most).v:=by
 refine ret_frz rfl ((connected_call x hx most h1 h2).mono ?_);rintro _ _ _ ⟨rfl,rfl⟩;exact ret_g (con_len x most).1 (con_len x most).2
end Go.Proofs.Ytgajaabakpfbbaa
