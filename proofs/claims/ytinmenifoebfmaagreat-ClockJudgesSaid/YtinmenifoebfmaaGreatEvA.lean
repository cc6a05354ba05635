import Derived.Test.YtinmenifoebfmaaGreatDS1
import Derived.Test.YtinmenifoebfmaaGreatEngZ
import Derived.IntWalk
namespace Go.Proofs.YtinmenifoebfmaaGreat
open Go.Eng
set_option maxRecDepth 100000
set_option linter.unusedVariables false

/-! ## the search -/

theorem und_of {g : G} (hg : g.valid = true) : Und g.ports := by
  obtain ⟨f1, f2, f3, f4, f5, f6, f7⟩ := val_facts hg
  refine ⟨fun v hv l hl => ?_, fun v hv l hl => ⟨_, f7 v hv l hl, by simp⟩⟩
  have h := f6 v hv
  rw [okR, Bool.and_eq_true, List.all_eq_true] at h
  have := h.1 _ hl
  rw [okL, decide_eq_true_eq] at this
  omega
def dst (g : G) (f : Nat) : List Int := (List.range g.ports.length).map (lay g.ports f (g.ports.length - 1))
theorem dst_len (g : G) (f : Nat) : (dst g f).length = g.ports.length := by simp [dst]
theorem dst_get (g : G) (f : Nat) {v : Nat} (hv : v < g.ports.length) : gI (dst g f) v = lay g.ports f (g.ports.length - 1) v := by
  simp [dst, gI, hv]

theorem row_le' {g : G} (hg : g.valid = true) (v : Nat) : (gR g.ports v).length ≤ 24 := by
  obtain ⟨f1, f2, f3, f4, f5, f6, f7⟩ := val_facts hg
  by_cases h : v < g.ports.length
  · have := okR_len h (f6 v h); omega
  · rw [show gR g.ports v = [] by simp only [gR, List.getD]; rw [List.getElem?_eq_none (by omega)]; rfl]; simp
theorem okR_to' {n v : Nat} {r : List (Int × Int)} (h : okR n v r = true) {i : Nat} (hi : i < r.length) : 0 ≤ (gF r i).1 ∧ (gF r i).1 < n := by
  rw [okR, Bool.and_eq_true, List.all_eq_true] at h
  have := h.1 _ (gF_mem hi)
  rw [okL, decide_eq_true_eq] at this
  exact ⟨this.1, this.2.1⟩
def vN (l : List Nat) : Nat → Nat → V := fun i _ => .int .i64 (l.getD i 0 : Nat)
def iniF (j : Nat) : Nat → Nat → V := fun i _ => .int .i64 (if i < j then -1 else 0)
theorem iniF_step (n j i t : Nat) (hi : i < n) (ht : t < 1) : VLe (fset (iniF j) j 0 [.int .i64 (-1)] i t) (iniF (j + 1) i t) := by
  obtain rfl : t = 0 := by omega
  apply VLe.of_eq
  by_cases h : i = j
  · subst h; simp [fset, iniF]
  · have h1 : (i < j + 1) = (i < j) := by simp; omega
    simp [fset, iniF, h, h1]
theorem vle_set (r : List Int) (u i t : Nat) (d : Int) (hu : u < r.length) (ht : t < 1) : VLe (fset (vI r) u 0 [.int .i64 d] i t) (vI (r.set u d) i t) := by
  obtain rfl : t = 0 := by omega
  apply VLe.of_eq
  simp only [fset, vI, gI_set r u i d hu]
  by_cases h : i = u
  · subst h; simp
  · simp [h]
theorem ini_end (n f i t : Nat) (hf : f < n) (hi : i < n) (ht : t < 1) : VLe (fset (iniF n) f 0 [.int .i64 0] i t) (vI ((List.replicate n (-1)).set f 0) i t) := by
  obtain rfl : t = 0 := by omega
  apply VLe.of_eq
  simp only [fset, vI]
  rw [gI_set _ _ _ _ (by simpa using hf)]
  by_cases h : i = f
  · subst h; simp
  · rw [if_neg (by simp [h]), if_neg h]
    simp [iniF, hi, gI]
theorem cntU_le (p : Nat → Bool) : ∀ n, cntU p n ≤ n
  | 0 => Nat.le_refl _
  | n + 1 => by have := cntU_le p n; rw [cntU]; split <;> omega
theorem bo_start {p : Pt} (hu : Und p) {f : Nat} (hf : f < p.length) : BO p f [f] ((List.replicate p.length (-1)).set f 0) := by
  have hg := fun x => gI_set (List.replicate p.length (-1)) f x 0 (by simpa using hf)
  have hr : ∀ x, x < p.length → gI (List.replicate p.length (-1)) x = -1 := fun x hx => by simp [gI, hx]
  have hv : ∀ x, x < p.length → x ≠ f → gI ((List.replicate p.length (-1)).set f 0) x = -1 := fun x hx h => by rw [hg, if_neg h, hr x hx]
  have h0 : gI ((List.replicate p.length (-1)).set f 0) f = 0 := by rw [hg, if_pos rfl]
  refine { len := by simp, low := fun x hx => ?_, from_ := h0, back := fun x hx hxf h => ?_, qn := fun u hu => ?_, sorted := by simp, top := fun u hu x hx => ?_, done := fun x hx h hq => ?_ }
  · by_cases e : x = f
    · subst e; rw [h0]; decide
    · rw [hv x hx e]; decide
  · rw [hv x hx hxf] at h; omega
  · simp at hu; subst hu; exact ⟨hf, by rw [h0]; decide⟩
  · simp at hu; subst hu
    rw [h0]
    by_cases e : x = u
    · subst e; rw [h0]; decide
    · rw [hv x hx e]; decide
  · have : x ≠ f := by simpa using hq
    rw [hv x hx this] at h; omega
theorem sh_at (lo : Nat) (f : Nat → Nat → V) (i j : Nat) : shiftF lo f i j = f (lo + i) j := by
  cases lo with
  | zero => simp [shiftF]
  | succ n => simp [shiftF]
theorem vle_appN (Q : List Nat) (lo u i t : Nat) (hlo : lo ≤ Q.length) (hi : i < Q.length - lo + 1) (ht : t < 1) :
    VLe (fapp (shiftF lo (vN Q)) (Q.length - lo) (shiftF 0 (tab [[.int .i64 (u : Int)]])) i t) (vN (Q.drop lo ++ [u]) i t) := by
  obtain rfl : t = 0 := by omega
  apply VLe.of_eq
  by_cases h : i < Q.length - lo
  · rw [fapp_lt h]
    simp only [sh_at, vN]
    have : (Q.drop lo ++ [u]).getD i 0 = Q.getD (lo + i) 0 := by
      rw [List.getD_eq_getElem?_getD, List.getD_eq_getElem?_getD, List.getElem?_append_left (by simpa using h), List.getElem?_drop]
    rw [this]
  · rw [fapp_ge h]
    have : i = Q.length - lo := by omega
    subst this
    simp [shiftF, tab, vN]

theorem ini_bnd {n f : Nat} (hf : f < n) : ∀ y, y < n → gI ((List.replicate n (-1)).set f 0) y + unv ((List.replicate n (-1)).set f 0) n < n := by
  have hg := fun x => gI_set (List.replicate n (-1)) f x 0 (by simpa using hf)
  have h1 : unv ((List.replicate n (-1)).set f 0) n + 1 ≤ n := by
    have := cntU_one (p := fun _ => true) (q := fun v => decide (v ≠ f)) (u := f) rfl (by simp) (fun v hv => by simp [hv]) hf
    have h2 : unv ((List.replicate n (-1)).set f 0) n = cntU (fun v => decide (v ≠ f)) n := cntU_ext fun v hv => by
      rw [hg]
      by_cases e : v = f
      · simp [e]
      · simp [e, gI, hv]
    have h3 := cntU_le (fun _ => true) n
    omega
  intro y hy
  rw [hg]
  split
  · omega
  · simp only [gI, List.getD, List.getElem?_replicate, hy, if_true, Option.getD_some]; omega
theorem vle_appN2 (Q : List Nat) (lo i t : Nat) (a : Int) (u : Nat) (hlo : lo ≤ Q.length) (hi : i < Q.length - lo + 1) (ht : t < 1) (hu : a = u) :
    VLe (fapp (shiftF lo (vN Q)) (Q.length - lo) (shiftF 0 (tab [[.int .i64 a]])) i t) (vN (Q.drop lo ++ [u]) i t) := by
  subst hu; exact vle_appN Q lo u i t hlo hi ht

set_option maxHeartbeats 16000000 in
theorem search_ok (g : G) (hg : g.valid = true) (f : Nat) (hf : f < g.ports.length) : Ret Tryz.prog 117 [g.v, .int .i64 f] (.fz (dst g f).length 1 false (vI (dst g f))) := by
  obtain ⟨f1, f2, f3, f4, f5, f6, f7⟩ := val_facts hg
  have hu := und_of hg
  refine ret_frz rfl ?_
  refine fn_rule mixed Tryz.func117 rfl hc117 hr117 rfl ?_
  repeat' ((conv => whnf); first | (refine Bd.nat (by omega) ?_) | (refine Len.mk (by omega) ?_) | (refine MkS.vec ?_))
  all_goals (conv => whnf)
  refine loop_w mixed [1, 2, 5, 16] [] [2, 3, 4, 5, 6, 7, 8, 9, 10, 11, 12, 13, 14, 15, 16, 17, 18, 19, 20, 21, 22, 23, 24, 25, 26, 27, 28, 29] [1, 0] (fun j : Nat => [(17, .int .i64 j)]) (fun j => [(1, .vec g.ports.length 1 (iniF j)), (0, .cells [.fz g.ids.length 1 false (vI g.ids), .fz g.ports.length 1 false (vP g.ports)])]) (fun m j => m = g.ports.length - j ∧ j ≤ g.ports.length) g.ports.length 0 ⟨rfl, Nat.zero_le _⟩ rfl (fun _ => rfl) ?_ ?_
  · refine weak_by (fun _ _ => [(0, some 0), (1, some 1)]) ?_ ?_ rfl
    · repeat' (first | exact True.intro | (refine ⟨⟨_, rfl, ?_⟩, ?_⟩) | exact VRen.kf rfl | exact VRen.loc rfl | exact VRen.vec rfl rfl rfl)
    · repeat' (first | exact ⟨Nat.le_refl _, rfl, fun i j hi hj => VLe.of_eq (by obtain rfl : j = 0 := (by omega); rfl)⟩ | exact True.intro | (refine ⟨⟨_, rfl, ?_⟩, ?_⟩) | exact VRen.kf rfl | (refine And.intro ?_ ?_))
  rintro m j ⟨hm, hj⟩
  by_cases hjn : j < g.ports.length
  · repeat' ((conv => whnf); first | (refine Br.dec ?_ ?_ <;> intro _ <;> try omega) | (refine Ar.i64 (by omega) (by omega) ?_) | (refine Ix.nat (by omega) ?_) | (refine Ltn.mk (by omega) ?_))
    all_goals (conv => whnf)
    refine ⟨g.ports.length - (j + 1), j + 1, by omega, ⟨rfl, by omega⟩, ?_⟩
    refine weak_by (fun _ _ => [(0, some 0), (1, some 1)]) ?_ ?_ rfl
    · repeat' (first | exact True.intro | (refine ⟨⟨_, rfl, ?_⟩, ?_⟩) | exact VRen.kf rfl | exact VRen.loc rfl | exact VRen.vec rfl rfl rfl)
    · repeat' (first | exact ⟨Nat.le_refl _, rfl, fun i t hi ht => by simp only [Nat.zero_add]; exact iniF_step _ _ _ _ hi ht⟩ | exact True.intro | (refine ⟨⟨_, rfl, ?_⟩, ?_⟩) | exact VRen.kf rfl | (refine And.intro ?_ ?_))
  · have ej : j = g.ports.length := by omega
    subst ej
    repeat' ((conv => whnf); first | (refine Br.dec ?_ ?_ <;> intro _ <;> try omega) | (refine Ix.nat (by omega) ?_) | (refine Ltn.mk (by omega) ?_))
    all_goals (conv => whnf)
    refine loop_w mixed [2, 5] [2] [3, 4, 5, 6, 7, 8, 9, 10, 11, 12, 13, 14, 15, 16, 17, 18, 19, 20, 21, 22, 23, 24, 25, 26, 27, 28, 29] [2, 1, 0] (fun x : Nat × List Nat × List Int => [(7, .vec 2 1 x.1 (x.2.1.length - x.1))]) (fun x => [(2, .vec x.2.1.length 1 (vN x.2.1)), (1, .vec g.ports.length 1 (vI x.2.2)), (0, .cells [.fz g.ids.length 1 false (vI g.ids), .fz g.ports.length 1 false (vP g.ports)])])
      (fun m x => m = 2 * unv x.2.2 g.ports.length + (x.2.1.length - x.1) ∧ x.1 ≤ x.2.1.length ∧ x.2.1.length ≤ 60 ∧ m ≤ 50 ∧ BO g.ports f (x.2.1.drop x.1) x.2.2 ∧ ∀ y, y < g.ports.length → gI x.2.2 y + unv x.2.2 g.ports.length < g.ports.length) _ (0, [f], (List.replicate g.ports.length (-1)).set f 0) ⟨rfl, by simp, by simp, ?_, bo_start hu hf, ini_bnd hf⟩ rfl (fun _ => rfl) ?_ ?_
    · have := cntU_le (fun v => decide (gI ((List.replicate g.ports.length (-1)).set f 0) v < 0)) g.ports.length
      simp only [unv, List.length_cons, List.length_nil]
      omega
    · refine weak_by (fun _ _ => [(0, some 0), (1, some 1), (2, some 2)]) ?_ ?_ rfl
      · repeat' (first | exact True.intro | (refine ⟨⟨_, rfl, ?_⟩, ?_⟩) | exact VRen.loc rfl | exact VRen.vec rfl rfl rfl)
      · repeat' (first | exact ⟨Nat.le_refl _, rfl, fun i t hi ht => by simp only [Nat.zero_add]; exact ini_end _ _ _ _ hf hi ht⟩ | exact ⟨Nat.le_refl _, rfl, fun i t hi ht => VLe.of_eq (by obtain rfl : i = 0 := (by simpa using hi); obtain rfl : t = 0 := (by omega); rfl)⟩ | exact True.intro | (refine ⟨⟨_, rfl, ?_⟩, ?_⟩) | exact VRen.kf rfl | (refine And.intro ?_ ?_))
    rintro m ⟨lo, Q, r⟩ ⟨hm, hlo, hQ, hm50, hbo, hbd⟩
    simp only at hm hlo hQ hbo hbd ⊢
    by_cases hq : lo < Q.length
    · obtain ⟨v, hv⟩ : ∃ v, Q.getD lo 0 = v := ⟨_, rfl⟩
      have hdrop : Q.drop lo = v :: Q.drop (lo + 1) := by
        rw [List.drop_eq_getElem_cons hq, ← hv]
        simp [hq]
      rw [hdrop] at hbo
      have hbp := hbo.pop
      obtain ⟨hvn, hv0⟩ := hbp.vn
      have hrl := row_le' hg v
      have hlen := hbp.len
      have hQv : vN Q lo 0 = .int .i64 (v : Int) := by simp only [vN, hv]
      have hQ0 : Q.getD (lo + 0) 0 = v := hv
      repeat' ((conv => whnf); first | (refine Ix.mk v (by omega) (by omega) ?_) | (refine Br.dec ?_ ?_ <;> intro _ <;> try omega) | (refine Br.nble ?_ ?_ <;> intro _ <;> try omega) | (refine Ix.mk 0 rfl (by omega) ?_) | (refine Bd.mk 1 rfl (by omega) ?_) | (refine Ltn.mk (by omega) ?_))
      all_goals (conv => whnf)
      refine loop_w mixed [2, 5, 8, 41, 42] [2] [3, 4, 5, 6, 7, 8, 9, 10, 11, 12, 13, 14, 15, 16, 17, 18, 19, 20, 21, 22, 23, 24, 25, 26, 27, 28, 29] [2, 1, 0] (fun x : Nat × Nat × List Nat × List Int => [(7, .vec 2 1 x.2.1 (x.2.2.1.length - x.2.1)), (43, .int .i64 x.1)]) (fun x => [(2, .vec x.2.2.1.length 1 (vN x.2.2.1)), (1, .vec g.ports.length 1 (vI x.2.2.2)), (0, .cells [.fz g.ids.length 1 false (vI g.ids), .fz g.ports.length 1 false (vP g.ports)])])
        (fun k x => k = (gR g.ports v).length - x.1 ∧ x.1 ≤ (gR g.ports v).length ∧ x.2.1 ≤ x.2.2.1.length ∧ x.2.2.1.length ≤ 60 ∧ 2 * unv x.2.2.2 g.ports.length + (x.2.2.1.length - x.2.1) < m ∧ BP g.ports f v x.1 (x.2.2.1.drop x.2.1) x.2.2.2 ∧ ∀ y, y < g.ports.length → gI x.2.2.2 y + unv x.2.2.2 g.ports.length < g.ports.length) _ (0, lo + 1, Q, r) ⟨rfl, by simp, by simp only; omega, hQ, by simp only; omega, hbp, hbd⟩ rfl (fun _ => rfl) ?_ ?_
      · refine weak_by (fun _ _ => [(0, some 0), (1, some 1), (2, some 2)]) ?_ ?_ rfl
        · repeat' (first | exact True.intro | (refine ⟨⟨_, rfl, ?_⟩, ?_⟩) | exact VRen.kf rfl | exact VRen.loc rfl | exact VRen.vec rfl rfl rfl)
        · repeat' (first | exact True.intro | (refine ⟨⟨_, rfl, ?_⟩, ?_⟩) | exact VRen.kf rfl | (refine ⟨Nat.le_refl _, rfl, fun i j hi hj => ?_⟩) | exact VLe.rfl | (refine And.intro ?_ ?_))
      rintro k ⟨i, lo2, Q2, r2⟩ ⟨hk, hi, hlo2, hQ2, hm2, hbp2, hbd2⟩
      simp only at hk hi hlo2 hQ2 hm2 hbp2 hbd2 ⊢
      obtain ⟨_, hv2⟩ := hbp2.vn
      have hlen2 := hbp2.len
      have hvb : 0 ≤ gI r2 (0 + v) ∧ gI r2 (0 + v) ≤ 24 := by rw [Nat.zero_add]; have := hbd2 v hvn; omega
      by_cases hil : i < (gR g.ports v).length
      · have hr := okR_to' (f6 v hvn) hil
        have hr' : toN g.ports v i < g.ports.length := by show (gF (gR g.ports v) i).1.toNat < _; omega
        by_cases hneg : gI r2 (gF (gR g.ports v) i).1.toNat < 0
        · obtain ⟨hbp3, hun⟩ := hbp2.visit hu hil hneg
          have hneg2 : gI r2 (0 + (gF (gR g.ports v) i).1.toNat) < 0 := by rw [Nat.zero_add]; exact hneg
          repeat' ((conv => whnf); first | (refine Ix.mk v (by omega) (by omega) ?_) | (refine Br.dec ?_ ?_ <;> intro _ <;> try omega) | (refine Br.nbeq ?_ ?_ <;> intro _ <;> try omega) | (refine Ar.i64 (by omega) (by omega) ?_) | (refine Ix.nat (by omega) ?_) | (refine Ix.int (by omega) (by omega) ?_) | (refine Len.mk (by omega) ?_) | (refine Ltn.mk (by omega) ?_))
          all_goals (conv => whnf)
          have hdl : (Q2.drop lo2 ++ [toN g.ports v i]).length = Q2.length - lo2 + 1 := by simp
          refine ⟨(gR g.ports v).length - (i + 1), (i + 1, 0, Q2.drop lo2 ++ [toN g.ports v i], r2.set (toN g.ports v i) (gI r2 v + 1)), by omega, ⟨rfl, by simp only; omega, by simp, by simp only [hdl]; omega, by simp only [hdl]; omega, hbp3, fun y hy => ?_⟩, ?_⟩
          · have hb := hbd2 y hy
            have hb2 := hbd2 v hvn
            simp only
            rw [gI_set _ _ _ _ (by rw [hlen2]; exact hr')]
            split <;> omega
          simp only [hdl]
          refine weak_by (fun env own => [(0, some 0), (1, some 1), (2, ekey env 66)]) ?_ ?_ rfl
          · repeat' (first | exact True.intro | (refine ⟨⟨_, rfl, ?_⟩, ?_⟩) | exact VRen.kf rfl | exact VRen.loc rfl | exact VRen.vec rfl rfl rfl)
          · repeat' (first | exact ⟨Nat.le_refl _, rfl, fun a t ha ht => by simp only [Nat.zero_add]; exact vle_set _ _ _ _ _ (by rw [hlen2]; exact hr') ht⟩ | exact ⟨by omega, rfl, fun a t ha ht => vle_appN2 _ _ _ _ _ _ hlo2 ha ht (show (gF (gR g.ports v) i).1 = ((gF (gR g.ports v) i).1.toNat : Nat) by omega)⟩ | exact True.intro | (refine ⟨⟨_, rfl, ?_⟩, ?_⟩) | exact VRen.kf rfl | (refine And.intro ?_ ?_))
        · have hneg2 : ¬ gI r2 (0 + (gF (gR g.ports v) i).1.toNat) < 0 := by rw [Nat.zero_add]; exact hneg
          have hbp3 := hbp2.skip hil (show 0 ≤ gI r2 (gF (gR g.ports v) i).1.toNat by omega)
          repeat' ((conv => whnf); first | (refine Br.dec ?_ ?_ <;> intro _ <;> try omega) | (refine Ar.i64 (by omega) (by omega) ?_) | (refine Ix.nat (by omega) ?_) | (refine Ix.int (by omega) (by omega) ?_) | (refine Ltn.mk (by omega) ?_))
          all_goals (conv => whnf)
          refine ⟨(gR g.ports v).length - (i + 1), (i + 1, lo2, Q2, r2), by omega, ⟨rfl, by simp only; omega, hlo2, hQ2, hm2, hbp3, hbd2⟩, ?_⟩
          refine weak_by (fun env own => [(0, some 0), (1, some 1), (2, some 2)]) ?_ ?_ rfl
          · repeat' (first | exact True.intro | (refine ⟨⟨_, rfl, ?_⟩, ?_⟩) | exact VRen.kf rfl | exact VRen.loc rfl | exact VRen.vec rfl rfl rfl)
          · repeat' (first | exact True.intro | (refine ⟨⟨_, rfl, ?_⟩, ?_⟩) | exact VRen.kf rfl | (refine ⟨Nat.le_refl _, rfl, fun i j hi hj => ?_⟩) | exact VLe.rfl | (refine And.intro ?_ ?_))
      · have hfin := hbp2.fin hu (by omega)
        repeat' ((conv => whnf); first | (refine Br.dec ?_ ?_ <;> intro _ <;> try omega))
        all_goals (conv => whnf)
        refine ⟨_, (lo2, Q2, r2), hm2, ⟨rfl, hlo2, hQ2, by omega, hfin, hbd2⟩, ?_⟩
        refine weak_by (fun env own => [(0, some 0), (1, some 1), (2, some 2)]) ?_ ?_ rfl
        · repeat' (first | exact True.intro | (refine ⟨⟨_, rfl, ?_⟩, ?_⟩) | exact VRen.loc rfl | exact VRen.vec rfl rfl rfl)
        · repeat' (first | exact True.intro | (refine ⟨⟨_, rfl, ?_⟩, ?_⟩) | exact VRen.kf rfl | (refine ⟨Nat.le_refl _, rfl, fun i j hi hj => ?_⟩) | exact VLe.rfl | (refine And.intro ?_ ?_))
    · have e : lo = Q.length := by omega
      subst e
      rw [List.drop_length] at hbo
      have hfd := hbo.found
      have hlen := hbo.len
      repeat' ((conv => whnf); first | (refine Br.dec ?_ ?_ <;> intro _ <;> try omega) | (refine Len.mk (by omega) ?_))
      all_goals (conv => whnf)
      refine VLe.fz (dst_len g f).symm (fun h => h) (fun i t hi ht => VLe.of_eq ?_)
      rw [sh_at]
      simp only [vI, Nat.zero_add]
      rw [dst_get g f hi, hfd.eq hu hf hi]
end Go.Proofs.YtinmenifoebfmaaGreat

namespace Go.Proofs.YtinmenifoebfmaaGreat
open Go.Eng
set_option maxRecDepth 100000
set_option linter.unusedVariables false

/-! ## connected graphs -/

theorem grt_ok (l : List Int) (hl : l.length ≤ 1000) : Ret Tryz.prog 127 [.fz l.length 1 false (vI l)] (.int .i64 (maxL l (-1))) := by
  refine ret_frz rfl ?_
  refine fn_rule mixed Tryz.func127 rfl hc127 hr127 rfl ?_
  repeat' ((conv => whnf); first | fail)
  all_goals (conv => whnf)
  refine loop_r mixed [6, 7] (fun i : Nat => [(3, .int .i64 (maxL (l.take i) (-1))), (8, .int .i64 i)]) (fun m i => m = l.length - i ∧ i ≤ l.length) l.length 0 ⟨rfl, Nat.zero_le _⟩ ?_ ?_
  · refine weak_by (fun _ _ => []) ?_ ?_ rfl
    · repeat' (first | exact True.intro | (refine ⟨⟨_, rfl, ?_⟩, ?_⟩) | exact VRen.kf rfl)
    · repeat' (first | exact True.intro)
  rintro m i ⟨hm, hi⟩
  repeat' ((conv => whnf); first | (refine Br.dec ?_ ?_ <;> intro _ <;> try omega) | (refine Ar.i64 (by omega) (by omega) ?_) | (refine Sv.mk _ rfl ?_) | (refine Ix.nat (by omega) ?_))
  all_goals (conv => whnf)
  · refine ⟨l.length - (i + 1), i + 1, by omega, ⟨rfl, by omega⟩, ?_⟩
    simp only [gI_take l i (by omega), maxL_snoc]
    refine weak_by (fun _ _ => []) ?_ ?_ rfl
    · repeat' (first | exact True.intro | (refine ⟨⟨_, rfl, ?_⟩, ?_⟩) | exact VRen.kf rfl)
    · repeat' (first | exact True.intro)
  · rw [List.take_of_length_le (by omega)]
    exact VLe.rfl
def negB (l : List Int) : Bool := l.any fun a => decide (a < 0)
theorem negB_no {l : List Int} : negB l = false ↔ ∀ a ∈ l, 0 ≤ a := by
  rw [negB, List.any_eq_false]
  constructor
  · intro h a ha; have := h a ha; simp at this; omega
  · intro h a ha; have := h a ha; simp; omega
def rgrt (l : List Int) : Int := if negB l then -1 else maxL l (-1)
theorem rgrt_ok (l : List Int) (hl : l.length ≤ 1000) : Ret Tryz.prog 118 [.fz l.length 1 false (vI l)] (.int .i64 (rgrt l)) := by
  refine ret_frz rfl ?_
  refine fn_rule mixed Tryz.func118 rfl hc118 hr118 rfl ?_
  repeat' ((conv => whnf); first | fail)
  all_goals (conv => whnf)
  refine loop_r mixed [0] (fun i : Nat => [(3, .int .i64 (maxL (l.take i) (-1))), (4, .int .i64 i)]) (fun m i => m = l.length - i ∧ i ≤ l.length ∧ ∀ a ∈ l.take i, 0 ≤ a) l.length 0 ⟨rfl, Nat.zero_le _, by simp⟩ ?_ ?_
  · refine weak_by (fun _ _ => []) ?_ ?_ rfl
    · repeat' (first | exact True.intro | (refine ⟨⟨_, rfl, ?_⟩, ?_⟩) | exact VRen.kf rfl)
    · repeat' (first | exact True.intro)
  rintro m i ⟨hm, hi, hall⟩
  repeat' ((conv => whnf); first | (refine Br.dec ?_ ?_ <;> intro _ <;> try omega) | (refine Ar.i64 (by omega) (by omega) ?_) | (refine Sv.mk _ rfl ?_) | (refine Ix.nat (by omega) ?_))
  all_goals (conv => whnf)
  · refine VLe.int ?_
    rw [rgrt, if_pos]
    rw [negB, List.any_eq_true]
    exact ⟨gI l i, gI_mem (by omega), by simp; omega⟩
  · refine ⟨l.length - (i + 1), i + 1, by omega, ⟨rfl, by omega, ?_⟩, ?_⟩
    · rw [gI_take l i (by omega)]
      intro a ha
      rcases List.mem_append.1 ha with h | h
      · exact hall a h
      · simp at h; omega
    · simp only [gI_take l i (by omega), maxL_snoc]
      refine weak_by (fun _ _ => []) ?_ ?_ rfl
      · repeat' (first | exact True.intro | (refine ⟨⟨_, rfl, ?_⟩, ?_⟩) | exact VRen.kf rfl)
      · repeat' (first | exact True.intro)
  · rw [List.take_of_length_le (by omega)] at hall ⊢
    refine VLe.int ?_
    rw [rgrt, negB_no.2 hall, if_neg (by simp)]

def G.conn (g : G) : Bool := g.valid && !negB (dst g 0)
theorem conn_ok (g : G) (hs : g.Small) : Ret Tryz.prog 65 [g.v] (.bool g.conn) := by
  have hval := valid_ok g hs
  refine ret_frz rfl ?_
  refine fn_rule mixed Tryz.func65 rfl hc65 hr65 rfl ?_
  rw [G.conn]
  by_cases hg : g.valid = true
  · obtain ⟨f1, f2, f3, f4, f5, f6, f7⟩ := val_facts hg
    have hsr := search_ok g hg 0 (by omega)
    have hdl := dst_len g 0
    rw [hg] at hval ⊢
    rw [Bool.true_and]
    generalize dst g 0 = l at *
    repeat' ((conv => whnf); first | (refine Br.tt ?_) | (refine (hval _ _).mono ?_; rintro _ _ _ ⟨rfl, rfl, rfl⟩) | (refine (hsr _ _).mono ?_; rintro _ _ _ ⟨rfl, rfl, rfl⟩))
    all_goals (conv => whnf)
    refine loop_r mixed [9, 10] (fun i : Nat => [(11, .int .i64 i)]) (fun m i => m = l.length - i ∧ i ≤ l.length ∧ ∀ a ∈ l.take i, 0 ≤ a) l.length 0 ⟨rfl, Nat.zero_le _, by simp⟩ ?_ ?_
    · refine weak_by (fun _ _ => [(0, some 0)]) ?_ ?_ rfl
      · repeat' (first | exact True.intro | (refine ⟨⟨_, rfl, ?_⟩, ?_⟩) | exact VRen.kf rfl)
      · repeat' (first | exact True.intro | (refine ⟨⟨_, rfl, ?_⟩, ?_⟩) | exact VRen.kf rfl | (refine And.intro ?_ ?_))
    rintro m i ⟨hm, hi, hall⟩
    repeat' ((conv => whnf); first | (refine Br.dec ?_ ?_ <;> intro _ <;> try omega) | (refine Ar.i64 (by omega) (by omega) ?_) | (refine Ix.nat (by omega) ?_))
    all_goals (conv => whnf)
    · refine VLe.bool ?_
      have : negB l = true := by
        rw [negB, List.any_eq_true]
        exact ⟨gI l i, gI_mem (by omega), by simp; omega⟩
      rw [this]; rfl
    · refine ⟨l.length - (i + 1), i + 1, by omega, ⟨rfl, by omega, ?_⟩, ?_⟩
      · rw [gI_take l i (by omega)]
        intro a ha
        rcases List.mem_append.1 ha with h | h
        · exact hall a h
        · simp at h; omega
      · refine weak_by (fun _ _ => [(0, some 0)]) ?_ ?_ rfl
        · repeat' (first | exact True.intro | (refine ⟨⟨_, rfl, ?_⟩, ?_⟩) | exact VRen.kf rfl)
        · repeat' (first | exact True.intro | (refine ⟨⟨_, rfl, ?_⟩, ?_⟩) | exact VRen.kf rfl | (refine And.intro ?_ ?_))
    · rw [List.take_of_length_le (by omega)] at hall
      rw [negB_no.2 hall]; exact VLe.rfl
  · simp only [Bool.not_eq_true] at hg
    rw [hg] at hval ⊢
    repeat' ((conv => whnf); first | (refine Br.ff ?_) | (refine (hval _ _).mono ?_; rintro _ _ _ ⟨rfl, rfl, rfl⟩))
    all_goals (conv => whnf)
    all_goals exact VLe.rfl
theorem conn_facts {g : G} (h : g.conn = true) : g.valid = true ∧ ∀ v, v < g.ports.length → 0 ≤ gI (dst g 0) v := by
  simp only [G.conn, Bool.and_eq_true, Bool.not_eq_true'] at h
  exact ⟨h.1, fun v hv => negB_no.1 h.2 _ (gI_mem (by rw [dst_len]; exact hv))⟩

/-! ## the reference's distances -/

def mixI (p : Pt) (f k v : Nat) (w : Int) (u : Nat) : Int := if u < v then lay p f (k + 1) u else if u = v then w else lay p f k u
def vMix (p : Pt) (f k v : Nat) (w : Int) : Nat → Nat → V := fun u _ => .int .i64 (mixI p f k v w u)
theorem lay_low (p : Pt) (f : Nat) : ∀ k v, -1 ≤ lay p f k v ∧ lay p f k v ≤ k
  | 0, v => by rw [lay]; split <;> omega
  | k + 1, v => by
    have := lay_low p f k v
    rw [lay]
    split
    · omega
    · split <;> omega
theorem lay_same (p : Pt) (f k u : Nat) : lay p f (k + 1) u = k ↔ lay p f k u = k := by
  have := lay_low p f k u
  rw [lay]
  split
  · exact Iff.rfl
  · split <;> omega
/-- node v after some of its ports -/
def midI (p : Pt) (f k v i : Nat) : Int := if 0 ≤ lay p f k v then lay p f k v else if ((gR p v).take i).any (fun l => decide (lay p f k l.1.toNat = k)) then (k : Int) + 1 else -1
theorem mid_zero (p : Pt) (f k v : Nat) : midI p f k v 0 = lay p f k v := by
  have := lay_low p f k v
  rw [midI]
  split
  · rfl
  · simp; omega
theorem mid_end (p : Pt) (f k v i : Nat) (h : (gR p v).length ≤ i) : midI p f k v i = lay p f (k + 1) v := by
  rw [midI, lay, List.take_of_length_le h]
theorem mid_stop {p : Pt} {f k v i j : Nat} (h : 0 ≤ midI p f k v i) (hij : i ≤ j) : midI p f k v j = midI p f k v i := by
  rw [midI, midI] at *
  split
  · rfl
  · rename_i h0
    rw [if_neg h0] at h
    split at h
    · rename_i h1
      rw [List.any_eq_true] at h1
      obtain ⟨l, hl, e⟩ := h1
      have : ((gR p v).take j).any (fun l => decide (lay p f k l.1.toNat = k)) = true := by
        rw [List.any_eq_true]
        exact ⟨l, (List.take_sublist_take_left hij).mem hl, e⟩
      rw [if_pos this, if_pos]
      rw [List.any_eq_true]; exact ⟨l, hl, e⟩
    · omega
theorem mid_next {p : Pt} {f k v i : Nat} (hi : i < (gR p v).length) (h : midI p f k v i < 0) : midI p f k v (i + 1) = if lay p f k (toN p v i) = k then (k : Int) + 1 else -1 := by
  have h0 : ¬ 0 ≤ lay p f k v := fun h0 => by rw [midI, if_pos h0] at h; omega
  rw [midI, if_neg h0] at h ⊢
  rw [gF_take _ i hi, List.any_append]
  have h1 : ((gR p v).take i).any (fun l => decide (lay p f k l.1.toNat = k)) = false := by
    cases e : ((gR p v).take i).any (fun l => decide (lay p f k l.1.toNat = k)) with
    | false => rfl
    | true => rw [e, if_pos rfl] at h; omega
  rw [h1]
  by_cases e : lay p f k (toN p v i) = k
  · rw [if_pos e, if_pos (by simpa [toN] using e)]
  · rw [if_neg e, if_neg (by simpa [toN] using e)]
theorem mix_start (p : Pt) (f k u : Nat) (w : Int) (hw : w = lay p f k 0) : mixI p f k 0 w u = lay p f k u := by
  rw [mixI, if_neg (by omega)]
  split
  · rename_i e; rw [e]; exact hw
  · rfl
theorem mix_next (p : Pt) (f k v u : Nat) (w w' : Int) (hw : w = lay p f (k + 1) v) (hw' : w' = lay p f k (v + 1)) : mixI p f k v w u = mixI p f k (v + 1) w' u := by
  simp only [mixI]
  by_cases h1 : u < v
  · rw [if_pos h1, if_pos (by omega)]
  · rw [if_neg h1]
    by_cases h2 : u = v
    · subst h2; rw [if_pos rfl, if_pos (by omega)]; exact hw
    · rw [if_neg h2, if_neg (by omega)]
      split
      · rename_i e; rw [e]; exact hw'.symm
      · rfl

def Hide (p : Prop) : Prop := p
theorem vle_ones (n i j : Nat) (hi : i < n + 1) (hj : j < 1) : VLe (fapp (shiftF 0 fun _ _ => .int .i64 (-1)) n (shiftF 0 (tab [[.int .i64 (-1)]])) i j) (.int .i64 (-1)) := by
  obtain rfl : j = 0 := by omega
  apply VLe.of_eq
  by_cases h : i < n
  · rw [fapp_lt h]; rfl
  · rw [fapp_ge h, show i - n = 0 by omega]; rfl
theorem vle_lay0 (p : Pt) (f i j : Nat) (hj : j < 1) : VLe (fset (fun _ _ => .int .i64 (-1)) (0 + f) 0 [.int .i64 0] i j) (vMix p f 0 0 (lay p f 0 0) i j) := by
  obtain rfl : j = 0 := by omega
  apply VLe.of_eq
  simp only [fset, vMix]
  rw [mix_start p f 0 i _ rfl, lay, Nat.zero_add]
  by_cases h : i = f
  · subst h; simp
  · rw [if_neg (by simp [h]), if_neg h]
theorem mix_at {p : Pt} {f k v u : Nat} {w : Int} (h : u ≠ v) : (mixI p f k v w u = k ↔ lay p f k u = k) := by
  rw [mixI]
  split
  · exact lay_same p f k u
  · first
      | exact Iff.rfl
      | rw [if_neg h]
theorem okR_ne {n v : Nat} {r : List (Int × Int)} (h : okR n v r = true) {i : Nat} (hi : i < r.length) : (gF r i).1.toNat ≠ v := by
  rw [okR, Bool.and_eq_true, List.all_eq_true] at h
  have := h.1 _ (gF_mem hi)
  rw [okL, decide_eq_true_eq] at this
  omega
theorem mid_low (p : Pt) (f k v i : Nat) : -1 ≤ midI p f k v i ∧ midI p f k v i ≤ k + 1 := by
  have := lay_low p f k v
  rw [midI]
  repeat' split
  all_goals omega
theorem vle_mixset (p : Pt) (f k v : Nat) (w w' : Int) (a t : Nat) (ht : t < 1) : VLe (fset (vMix p f k v w) v 0 [.int .i64 w'] a t) (vMix p f k v w' a t) := by
  obtain rfl : t = 0 := by omega
  apply VLe.of_eq
  simp only [fset, vMix, mixI]
  by_cases h : a = v
  · subst h; simp
  · rw [if_neg (by simp [h]), if_neg h]
    simp [h]

set_option maxHeartbeats 16000000 in
theorem rdist_ok (g : G) (hs : g.Small) (hg : g.valid = true) (f : Nat) (hf : f < g.ports.length) : Ret Tryz.prog 119 [g.v, .int .i64 f] (.fz (dst g f).length 1 false (vI (dst g f))) := by
  obtain ⟨f1, f2, f3, f4, f5, f6, f7⟩ := val_facts hg
  have hval := rvalid_ok g hs
  rw [hg] at hval
  have hin := in_ok f 0 ((g.ports.length : Int) - 1)
  rw [decide_eq_true (by omega)] at hin
  refine ret_frz rfl ?_
  refine fn_rule mixed Tryz.func119 rfl hc119 hr119 rfl ?_
  repeat' ((conv => whnf); first | (refine Br.tt ?_) | (refine Ar.i64 (by omega) (by omega) ?_) | (refine (hval _ _).mono ?_; rintro _ _ _ ⟨rfl, rfl, rfl⟩) | (refine (hin _ _).mono ?_; rintro _ _ _ ⟨rfl, rfl, rfl⟩))
  all_goals (conv => whnf)
  refine loop_u mixed [1, 2, 5] [1] [2, 3, 4, 5, 6, 7, 8, 9, 10, 11, 12, 13, 14, 15, 16, 17, 18, 19, 20, 21, 22, 23, 24, 25, 26, 27, 28, 29] [1, 0] (fun v : Nat => [(6, .vec 1 1 0 v), (7, .int .i64 v)]) (fun own v => (1, .vec v 1 (fun _ _ => .int .i64 (-1))) :: own) (fun m v => m = g.ports.length - v ∧ v ≤ g.ports.length) g.ports.length 0 ⟨rfl, Nat.zero_le _⟩ rfl (fun _ => rfl) ?_ ?_
  · refine weak_by (fun _ _ => [(0, some 0), (1, none)]) ?_ ?_ rfl
    · repeat' (first | exact True.intro | (refine ⟨⟨_, rfl, ?_⟩, ?_⟩) | exact VRen.kf rfl | exact VRen.loc rfl | exact VRen.nil rfl rfl)
    · repeat' (first | exact True.intro | (refine ⟨⟨_, rfl, ?_⟩, ?_⟩) | exact VRen.kf rfl | (refine ⟨⟨_, _, rfl⟩, ?_⟩) | (refine And.intro ?_ ?_))
  rintro m v ⟨hm, hv⟩
  by_cases hvn : v < g.ports.length
  · repeat' ((conv => whnf); first | (refine Br.dec ?_ ?_ <;> intro _ <;> try omega) | (refine Br.nbeq ?_ ?_ <;> intro _ <;> try omega) | (refine Ar.i64 (by omega) (by omega) ?_) | (refine Len.mk (by omega) ?_))
    all_goals (conv => whnf)
    all_goals
      refine ⟨g.ports.length - (v + 1), v + 1, by omega, ⟨rfl, by omega⟩, ?_⟩
      refine weak_by (fun env own => [(0, some 0), (1, ekey env 6)]) ?_ ?_ rfl
      · repeat' (first | exact True.intro | (refine ⟨⟨_, rfl, ?_⟩, ?_⟩) | exact VRen.kf rfl | exact VRen.loc rfl | exact VRen.vec rfl rfl rfl)
      · repeat' (first | (refine ⟨Nat.le_refl _, rfl, fun i j hi hj => ?_⟩) | exact vle_ones _ _ _ hi hj | exact True.intro | (refine ⟨⟨_, rfl, ?_⟩, ?_⟩) | exact VRen.kf rfl | (refine And.intro ?_ ?_))
  · have ev : v = g.ports.length := by omega
    subst ev
    repeat' ((conv => whnf); first | (refine Br.dec ?_ ?_ <;> intro _ <;> try omega) | (refine Ix.nat (by omega) ?_) | (refine Ltn.mk (by omega) ?_))
    all_goals (conv => whnf)
    refine loop_w mixed [2, 5, 6] [] [2, 3, 4, 5, 6, 7, 8, 9, 10, 11, 12, 13, 14, 15, 16, 17, 18, 19, 20, 21, 22, 23, 24, 25, 26, 27, 28, 29] [1, 0] (fun k : Nat => [(8, .int .i64 ((k : Int) + 1))]) (fun k => [(1, .vec g.ports.length 1 (vMix g.ports f k 0 (lay g.ports f k 0))), (0, .cells [.fz g.ids.length 1 false (vI g.ids), .fz g.ports.length 1 false (vP g.ports)])]) (fun m k => m = g.ports.length - 1 - k ∧ k ≤ g.ports.length - 1) (g.ports.length - 1) 0 ⟨rfl, Nat.zero_le _⟩ rfl (fun _ => rfl) ?_ ?_
    · refine weak_by (fun _ _ => [(0, some 0), (1, some 1)]) ?_ ?_ rfl
      · repeat' (first | exact True.intro | (refine ⟨⟨_, rfl, ?_⟩, ?_⟩) | exact VRen.kf rfl | exact VRen.loc rfl | exact VRen.vec rfl rfl rfl)
      · repeat' (first | exact ⟨Nat.le_refl _, rfl, fun i j hi hj => vle_lay0 _ _ _ _ hj⟩ | exact True.intro | (refine ⟨⟨_, rfl, ?_⟩, ?_⟩) | exact VRen.kf rfl | (refine And.intro ?_ ?_))
    rintro m k ⟨hm, hk⟩
    by_cases hkn : k < g.ports.length - 1
    · repeat' ((conv => whnf); first | (refine Br.dec ?_ ?_ <;> intro _ <;> try omega))
      all_goals (conv => whnf)
      refine loop_w mixed [2, 5, 6, 8] [] [2, 3, 4, 5, 6, 7, 8, 9, 10, 11, 12, 13, 14, 15, 16, 17, 18, 19, 20, 21, 22, 23, 24, 25, 26, 27, 28, 29] [1, 0] (fun v : Nat => [(9, .int .i64 v)]) (fun v => [(1, .vec g.ports.length 1 (vMix g.ports f k v (lay g.ports f k v))), (0, .cells [.fz g.ids.length 1 false (vI g.ids), .fz g.ports.length 1 false (vP g.ports)])]) (fun m v => m = g.ports.length - v ∧ v ≤ g.ports.length) g.ports.length 0 ⟨rfl, Nat.zero_le _⟩ rfl (fun _ => rfl) ?_ ?_
      · refine weak_by (fun _ _ => [(0, some 0), (1, some 1)]) ?_ ?_ rfl
        · repeat' (first | exact True.intro | (refine ⟨⟨_, rfl, ?_⟩, ?_⟩) | exact VRen.kf rfl | exact VRen.loc rfl | exact VRen.vec rfl rfl rfl)
        · repeat' (first | exact True.intro | (refine ⟨⟨_, rfl, ?_⟩, ?_⟩) | exact VRen.kf rfl | (refine ⟨Nat.le_refl _, rfl, fun i j hi hj => ?_⟩) | exact VLe.rfl | (refine And.intro ?_ ?_))
      rintro m v ⟨hm, hv⟩
      by_cases hvn : v < g.ports.length
      · have hrl := row_le' hg v
        repeat' ((conv => whnf); first | (refine Br.dec ?_ ?_ <;> intro _ <;> try omega))
        all_goals (conv => whnf)
        refine loop_w mixed [2, 5, 6, 8, 9] [] [2, 3, 4, 5, 6, 7, 8, 9, 10, 11, 12, 13, 14, 15, 16, 17, 18, 19, 20, 21, 22, 23, 24, 25, 26, 27, 28, 29] [1, 0] (fun i : Nat => [(10, .int .i64 i)]) (fun i => [(1, .vec g.ports.length 1 (vMix g.ports f k v (midI g.ports f k v i))), (0, .cells [.fz g.ids.length 1 false (vI g.ids), .fz g.ports.length 1 false (vP g.ports)])]) (fun m i => m = (gR g.ports v).length - i ∧ i ≤ (gR g.ports v).length) (gR g.ports v).length 0 ⟨rfl, Nat.zero_le _⟩ rfl (fun _ => rfl) ?_ ?_
        · refine weak_by (fun _ _ => [(0, some 0), (1, some 1)]) ?_ ?_ rfl
          · repeat' (first | exact True.intro | (refine ⟨⟨_, rfl, ?_⟩, ?_⟩) | exact VRen.kf rfl | exact VRen.loc rfl | exact VRen.vec rfl rfl rfl)
          · repeat' (first | exact ⟨Nat.le_refl _, rfl, fun i j hi hj => VLe.of_eq (by rw [mid_zero])⟩ | exact True.intro | (refine ⟨⟨_, rfl, ?_⟩, ?_⟩) | exact VRen.kf rfl | (refine And.intro ?_ ?_))
        rintro m i ⟨hm, hi⟩
        have hml := mid_low g.ports f k v i
        have hv0 : mixI g.ports f k v (midI g.ports f k v i) (0 + v) = midI g.ports f k v i := by rw [Nat.zero_add, mixI, if_neg (by omega), if_pos rfl]
        have hfin : Hide ((¬ i < (gR g.ports v).length) ∨ 0 ≤ midI g.ports f k v i → midI g.ports f k v i = lay g.ports f (k + 1) v) := fun h => by
          rw [← mid_end g.ports f k v (gR g.ports v).length (Nat.le_refl _)]
          rcases h with h | h
          · rw [show i = (gR g.ports v).length by omega]
          · exact (mid_stop h hi).symm
        by_cases hgo : i < (gR g.ports v).length ∧ midI g.ports f k v i < 0
        · obtain ⟨hil, hneg⟩ := hgo
          have hr := okR_to' (f6 v hvn) hil
          have hrn := okR_ne (f6 v hvn) hil
          have hat := mix_at (p := g.ports) (f := f) (k := k) (w := midI g.ports f k v i) hrn
          have hnx := mid_next hil hneg
          rw [show toN g.ports v i = (gF (gR g.ports v) i).1.toNat from rfl] at hnx
          rw [← Nat.zero_add (gF (gR g.ports v) i).1.toNat] at hat
          have hat : Hide _ := hat
          have hnx : Hide _ := hnx
          repeat' ((conv => whnf); first | (refine Br.dec ?_ ?_ <;> intro _ <;> try omega) | (refine Ar.i64 (by omega) (by omega) ?_) | (refine Ix.nat (by omega) ?_) | (refine Ix.int (by omega) (by omega) ?_) | (refine Ltn.mk (by omega) ?_))
          all_goals (conv => whnf)
          · rename_i he
            unfold Hide at hat hnx
            rw [if_pos (by rw [← Nat.zero_add (gF (gR g.ports v) i).1.toNat, ← hat]; omega)] at hnx
            refine ⟨(gR g.ports v).length - (i + 1), i + 1, by omega, ⟨rfl, by omega⟩, ?_⟩
            simp only [hnx]
            refine weak_by (fun _ _ => [(0, some 0), (1, some 1)]) ?_ ?_ rfl
            · repeat' (first | exact True.intro | (refine ⟨⟨_, rfl, ?_⟩, ?_⟩) | exact VRen.kf rfl | exact VRen.loc rfl | exact VRen.vec rfl rfl rfl)
            · repeat' (first | exact ⟨Nat.le_refl _, rfl, fun a t ha ht => by simp only [Nat.zero_add]; exact vle_mixset _ _ _ _ _ _ _ _ ht⟩ | exact True.intro | (refine ⟨⟨_, rfl, ?_⟩, ?_⟩) | exact VRen.kf rfl | (refine And.intro ?_ ?_))
          · rename_i he
            unfold Hide at hat hnx
            rw [if_neg (by rw [← Nat.zero_add (gF (gR g.ports v) i).1.toNat, ← hat]; omega)] at hnx
            refine ⟨(gR g.ports v).length - (i + 1), i + 1, by omega, ⟨rfl, by omega⟩, ?_⟩
            rw [show midI g.ports f k v i = -1 by omega]
            simp only [hnx]
            refine weak_by (fun _ _ => [(0, some 0), (1, some 1)]) ?_ ?_ rfl
            · repeat' (first | exact True.intro | (refine ⟨⟨_, rfl, ?_⟩, ?_⟩) | exact VRen.kf rfl | exact VRen.loc rfl | exact VRen.vec rfl rfl rfl)
            · repeat' (first | exact True.intro | (refine ⟨⟨_, rfl, ?_⟩, ?_⟩) | exact VRen.kf rfl | (refine ⟨Nat.le_refl _, rfl, fun i j hi hj => ?_⟩) | exact VLe.rfl | (refine And.intro ?_ ?_))
        · unfold Hide at hfin
          have hfin := hfin (by omega)
          repeat' ((conv => whnf); first | (refine Br.dec ?_ ?_ <;> intro _ <;> try omega) | (refine Ar.i64 (by omega) (by omega) ?_) | (refine Ix.nat (by omega) ?_) | (refine Ltn.mk (by omega) ?_))
          all_goals (conv => whnf)
          all_goals
            refine ⟨g.ports.length - (v + 1), v + 1, by omega, ⟨rfl, by omega⟩, ?_⟩
            refine weak_by (fun _ _ => [(0, some 0), (1, some 1)]) ?_ ?_ rfl
            · repeat' (first | exact True.intro | (refine ⟨⟨_, rfl, ?_⟩, ?_⟩) | exact VRen.kf rfl | exact VRen.loc rfl | exact VRen.vec rfl rfl rfl)
            · repeat' (first | exact ⟨Nat.le_refl _, rfl, fun a t ha ht => VLe.of_eq (congrArg (V.int .i64) (mix_next _ _ _ _ _ _ _ hfin rfl))⟩ | exact True.intro | (refine ⟨⟨_, rfl, ?_⟩, ?_⟩) | exact VRen.kf rfl | (refine And.intro ?_ ?_))
      · have ev : v = g.ports.length := by omega
        subst ev
        repeat' ((conv => whnf); first | (refine Br.dec ?_ ?_ <;> intro _ <;> try omega) | (refine Ar.i64 (by omega) (by omega) ?_))
        all_goals (conv => whnf)
        refine ⟨g.ports.length - 1 - (k + 1), k + 1, by omega, ⟨rfl, by omega⟩, ?_⟩
        refine weak_by (fun _ _ => [(0, some 0), (1, some 1)]) ?_ ?_ rfl
        · repeat' (first | exact True.intro | (refine ⟨⟨_, rfl, ?_⟩, ?_⟩) | exact VRen.kf rfl | exact VRen.loc rfl | exact VRen.vec rfl rfl rfl)
        · repeat' (first | exact ⟨Nat.le_refl _, rfl, fun a t ha ht => VLe.of_eq (congrArg (V.int .i64) ((if_pos ha).trans (mix_start _ _ _ _ _ rfl).symm))⟩ | exact True.intro | (refine ⟨⟨_, rfl, ?_⟩, ?_⟩) | exact VRen.kf rfl | (refine And.intro ?_ ?_))
    · have ek : k = g.ports.length - 1 := by omega
      subst ek
      repeat' ((conv => whnf); first | (refine Br.dec ?_ ?_ <;> intro _ <;> try omega) | (refine Len.mk (by omega) ?_))
      all_goals (conv => whnf)
      refine VLe.fz (dst_len g f).symm (fun h => h) (fun i t hi ht => VLe.of_eq ?_)
      rw [sh_at, vMix, Nat.zero_add, mix_start _ _ _ _ _ rfl, vI, dst_get g f hi]
end Go.Proofs.YtinmenifoebfmaaGreat

namespace Go.Proofs.YtinmenifoebfmaaGreat
open Go.Eng
set_option maxRecDepth 100000
set_option linter.unusedVariables false

/-! ## connected, far -/

theorem rdist_bad (g : G) (hs : g.Small) (hg : g.valid = false) (f : Int) : Ret Tryz.prog 119 [g.v, .int .i64 f] .nilslice := by
  have hval := rvalid_ok g hs
  rw [hg] at hval
  refine ret_frz rfl ?_
  refine fn_rule mixed Tryz.func119 rfl hc119 hr119 rfl ?_
  repeat' ((conv => whnf); first | (refine Br.ff ?_) | (refine (hval _ _).mono ?_; rintro _ _ _ ⟨rfl, rfl, rfl⟩))
  all_goals (conv => whnf)
  exact VLe.rfl
theorem rgrt_nil : Ret Tryz.prog 118 [.nilslice] (.int .i64 (-1)) := by
  refine ret_frz rfl ?_
  refine fn_rule mixed Tryz.func118 rfl hc118 hr118 rfl ?_
  repeat' ((conv => whnf); first | (refine loop_fuel mixed 2 ?_) | (refine Br.ff ?_))
  all_goals (conv => whnf)
  exact VLe.rfl
theorem dst_ne (g : G) (hg : g.valid = true) : 0 < (dst g 0).length := by
  obtain ⟨f1, f2, f3, f4, f5, f6, f7⟩ := val_facts hg
  rw [dst_len]; omega
theorem maxL_pos {l : List Int} (h0 : 0 < l.length) (h : ∀ a ∈ l, 0 ≤ a) : 0 ≤ maxL l (-1) := by
  match l, h0 with
  | a :: r, _ =>
    have := h a (by simp)
    have h1 := maxL_ge r (if a > -1 then a else -1)
    have h2 : a ≤ if a > -1 then a else -1 := by split <;> omega
    simp only [maxL]
    exact Int.le_trans ‹0 ≤ a› (Int.le_trans h2 h1)
theorem rgrt_conn (g : G) (hg : g.valid = true) : (0 ≤ rgrt (dst g 0)) ↔ g.conn = true := by
  rw [G.conn, hg, Bool.true_and, rgrt]
  cases h : negB (dst g 0) with
  | true => simp
  | false => simpa using maxL_pos (dst_ne g hg) (negB_no.1 h)
theorem rconn_ok (g : G) (hs : g.Small) : Ret Tryz.prog 66 [g.v] (.bool g.conn) := by
  refine ret_frz rfl ?_
  refine fn_rule mixed Tryz.func66 rfl hc66 hr66 rfl ?_
  by_cases hg : g.valid = true
  · obtain ⟨f1, f2, f3, f4, f5, f6, f7⟩ := val_facts hg
    have hd := rdist_ok g hs hg 0 (by omega)
    have hr := rgrt_ok (dst g 0) (by rw [dst_len]; omega)
    have hcn := rgrt_conn g hg
    repeat' ((conv => whnf); first | (refine Br.dec ?_ ?_ <;> intro _ <;> try omega) | (refine (hd _ _).mono ?_; rintro _ _ _ ⟨rfl, rfl, rfl⟩) | (refine (hr _ _).mono ?_; rintro _ _ _ ⟨rfl, rfl, rfl⟩))
    all_goals (conv => whnf)
    · rename_i h; exact VLe.bool (hcn.1 h).symm
    · rename_i h
      refine VLe.bool ?_
      cases e : g.conn with
      | false => rfl
      | true => exact (h (hcn.2 e)).elim
  · simp only [Bool.not_eq_true] at hg
    have hd := rdist_bad g hs hg 0
    have hn := rgrt_nil
    rw [G.conn, hg]
    repeat' ((conv => whnf); first | (refine Br.ff ?_) | (refine (hd _ _).mono ?_; rintro _ _ _ ⟨rfl, rfl, rfl⟩) | (refine (hn _ _).mono ?_; rintro _ _ _ ⟨rfl, rfl, rfl⟩))
    all_goals (conv => whnf)
    exact VLe.rfl
def G.ecc (g : G) : Int := if g.conn then maxL (dst g 0) (-1) else -1
theorem dst_le (g : G) {v : Nat} (hv : v < g.ports.length) : -1 ≤ gI (dst g 0) v ∧ gI (dst g 0) v < g.ports.length := by
  rw [dst_get g 0 hv]
  have := lay_low g.ports 0 (g.ports.length - 1) v
  omega
theorem ecc_range (g : G) (hg : g.conn = true) : 0 ≤ g.ecc ∧ g.ecc ≤ 23 := by
  obtain ⟨h1, h2⟩ := conn_facts hg
  obtain ⟨f1, f2, f3, f4, f5, f6, f7⟩ := val_facts h1
  rw [G.ecc, if_pos hg]
  refine ⟨maxL_pos (dst_ne g h1) (fun a ha => ?_), maxL_le _ _ _ (by omega) (fun a ha => ?_)⟩
  · obtain ⟨i, hi, rfl⟩ := gI_get ha
    exact h2 i (by rw [dst_len] at hi; exact hi)
  · obtain ⟨i, hi, rfl⟩ := gI_get ha
    rw [dst_len] at hi
    have := dst_le g hi
    omega
theorem ecc_ok (g : G) (hs : g.Small) : Ret Tryz.prog 74 [g.v, .int .i64 0] (.int .i64 g.ecc) := by
  have hcn := conn_ok g hs
  refine ret_frz rfl ?_
  refine fn_rule mixed Tryz.func74 rfl hc74 hr74 rfl ?_
  rw [G.ecc]
  cases hc : g.conn with
  | true =>
    obtain ⟨h1, _⟩ := conn_facts hc
    obtain ⟨f1, f2, f3, f4, f5, f6, f7⟩ := val_facts h1
    have hd := search_ok g h1 0 (by omega)
    have hr := grt_ok (dst g 0) (by rw [dst_len]; omega)
    rw [hc] at hcn
    repeat' ((conv => whnf); first | (refine Br.tt ?_) | (refine Br.ff ?_) | (refine Br.dec ?_ ?_ <;> intro _ <;> try omega) | (refine (hcn _ _).mono ?_; rintro _ _ _ ⟨rfl, rfl, rfl⟩) | (refine (hd _ _).mono ?_; rintro _ _ _ ⟨rfl, rfl, rfl⟩) | (refine (hr _ _).mono ?_; rintro _ _ _ ⟨rfl, rfl, rfl⟩))
    all_goals (conv => whnf)
    exact VLe.rfl
  | false =>
    rw [hc] at hcn
    repeat' ((conv => whnf); first | (refine Br.ff ?_) | (refine (hcn _ _).mono ?_; rintro _ _ _ ⟨rfl, rfl, rfl⟩))
    all_goals (conv => whnf)
    exact VLe.rfl
theorem recc_ok (g : G) (hs : g.Small) (hg : g.conn = true) : Ret Tryz.prog 75 [g.v, .int .i64 0] (.int .i64 g.ecc) := by
  obtain ⟨h1, h2⟩ := conn_facts hg
  obtain ⟨f1, f2, f3, f4, f5, f6, f7⟩ := val_facts h1
  have hd := rdist_ok g hs h1 0 (by omega)
  have hr := rgrt_ok (dst g 0) (by rw [dst_len]; omega)
  have e : rgrt (dst g 0) = g.ecc := by
    rw [rgrt, G.ecc, if_pos hg, negB_no.2 (fun a ha => ?_), if_neg (by simp)]
    obtain ⟨i, hi, rfl⟩ := gI_get ha
    exact h2 i (by rw [dst_len] at hi; exact hi)
  rw [e] at hr
  refine ret_frz rfl ?_
  refine fn_rule mixed Tryz.func75 rfl hc75 hr75 rfl ?_
  repeat' ((conv => whnf); first | (refine (hd _ _).mono ?_; rintro _ _ _ ⟨rfl, rfl, rfl⟩) | (refine (hr _ _).mono ?_; rintro _ _ _ ⟨rfl, rfl, rfl⟩))
  all_goals (conv => whnf)
  exact VLe.rfl
theorem distances_ok (g : G) (hs : g.Small) (hg : g.valid = true) : Ret Tryz.prog 122 [g.v, .int .i64 0] (.fz (dst g 0).length 1 false (vI (dst g 0))) := by
  obtain ⟨f1, f2, f3, f4, f5, f6, f7⟩ := val_facts hg
  have hval := valid_ok g hs
  rw [hg] at hval
  have hd := search_ok g hg 0 (by omega)
  refine ret_frz rfl ?_
  refine fn_rule mixed Tryz.func122 rfl hc122 hr122 rfl ?_
  repeat' ((conv => whnf); first | (refine Br.tt ?_) | (refine Br.ff ?_) | (refine Br.dec ?_ ?_ <;> intro _ <;> try omega) | (refine (hval _ _).mono ?_; rintro _ _ _ ⟨rfl, rfl, rfl⟩) | (refine (hd _ _).mono ?_; rintro _ _ _ ⟨rfl, rfl, rfl⟩))
  all_goals (conv => whnf)
  exact VLe.rfl

/-! ## first ports -/

abbrev Lt2' := List (Int × Int)
theorem gF_drop' {l : Lt2'} {i : Nat} (h : i < l.length) : l.drop i = gF l i :: l.drop (i + 1) := by
  rw [List.drop_eq_getElem_cons h]
  simp only [gF, List.getD, List.getElem?_eq_getElem h, Option.getD_some]
def fpI (p : Int × Int → Bool) : Nat → Lt2' → Int
  | _, [] => -1
  | k, l :: r => if p l then k else fpI p (k + 1) r
theorem fpI_split (p : Int × Int → Bool) : ∀ (l : Lt2') (k i : Nat), i ≤ l.length → (∀ a ∈ l.take i, p a = false) → fpI p k l = fpI p (k + i) (l.drop i)
  | _, k, 0, _, _ => by simp
  | [], k, i + 1, h, _ => by simp at h
  | a :: r, k, i + 1, h, h2 => by
    have ha : p a = false := h2 a (by simp)
    simp only [fpI, ha, List.drop_succ_cons]
    rw [if_neg (by simp), fpI_split p r (k + 1) i (by simpa using h) (fun x hx => h2 x (by simp [hx]))]
    congr 1
    omega
theorem fpI_range (p : Int × Int → Bool) : ∀ (l : Lt2') (k : Nat), fpI p k l = -1 ∨ ((k : Int) ≤ fpI p k l ∧ fpI p k l < (k + l.length : Nat))
  | [], k => .inl rfl
  | a :: r, k => by
    simp only [fpI]
    split
    · right; simp; omega
    · rcases fpI_range p r (k + 1) with h | h
      · exact .inl h
      · right; simp at *; omega
/-- the port towards node 0 -/
def nearB (g : G) (v : Nat) (l : Int × Int) : Bool := decide (gI (dst g 0) l.1.toNat = gI (dst g 0) v - 1)
def upI (g : G) (v : Nat) : Int := fpI (nearB g v) 0 (gR g.ports v)
def dV (g : G) : V := .fz (dst g 0).length 1 false (vI (dst g 0))
theorem right1_ok (g : G) (hg : g.valid = true) (v : Nat) (hv : v < g.ports.length) (i : Nat) (hi : i < (gR g.ports v).length) :
    Ret Tryz.prog 169 [.agg [.int .i64 (gF (gR g.ports v) i).1, .int .i64 (gF (gR g.ports v) i).2], .fe 1 1 (tab [[dV g]]) 0 0, .fe 1 1 (tab [[.int .i64 v]]) 0 0] (.bool (nearB g v (gF (gR g.ports v) i))) := by
  obtain ⟨f1, f2, f3, f4, f5, f6, f7⟩ := val_facts hg
  have hr := okR_to' (f6 v hv) hi
  have hl := dst_len g 0
  have h1 := dst_le g hv
  refine ret_frz rfl ?_
  refine fn_rule mixed Tryz.func169 rfl hc169 hr169 rfl ?_
  repeat' ((conv => whnf); first | (refine Br.dec ?_ ?_ <;> intro _ <;> try omega) | (refine Ar.i64 (by omega) (by omega) ?_) | (refine Ix.nat (by omega) ?_) | (refine Ix.int (by omega) (by omega) ?_))
  all_goals (conv => whnf)
  · rename_i h; exact VLe.bool (decide_eq_true h).symm
  · rename_i h; exact VLe.bool (decide_eq_false h).symm
theorem fp_ok (g : G) (hg : g.valid = true) (v : Nat) (hv : v < g.ports.length) :
    CallF Tryz.prog 103 [g.v, .int .i64 v, .fn (.func 169) false [.loc 1 0, .loc 0 0]] [(1, .cells [dV g]), (0, .cells [.int .i64 v])] [2, 3, 4, 5, 6, 7, 8, 9, 10, 11, 12, 13, 14, 15, 16, 17, 18, 19, 20, 21, 22, 23, 24, 25, 26, 27, 28, 29] fun X own' _ => X = .int .i64 (upI g v) ∧ own' = [(1, .cells [dV g]), (0, .cells [.int .i64 v])] := by
  have hrl := row_le' hg v
  refine call_post ?_
  refine fn_rule mixed Tryz.func103 rfl hc103 hr103 rfl ?_
  repeat' ((conv => whnf); first | (refine Ix.nat (by omega) ?_))
  all_goals (conv => whnf)
  refine loop_r mixed [2, 13, 14] (fun i : Nat => [(15, .int .i64 i)]) (fun m i => m = (gR g.ports v).length - i ∧ i ≤ (gR g.ports v).length ∧ ∀ l ∈ (gR g.ports v).take i, nearB g v l = false) (gR g.ports v).length 0 ⟨rfl, Nat.zero_le _, by simp⟩ ?_ ?_
  · refine weak_by (fun _ _ => [(0, some 0), (1, some 1), (2, some 2)]) ?_ ?_ rfl
    · repeat' (first | exact True.intro | (refine VRen.fn ?_) | (refine ⟨⟨_, rfl, ?_⟩, ?_⟩) | exact VRen.kf rfl | exact VRen.loc rfl | (refine And.intro ?_ ?_))
    · repeat' (first | exact True.intro | (refine ⟨⟨_, rfl, ?_⟩, ?_⟩) | exact VRen.kf rfl | (refine And.intro ?_ ?_))
  rintro m i ⟨hm, hi, hall⟩
  by_cases hil : i < (gR g.ports v).length
  · have h1 := right1_ok g hg v hv i hil
    cases hb : nearB g v (gF (gR g.ports v) i) with
    | true =>
      rw [hb] at h1
      repeat' ((conv => whnf); first | (refine Br.tt ?_) | (refine Br.dec ?_ ?_ <;> intro _ <;> try omega) | (refine Ix.nat (by omega) ?_) | (refine Chk.mk (by kernel_rfl) ?_) | (refine call_lend h1 rfl ⟨VLe.rfl, VLe.rfl, VLe.rfl, True.intro⟩ ?_))
      all_goals (conv => whnf)
      have e : upI g v = i := by rw [upI, fpI_split _ _ 0 i hi hall, gF_drop' hil, fpI, if_pos hb]; omega
      exact postR_by (fun _ => [(0, some 0), (1, some 1)]) _ _ ⟨by rw [e], rfl⟩ (VRen.kf rfl) (by repeat' (first | exact True.intro | (refine ⟨⟨_, rfl, ?_⟩, ?_⟩) | exact VRen.kf rfl | (refine And.intro ?_ ?_))) rfl
    | false =>
      rw [hb] at h1
      repeat' ((conv => whnf); first | (refine Br.ff ?_) | (refine Br.dec ?_ ?_ <;> intro _ <;> try omega) | (refine Ar.i64 (by omega) (by omega) ?_) | (refine Ix.nat (by omega) ?_) | (refine Chk.mk (by kernel_rfl) ?_) | (refine call_lend h1 rfl ⟨VLe.rfl, VLe.rfl, VLe.rfl, True.intro⟩ ?_))
      all_goals (conv => whnf)
      refine ⟨(gR g.ports v).length - (i + 1), i + 1, by omega, ⟨rfl, by omega, fun l hl => ?_⟩, ?_⟩
      · rw [gF_take _ i hil] at hl
        rcases List.mem_append.1 hl with h | h
        · exact hall l h
        · simp at h; rw [h]; exact hb
      · refine weak_by (fun _ _ => [(0, some 0), (1, some 1), (2, some 2)]) ?_ ?_ rfl
        · repeat' (first | exact True.intro | (refine VRen.fn ?_) | (refine ⟨⟨_, rfl, ?_⟩, ?_⟩) | exact VRen.kf rfl | exact VRen.loc rfl | (refine And.intro ?_ ?_))
        · repeat' (first | exact True.intro | (refine ⟨⟨_, rfl, ?_⟩, ?_⟩) | exact VRen.kf rfl | (refine And.intro ?_ ?_))
  · repeat' ((conv => whnf); first | (refine Br.dec ?_ ?_ <;> intro _ <;> try omega))
    all_goals (conv => whnf)
    have e : upI g v = -1 := by rw [upI, fpI_split _ _ 0 i hi hall, List.drop_of_length_le (by omega)]; rfl
    exact postR_by (fun _ => [(0, some 0), (1, some 1)]) _ _ ⟨by rw [e], rfl⟩ (VRen.kf rfl) (by repeat' (first | exact True.intro | (refine ⟨⟨_, rfl, ?_⟩, ?_⟩) | exact VRen.kf rfl | (refine And.intro ?_ ?_))) rfl
end Go.Proofs.YtinmenifoebfmaaGreat

namespace Go.Proofs.YtinmenifoebfmaaGreat
open Go.Eng
set_option maxRecDepth 100000
set_option linter.unusedVariables false

/-! ## trees towards node 0 -/

theorem equal_ok (a b : List Int) (ha : a.length ≤ 9223372036854775807) (hb : b.length ≤ 9223372036854775807) : Ret Tryz.prog 170 [.fz a.length 1 false (vI a), .fz b.length 1 false (vI b)] (.bool (decide (a = b))) := by
  refine ret_frz rfl ?_
  refine fn_rule mixed Tryz.func170 rfl hc170 hr170 rfl ?_
  repeat' ((conv => whnf); first | (refine Br.bne ?_ ?_ <;> intro _ <;> try omega))
  all_goals (conv => whnf)
  · exact VLe.bool (by rw [decide_eq_false (fun h => by subst h; omega)])
  refine loop_r mixed [0, 1, 12] (fun i : Nat => [(13, .int .i64 i)]) (fun m i => m = a.length - i ∧ i ≤ a.length ∧ ∀ j, j < i → gI a j = gI b j) a.length 0 ⟨rfl, Nat.zero_le _, fun j hj => by omega⟩ ?_ ?_
  · refine weak_by (fun _ _ => []) ?_ ?_ rfl
    · repeat' (first | exact True.intro | (refine ⟨⟨_, rfl, ?_⟩, ?_⟩) | exact VRen.kf rfl)
    · repeat' (first | exact True.intro)
  rintro m i ⟨hm, hi, hall⟩
  repeat' ((conv => whnf); first | (refine Br.dec ?_ ?_ <;> intro _ <;> try omega) | (refine Br.bne ?_ ?_ <;> intro _ <;> try omega) | (refine Ar.i64 (by omega) (by omega) ?_) | (refine Ix.nat (by omega) ?_))
  all_goals (conv => whnf)
  · rename_i hne
    exact VLe.bool (by rw [decide_eq_false (fun h => by subst h; exact hne rfl)])
  · refine ⟨a.length - (i + 1), i + 1, by omega, ⟨rfl, by omega, fun j hj => ?_⟩, ?_⟩
    · by_cases e : j = i
      · subst e; assumption
      · exact hall j (by omega)
    · refine weak_by (fun _ _ => []) ?_ ?_ rfl
      · repeat' (first | exact True.intro | (refine ⟨⟨_, rfl, ?_⟩, ?_⟩) | exact VRen.kf rfl)
      · repeat' (first | exact True.intro)
  · have e : a = b := List.ext_getElem (by omega) (fun j h1 h2 => by
      have := hall j (by omega)
      simpa [gI, List.getD, List.getElem?_eq_getElem h1, List.getElem?_eq_getElem h2] using this)
    exact VLe.bool (by rw [decide_eq_true e])

theorem two_le' (a b : Int) (f : Nat → Nat → V) (h0 : f 0 0 = .int .i64 a) (h1 : f 1 0 = .int .i64 b) : ∀ i j : Nat, i < 2 → j < 1 → VLe (f i j) (vI [a, b] i j) := by
  intro i j hi hj
  obtain rfl : j = 0 := by omega
  rcases (show i = 0 ∨ i = 1 by omega) with rfl | rfl
  · rw [h0]; exact VLe.rfl
  · rw [h1]; exact VLe.rfl
theorem right_ok (g : G) (hg : g.valid = true) (v : Nat) (hv : v < g.ports.length) (st : List Int) (hst : st.length ≤ 9223372036854775807) :
    Ret Tryz.prog 123 [g.v, .int .i64 v, dV g, .fz st.length 1 false (vI st)] (.bool (decide (st = [gI (dst g 0) v, upI g v]))) := by
  have hfp := fp_ok g hg v hv
  have hl := dst_len g 0
  have he := equal_ok st [gI (dst g 0) v, upI g v] hst (by simp)
  refine ret_frz rfl ?_
  refine fn_rule mixed Tryz.func123 rfl hc123 hr123 rfl ?_
  repeat' ((conv => whnf); first | (refine Br.dec ?_ ?_ <;> intro _ <;> try omega) | (refine Ix.nat (by omega) ?_) | (refine call_by [(0, some 1), (1, some 2)] [] (hfp.mono ?_) ⟨VRen.kf rfl, VRen.int rfl, VRen.fn ⟨VRen.loc rfl, VRen.loc rfl, True.intro⟩, True.intro⟩ (by repeat' (first | exact True.intro | (refine ⟨⟨_, rfl, ?_⟩, ?_⟩) | exact VRen.kf rfl | (refine And.intro ?_ ?_))) rfl; rintro _ _ _ ⟨rfl, rfl⟩) | (refine Chk.mk rfl ?_) | (refine call_lend he rfl ⟨by decide, VLe.rfl, VLe.fz rfl (fun h => h) (two_le' _ _ _ rfl rfl), True.intro⟩ ?_))
  all_goals (conv => whnf)
  all_goals exact VLe.bool (Eq.symm (by first | assumption | exact decide_eq_true (by assumption) | exact decide_eq_false (by assumption)))

theorem bfit_ok (g : G) (hs : g.Small) : Ret Tryz.prog 168 [g.v] (.bool g.conn) := by
  have h := conn_ok g hs
  refine ret_frz rfl ?_
  refine fn_rule mixed Tryz.func168 rfl hc168 hr168 rfl ?_
  cases hc : g.conn
  all_goals rw [hc] at h
  all_goals
    repeat' ((conv => whnf); first | (refine Br.tt ?_) | (refine Br.ff ?_) | (refine (h _ _).mono ?_; rintro _ _ _ ⟨rfl, rfl, rfl⟩))
    all_goals (conv => whnf)
    exact VLe.rfl
def G.bconf (g : G) (c : Cf) : Bool := conf g.ids.length 2 (bG g [(g.ids.length : Int), -1]) c
theorem bconfiguration_ok (g : G) (hs : g.Small) (c : Cf) (hc : CSmall c) : Ret Tryz.prog 121 [g.v, cV c] (.bool (g.conn && g.bconf c)) := by
  have hf := bfit_ok g hs
  refine ret_frz rfl ?_
  refine fn_rule mixed Tryz.func121 rfl hc121 hr121 rfl ?_
  cases hg : g.conn with
  | true =>
    rw [hg] at hf
    rw [Bool.true_and]
    obtain ⟨h1, _⟩ := conn_facts hg
    obtain ⟨f1, f2, f3, f4, f5, f6, f7⟩ := val_facts h1
    have hb := bconf_ok g hs f3 c hc [(g.ids.length : Int), -1] (by simp)
    rw [show conf g.ids.length [(g.ids.length : Int), -1].length (bG g [(g.ids.length : Int), -1]) c = g.bconf c from rfl] at hb
    repeat' ((conv => whnf); first | (refine Br.tt ?_) | (refine (hf _ _).mono ?_; rintro _ _ _ ⟨rfl, rfl, rfl⟩) | (refine call_frz [1] hb ⟨by decide, VLe.rfl, VLe.rfl, VLe.fz rfl (fun h => h) (two_le' _ _ _ rfl rfl), True.intro⟩ ?_) | (refine Br.any (fun _ => ?_) (fun _ => ?_)))
    all_goals (conv => whnf)
    all_goals exact VLe.bool (Eq.symm (by first | assumption | exact decide_eq_true (by assumption) | exact decide_eq_false (by assumption)))
  | false =>
    rw [hg] at hf
    repeat' ((conv => whnf); first | (refine Br.ff ?_) | (refine (hf _ _).mono ?_; rintro _ _ _ ⟨rfl, rfl, rfl⟩))
    all_goals (conv => whnf)
    all_goals exact VLe.rfl

/-- distances and ports as they should be -/
def treeB (g : G) (c : Cf) : Bool := decide (∀ v, v < c.length → gI (gC c v) 0 = gI (dst g 0) v ∧ gI (gC c v) 1 = upI g v)
theorem treeB_iff {g : G} {c : Cf} : treeB g c = true ↔ ∀ v, v < c.length → gI (gC c v) 0 = gI (dst g 0) v ∧ gI (gC c v) 1 = upI g v := by rw [treeB, decide_eq_true_eq]
theorem list2 {l : List Int} {a b : Int} (h : l.length = 2) : l = [a, b] ↔ gI l 0 = a ∧ gI l 1 = b := by
  match l, h with
  | [x, y], _ => simp [gI]
theorem blegit_ok (g : G) (hs : g.Small) (c : Cf) (hc : CSmall c) : Ret Tryz.prog 68 [g.v, cV c] (.bool (g.conn && g.bconf c && treeB g c)) := by
  have h0 := bconfiguration_ok g hs c hc
  refine ret_frz rfl ?_
  refine fn_rule mixed Tryz.func68 rfl hc68 hr68 rfl ?_
  cases hgc : g.conn && g.bconf c with
  | false =>
    rw [hgc] at h0
    repeat' ((conv => whnf); first | (refine Br.ff ?_) | (refine (h0 _ _).mono ?_; rintro _ _ _ ⟨rfl, rfl, rfl⟩))
    all_goals (conv => whnf)
    exact VLe.rfl
  | true =>
    rw [hgc] at h0
    rw [Bool.true_and]
    rw [Bool.and_eq_true] at hgc
    obtain ⟨h1, _⟩ := conn_facts hgc.1
    obtain ⟨f1, f2, f3, f4, f5, f6, f7⟩ := val_facts h1
    have hcf := conf_iff.1 hgc.2
    have hd := distances_ok g hs h1
    repeat' ((conv => whnf); first | (refine Br.tt ?_) | (refine (h0 _ _).mono ?_; rintro _ _ _ ⟨rfl, rfl, rfl⟩) | (refine (hd _ _).mono ?_; rintro _ _ _ ⟨rfl, rfl, rfl⟩))
    all_goals (conv => whnf)
    refine loop_r mixed [2, 5, 14, 15] (fun i : Nat => [(16, .int .i64 i)]) (fun m i => m = c.length - i ∧ i ≤ c.length ∧ ∀ v, v < i → gI (gC c v) 0 = gI (dst g 0) v ∧ gI (gC c v) 1 = upI g v) c.length 0 ⟨rfl, Nat.zero_le _, fun v hv => by omega⟩ ?_ ?_
    · refine weak_by (fun _ _ => [(0, some 0)]) ?_ ?_ rfl
      · repeat' (first | exact True.intro | (refine ⟨⟨_, rfl, ?_⟩, ?_⟩) | exact VRen.kf rfl | exact VRen.loc rfl)
      · repeat' (first | exact True.intro | (refine ⟨⟨_, rfl, ?_⟩, ?_⟩) | exact VRen.kf rfl | (refine And.intro ?_ ?_))
    rintro m i ⟨hm, hi, hall⟩
    by_cases hil : i < c.length
    · have hrow := (hcf.2 i (by omega)).1
      have hr := right_ok g h1 i (by omega) (gC c i) (by omega)
      cases hdd : decide (gC c i = [gI (dst g 0) i, upI g i]) with
      | true =>
        rw [hdd] at hr
        have h2 := (list2 hrow).1 (of_decide_eq_true hdd)
        repeat' ((conv => whnf); first | (refine Br.tt ?_) | (refine Br.dec ?_ ?_ <;> intro _ <;> try omega) | (refine Ar.i64 (by omega) (by omega) ?_) | (refine Ix.nat (by omega) ?_) | (refine (hr _ _).mono ?_; rintro _ _ _ ⟨rfl, rfl, rfl⟩))
        all_goals (conv => whnf)
        refine ⟨c.length - (i + 1), i + 1, by omega, ⟨rfl, by omega, fun v hv => ?_⟩, ?_⟩
        · by_cases e : v = i
          · subst e; exact h2
          · exact hall v (by omega)
        · refine weak_by (fun _ _ => [(0, some 0)]) ?_ ?_ rfl
          · repeat' (first | exact True.intro | (refine ⟨⟨_, rfl, ?_⟩, ?_⟩) | exact VRen.kf rfl | exact VRen.loc rfl)
          · repeat' (first | exact True.intro | (refine ⟨⟨_, rfl, ?_⟩, ?_⟩) | exact VRen.kf rfl | (refine And.intro ?_ ?_))
      | false =>
        rw [hdd] at hr
        repeat' ((conv => whnf); first | (refine Br.ff ?_) | (refine Br.dec ?_ ?_ <;> intro _ <;> try omega) | (refine Ix.nat (by omega) ?_) | (refine (hr _ _).mono ?_; rintro _ _ _ ⟨rfl, rfl, rfl⟩))
        all_goals (conv => whnf)
        refine VLe.bool ?_
        cases e : treeB g c with
        | false => rfl
        | true => exact (of_decide_eq_false hdd ((list2 hrow).2 (treeB_iff.1 e i hil))).elim
    · repeat' ((conv => whnf); first | (refine Br.dec ?_ ?_ <;> intro _ <;> try omega))
      all_goals (conv => whnf)
      exact VLe.bool (treeB_iff.2 (fun v hv => hall v (by omega))).symm
end Go.Proofs.YtinmenifoebfmaaGreat

namespace Go.Proofs.YtinmenifoebfmaaGreat
open Go.Eng
set_option maxRecDepth 100000
set_option linter.unusedVariables false

/-! ## configurations of the clock -/

def bC (g : G) (v x : Nat) : Int × Int := if x = 0 then (0, g.ids.length) else if x = 1 then (-1, ((gR g.ports v).length : Int) - 1) else (0, 3)
def G.cconf (g : G) (c : Cf) : Bool := conf g.ids.length 3 (bC g) c
theorem conf_ext' {n m : Nat} {B B' : Nat → Nat → Int × Int} {c : Cf} (h : ∀ v x, v < n → x < m → B v x = B' v x) : conf n m B c = conf n m B' c := by
  rw [Bool.eq_iff_iff, conf_iff, conf_iff]
  refine ⟨fun ⟨a, b⟩ => ⟨a, fun v hv => ⟨(b v hv).1, fun x hx => by rw [← h v x hv hx]; exact (b v hv).2 x hx⟩⟩, fun ⟨a, b⟩ => ⟨a, fun v hv => ⟨(b v hv).1, fun x hx => by rw [h v x hv hx]; exact (b v hv).2 x hx⟩⟩⟩
theorem cconf_g (g : G) (c : Cf) : conf g.ids.length [(g.ids.length : Int), -1, 3].length (bG g [(g.ids.length : Int), -1, 3]) c = g.cconf c := conf_ext' (fun v x hv hx => by
  have e : x = 0 ∨ x = 1 ∨ x = 2 := by simp at hx; omega
  rcases e with rfl | rfl | rfl
  · rw [bG, show gI [(g.ids.length : Int), -1, 3] 0 = g.ids.length from rfl, if_neg (by omega)]; rfl
  · rfl
  · rfl)
def vC' : List Vr := [⟨ByteArray.mk #[100], 1, 0, 0, 1, 0⟩, ⟨ByteArray.mk #[112], 3, 0, 0, 0, 0⟩, ⟨ByteArray.mk #[120], 1, 0, 3, 0, 0⟩]
theorem vC_ok : VOk vC' := ⟨by decide, fun x => by
  rcases x with _ | _ | _ | x
  · decide
  · decide
  · decide
  · have : gV vC' (x + 3) = default := by simp [gV, vC', List.getD]
    rw [this]; decide⟩
theorem cconf_v (g : G) (hg : g.valid = true) (c : Cf) : (g.valid && conf g.ports.length vC'.length (bV g vC') c) = g.cconf c := by
  obtain ⟨f1, f2, f3, f4, f5, f6, f7⟩ := val_facts hg
  rw [hg, Bool.true_and, f3]
  refine conf_ext' (fun v x hv hx => ?_)
  have e : x = 0 ∨ x = 1 ∨ x = 2 := by simp [vC'] at hx; omega
  rcases e with rfl | rfl | rfl
  · show (0, 0 + 1 * (g.ports.length : Int) + 0 * maxL g.ids 0) = (0, (g.ids.length : Int))
    rw [f3]; congr 1; omega
  · rfl
  · show (0, 3 + 0 * (g.ports.length : Int) + 0 * maxL g.ids 0) = (0, 3)
    congr 1; omega
theorem cconf_facts {g : G} {c : Cf} (h : g.cconf c = true) : c.length = g.ids.length ∧ ∀ v, v < c.length → (gC c v).length = 3 ∧ 0 ≤ gI (gC c v) 0 ∧ gI (gC c v) 0 ≤ g.ids.length ∧ -1 ≤ gI (gC c v) 1 ∧ gI (gC c v) 1 < (gR g.ports v).length ∧ 0 ≤ gI (gC c v) 2 ∧ gI (gC c v) 2 ≤ 3 := by
  have := conf_iff.1 h
  refine ⟨this.1, fun v hv => ?_⟩
  have h2 := this.2 v (by omega)
  have h3 := h2.2 0 (by omega)
  have h4 := h2.2 1 (by omega)
  have h5 := h2.2 2 (by omega)
  simp only [bC, if_true, Nat.one_ne_zero, if_false, show ¬ (2 : Nat) = 0 by decide, show ¬ (2 : Nat) = 1 by decide] at h3 h4 h5
  omega
theorem three_le (a b d : Int) (f : Nat → Nat → V) (h0 : f 0 0 = .int .i64 a) (h1 : f 1 0 = .int .i64 b) (h2 : f 2 0 = .int .i64 d) : ∀ i j : Nat, i < 3 → j < 1 → VLe (f i j) (vI [a, b, d] i j) := by
  intro i j hi hj
  obtain rfl : j = 0 := by omega
  rcases (show i = 0 ∨ i = 1 ∨ i = 2 by omega) with rfl | rfl | rfl
  · rw [h0]; exact VLe.rfl
  · rw [h1]; exact VLe.rfl
  · rw [h2]; exact VLe.rfl

theorem cfit_ok (g : G) (hs : g.Small) : Ret Tryz.prog 28 [g.v] (.bool g.conn) := by
  have h := conn_ok g hs
  refine ret_frz rfl ?_
  refine fn_rule mixed Tryz.func28 rfl hc28 hr28 rfl ?_
  cases hc : g.conn
  all_goals rw [hc] at h
  all_goals
    repeat' ((conv => whnf); first | (refine Br.tt ?_) | (refine Br.ff ?_) | (refine (h _ _).mono ?_; rintro _ _ _ ⟨rfl, rfl, rfl⟩))
    all_goals (conv => whnf)
    exact VLe.rfl
theorem rcfit_ok (g : G) (hs : g.Small) : Ret Tryz.prog 29 [g.v] (.bool g.conn) := by
  have h := rconn_ok g hs
  refine ret_frz rfl ?_
  refine fn_rule mixed Tryz.func29 rfl hc29 hr29 rfl ?_
  cases hc : g.conn
  all_goals rw [hc] at h
  all_goals
    repeat' ((conv => whnf); first | (refine Br.tt ?_) | (refine Br.ff ?_) | (refine (h _ _).mono ?_; rintro _ _ _ ⟨rfl, rfl, rfl⟩))
    all_goals (conv => whnf)
    exact VLe.rfl
theorem cconfiguration_ok (g : G) (hs : g.Small) (c : Cf) (hc : CSmall c) : Ret Tryz.prog 67 [g.v, cV c] (.bool (g.conn && g.cconf c)) := by
  have hf := cfit_ok g hs
  refine ret_frz rfl ?_
  refine fn_rule mixed Tryz.func67 rfl hc67 hr67 rfl ?_
  cases hg : g.conn with
  | true =>
    rw [hg] at hf
    rw [Bool.true_and]
    obtain ⟨h1, _⟩ := conn_facts hg
    obtain ⟨f1, f2, f3, f4, f5, f6, f7⟩ := val_facts h1
    have hb := bconf_ok g hs f3 c hc [(g.ids.length : Int), -1, 3] (by simp)
    rw [cconf_g] at hb
    repeat' ((conv => whnf); first | (refine Br.tt ?_) | (refine (hf _ _).mono ?_; rintro _ _ _ ⟨rfl, rfl, rfl⟩) | (refine call_frz [1] hb ⟨by decide, VLe.rfl, VLe.rfl, VLe.fz rfl (fun h => h) (three_le _ _ _ _ rfl rfl rfl), True.intro⟩ ?_) | (refine Br.any (fun _ => ?_) (fun _ => ?_)))
    all_goals (conv => whnf)
    all_goals exact VLe.bool (Eq.symm (by assumption))
  | false =>
    rw [hg] at hf
    repeat' ((conv => whnf); first | (refine Br.ff ?_) | (refine (hf _ _).mono ?_; rintro _ _ _ ⟨rfl, rfl, rfl⟩))
    all_goals (conv => whnf)
    all_goals exact VLe.rfl
theorem cnumber_ok (s : ByteArray) (a b d : Int) : Ret Tryz.prog 58 [.str s, .int .i64 a, .int .i64 b, .int .i64 d] (.agg [.str s, .int .i64 1, .int .i64 0, .int .i64 a, .int .i64 b, .int .i64 d]) := by
  refine ret_frz rfl ?_
  refine fn_rule mixed Tryz.func58 rfl hc58 hr58 rfl ?_
  repeat' ((conv => whnf); first | fail)
  all_goals (conv => whnf)
  exact VLe.rfl
theorem cpointer_ok (s : ByteArray) : Ret Tryz.prog 54 [.str s] (.agg [.str s, .int .i64 3, .int .i64 0, .int .i64 0, .int .i64 0, .int .i64 0]) := by
  refine ret_frz rfl ?_
  refine fn_rule mixed Tryz.func54 rfl hc54 hr54 rfl ?_
  repeat' ((conv => whnf); first | fail)
  all_goals (conv => whnf)
  exact VLe.rfl
theorem cvars_ok : Ret Tryz.prog 24 [] (.fz vC'.length 6 false (vV vC')) := by
  refine ret_frz rfl ?_
  refine fn_rule mixed Tryz.func24 rfl hc24 hr24 rfl ?_
  repeat' ((conv => whnf); first | (refine Br.tt ?_) | (refine Len.mk (by omega) ?_) | (refine fn_rule mixed Tryz.func64 rfl hc64 hr64 rfl ?_) | (refine (cnumber_ok _ _ _ _ _ _).mono ?_; rintro _ _ _ ⟨rfl, rfl, rfl⟩) | (refine (cpointer_ok _ _ _).mono ?_; rintro _ _ _ ⟨rfl, rfl, rfl⟩))
  all_goals (conv => whnf)
  refine VLe.fz rfl (fun h => h) (fun i j hi hj => ?_)
  rcases (show i = 0 ∨ i = 1 ∨ i = 2 by omega) with rfl | rfl | rfl
  all_goals
    rcases (show j = 0 ∨ j = 1 ∨ j = 2 ∨ j = 3 ∨ j = 4 ∨ j = 5 by omega) with rfl | rfl | rfl | rfl | rfl | rfl
  all_goals exact VLe.of_eq rfl

/-! ## the parts -/

def tkC (c : Cf) : Cf := c.map fun r => r.take 2
theorem tkC_len (c : Cf) : (tkC c).length = c.length := by simp [tkC]
theorem tkC_row (c : Cf) (v : Nat) : gC (tkC c) v = (gC c v).take 2 := by
  simp only [gC, tkC, List.getD, List.getElem?_map]
  cases c[v]? <;> simp
theorem gI_take2 (l : List Int) (i : Nat) (hi : i < 2) : gI (l.take 2) i = gI l i := by
  simp only [gI, List.getD, List.getElem?_take, hi, if_true]
def rowsTk (c : Cf) (v : Nat) : Nat → Nat → V := fun i _ => if i < v then .fz 2 1 false (vI (gC c i)) else .nilslice
theorem vle_tk (c : Cf) (v i t : Nat) (f : Bool) (F : Nat → Nat → V) (hF : ∀ a b, VLe (F a b) (vI (gC c v) a b)) (ht : t < 1) : VLe (fset (rowsTk c v) v 0 [.fz 2 1 f F] i t) (rowsTk c (v + 1) i t) := by
  obtain rfl : t = 0 := by omega
  by_cases h : i = v
  · subst h
    have e1 : fset (rowsTk c i) i 0 [.fz 2 1 f F] i 0 = .fz 2 1 f F := by simp [fset]
    have e2 : rowsTk c (i + 1) i 0 = .fz 2 1 false (vI (gC c i)) := if_pos (by omega)
    rw [e1, e2]
    exact VLe.fz rfl (fun h => by cases h) (fun a b _ _ => hF a b)
  · apply VLe.of_eq
    simp only [fset, rowsTk]
    rw [if_neg (by simp [h])]
    by_cases h2 : i < v
    · rw [if_pos h2, if_pos (by omega)]
    · rw [if_neg h2, if_neg (by omega)]
theorem ctree_ok (c : Cf) (hc : c.length ≤ 1000) (hr : ∀ v, v < c.length → (gC c v).length = 3) : Ret Tryz.prog 69 [cV c] (cV (tkC c)) := by
  refine ret_frz rfl ?_
  refine fn_rule mixed Tryz.func69 rfl hc69 hr69 rfl ?_
  repeat' ((conv => whnf); first | (refine Bd.nat (by omega) ?_) | (refine Len.mk (by omega) ?_) | (refine MkS.vec ?_))
  all_goals (conv => whnf)
  refine loop_w mixed [3, 9, 10] [] [1, 2, 3, 4, 5, 6, 7, 8, 9, 10, 11, 12, 13, 14, 15, 16, 17, 18, 19, 20, 21, 22, 23, 24, 25, 26, 27, 28, 29] [0] (fun v : Nat => [(11, .int .i64 v)]) (fun v => [(0, .vec c.length 1 (rowsTk c v))]) (fun m v => m = c.length - v ∧ v ≤ c.length) c.length 0 ⟨rfl, Nat.zero_le _⟩ rfl (fun _ => rfl) ?_ ?_
  · refine weak_by (fun _ _ => [(0, some 0)]) ?_ ?_ rfl
    · repeat' (first | exact True.intro | (refine ⟨⟨_, rfl, ?_⟩, ?_⟩) | exact VRen.kf rfl | exact VRen.vec rfl rfl rfl)
    · repeat' (first | exact ⟨Nat.le_refl _, rfl, fun i j hi hj => VLe.of_eq (by obtain rfl : j = 0 := (by omega); rfl)⟩ | exact True.intro | (refine ⟨⟨_, rfl, ?_⟩, ?_⟩))
  rintro m v ⟨hm, hv⟩
  by_cases hvn : v < c.length
  · have h3 := hr v hvn
    repeat' ((conv => whnf); first | (refine Bd.mk 2 rfl (by omega) ?_) | (refine Br.dec ?_ ?_ <;> intro _ <;> try omega) | (refine Ar.i64 (by omega) (by omega) ?_) | (refine Ix.nat (by omega) ?_) | (refine Bd.mk 0 rfl (by omega) ?_) | (refine Ltn.mk (by omega) ?_))
    all_goals (conv => whnf)
    refine ⟨c.length - (v + 1), v + 1, by omega, ⟨rfl, by omega⟩, ?_⟩
    refine weak_by (fun _ _ => [(0, some 0)]) ?_ ?_ rfl
    · repeat' (first | exact True.intro | (refine ⟨⟨_, rfl, ?_⟩, ?_⟩) | exact VRen.kf rfl | exact VRen.vec rfl rfl rfl)
    · repeat' (first | exact ⟨Nat.le_refl _, rfl, fun i t hi ht => by simp only [Nat.zero_add]; exact vle_tk c v i t _ _ (fun a b => VLe.of_eq (by simp [shiftF])) ht⟩ | exact True.intro | (refine ⟨⟨_, rfl, ?_⟩, ?_⟩))
  · repeat' ((conv => whnf); first | (refine Br.dec ?_ ?_ <;> intro _ <;> try omega) | (refine Len.mk (by omega) ?_))
    all_goals (conv => whnf)
    refine VLe.fz (tkC_len c).symm (fun h => h) (fun i t hi ht => ?_)
    have e1 : shiftF 0 (rowsTk c v) i t = .fz 2 1 false (vI (gC c i)) := by rw [sh_at, Nat.zero_add]; exact if_pos (by omega)
    have hl : (gC (tkC c) i).length = 2 := by rw [tkC_row, List.length_take, hr i hi]; rfl
    rw [e1]
    show VLe _ (.fz (gC (tkC c) i).length 1 false (vI (gC (tkC c) i)))
    rw [hl]
    refine VLe.fz rfl (fun h => h) (fun a b ha hb => VLe.of_eq ?_)
    simp only [vI]
    rw [tkC_row, gI_take2 _ _ ha]

/-- the neighbour to which a node points, or -1 -/
def tw (g : G) (c : Cf) (v : Nat) : Int := if 0 ≤ gI (gC c v) 1 then (gF (gR g.ports v) (gI (gC c v) 1).toNat).1 else -1
def twL (g : G) (c : Cf) (n : Nat) : List Int := (List.range n).map (tw g c)
theorem twL_len (g : G) (c : Cf) (n : Nat) : (twL g c n).length = n := by simp [twL]
theorem twL_get (g : G) (c : Cf) {n v : Nat} (h : v < n) : gI (twL g c n) v = tw g c v := by simp [twL, gI, h]
def twF (g : G) (c : Cf) (v : Nat) : Nat → Nat → V := fun i _ => .int .i64 (if i < v then tw g c i else 0)
theorem twF_set (g : G) (c : Cf) (v i t : Nat) (x : Int) (hx : x = tw g c v) (ht : t < 1) : VLe (fset (fset (twF g c v) v 0 [.int .i64 (-1)]) v 0 [.int .i64 x] i t) (twF g c (v + 1) i t) := by
  obtain rfl : t = 0 := by omega
  apply VLe.of_eq
  by_cases h : i = v
  · subst h; simp [fset, twF, hx]
  · have h1 : (i < v + 1) = (i < v) := by simp; omega
    simp [fset, twF, h, h1]
theorem twF_set1 (g : G) (c : Cf) (v i t : Nat) (hx : tw g c v = -1) (ht : t < 1) : VLe (fset (twF g c v) v 0 [.int .i64 (-1)] i t) (twF g c (v + 1) i t) := by
  obtain rfl : t = 0 := by omega
  apply VLe.of_eq
  by_cases h : i = v
  · subst h; simp [fset, twF, hx]
  · have h1 : (i < v + 1) = (i < v) := by simp; omega
    simp [fset, twF, h, h1]
/-- ports that are there -/
structure PtOk (g : G) (c : Cf) : Prop where
  len : c.length = g.ports.length
  row : ∀ v, v < c.length → 2 ≤ (gC c v).length ∧ (gC c v).length ≤ 1000
  pt : ∀ v, v < c.length → -1 ≤ gI (gC c v) 1 ∧ gI (gC c v) 1 < (gR g.ports v).length
theorem towards_ok (g : G) (hg : g.valid = true) (c : Cf) (hc : PtOk g c) : Ret Tryz.prog 70 [g.v, cV c, .int .i64 1] (.fz (twL g c c.length).length 1 false (vI (twL g c c.length))) := by
  obtain ⟨f1, f2, f3, f4, f5, f6, f7⟩ := val_facts hg
  have hcl := hc.len
  refine ret_frz rfl ?_
  refine fn_rule mixed Tryz.func70 rfl hc70 hr70 rfl ?_
  repeat' ((conv => whnf); first | (refine Bd.nat (by omega) ?_) | (refine Len.mk (by omega) ?_) | (refine MkS.vec ?_))
  all_goals (conv => whnf)
  refine loop_u mixed [2, 3, 7, 13, 14] [] [2, 3, 4, 5, 6, 7, 8, 9, 10, 11, 12, 13, 14, 15, 16, 17, 18, 19, 20, 21, 22, 23, 24, 25, 26, 27, 28, 29] [1, 0] (fun v : Nat => [(15, .int .i64 v)]) (fun own v => updO own 1 (.vec c.length 1 (twF g c v))) (fun m v => m = c.length - v ∧ v ≤ c.length) c.length 0 ⟨rfl, Nat.zero_le _⟩ rfl (fun _ => rfl) ?_ ?_
  · refine weak_by (fun _ _ => [(0, some 0), (1, some 1)]) ?_ ?_ rfl
    · repeat' (first | exact True.intro | (refine ⟨⟨_, rfl, ?_⟩, ?_⟩) | exact VRen.kf rfl | exact VRen.loc rfl | exact VRen.vec rfl rfl rfl)
    · repeat' (first | exact ⟨Nat.le_refl _, rfl, fun i j hi hj => VLe.of_eq (by obtain rfl : j = 0 := (by omega); rfl)⟩ | exact True.intro | (refine ⟨⟨_, rfl, ?_⟩, ?_⟩) | exact VRen.kf rfl | (refine And.intro ?_ ?_))
  rintro m v ⟨hm, hv⟩
  by_cases hvn : v < c.length
  · have h1 := hc.row v hvn
    have h2 := hc.pt v hvn
    have hrl := row_le' hg v
    repeat' ((conv => whnf); first | (refine Br.dec ?_ ?_ <;> intro _ <;> try omega) | (refine Ar.i64 (by omega) (by omega) ?_) | (refine Ix.nat (by omega) ?_) | (refine Ix.mk 1 rfl (by omega) ?_) | (refine Ix.int (by omega) (by omega) ?_) | (refine Ltn.mk (by omega) ?_))
    all_goals (conv => whnf)
    · rename_i hp
      refine ⟨c.length - (v + 1), v + 1, by omega, ⟨rfl, by omega⟩, ?_⟩
      refine weak_by (fun _ _ => [(0, some 0), (1, some 1)]) ?_ ?_ rfl
      · repeat' (first | exact True.intro | (refine ⟨⟨_, rfl, ?_⟩, ?_⟩) | exact VRen.kf rfl | exact VRen.loc rfl | exact VRen.vec rfl rfl rfl)
      · repeat' (first | exact ⟨Nat.le_refl _, rfl, fun i t hi ht => by simp only [Nat.zero_add]; exact twF_set g c v i t _ (if_pos hp).symm ht⟩ | exact True.intro | (refine ⟨⟨_, rfl, ?_⟩, ?_⟩) | exact VRen.kf rfl | (refine And.intro ?_ ?_))
    · rename_i hp
      refine ⟨c.length - (v + 1), v + 1, by omega, ⟨rfl, by omega⟩, ?_⟩
      refine weak_by (fun _ _ => [(0, some 0), (1, some 1)]) ?_ ?_ rfl
      · repeat' (first | exact True.intro | (refine ⟨⟨_, rfl, ?_⟩, ?_⟩) | exact VRen.kf rfl | exact VRen.loc rfl | exact VRen.vec rfl rfl rfl)
      · repeat' (first | exact ⟨Nat.le_refl _, rfl, fun i t hi ht => by simp only [Nat.zero_add]; exact twF_set1 g c v i t (if_neg hp) ht⟩ | exact True.intro | (refine ⟨⟨_, rfl, ?_⟩, ?_⟩) | exact VRen.kf rfl | (refine And.intro ?_ ?_))
  · repeat' ((conv => whnf); first | (refine Br.dec ?_ ?_ <;> intro _ <;> try omega) | (refine Len.mk (by omega) ?_))
    all_goals (conv => whnf)
    refine VLe.fz (twL_len g c _).symm (fun h => h) (fun i t hi ht => VLe.of_eq ?_)
    rw [sh_at, vI, twL_get g c hi]
    simp only [twF, Nat.zero_add]
    rw [if_pos (by omega)]
end Go.Proofs.YtinmenifoebfmaaGreat

namespace Go.Proofs.YtinmenifoebfmaaGreat
open Go.Eng
set_option maxRecDepth 100000
set_option linter.unusedVariables false

/-! ## who points where -/

theorem lay_back {p : Pt} {f : Nat} : ∀ {k v : Nat}, 0 ≤ lay p f k v → v ≠ f → ∃ l ∈ gR p v, lay p f k l.1.toNat = lay p f k v - 1 ∧ 0 ≤ lay p f k l.1.toNat
  | 0, v, h, hv => by rw [lay, if_neg hv] at h; omega
  | k + 1, v, h, hv => by
    by_cases h0 : 0 ≤ lay p f k v
    · obtain ⟨l, hl, a, b⟩ := lay_back h0 hv
      have e1 : lay p f (k + 1) v = lay p f k v := by rw [lay, if_pos h0]
      have e2 : lay p f (k + 1) l.1.toNat = lay p f k l.1.toNat := by rw [lay, if_pos b]
      exact ⟨l, hl, by rw [e1, e2]; exact a, by rw [e2]; exact b⟩
    · by_cases ha : (gR p v).any (fun l => decide (lay p f k l.1.toNat = k)) = true
      · have e1 : lay p f (k + 1) v = (k : Int) + 1 := by rw [lay, if_neg h0, if_pos ha]
        rw [List.any_eq_true] at ha
        obtain ⟨l, hl, e⟩ := ha
        have e := of_decide_eq_true e
        have e2 : lay p f (k + 1) l.1.toNat = k := by rw [lay, if_pos (by omega)]; exact e
        exact ⟨l, hl, by rw [e1, e2]; omega, by rw [e2]; omega⟩
      · rw [lay, if_neg h0, if_neg ha] at h; omega
theorem fpI_none {p : Int × Int → Bool} : ∀ {l : Lt2'} {k : Nat}, (∀ a ∈ l, p a = false) → fpI p k l = -1
  | [], k, _ => rfl
  | a :: r, k, h => by rw [fpI, h a (by simp), if_neg (by simp)]; exact fpI_none fun b hb => h b (by simp [hb])
theorem fpI_some {p : Int × Int → Bool} : ∀ {l : Lt2'} {k : Nat}, (∃ a ∈ l, p a = true) → 0 ≤ fpI p k l
  | [], k, h => by simp at h
  | a :: r, k, h => by
    rw [fpI]
    split
    · omega
    · rename_i hn
      refine fpI_some ?_
      obtain ⟨b, hb, e⟩ := h
      rcases List.mem_cons.1 hb with rfl | hb
      · exact (hn e).elim
      · exact ⟨b, hb, e⟩
theorem dst_root (g : G) (hg : g.valid = true) : gI (dst g 0) 0 = 0 := by
  obtain ⟨f1, f2, f3, f4, f5, f6, f7⟩ := val_facts hg
  have h : ∀ k, lay g.ports 0 k 0 = 0 := by
    intro k
    induction k with
    | zero => rfl
    | succ k ih => rw [lay, ih]; rfl
  rw [dst_get g 0 (by omega), h]
theorem up_root {g : G} (hg : g.conn = true) : upI g 0 = -1 := by
  obtain ⟨h1, h2⟩ := conn_facts hg
  have hr := (und_of h1).rng 0
  obtain ⟨f1, f2, f3, f4, f5, f6, f7⟩ := val_facts h1
  refine fpI_none fun l hl => decide_eq_false ?_
  have := h2 _ (hr (by omega) l hl)
  rw [dst_root g h1]; omega
theorem up_other {g : G} (hg : g.conn = true) {v : Nat} (hv : v < g.ports.length) (h0 : v ≠ 0) : 0 ≤ upI g v ∧ upI g v < (gR g.ports v).length := by
  obtain ⟨h1, h2⟩ := conn_facts hg
  have hr := (und_of h1).rng v hv
  have hd := h2 v hv
  rw [dst_get g 0 hv] at hd
  obtain ⟨l, hl, a, b⟩ := lay_back hd h0
  have h3 : 0 ≤ upI g v := fpI_some ⟨l, hl, decide_eq_true (by rw [dst_get g 0 (hr l hl), dst_get g 0 hv]; exact a)⟩
  have := fpI_range (nearB g v) (gR g.ports v) 0
  refine ⟨h3, ?_⟩
  unfold upI at *
  omega
theorem ptok {g : G} {c : Cf} (h : g.valid = true) (hc : g.cconf c = true) : PtOk g c := by
  obtain ⟨f1, f2, f3, f4, f5, f6, f7⟩ := val_facts h
  obtain ⟨e1, e2⟩ := cconf_facts hc
  exact ⟨by omega, fun v hv => by have := e2 v hv; omega, fun v hv => by have := e2 v hv; omega⟩
theorem tw_tree {g : G} {c : Cf} (hg : g.conn = true) (hc : g.cconf c = true) (ht : treeB g c = true) {v : Nat} (hv : v < c.length) : (v = 0 → tw g c v = -1) ∧ (v ≠ 0 → 0 ≤ tw g c v ∧ tw g c v < c.length) := by
  obtain ⟨h1, h2⟩ := conn_facts hg
  obtain ⟨f1, f2, f3, f4, f5, f6, f7⟩ := val_facts h1
  have hl := (cconf_facts hc).1
  have h := (treeB_iff.1 ht v hv).2
  refine ⟨fun e => ?_, fun e => ?_⟩
  · subst e; rw [tw, h, up_root hg, if_neg (by omega)]
  · obtain ⟨a, b⟩ := up_other hg (show v < g.ports.length by omega) e
    have := okR_to' (f6 v (by omega)) (i := (upI g v).toNat) (by omega)
    rw [tw, h, if_pos a]
    omega

/-! ## the reference's tree -/

theorem fp_down {p : Int × Int → Bool} {row : Lt2'} {r : Nat} (h0 : 1 ≤ r) (hr : r ≤ row.length) : fpI p (r - 1) (row.drop (r - 1)) = if p (gF row (r - 1)) then ((r - 1 : Nat) : Int) else fpI p r (row.drop r) := by
  rw [gF_drop' (show r - 1 < row.length by omega), fpI, show r - 1 + 1 = r by omega]
set_option maxHeartbeats 8000000 in
theorem rtree_ok (g : G) (hs : g.Small) (hg : g.conn = true) (c : Cf) (hc : g.cconf c = true) : Ret Tryz.prog 72 [g.v, cV c, .int .i64 0, .int .i64 0, .int .i64 1] (.bool (treeB g c)) := by
  obtain ⟨h1, h2⟩ := conn_facts hg
  obtain ⟨f1, f2, f3, f4, f5, f6, f7⟩ := val_facts h1
  obtain ⟨e1, e2⟩ := cconf_facts hc
  have hd := rdist_ok g hs h1 0 (by omega)
  have hdl := dst_len g 0
  refine ret_frz rfl ?_
  refine fn_rule mixed Tryz.func72 rfl hc72 hr72 rfl ?_
  repeat' ((conv => whnf); first | (refine (hd _ _).mono ?_; rintro _ _ _ ⟨rfl, rfl, rfl⟩))
  all_goals (conv => whnf)
  refine loop_r mixed [1, 3, 4, 5, 11] (fun v : Nat => [(12, .int .i64 v)]) (fun m v => m = g.ports.length - v ∧ v ≤ g.ports.length ∧ ∀ u, u < v → gI (gC c u) 0 = gI (dst g 0) u ∧ gI (gC c u) 1 = upI g u) g.ports.length 0 ⟨rfl, Nat.zero_le _, fun u hu => by omega⟩ ?_ ?_
  · refine weak_by (fun _ _ => [(0, some 0)]) ?_ ?_ rfl
    · repeat' (first | exact True.intro | (refine ⟨⟨_, rfl, ?_⟩, ?_⟩) | exact VRen.kf rfl | exact VRen.loc rfl)
    · repeat' (first | exact True.intro | (refine ⟨⟨_, rfl, ?_⟩, ?_⟩) | exact VRen.kf rfl | (refine And.intro ?_ ?_))
  rintro m v ⟨hm, hv, hall⟩
  by_cases hvn : v < g.ports.length
  · have hrow := e2 v (by omega)
    have hrl := row_le' h1 v
    have hdv := dst_le g hvn
    repeat' ((conv => whnf); first | (refine Br.dec ?_ ?_ <;> intro _ <;> try omega) | (refine Ar.i64 (by omega) (by omega) ?_) | (refine Ix.nat (by omega) ?_))
    all_goals (conv => whnf)
    refine loop_r mixed [1, 3, 4, 5, 11, 12] (fun r : Nat => [(13, .int .i64 (fpI (nearB g v) r ((gR g.ports v).drop r))), (14, .int .i64 ((r : Int) - 1))]) (fun m r => m = r ∧ r ≤ (gR g.ports v).length) (gR g.ports v).length (gR g.ports v).length ⟨rfl, Nat.le_refl _⟩ ?_ ?_
    · have e : fpI (nearB g v) (gR g.ports v).length ((gR g.ports v).drop (gR g.ports v).length) = -1 := by rw [List.drop_length]; rfl
      simp only [e]
      refine weak_by (fun _ _ => [(0, some 0)]) ?_ ?_ rfl
      · repeat' (first | exact True.intro | (refine ⟨⟨_, rfl, ?_⟩, ?_⟩) | exact VRen.kf rfl | exact VRen.loc rfl)
      · repeat' (first | exact True.intro | (refine ⟨⟨_, rfl, ?_⟩, ?_⟩) | exact VRen.kf rfl | (refine And.intro ?_ ?_))
    rintro m r ⟨rfl, hr⟩
    by_cases hr0 : 1 ≤ m
    · obtain ⟨q, rfl⟩ : ∃ q, m = q + 1 := ⟨m - 1, by omega⟩
      have hto := okR_to' (f6 v hvn) (i := q) (by omega)
      have hdn := fp_down (p := nearB g v) (row := gR g.ports v) (r := q + 1) (by omega) hr
      rw [Nat.add_sub_cancel] at hdn
      have hnb : nearB g v (gF (gR g.ports v) q) = decide (gI (dst g 0) (gF (gR g.ports v) q).1.toNat = gI (dst g 0) v - 1) := rfl
      repeat' ((conv => whnf); first | (refine Ix.mk q (by omega) (by omega) ?_) | (refine Br.dec ?_ ?_ <;> intro _ <;> try omega) | (refine Ar.i64 (by omega) (by omega) ?_) | (refine Ix.nat (by omega) ?_) | (refine Ix.int (by omega) (by omega) ?_))
      all_goals (conv => whnf)
      · rename_i he
        rw [hnb, decide_eq_true (by exact he), if_pos rfl] at hdn
        refine ⟨q, q, by omega, ⟨rfl, by omega⟩, ?_⟩
        simp only [hdn]
        refine weak_by (fun _ _ => [(0, some 0)]) ?_ ?_ rfl
        · repeat' (first | exact True.intro | (refine ⟨⟨_, rfl, ?_⟩, ?_⟩) | exact VRen.kf rfl | exact VRen.int (by omega) | exact VRen.loc rfl)
        · repeat' (first | exact True.intro | (refine ⟨⟨_, rfl, ?_⟩, ?_⟩) | exact VRen.kf rfl | (refine And.intro ?_ ?_))
      · rename_i he
        rw [hnb, decide_eq_false (by exact he), if_neg (by simp)] at hdn
        refine ⟨q, q, by omega, ⟨rfl, by omega⟩, ?_⟩
        simp only [hdn]
        refine weak_by (fun _ _ => [(0, some 0)]) ?_ ?_ rfl
        · repeat' (first | exact True.intro | (refine ⟨⟨_, rfl, ?_⟩, ?_⟩) | exact VRen.kf rfl | exact VRen.int (by omega) | exact VRen.loc rfl)
        · repeat' (first | exact True.intro | (refine ⟨⟨_, rfl, ?_⟩, ?_⟩) | exact VRen.kf rfl | (refine And.intro ?_ ?_))
    · obtain rfl : m = 0 := by omega
      have eu : fpI (nearB g v) 0 ((gR g.ports v).drop 0) = upI g v := rfl
      rw [eu]
      by_cases k1 : gI (gC c v) 0 = gI (dst g 0) v ∧ gI (gC c v) 1 = upI g v
      · obtain ⟨k1, k2⟩ := k1
        repeat' ((conv => whnf); first | (refine Br.ff ?_) | (refine Br.bne ?_ ?_ <;> intro _ <;> try omega) | (refine Ar.i64 (by omega) (by omega) ?_) | (refine Ix.nat (by omega) ?_) | (refine Ix.mk 0 rfl (by omega) ?_) | (refine Ix.mk 1 rfl (by omega) ?_))
        all_goals (conv => whnf)
        refine ⟨g.ports.length - (v + 1), v + 1, by omega, ⟨rfl, by omega, fun u hu => ?_⟩, ?_⟩
        · by_cases e : u = v
          · subst e; exact ⟨k1, k2⟩
          · exact hall u (by omega)
        · refine weak_by (fun _ _ => [(0, some 0)]) ?_ ?_ rfl
          · repeat' (first | exact True.intro | (refine ⟨⟨_, rfl, ?_⟩, ?_⟩) | exact VRen.kf rfl | exact VRen.loc rfl)
          · repeat' (first | exact True.intro | (refine ⟨⟨_, rfl, ?_⟩, ?_⟩) | exact VRen.kf rfl | (refine And.intro ?_ ?_))
      · have hb : treeB g c = false := by
          cases e : treeB g c with
          | false => rfl
          | true => exact (k1 (treeB_iff.1 e v (by omega))).elim
        rw [hb]
        repeat' ((conv => whnf); first | (refine Br.ff ?_) | (refine Br.bne ?_ ?_ <;> intro _ <;> try omega) | (refine Ix.nat (by omega) ?_) | (refine Ix.mk 0 rfl (by omega) ?_) | (refine Ix.mk 1 rfl (by omega) ?_))
        all_goals (conv => whnf)
        all_goals first | exact VLe.rfl | (exfalso; omega)
  · repeat' ((conv => whnf); first | (refine Br.dec ?_ ?_ <;> intro _ <;> try omega))
    all_goals (conv => whnf)
    exact VLe.bool (treeB_iff.2 (fun u hu => hall u (by omega))).symm
theorem twL_snoc (g : G) (c : Cf) (v : Nat) : twL g c (v + 1) = twL g c v ++ [tw g c v] := by simp [twL, List.range_succ]
theorem vle_appT (l : List Int) (a : Int) (n : Nat) (hn : l.length = n) (i j : Nat) (hi : i < n + 1) (hj : j < 1) :
    VLe (fapp (shiftF 0 (vI l)) n (shiftF 0 (tab [[.int .i64 a]])) i j) (vI (l ++ [a]) i j) := by
  subst hn
  obtain rfl : j = 0 := by omega
  apply VLe.of_eq
  by_cases h : i < l.length
  · rw [fapp_lt h, sh_at]
    simp only [vI, gI, Nat.zero_add, List.getD, List.getElem?_append_left h]
  · rw [fapp_ge h]
    have : i = l.length := by omega
    subst this
    simp [shiftF, vI, gI, tab]
theorem named_ok (g : G) (hg : g.valid = true) (c : Cf) (hc : PtOk g c) : Ret Tryz.prog 73 [g.v, cV c, .int .i64 1] (.fz (twL g c c.length).length 1 false (vI (twL g c c.length))) := by
  obtain ⟨f1, f2, f3, f4, f5, f6, f7⟩ := val_facts hg
  have hcl := hc.len
  refine ret_frz rfl ?_
  refine fn_rule mixed Tryz.func73 rfl hc73 hr73 rfl ?_
  repeat' ((conv => whnf); first | fail)
  all_goals (conv => whnf)
  refine loop_u mixed [1, 2, 3] [1] [2, 3, 4, 5, 6, 7, 8, 9, 10, 11, 12, 13, 14, 15, 16, 17, 18, 19, 20, 21, 22, 23, 24, 25, 26, 27, 28, 29] [1, 0] (fun v : Nat => [(7, .vec 1 1 0 v), (8, .int .i64 v)]) (fun own v => (1, .vec v 1 (vI (twL g c v))) :: own) (fun m v => m = c.length - v ∧ v ≤ c.length) c.length 0 ⟨rfl, Nat.zero_le _⟩ rfl (fun _ => rfl) ?_ ?_
  · refine weak_by (fun _ _ => [(0, some 0), (1, none)]) ?_ ?_ rfl
    · repeat' (first | exact True.intro | (refine ⟨⟨_, rfl, ?_⟩, ?_⟩) | exact VRen.kf rfl | exact VRen.loc rfl | exact VRen.nil rfl rfl)
    · repeat' (first | exact True.intro | (refine ⟨⟨_, rfl, ?_⟩, ?_⟩) | exact VRen.kf rfl | (refine ⟨⟨_, _, rfl⟩, ?_⟩) | (refine And.intro ?_ ?_))
  rintro m v ⟨hm, hv⟩
  have htl := twL_len g c v
  by_cases hvn : v < c.length
  · have h1 := hc.row v hvn
    have h2 := hc.pt v hvn
    have hrl := row_le' hg v
    repeat' ((conv => whnf); first | (refine Br.dec ?_ ?_ <;> intro _ <;> try omega) | (refine Br.nbeq ?_ ?_ <;> intro _ <;> try omega) | (refine Ar.i64 (by omega) (by omega) ?_) | (refine Ix.nat (by omega) ?_) | (refine Ix.mk 1 rfl (by omega) ?_) | (refine Ix.int (by omega) (by omega) ?_) | (refine Len.mk (by omega) ?_))
    all_goals (conv => whnf)
    · rename_i hp
      have ht : tw g c v = (gF (gR g.ports v) (gI (gC c v) 1).toNat).1 := if_pos (by omega)
      refine ⟨c.length - (v + 1), v + 1, by omega, ⟨rfl, by omega⟩, ?_⟩
      simp only [twL_snoc, ht]
      refine weak_by (fun env own => [(0, some 0), (1, ekey env 7)]) ?_ ?_ rfl
      · repeat' (first | exact True.intro | (refine ⟨⟨_, rfl, ?_⟩, ?_⟩) | exact VRen.kf rfl | exact VRen.loc rfl | exact VRen.vec rfl rfl rfl)
      · repeat' (first | (refine ⟨Nat.le_refl _, rfl, fun i j hi hj => ?_⟩) | exact vle_appT _ _ _ htl _ _ hi hj | exact True.intro | (refine ⟨⟨_, rfl, ?_⟩, ?_⟩) | exact VRen.kf rfl | (refine And.intro ?_ ?_))
    · rename_i hp
      have ht : tw g c v = -1 := if_neg (by omega)
      refine ⟨c.length - (v + 1), v + 1, by omega, ⟨rfl, by omega⟩, ?_⟩
      simp only [twL_snoc, ht]
      refine weak_by (fun env own => [(0, some 0), (1, ekey env 7)]) ?_ ?_ rfl
      · repeat' (first | exact True.intro | (refine ⟨⟨_, rfl, ?_⟩, ?_⟩) | exact VRen.kf rfl | exact VRen.loc rfl | exact VRen.vec rfl rfl rfl)
      · repeat' (first | (refine ⟨Nat.le_refl _, rfl, fun i j hi hj => ?_⟩) | exact vle_appT _ _ _ htl _ _ hi hj | exact True.intro | (refine ⟨⟨_, rfl, ?_⟩, ?_⟩) | exact VRen.kf rfl | (refine And.intro ?_ ?_))
  · have e : v = c.length := by omega
    subst e
    repeat' ((conv => whnf); first | (refine Br.dec ?_ ?_ <;> intro _ <;> try omega) | (refine Len.mk (by omega) ?_))
    all_goals (conv => whnf)
    refine VLe.fz (twL_len g c _).symm (fun h => h) (fun i t hi ht => VLe.of_eq ?_)
    rw [sh_at, Nat.zero_add]
end Go.Proofs.YtinmenifoebfmaaGreat

namespace Go.Proofs.YtinmenifoebfmaaGreat
open Go.Eng
set_option maxRecDepth 100000
set_option linter.unusedVariables false

/-! ## the clock's judges -/

def phD (c : Cf) (v : Nat) (u : Int) : Int := (gI (gC c u.toNat) 2 - gI (gC c v) 2 + 4).tmod 4
def phB (g : G) (c : Cf) : Bool := decide (∀ v, v < c.length → 0 ≤ tw g c v → phD c v (tw g c v) ≤ 1)
theorem phB_iff {g : G} {c : Cf} : phB g c = true ↔ ∀ v, v < c.length → 0 ≤ tw g c v → phD c v (tw g c v) ≤ 1 := by rw [phB, decide_eq_true_eq]
theorem treeB_tk (g : G) (c : Cf) : treeB g (tkC c) = treeB g c := by
  rw [Bool.eq_iff_iff, treeB_iff, treeB_iff, tkC_len]
  refine ⟨fun h v hv => ?_, fun h v hv => ?_⟩
  · have := h v hv
    rwa [tkC_row, gI_take2 _ 0 (by omega), gI_take2 _ 1 (by omega)] at this
  · rw [tkC_row, gI_take2 _ 0 (by omega), gI_take2 _ 1 (by omega)]
    exact h v hv
theorem bconf_tk {g : G} {c : Cf} (h : g.cconf c = true) : g.bconf (tkC c) = true := by
  have h1 := conf_iff.1 h
  refine conf_iff.2 ⟨by rw [tkC_len]; exact h1.1, fun v hv => ?_⟩
  have h2 := h1.2 v hv
  refine ⟨by rw [tkC_row, List.length_take, h2.1]; rfl, fun x hx => ?_⟩
  have h3 := h2.2 x (by omega)
  rw [tkC_row, gI_take2 _ x hx]
  rcases (show x = 0 ∨ x = 1 by omega) with rfl | rfl
  · rw [bG, show gI [(g.ids.length : Int), -1] 0 = g.ids.length from rfl, if_neg (by omega)]
    exact h3
  · exact h3
theorem csmall_tk {c : Cf} (h : CSmall c) : CSmall (tkC c) := by
  refine ⟨by rw [tkC_len]; exact h.len, fun r hr => ?_⟩
  obtain ⟨a, ha, rfl⟩ := List.mem_map.1 hr
  have := h.rows a ha
  rw [List.length_take]; omega
theorem clegit_ok (g : G) (hs : g.Small) (c : Cf) (hc : CSmall c) : Ret Tryz.prog 30 [g.v, cV c] (.bool (g.conn && g.cconf c && treeB g c && phB g c)) := by
  have h0 := cconfiguration_ok g hs c hc
  refine ret_frz rfl ?_
  refine fn_rule mixed Tryz.func30 rfl hc30 hr30 rfl ?_
  cases hgc : g.conn && g.cconf c with
  | false =>
    rw [hgc] at h0
    repeat' ((conv => whnf); first | (refine Br.ff ?_) | (refine (h0 _ _).mono ?_; rintro _ _ _ ⟨rfl, rfl, rfl⟩))
    all_goals (conv => whnf)
    exact VLe.rfl
  | true =>
    rw [hgc] at h0
    rw [Bool.true_and]
    rw [Bool.and_eq_true] at hgc
    obtain ⟨h1, _⟩ := conn_facts hgc.1
    obtain ⟨f1, f2, f3, f4, f5, f6, f7⟩ := val_facts h1
    obtain ⟨e1, e2⟩ := cconf_facts hgc.2
    have ht := ctree_ok c (by omega) (fun v hv => (e2 v hv).1)
    have hb := blegit_ok g hs (tkC c) (csmall_tk hc)
    rw [hgc.1, bconf_tk hgc.2, treeB_tk, Bool.true_and, Bool.true_and] at hb
    have hw := towards_ok g h1 c (ptok h1 hgc.2)
    have hwl := twL_len g c c.length
    cases htb : treeB g c with
    | false =>
      rw [htb] at hb
      repeat' ((conv => whnf); first | (refine Br.tt ?_) | (refine Br.ff ?_) | (refine (h0 _ _).mono ?_; rintro _ _ _ ⟨rfl, rfl, rfl⟩) | (refine (ht _ _).mono ?_; rintro _ _ _ ⟨rfl, rfl, rfl⟩) | (refine (hb _ _).mono ?_; rintro _ _ _ ⟨rfl, rfl, rfl⟩) | (refine And.intro rfl ?_))
      all_goals (conv => whnf)
      exact VLe.rfl
    | true =>
      rw [htb] at hb
      rw [Bool.true_and]
      repeat' ((conv => whnf); first | (refine Br.tt ?_) | (refine (h0 _ _).mono ?_; rintro _ _ _ ⟨rfl, rfl, rfl⟩) | (refine (ht _ _).mono ?_; rintro _ _ _ ⟨rfl, rfl, rfl⟩) | (refine (hb _ _).mono ?_; rintro _ _ _ ⟨rfl, rfl, rfl⟩) | (refine (hw _ _).mono ?_; rintro _ _ _ ⟨rfl, rfl, rfl⟩) | (refine And.intro rfl ?_))
      all_goals (conv => whnf)
      refine loop_r mixed [1, 20, 21] (fun i : Nat => [(22, .int .i64 i)]) (fun m i => m = c.length - i ∧ i ≤ c.length ∧ ∀ v, v < i → 0 ≤ tw g c v → phD c v (tw g c v) ≤ 1) c.length 0 ⟨rfl, Nat.zero_le _, fun v hv => by omega⟩ ?_ ?_
      · refine weak_by (fun _ _ => [(0, some 0)]) ?_ ?_ rfl
        · repeat' (first | exact True.intro | (refine ⟨⟨_, rfl, ?_⟩, ?_⟩) | exact VRen.kf rfl)
        · repeat' (first | exact True.intro | (refine ⟨⟨_, rfl, ?_⟩, ?_⟩) | exact VRen.kf rfl | (refine And.intro ?_ ?_))
      rintro m i ⟨hm, hi, hall⟩
      by_cases hil : i < c.length
      · have hx := twL_get g c hil
        have hr := e2 i hil
        obtain ⟨t1, t2⟩ := tw_tree hgc.1 hgc.2 htb hil
        by_cases h0t : 0 ≤ tw g c i
        · have hlt : tw g c i < c.length := by
            by_cases e : i = 0
            · have := t1 e; omega
            · exact (t2 e).2
          have hru := e2 (gI (twL g c c.length) i).toNat (by omega)
          have hp1 : 0 ≤ gI (gC c i) (Int.toNat 2) ∧ gI (gC c i) (Int.toNat 2) ≤ 3 := hr.2.2.2.2.2
          have hp2 : 0 ≤ gI (gC c (gI (twL g c c.length) i).toNat) (Int.toNat 2) ∧ gI (gC c (gI (twL g c c.length) i).toNat) (Int.toNat 2) ≤ 3 := hru.2.2.2.2.2
          repeat' ((conv => whnf); first | (refine Br.dec ?_ ?_ <;> intro _ <;> try omega) | (refine Ar.i64 (by omega) (by omega) ?_) | (refine Sv.mk _ rfl ?_) | (refine Nz.mk (by omega) ?_) | (refine Ix.nat (by omega) ?_) | (refine Ix.int (by omega) (by omega) ?_))
          all_goals (conv => whnf)
          · rename_i hgt
            refine VLe.bool ?_
            cases e : phB g c with
            | false => rfl
            | true =>
              have := phB_iff.1 e i hil h0t
              rw [phD, ← hx] at this
              exact absurd hgt (Int.not_lt.2 this)
          · rename_i hgt
            refine ⟨c.length - (i + 1), i + 1, by omega, ⟨rfl, by omega, fun v hv hv0 => ?_⟩, ?_⟩
            · by_cases e : v = i
              · subst e
                rw [phD, ← hx]
                exact Int.not_lt.1 hgt
              · exact hall v (by omega) hv0
            · refine weak_by (fun _ _ => [(0, some 0)]) ?_ ?_ rfl
              · repeat' (first | exact True.intro | (refine ⟨⟨_, rfl, ?_⟩, ?_⟩) | exact VRen.kf rfl)
              · repeat' (first | exact True.intro | (refine ⟨⟨_, rfl, ?_⟩, ?_⟩) | exact VRen.kf rfl | (refine And.intro ?_ ?_))
        · repeat' ((conv => whnf); first | (refine Br.dec ?_ ?_ <;> intro _ <;> try omega) | (refine Ar.i64 (by omega) (by omega) ?_) | (refine Ix.nat (by omega) ?_))
          all_goals (conv => whnf)
          refine ⟨c.length - (i + 1), i + 1, by omega, ⟨rfl, by omega, fun v hv hv0 => ?_⟩, ?_⟩
          · by_cases e : v = i
            · subst e; exact absurd hv0 h0t
            · exact hall v (by omega) hv0
          · refine weak_by (fun _ _ => [(0, some 0)]) ?_ ?_ rfl
            · repeat' (first | exact True.intro | (refine ⟨⟨_, rfl, ?_⟩, ?_⟩) | exact VRen.kf rfl)
            · repeat' (first | exact True.intro | (refine ⟨⟨_, rfl, ?_⟩, ?_⟩) | exact VRen.kf rfl | (refine And.intro ?_ ?_))
      · repeat' ((conv => whnf); first | (refine Br.dec ?_ ?_ <;> intro _ <;> try omega))
        all_goals (conv => whnf)
        exact VLe.bool (phB_iff.2 (fun v hv => hall v (by omega))).symm
end Go.Proofs.YtinmenifoebfmaaGreat

namespace Go.Proofs.YtinmenifoebfmaaGreat
open Go.Eng
set_option maxRecDepth 100000
set_option linter.unusedVariables false

/-! ## the reference's judges of the clock -/

theorem rcconf_ok (g : G) (hs : g.Small) (c : Cf) (hc : CSmall c) (hg : g.valid = true) : Ret Tryz.prog 71 [g.v, cV c, .fz vC'.length 6 false (vV vC')] (.bool (g.cconf c)) := by
  have h := rconf_ok g hs c hc vC' vC_ok
  rwa [cconf_v g hg c] at h
theorem rclegit_ok (g : G) (hs : g.Small) (c : Cf) (hc : CSmall c) : Ret Tryz.prog 31 [g.v, cV c] (.bool (g.conn && g.cconf c && treeB g c && phB g c)) := by
  have hf := rcfit_ok g hs
  have hvs := cvars_ok
  refine ret_frz rfl ?_
  refine fn_rule mixed Tryz.func31 rfl hc31 hr31 rfl ?_
  cases hgc : g.conn with
  | false =>
    rw [hgc] at hf
    repeat' ((conv => whnf); first | (refine Br.ff ?_) | (refine (hf _ _).mono ?_; rintro _ _ _ ⟨rfl, rfl, rfl⟩))
    all_goals (conv => whnf)
    exact VLe.rfl
  | true =>
    rw [hgc] at hf
    obtain ⟨h1, _⟩ := conn_facts hgc
    obtain ⟨f1, f2, f3, f4, f5, f6, f7⟩ := val_facts h1
    have hcf := rcconf_ok g hs c hc h1
    cases hcc : g.cconf c with
    | false =>
      rw [hcc] at hcf
      repeat' ((conv => whnf); first | (refine Br.tt ?_) | (refine Br.ff ?_) | (refine (hf _ _).mono ?_; rintro _ _ _ ⟨rfl, rfl, rfl⟩) | (refine (hvs _ _).mono ?_; rintro _ _ _ ⟨rfl, rfl, rfl⟩) | (refine (hcf _ _).mono ?_; rintro _ _ _ ⟨rfl, rfl, rfl⟩) | (refine And.intro rfl ?_))
      all_goals (conv => whnf)
      exact VLe.rfl
    | true =>
      rw [hcc] at hcf
      obtain ⟨e1, e2⟩ := cconf_facts hcc
      have ht := rtree_ok g hs hgc c hcc
      cases htb : treeB g c with
      | false =>
        rw [htb] at ht
        repeat' ((conv => whnf); first | (refine Br.tt ?_) | (refine Br.ff ?_) | (refine (hf _ _).mono ?_; rintro _ _ _ ⟨rfl, rfl, rfl⟩) | (refine (hvs _ _).mono ?_; rintro _ _ _ ⟨rfl, rfl, rfl⟩) | (refine (hcf _ _).mono ?_; rintro _ _ _ ⟨rfl, rfl, rfl⟩) | (refine (ht _ _).mono ?_; rintro _ _ _ ⟨rfl, rfl, rfl⟩) | (refine And.intro rfl ?_))
        all_goals (conv => whnf)
        exact VLe.rfl
      | true =>
        rw [htb] at ht
        have hw := named_ok g h1 c (ptok h1 hcc)
        have hwl := twL_len g c c.length
        repeat' ((conv => whnf); first | (refine Br.tt ?_) | (refine (hf _ _).mono ?_; rintro _ _ _ ⟨rfl, rfl, rfl⟩) | (refine (hvs _ _).mono ?_; rintro _ _ _ ⟨rfl, rfl, rfl⟩) | (refine (hcf _ _).mono ?_; rintro _ _ _ ⟨rfl, rfl, rfl⟩) | (refine (ht _ _).mono ?_; rintro _ _ _ ⟨rfl, rfl, rfl⟩) | (refine (hw _ _).mono ?_; rintro _ _ _ ⟨rfl, rfl, rfl⟩) | (refine And.intro rfl ?_))
        all_goals (conv => whnf)
        refine loop_r mixed [1, 5] (fun i : Nat => [(6, .int .i64 i)]) (fun m i => m = c.length - i ∧ 1 ≤ i ∧ i ≤ c.length ∧ ∀ v, v < i → 0 ≤ tw g c v → phD c v (tw g c v) ≤ 1) (c.length - 1) 1 ⟨rfl, Nat.le_refl _, by omega, fun v hv hv0 => ?_⟩ ?_ ?_
        · obtain ⟨t1, _⟩ := tw_tree hgc hcc htb (show v < c.length by omega)
          have := t1 (by omega)
          omega
        · refine weak_by (fun _ _ => [(0, some 0)]) ?_ ?_ rfl
          · repeat' (first | exact True.intro | (refine ⟨⟨_, rfl, ?_⟩, ?_⟩) | exact VRen.kf rfl)
          · repeat' (first | exact True.intro | (refine ⟨⟨_, rfl, ?_⟩, ?_⟩) | exact VRen.kf rfl | (refine And.intro ?_ ?_))
        rintro m i ⟨hm, h1i, hi, hall⟩
        by_cases hil : i < c.length
        · have hx := twL_get g c hil
          have hr := e2 i hil
          obtain ⟨t1, t2⟩ := tw_tree hgc hcc htb hil
          obtain ⟨h0t, hlt⟩ := t2 (by omega)
          have hru := e2 (gI (twL g c c.length) i).toNat (by omega)
          have hp1 : 0 ≤ gI (gC c i) (Int.toNat 2) ∧ gI (gC c i) (Int.toNat 2) ≤ 3 := hr.2.2.2.2.2
          have hp2 : 0 ≤ gI (gC c (gI (twL g c c.length) i).toNat) (Int.toNat 2) ∧ gI (gC c (gI (twL g c c.length) i).toNat) (Int.toNat 2) ≤ 3 := hru.2.2.2.2.2
          repeat' ((conv => whnf); first | (refine Br.dec ?_ ?_ <;> intro _ <;> try omega) | (refine Ar.i64 (by omega) (by omega) ?_) | (refine Sv.mk _ rfl ?_) | (refine Nz.mk (by omega) ?_) | (refine Ix.nat (by omega) ?_) | (refine Ix.int (by omega) (by omega) ?_))
          all_goals (conv => whnf)
          · rename_i hgt
            refine VLe.bool ?_
            cases e : phB g c with
            | false => rfl
            | true =>
              have := phB_iff.1 e i hil h0t
              rw [phD, ← hx] at this
              exact absurd hgt (Int.not_lt.2 this)
          · rename_i hgt
            refine ⟨c.length - (i + 1), i + 1, by omega, ⟨rfl, by omega, by omega, fun v hv hv0 => ?_⟩, ?_⟩
            · by_cases e : v = i
              · subst e
                rw [phD, ← hx]
                exact Int.not_lt.1 hgt
              · exact hall v (by omega) hv0
            · refine weak_by (fun _ _ => [(0, some 0)]) ?_ ?_ rfl
              · repeat' (first | exact True.intro | (refine ⟨⟨_, rfl, ?_⟩, ?_⟩) | exact VRen.kf rfl)
              · repeat' (first | exact True.intro | (refine ⟨⟨_, rfl, ?_⟩, ?_⟩) | exact VRen.kf rfl | (refine And.intro ?_ ?_))
        · repeat' ((conv => whnf); first | (refine Br.dec ?_ ?_ <;> intro _ <;> try omega))
          all_goals (conv => whnf)
          exact VLe.bool (by rw [Bool.true_and, Bool.true_and]; exact (phB_iff.2 (fun v hv => hall v (by omega))).symm)
end Go.Proofs.YtinmenifoebfmaaGreat

namespace Go.Proofs.YtinmenifoebfmaaGreat
open Go.Eng
set_option maxRecDepth 100000
set_option linter.unusedVariables false

/-! ## claims -/

def clmC (e : Int) (k : Int) : V := .agg [.int .i64 k, .bool true, .bool false, .int .i64 (e + 1 + (e * (e + 1)).tdiv 2), .int .i64 (-1)]
theorem e_facts {e : Int} (h0 : 0 ≤ e) (h : e ≤ 23) : 0 ≤ e * (e + 1) ∧ e * (e + 1) ≤ 576 ∧ 0 ≤ (e * (e + 1)).tdiv 2 ∧ (e * (e + 1)).tdiv 2 ≤ 576 := by
  have a3 : 0 ≤ e * (e + 1) := Int.mul_nonneg (by omega) (by omega)
  have a4 : e * (e + 1) ≤ 576 := Int.le_trans (Int.mul_le_mul (show e ≤ 24 by omega) (show e + 1 ≤ 24 by omega) (by omega) (by omega)) (by omega)
  refine ⟨a3, a4, ?_, ?_⟩
  · rw [Int.tdiv_eq_ediv_of_nonneg a3]; omega
  · rw [Int.tdiv_eq_ediv_of_nonneg a3]; omega
theorem cclaim_ok (g : G) (hs : g.Small) (hgc : g.conn = true) : Ret Tryz.prog 32 [g.v] (clmC g.ecc 3) := by
  have hf := cfit_ok g hs
  have he := ecc_ok g hs
  obtain ⟨r1, r2⟩ := ecc_range g hgc
  obtain ⟨q1, q2, q3, q4⟩ := e_facts r1 r2
  rw [hgc] at hf
  refine ret_frz rfl ?_
  refine fn_rule mixed Tryz.func32 rfl hc32 hr32 rfl ?_
  repeat' ((conv => whnf); first | (refine Br.tt ?_) | (refine Ar.i64 (by omega) (by omega) ?_) | (refine Nz.mk (by omega) ?_) | (refine (hf _ _).mono ?_; rintro _ _ _ ⟨rfl, rfl, rfl⟩) | (refine (he _ _).mono ?_; rintro _ _ _ ⟨rfl, rfl, rfl⟩))
  all_goals (conv => whnf)
  exact VLe.rfl
theorem rcclaim_ok (g : G) (hs : g.Small) (hgc : g.conn = true) : Ret Tryz.prog 33 [g.v] (clmC g.ecc 3) := by
  have hf := rcfit_ok g hs
  have he := recc_ok g hs hgc
  obtain ⟨r1, r2⟩ := ecc_range g hgc
  obtain ⟨q1, q2, q3, q4⟩ := e_facts r1 r2
  rw [hgc] at hf
  refine ret_frz rfl ?_
  refine fn_rule mixed Tryz.func33 rfl hc33 hr33 rfl ?_
  repeat' ((conv => whnf); first | (refine Br.tt ?_) | (refine Ar.i64 (by omega) (by omega) ?_) | (refine Nz.mk (by omega) ?_) | (refine (hf _ _).mono ?_; rintro _ _ _ ⟨rfl, rfl, rfl⟩) | (refine (he _ _).mono ?_; rintro _ _ _ ⟨rfl, rfl, rfl⟩))
  all_goals (conv => whnf)
  exact VLe.rfl
def clmC0 : V := .agg [.int .i64 0, .bool false, .bool false, .int .i64 0, .int .i64 0]
theorem cclaim_no (g : G) (hs : g.Small) (hgc : g.conn = false) : Ret Tryz.prog 32 [g.v] clmC0 := by
  have hf := cfit_ok g hs
  rw [hgc] at hf
  refine ret_frz rfl ?_
  refine fn_rule mixed Tryz.func32 rfl hc32 hr32 rfl ?_
  repeat' ((conv => whnf); first | (refine Br.ff ?_) | (refine (hf _ _).mono ?_; rintro _ _ _ ⟨rfl, rfl, rfl⟩))
  all_goals (conv => whnf)
  exact VLe.rfl
theorem rcclaim_no (g : G) (hs : g.Small) (hgc : g.conn = false) : Ret Tryz.prog 33 [g.v] clmC0 := by
  have hf := rcfit_ok g hs
  rw [hgc] at hf
  refine ret_frz rfl ?_
  refine fn_rule mixed Tryz.func33 rfl hc33 hr33 rfl ?_
  repeat' ((conv => whnf); first | (refine Br.ff ?_) | (refine (hf _ _).mono ?_; rintro _ _ _ ⟨rfl, rfl, rfl⟩))
  all_goals (conv => whnf)
  exact VLe.rfl
end Go.Proofs.YtinmenifoebfmaaGreat

namespace Go.Eng
open Go.MapKept (bytes_beq)

/-! ## numbers, bools: computed before they are put away -/

noncomputable def fN {β : Type} (n : Nat) (K : Nat → β) : β := @Nat.rec (fun _ => β) (K 0) (fun m _ => K (Nat.succ m)) n
theorem fN_eq {β : Type} (n : Nat) (K : Nat → β) : fN n K = K n := by cases n <;> rfl
noncomputable def fI {β : Type} (n : Int) (K : Int → β) : β := @Int.rec (fun _ => β) (fun a => fN a fun a => K (.ofNat a)) (fun a => fN a fun a => K (.negSucc a)) n
theorem fI_eq {β : Type} (n : Int) (K : Int → β) : fI n K = K n := by cases n <;> simp [fI, fN_eq]
noncomputable def fB {β : Type} (b : Bool) (K : Bool → β) : β := @Bool.rec (fun _ => β) (K false) (K true) b
theorem fB_eq {β : Type} (b : Bool) (K : Bool → β) : fB b K = K b := by cases b <;> rfl

noncomputable def lk {α : Type} (l : List (Nat × α)) (t : Nat) : Option α :=
  @List.rec (Nat × α) (fun _ => Option α) none (fun p _ ih => @Prod.rec Nat α (fun _ => Option α) (fun k v => @Bool.rec (fun _ => Option α) ih (some v) (Nat.beq k t)) p) l
theorem lk_eq {α : Type} (l : List (Nat × α)) (t : Nat) : lk l t = look l t := by
  induction l with
  | nil => rfl
  | cons p r ih =>
    obtain ⟨k, v⟩ := p
    unfold look
    show @Bool.rec (fun _ => Option α) (lk r t) (some v) (Nat.beq k t) = _
    cases Nat.beq k t <;> simp [ih]

noncomputable def nt {α : Type} (l : List α) (n : Nat) : Option α :=
  @List.rec α (fun _ => Nat → Option α) (fun _ => none) (fun x _ ih n => @Nat.rec (fun _ => Option α) (some x) (fun m _ => ih m) n) l n
theorem nt_eq {α : Type} (l : List α) (n : Nat) : nt l n = nth l n := by
  induction l generalizing n with
  | nil => rfl
  | cons x r ih => cases n with
    | zero => rfl
    | succ n => exact ih n
theorem nth_get {α : Type} : ∀ (l : List α) (n : Nat), nth l n = l[n]?
  | [], n => by simp [nth]
  | x :: r, 0 => by simp [nth]
  | x :: r, n + 1 => by simp [nth, nth_get r n]

noncomputable def dr {α : Type} (l : List α) (n : Nat) : List α :=
  @List.rec α (fun _ => Nat → List α) (fun _ => []) (fun x r ih n => @Nat.rec (fun _ => List α) (x :: r) (fun m _ => ih m) n) l n
theorem dr_eq {α : Type} (l : List α) (n : Nat) : dr l n = l.drop n := by
  induction l generalizing n with
  | nil => simp [dr]
  | cons x r ih => cases n with
    | zero => rfl
    | succ n => exact ih n
/-- a list whose head is laid out -/
noncomputable def fH {α β : Type} (l : List α) (K : List α → β) : β := @List.rec α (fun _ => β) (K []) (fun x r _ => K (x :: r)) l
theorem fH_eq {α β : Type} (l : List α) (K : List α → β) : fH l K = K l := by cases l <;> rfl
/-- the first n, if there are so many -/
noncomputable def tk {α β : Type} (n : Nat) : List α → (List α → Option β) → Option β :=
  @Nat.rec (fun _ => List α → (List α → Option β) → Option β) (fun _ K => K []) (fun _ ih l K => @List.rec α (fun _ => Option β) none (fun x r _ => ih r fun q => K (x :: q)) l) n
theorem tk_eq {α β : Type} (n : Nat) (l : List α) (K : List α → Option β) : tk n l K = if n ≤ l.length then K (l.take n) else none := by
  induction n generalizing l K with
  | zero => simp only [Nat.zero_le, if_true, List.take_zero]; rfl
  | succ n ih => cases l with
    | nil => rfl
    | cons x r =>
      show tk n r (fun q => K (x :: q)) = _
      rw [ih]
      simp

/-! ## strings as numbers -/

def bl : Nat → Nat → List UInt8
  | 0, _ => []
  | l + 1, c => UInt8.ofNat (c % 256) :: bl l (c / 256)
def bytesOf (l c : Nat) : ByteArray := ⟨⟨bl l c⟩⟩
def encL : List UInt8 → Nat
  | [] => 0
  | b :: r => b.toNat + 256 * encL r

theorem bl_length : ∀ (l c : Nat), (bl l c).length = l
  | 0, _ => rfl
  | l + 1, c => by simp [bl, bl_length]
theorem bl_enc : ∀ (l : List UInt8), bl l.length (encL l) = l
  | [] => rfl
  | b :: r => by
    have hb := b.toNat_lt
    simp only [List.length_cons, bl, encL]
    rw [show (b.toNat + 256 * encL r) % 256 = b.toNat by omega, show (b.toNat + 256 * encL r) / 256 = encL r by omega, bl_enc r]
    simp
theorem bl_get : ∀ (l c m : Nat), m < l → (bl l c)[m]? = some (UInt8.ofNat (c / 256 ^ m % 256))
  | 0, c, m, h => by omega
  | l + 1, c, 0, h => by simp [bl]
  | l + 1, c, m + 1, h => by
    simp only [bl, List.getElem?_cons_succ]
    rw [bl_get l _ m (by omega), Nat.div_div_eq_div_mul, Nat.pow_succ, Nat.mul_comm 256]
theorem bl_drop : ∀ (l c m : Nat), (bl l c).drop m = bl (l - m) (c / 256 ^ m)
  | 0, c, m => by simp [bl]
  | l + 1, c, 0 => by simp
  | l + 1, c, m + 1 => by
    simp only [bl, List.drop_succ_cons]
    rw [bl_drop l _ m, Nat.div_div_eq_div_mul, Nat.pow_succ, Nat.mul_comm 256, show l + 1 - (m + 1) = l - m by omega]
theorem bl_take : ∀ (l c m : Nat), m ≤ l → (bl l c).take m = bl m c
  | l, c, 0, h => by simp [bl]
  | 0, c, m + 1, h => by omega
  | l + 1, c, m + 1, h => by simp [bl, bl_take l _ m (by omega)]
theorem bl_mod : ∀ (l c : Nat), bl l (c % 256 ^ l) = bl l c
  | 0, c => rfl
  | l + 1, c => by
    simp only [bl]
    have h1 : c % 256 ^ (l + 1) % 256 = c % 256 := by
      rw [Nat.pow_succ, Nat.mul_comm]; exact Nat.mod_mul_right_mod _ _ _
    have h2 : c % 256 ^ (l + 1) / 256 = c / 256 % 256 ^ l := by
      rw [Nat.pow_succ, Nat.mul_comm, Nat.mod_mul_right_div_self]
    rw [h1, h2, bl_mod]
theorem bl_inj : ∀ (l c d : Nat), bl l c = bl l d → c % 256 ^ l = d % 256 ^ l
  | 0, c, d, _ => by simp [Nat.mod_one]
  | l + 1, c, d, h => by
    simp only [bl, List.cons.injEq] at h
    have h1 : c % 256 = d % 256 := by
      have := congrArg UInt8.toNat h.1
      simpa using this
    have h2 := bl_inj l _ _ h.2
    rw [Nat.pow_succ, Nat.mul_comm, Nat.mod_mul, Nat.mod_mul, h1, h2]
theorem bl_app : ∀ (l c l' c' : Nat), bl l c ++ bl l' c' = bl (l + l') (c % 256 ^ l + 256 ^ l * c')
  | 0, c, l', c' => by simp [bl, Nat.mod_one]
  | l + 1, c, l', c' => by
    rw [show l + 1 + l' = (l + l') + 1 by omega]
    simp only [bl, List.cons_append]
    rw [bl_app l _ l' c']
    have e : c % 256 ^ (l + 1) = c % 256 + 256 * (c / 256 % 256 ^ l) := by
      rw [Nat.pow_succ, Nat.mul_comm (256 ^ l), Nat.mod_mul]
    have e2 : 256 ^ (l + 1) * c' = 256 * (256 ^ l * c') := by rw [Nat.pow_succ, Nat.mul_comm (256 ^ l), Nat.mul_assoc]
    rw [e, e2]
    have hlt : c % 256 < 256 := Nat.mod_lt _ (by omega)
    rw [show (c % 256 + 256 * (c / 256 % 256 ^ l) + 256 * (256 ^ l * c')) % 256 = c % 256 by omega, show (c % 256 + 256 * (c / 256 % 256 ^ l) + 256 * (256 ^ l * c')) / 256 = c / 256 % 256 ^ l + 256 ^ l * c' by omega]

theorem bytesOf_size (l c : Nat) : (bytesOf l c).size = l := by
  show (bl l c).length = l
  exact bl_length l c
theorem bytesOf_enc (b : ByteArray) : bytesOf b.size (encL b.data.toList) = b := by
  obtain ⟨⟨l⟩⟩ := b
  show ByteArray.mk ⟨bl l.length (encL l)⟩ = _
  rw [bl_enc]
theorem bytesOf_get (l c m : Nat) (h : m < l) : ((bytesOf l c).get! m).toNat = c / 256 ^ m % 256 := by
  have h1 := bl_get l c m h
  show ((bytesOf l c).data[m]!).toNat = _
  have : (bytesOf l c).data[m]! = UInt8.ofNat (c / 256 ^ m % 256) := by
    rw [getElem!_def, show (bytesOf l c).data[m]? = some (UInt8.ofNat (c / 256 ^ m % 256)) from by simpa [bytesOf] using h1]
  rw [this]
  simp
theorem bytesOf_extract (l c lo hi : Nat) (h : hi ≤ l) : (bytesOf l c).extract lo hi = bytesOf (hi - lo) (c / 256 ^ lo) := by
  apply ByteArray.ext
  rw [ByteArray.data_extract]
  show (Array.mk (bl l c)).extract lo hi = Array.mk (bl (hi - lo) (c / 256 ^ lo))
  apply Array.ext'
  simp only [Array.toList_extract, List.extract_eq_take_drop]
  rw [bl_drop, bl_take _ _ _ (by omega)]
theorem bytesOf_mod (l c : Nat) : bytesOf l (c % 256 ^ l) = bytesOf l c := by unfold bytesOf; rw [bl_mod]
theorem bytesOf_app (l c l' c' : Nat) : bytesOf l c ++ bytesOf l' c' = bytesOf (l + l') (c % 256 ^ l + 256 ^ l * c') := by
  apply ByteArray.ext
  rw [ByteArray.data_append]
  show Array.mk (bl l c) ++ Array.mk (bl l' c') = Array.mk _
  simp [bl_app]
def eqS (l c l' c' : Nat) : Bool := match Nat.beq l l' with
  | true => Nat.beq (Nat.mod c (Nat.pow 256 l)) (Nat.mod c' (Nat.pow 256 l))
  | false => false
theorem eqS_eq (l c l' c' : Nat) : eqS l c l' c' = (bytesOf l c == bytesOf l' c') := by
  unfold eqS
  have hb : (bytesOf l c == bytesOf l' c') = decide (bytesOf l c = bytesOf l' c') := by
    rw [Bool.eq_iff_iff, bytes_beq]; simp
  rw [hb]
  split
  · rename_i h
    have h := Nat.eq_of_beq_eq_true h
    subst h
    rw [Bool.eq_iff_iff, Nat.beq_eq, decide_eq_true_eq]
    constructor
    · intro h
      have h : c % 256 ^ l = c' % 256 ^ l := h
      rw [← bytesOf_mod l c, h, bytesOf_mod]
    · intro h
      exact bl_inj l c c' (by simpa [bytesOf] using h)
  · rename_i h
    symm
    rw [decide_eq_false_iff_not]
    intro e
    have := congrArg ByteArray.size e
    rw [bytesOf_size, bytesOf_size] at this
    subst this
    simp at h

/-! ## closed values -/

inductive C where
  | nilptr | nilmap | nilfunc | niliface
  | unit
  | map (k : Nat)
  | fn (f : Fn) (b : Bool) (cap : List C)
  | iface (t : TypeId) (v : C)
  | fe (n s : Nat) (z : List C) (rows : List (List C)) (i j : Nat)
  | oel (k s i j : Nat)
  | fz (n s : Nat) (full : Bool) (z : List C) (rows : List (List C))
  | tup (vs : List C)
  | agg (cs : List C)
  | nilslice
  | vec (k s lo len : Nat)
  | loc (k off : Nat)
  | str (l c : Nat)
  | bool (b : Bool)
  | int (k : IntKind) (n : Int)
  deriving Inhabited

/-- elements in rows; z: what lies behind them, and beside them -/
def lastV : List V → V
  | [] => default
  | [v] => v
  | _ :: r => lastV r
def tabz (z : List V) (rows : List (List V)) : Nat → Nat → V := fun i j => (rows.getD i z).getD j (lastV z)

mutual
def C.v : C → V
  | .bool b => .bool b
  | .int k n => .int k n
  | .str l c => .str (bytesOf l c)
  | .nilptr => .nilptr | .nilslice => .nilslice | .nilmap => .nilmap | .nilfunc => .nilfunc | .niliface => .niliface
  | .loc k off => .loc k off
  | .oel k s i j => .oel k s i j
  | .vec k s lo len => .vec k s lo len
  | .fz n s full z rows => .fz n s full (tabz (C.vs z) (C.vss rows))
  | .fe n s z rows i j => .fe n s (tabz (C.vs z) (C.vss rows)) i j
  | .map k => .map k
  | .fn f b cap => .fn f b (C.vs cap)
  | .iface t v => .iface t v.v
  | .agg cs => .agg (C.vs cs)
  | .tup cs => .tup (C.vs cs)
  | .unit => .raw (.tuple #[])
def C.vs : List C → List V
  | [] => []
  | c :: r => c.v :: C.vs r
def C.vss : List (List C) → List (List V)
  | [] => []
  | c :: r => C.vs c :: C.vss r
end

theorem C.vs_map : ∀ (l : List C), C.vs l = l.map C.v
  | [] => by simp [C.vs]
  | c :: r => by simp [C.vs, C.vs_map r]
theorem C.vss_map : ∀ (l : List (List C)), C.vss l = l.map C.vs
  | [] => by simp [C.vss]
  | c :: r => by simp [C.vss, C.vss_map r]
theorem C.vs_length (l : List C) : (C.vs l).length = l.length := by simp [C.vs_map]
theorem C.vs_get (l : List C) (i : Nat) : (C.vs l)[i]? = (l[i]?).map C.v := by simp [C.vs_map]
theorem C.vss_get (l : List (List C)) (i : Nat) : (C.vss l)[i]? = (l[i]?).map C.vs := by simp [C.vss_map]

abbrev CEnv := List (Nat × C)
inductive CB where
  | cells (cs : List C)
  | vec (n s : Nat) (z : List C) (rows : List (List C))
  | map (ik : IntKind) (es : List (Int × C))
  | mapS (es : List ((Nat × Nat) × C))
  deriving Inhabited
abbrev COwn := List (Nat × CB)

def CB.b : CB → Blk
  | .cells cs => .cells (C.vs cs)
  | .vec n s z rows => .vec n s (tabz (C.vs z) (C.vss rows))
  | .map ik es => .map (.one ik) (es.map fun p => (p.1, p.2.v))
  | .mapS es => .map .str (es.map fun p => (bytesOf p.1.1 p.1.2, p.2.v))
def envV (e : CEnv) : Env := e.map fun p => (p.1, p.2.v)
def ownV (o : COwn) : Own := o.map fun p => (p.1, p.2.b)

theorem look_map {α β : Type} (f : α → β) (l : List (Nat × α)) (t : Nat) : look (l.map fun p => (p.1, f p.2)) t = (look l t).map f := by
  induction l with
  | nil => rfl
  | cons p r ih =>
    simp only [List.map_cons, look]
    cases Nat.beq p.1 t <;> simp [ih]
theorem look_envV {e : CEnv} {t : Nat} {c : C} (h : lk e t = some c) : look (envV e) t = some c.v := by
  rw [lk_eq] at h
  rw [envV, look_map, h]; rfl
theorem look_ownV {o : COwn} {t : Nat} {c : CB} (h : lk o t = some c) : look (ownV o) t = some c.b := by
  rw [lk_eq] at h
  rw [ownV, look_map, h]; rfl
def ofV0 (v : V) : Option C := match v with
  | .bool b => some (.bool b)
  | .int k n => some (.int k n)
  | .str s => some (.str s.size (encL s.data.toList))
  | .nilptr => some .nilptr | .nilslice => some .nilslice | .nilmap => some .nilmap | .nilfunc => some .nilfunc | .niliface => some .niliface
  | .fn f b [] => some (.fn f b [])
  | _ => none
theorem ofV0_ok {v : V} {c : C} (h : ofV0 v = some c) : c.v = v := by
  unfold ofV0 at h
  split at h <;> first
    | (cases h; done)
    | (cases h; simp [C.v, C.vs, bytesOf_enc])
noncomputable def ofVs (l : List V) : Option (List C) := @List.rec V (fun _ => Option (List C)) (some []) (fun v _ ih => match ofV0 v with
  | some c => match ih with
    | some l => some (c :: l)
    | none => none
  | none => none) l
theorem ofVs_ok : ∀ (l : List V) {cs : List C}, ofVs l = some cs → C.vs cs = l
  | [], cs, h => by have h : some [] = some cs := h; cases h; simp [C.vs]
  | v :: r, cs, h => by
    have h : (match ofV0 v with
      | some c => match ofVs r with
        | some l => some (c :: l)
        | none => none
      | none => none) = some cs := h
    split at h
    · rename_i c hc
      split at h
      · rename_i l hl
        cases h
        simp [C.vs, ofV0_ok hc, ofVs_ok r hl]
      · cases h
    · cases h
noncomputable def ofV (v : V) : Option C := match v with
  | .agg cs => match ofVs cs with | some l => some (.agg l) | none => none
  | v => ofV0 v
theorem ofV_ok (v : V) {c : C} (h : ofV v = some c) : c.v = v := by
  unfold ofV at h
  split at h
  · split at h
    · rename_i l hl
      cases h
      simp [C.v, ofVs_ok _ hl]
    · cases h
  · exact ofV0_ok h

end Go.Eng

