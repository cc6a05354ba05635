import Derived.Test.YtjadlpflhmooaaaGR23
namespace Go.Proofs.Ytjadlpflhmooaaa
open Go.Eng
set_option maxRecDepth 100000
set_option linter.unusedVariables false

/-! ## a net's graph is valid -/

structure PV (p : Ps) : Prop where
  ok : ∀ v, v < p.length → okR p.length v (gR p v) = true
  sym : ∀ v, v < p.length → ∀ l ∈ gR p v, ((v : Int), l.2) ∈ gR p l.1.toNat
theorem mem_addP {bk : Bool} {r : List (Int × Int)} {x l : Int × Int} : l ∈ addP bk r x ↔ l = x ∨ l ∈ r := by
  rw [addP]; split
  · simp
  · simp only [List.mem_append, List.mem_singleton]
    exact ⟨Or.symm, Or.symm⟩
theorem nodup_addP {bk : Bool} {r : List (Int × Int)} {x : Int × Int} (h : (r.map (·.1)).Nodup) (hx : ∀ l ∈ r, l.1 ≠ x.1) : ((addP bk r x).map (·.1)).Nodup := by
  have hn : x.1 ∉ r.map (·.1) := fun hm => by
    obtain ⟨l, h1, h2⟩ := List.mem_map.1 hm
    exact hx l h1 h2
  rw [addP]; split
  · rw [List.map_cons, List.nodup_cons]; exact ⟨hn, h⟩
  · rw [List.map_append, List.nodup_append]
    refine ⟨h, by simp, fun a ha b hb e => hn ?_⟩
    have : b = x.1 := by simpa using hb
    rw [← this, ← e]; exact ha
theorem pv_rep (n : Nat) : PV (List.replicate n []) := ⟨fun v _ => by rw [rep_row]; rfl, fun v _ l hl => by rw [rep_row] at hl; cases hl⟩
theorem pv_link {bk : Bool} {p : Ps} (h : PV p) {a b : Nat} {w : Int} (ha : a < p.length) (hb : b < p.length) (hw : 1 ≤ w ∧ w ≤ 15) : PV (linkP bk p a b w) := by
  have hlen := linkP_len bk p a b w
  rw [linkP] at hlen ⊢
  split
  · exact h
  · rename_i hc
    rw [if_neg hc] at hlen
    have hab : a ≠ b := fun e => hc (.inl e)
    have hnl : ∀ l ∈ gR p a, l.1 ≠ b := fun l hl e => hc (.inr (by rw [lnk, List.any_eq_true]; exact ⟨l, hl, by simpa using e⟩))
    have hnl2 : ∀ l ∈ gR p b, l.1 ≠ a := fun l hl e => by
      have := h.sym b hb l hl
      rw [e] at this
      exact hnl _ this rfl
    have hg : ∀ v, gR ((p.set a (addP bk (gR p a) ((b : Int), w))).set b (addP bk (gR p b) ((a : Int), w))) v = if v = b then addP bk (gR p b) ((a : Int), w) else if v = a then addP bk (gR p a) ((b : Int), w) else gR p v := fun v => by
      rw [gR_set _ b _ (by simpa using hb), gR_set p a _ ha]
    constructor
    · intro v hv
      rw [hlen] at hv ⊢
      rw [hg]
      split
      · rename_i e
        subst e
        obtain ⟨o1, o2⟩ := okR_iff.1 (h.ok v hv)
        refine okR_iff.2 ⟨fun l hl => ?_, nodup_addP o2 hnl2⟩
        rcases mem_addP.1 hl with rfl | hl
        · simp only; omega
        · exact o1 l hl
      · split
        · rename_i e
          subst e
          obtain ⟨o1, o2⟩ := okR_iff.1 (h.ok v hv)
          refine okR_iff.2 ⟨fun l hl => ?_, nodup_addP o2 hnl⟩
          rcases mem_addP.1 hl with rfl | hl
          · simp only; omega
          · exact o1 l hl
        · exact h.ok v hv
    · intro v hv l hl
      rw [hlen] at hv
      have old : ∀ u x, x ∈ gR p u → x ∈ gR ((p.set a (addP bk (gR p a) ((b : Int), w))).set b (addP bk (gR p b) ((a : Int), w))) u := fun u x hx => by
        rw [hg]
        split
        · rename_i e; subst e; exact mem_addP.2 (.inr hx)
        · split
          · rename_i e; subst e; exact mem_addP.2 (.inr hx)
          · exact hx
      rw [hg] at hl
      split at hl
      · rename_i e
        subst e
        rcases mem_addP.1 hl with rfl | hl
        · simp only [Int.toNat_natCast]
          rw [hg, if_neg hab, if_pos rfl]
          exact mem_addP.2 (.inl rfl)
        · exact old _ _ (h.sym v hv l hl)
      · split at hl
        · rename_i e
          subst e
          rcases mem_addP.1 hl with rfl | hl
          · simp only [Int.toNat_natCast]
            rw [hg, if_pos rfl]
            exact mem_addP.2 (.inl rfl)
          · exact old _ _ (h.sym v hv l hl)
        · exact old _ _ (h.sym v hv l hl)
theorem wgt_ok (x : Net) (i : Nat) : 1 ≤ wgt x i ∧ wgt x i ≤ 15 := by
  have := within_range (gI x.weights i) (b := 15) (by omega)
  rw [wgt]; omega
theorem pv_tree (x : Net) (n : Nat) : ∀ k, k < n → PV (treeP x n k)
  | 0, _ => pv_rep n
  | k + 1, hk => by
    have h1 := treeP_to x k
    rw [treeP]
    exact pv_link (pv_tree x n k (by omega)) (by rw [treeP_len]; omega) (by rw [treeP_len]; exact hk) (wgt_ok x k)
theorem pv_more (x : Net) {n : Nat} (hn : 1 ≤ n) {p : Ps} (hp : p.length = n) (h : PV p) : ∀ k, PV (moreP x n p k)
  | 0 => h
  | k + 1 => by
    rw [moreP]
    exact pv_link (pv_more x hn hp h k) (by rw [moreP_len, hp]; exact within_lt hn) (by rw [moreP_len, hp]; exact within_lt hn) (wgt_ok x _)
theorem valid_of {I : List Int} {p : Ps} {n : Nat} (h1 : 1 ≤ n) (h2 : n ≤ 24) (hI : I.length = n) (hp : p.length = n) (h3 : ∀ a ∈ I, 0 ≤ a ∧ a ≤ 255) (h4 : I.Nodup) (h : PV p) : (⟨I, p⟩ : G).valid = true := by
  rw [G.valid, Bool.and_eq_true, Bool.and_eq_true, decide_eq_true_eq]
  refine ⟨⟨by show 1 ≤ I.length; omega, by show I.length ≤ 24; omega, by show p.length = I.length; omega⟩, (idsOk_iff _).2 ⟨h3, h4⟩, ?_⟩
  rw [portsOk, Bool.and_eq_true]
  exact ⟨rowsOk_iff.2 h.ok, symOk_iff.2 h.sym⟩
theorem con_valid (x : Net) {most : Int} (h1 : 1 ≤ most) (h2 : most ≤ 24) : (x.con most).valid = true := by
  have hs := size_ok x h1
  have hi := idsF_ok x.ids (x.size most) (by omega)
  exact valid_of hs.1 (by omega) (con_len x most).1 (con_len x most).2 hi.1 hi.2 (pv_more x hs.1 (treeP_len _ _ _) (pv_tree x _ _ (by omega)) _)
theorem any_valid (x : Net) {most : Int} (h1 : 1 ≤ most) (h2 : most ≤ 24) : (x.any most).valid = true := by
  have hs := size_ok x h1
  have hi := idsF_ok x.ids (x.size most) (by omega)
  have hl := any_len x most
  rw [Net.any] at hl ⊢
  split
  · rename_i h
    rw [if_pos h] at hl
    exact valid_of hs.1 (by omega) hl.1 hl.2 hi.1 hi.2 (pv_more x hs.1 (by simp) (pv_rep _) _)
  · exact con_valid x h1 h2
theorem valid_small {g : G} (h : g.valid = true) : g.Small := by
  obtain ⟨f1, f2, f3, f4, f5, f6, f7⟩ := val_facts h
  refine small_of (by omega) (by omega) (fun u => ?_)
  by_cases hu : u < g.ports.length
  · have := okR_len hu (f6 u hu); omega
  · have : gR g.ports u = [] := by simp [gR, List.getD, List.getElem?_eq_none (Nat.le_of_not_lt hu)]
    rw [this]; simp

/-! ## configurations made of numbers -/

def cfgE (g : G) (vs : List Vr) (raw : List Int) (v i : Nat) : Int := (bV g vs v i).1 + within (gI raw (v * vs.length + i)) ((bV g vs v i).2 - (bV g vs v i).1 + 1)
def cfgR (g : G) (vs : List Vr) (raw : List Int) (v k : Nat) : List Int := (List.range k).map (cfgE g vs raw v)
def cfgC (g : G) (vs : List Vr) (raw : List Int) (k : Nat) : Cf := (List.range k).map fun v => cfgR g vs raw v vs.length
def cfg (g : G) (vs : List Vr) (raw : List Int) : Cf := cfgC g vs raw g.ports.length
theorem cfgR_len (g : G) (vs : List Vr) (raw : List Int) (v k : Nat) : (cfgR g vs raw v k).length = k := by simp [cfgR]
theorem cfgC_len (g : G) (vs : List Vr) (raw : List Int) (k : Nat) : (cfgC g vs raw k).length = k := by simp [cfgC]
theorem cfgR_succ (g : G) (vs : List Vr) (raw : List Int) (v k : Nat) : cfgR g vs raw v (k + 1) = cfgR g vs raw v k ++ [cfgE g vs raw v k] := by simp [cfgR, List.range_succ]
theorem cfgC_succ (g : G) (vs : List Vr) (raw : List Int) (k : Nat) : cfgC g vs raw (k + 1) = cfgC g vs raw k ++ [cfgR g vs raw k vs.length] := by simp [cfgC, List.range_succ]
theorem gC_snoc (c : Cf) (r : List Int) (i : Nat) : gC (c ++ [r]) i = if i < c.length then gC c i else if i = c.length then r else [] := by
  by_cases h : i < c.length
  · simp only [gC, List.getD, List.getElem?_append_left h, if_pos h]
  · rw [if_neg h]
    by_cases h2 : i = c.length
    · subst h2; simp [gC]
    · simp [gC, h2, List.getElem?_eq_none (by simp; omega : (c ++ [r]).length ≤ i)]
theorem vle_appC (c : Cf) (r : List Int) (n m : Nat) (hn : c.length = n) (hr : r.length = m) (F : Nat → Nat → V) (hF : F 0 0 = .fz m 1 false (shiftF 0 (vI r))) (i j : Nat) (hi : i < n + 1) (hj : j < 1) :
    VLe (fapp (shiftF 0 (vC c)) n F i j) (vC (c ++ [r]) i j) := by
  subst hn hr
  obtain rfl : j = 0 := by omega
  by_cases h : i < c.length
  · rw [fapp_lt h]
    apply VLe.of_eq
    simp only [shiftF, vC, gC_snoc, if_pos h, Nat.zero_add]
  · rw [fapp_ge h]
    have : i = c.length := by omega
    subst this
    rw [Nat.sub_self, hF]
    simp only [vC, gC_snoc, Nat.lt_irrefl, if_false, if_true]
    exact VLe.fz rfl (fun h => h) (fun i j hi hj => VLe.of_eq (by simp [shiftF]))
end Go.Proofs.Ytjadlpflhmooaaa
