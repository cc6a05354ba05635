import Derived.Test.YtinmenifoebfmaaGreatDoorEvB
import Derived.Test.YtinmenifoebfmaaGreatDoorR2
import Derived.Test.YtinmenifoebfmaaGreatDoorRN1
namespace Go.Proofs.YtinmenifoebfmaaGreatDoor
open Go.Eng
set_option maxRecDepth 100000
set_option linter.unusedVariables false

end Go.Proofs.YtinmenifoebfmaaGreatDoor

namespace Go.Proofs.YtinmenifoebfmaaGreatDoor
open Go.Eng
set_option maxRecDepth 100000
set_option linter.unusedVariables false

/-! ## the closed program as a list of trees -/

theorem ret_args {P : Program} {f : FuncId} {args args' : List V} {X : V} (hk : allB V.kf args' = true) (hl : LLe args' args) (h : Ret P f args X) : Ret P f args' X := fun own ks => by
  constructor
  intro M w σ us hlen hd hh
  obtain ⟨d1, d2⟩ := hl.dens (M := M) (w := w) (us := us) hlen (fun i v u hv hu => (hd i v u hv hu).kf (allB_mem hk v (List.mem_of_getElem? hv)) Sg.none)
  exact (h own ks).out M w σ us d1 (fun i v u hv hu => (d2 i v u hv hu).mono (Ext.mk (fun _ _ h => ⟨h, rfl⟩) (Nat.le_refl _)) (Sg.none_le σ)) hh
theorem ret_res {P : Program} {f : FuncId} {args : List V} {X X' : V} (hk : X.kf = true) (hl : VLe X X') (h : Ret P f args X) : Ret P f args X' := fun own ks => by
  constructor
  intro M w σ us hlen hd hh
  refine ((h own ks).out M w σ us hlen hd hh).mono ?_
  rintro e w' ⟨M', σ', v, own', ks', u, rfl, hv, hh', tr, kd, rfl, rfl, rfl⟩
  exact ⟨M', σ', X', _, _, u, rfl, (hl.out _ _ _ (hv.kf hk Sg.none)).mono (Ext.mk (fun _ _ h => ⟨h, rfl⟩) (Nat.le_refl _)) (Sg.none_le σ'), hh', tr, kd, rfl, rfl, rfl⟩

def AllLt : Nat → (Nat → Prop) → Prop
  | 0, _ => True
  | n + 1, P => P 0 ∧ AllLt n fun i => P (i + 1)
theorem AllLt.out : ∀ {n : Nat} {P : Nat → Prop}, AllLt n P → ∀ i, i < n → P i
  | n + 1, P, h, 0, _ => h.1
  | n + 1, P, h, i + 1, hi => AllLt.out h.2 i (by omega)
theorem vle_fzA {n s : Nat} {f g : Nat → Nat → V} (h : AllLt n fun i => AllLt s fun j => VLe (f i j) (g i j)) : VLe (.fz n s false f) (.fz n s false g) :=
  VLe.fz rfl (fun h => h) fun i j hi hj => (h.out i hi).out j hj

theorem vle_str {a b : ByteArray} (h : a = b) : VLe (.str a) (.str b) := by subst h; exact .rfl
theorem pr_agg : VLe pRing.v aggC.v := by
  repeat' (first | exact True.intro | exact VLe.rfl | exact vle_str (by kernel_rfl) | (refine VLe.agg ?_) | (refine vle_fzA ?_) | (refine And.intro ?_ ?_))
theorem agg_pr : VLe aggC.v pRing.v := by
  repeat' (first | exact True.intro | exact VLe.rfl | exact vle_str (by kernel_rfl) | (refine VLe.agg ?_) | (refine vle_fzA ?_) | (refine And.intro ?_ ?_))
theorem ring_types : Ret Tryz.prog 118 [pRing.v] (.bool true) := by
  have h := ev_ret mixed tb_ok ev_types
  exact ret_args (args := [aggC.v]) rfl ⟨pr_agg, True.intro⟩ (by simpa only [C.vs, C.v] using h)
def txtB : ByteArray := match textC with | .str l c => bytesOf l c | _ => default
theorem text_ok : Ret Tryz.prog 14 [] (.str txtB) := by
  have := ev_ret mixed tb_ok ev_text
  simpa only [C.vs, C.v, textC, txtB] using this
theorem parse_ok : Ret Tryz.prog 42 [.str txtB] (.tup [aggC.v, .int .i64 0, .int .i64 0]) := by
  have := ev_ret mixed tb_ok ev_parse
  simpa only [C.vs, C.v, textC, txtB, progC] using this
theorem parse_ok2 : Ret Tryz.prog 42 [.str txtB] (.tup [pRing.v, .int .i64 0, .int .i64 0]) :=
  ret_res (X := .tup [aggC.v, .int .i64 0, .int .i64 0]) rfl (VLe.tup ⟨agg_pr, VLe.rfl, VLe.rfl, True.intro⟩) parse_ok
theorem program_ok : Ret Tryz.prog 13 [.str txtB] pRing.v := by
  refine ret_frz rfl ?_
  refine fn_rule mixed Tryz.func13 rfl hc13 hr13 rfl ?_
  repeat' ((conv => whnf); first | (refine (parse_ok2 _ _).mono ?_; rintro _ _ _ ⟨rfl, rfl, rfl⟩))
  all_goals (conv => whnf)
  exact VLe.rfl
theorem ring_prOk : PrOk pRing where
  vlen := by decide
  var := fun i hi => by
    obtain rfl : i = 0 := by have : i < 1 := hi; omega
    exact ⟨.inl rfl, by decide, by decide, by decide, by decide, by decide⟩
  rlen := by decide
  gd := fun i hi => by
    rcases (show i = 0 ∨ i = 1 by have : i < 2 := hi; omega) with rfl | rfl
    · decide
    · decide
  slen := fun i hi => by
    rcases (show i = 0 ∨ i = 1 by have : i < 2 := hi; omega) with rfl | rfl
    · decide
    · decide
  set := fun i hi j hj => by
    rcases (show i = 0 ∨ i = 1 by have : i < 2 := hi; omega) with rfl | rfl
    · obtain rfl : j = 0 := by have : j < 1 := hj; omega
      decide
    · obtain rfl : j = 0 := by have : j < 1 := hj; omega
      decide
  types := ring_types

/-! ## configurations made of numbers -/

end Go.Proofs.YtinmenifoebfmaaGreatDoor

namespace Go.Plain.Ring

abbrev Vl := Nat → Int
abbrev Sb := Nat → Bool
def en (n : Nat) (x : Vl) (v : Nat) : Prop := if v = 0 then x 0 = x (n - 1) else x v ≠ x (v - 1)
def st (n : Nat) (s : Sb) (x : Vl) : Vl := fun v => if s v = true then (if v = 0 then (x 0 + 1) % ((n : Int) + 1) else x (v - 1)) else x v
structure Ch (n : Nat) (x : Vl) (s : Sb) : Prop where
  en : ∀ v, v < n → s v = true → en n x v
def Eqs (n : Nat) (x : Vl) : Prop := ∀ v, v < n → x v = x 0

variable {n : Nat} {x : Vl} {s : Sb}

/-! ## a value that nobody has -/

theorem lenI_le : ∀ {l m : List Int}, l.Nodup → (∀ a ∈ l, a ∈ m) → l.length ≤ m.length
  | [], m, _, _ => Nat.zero_le _
  | a :: l, m, hn, hs => by
    rw [List.nodup_cons] at hn
    have ham := hs a (by simp)
    have h1 := lenI_le (l := l) (m := m.erase a) hn.2 (fun b hb => (List.mem_erase_of_ne (fun e => hn.1 (by rw [← e]; exact hb))).2 (hs b (by simp [hb])))
    have h2 := List.length_erase_of_mem ham
    have h3 := List.length_pos_of_mem ham
    simp only [List.length_cons]
    omega
/-- a number of moves of node 0 behind which its value is new -/
theorem fresh (hn : 1 ≤ n) (x : Vl) (b : Int) : ∃ j : Nat, 1 ≤ j ∧ j ≤ n ∧ ∀ v, 1 ≤ v → v < n → x v ≠ (b + j) % ((n : Int) + 1) := by
  by_cases h : ∃ j : Nat, 1 ≤ j ∧ j ≤ n ∧ ∀ v, 1 ≤ v → v < n → x v ≠ (b + j) % ((n : Int) + 1)
  · exact h
  · exfalso
    have hall : ∀ j : Nat, 1 ≤ j → j ≤ n → ∃ v, 1 ≤ v ∧ v < n ∧ x v = (b + j) % ((n : Int) + 1) := fun j h1 h2 =>
      Classical.byContradiction fun hc => h ⟨j, h1, h2, fun v hv1 hv2 e => hc ⟨v, hv1, hv2, e⟩⟩
    have hnd : ((List.range n).map fun i : Nat => (b + ((i + 1 : Nat) : Int)) % ((n : Int) + 1)).Nodup := by
      rw [List.nodup_iff_pairwise_ne, List.pairwise_map]
      refine List.Pairwise.imp_of_mem ?_ List.nodup_range
      intro p q hp hq hne e
      rw [List.mem_range] at hp hq
      have h1 : ((n : Int) + 1) ∣ ((b + ((p + 1 : Nat) : Int)) - (b + ((q + 1 : Nat) : Int))) := Int.dvd_of_emod_eq_zero (by rw [Int.sub_emod, e, Int.sub_self, Int.zero_emod])
      obtain ⟨k, hk⟩ := h1
      have h2 : ((p : Int) - q) = ((n : Int) + 1) * k := by omega
      rcases Int.lt_trichotomy k 0 with h3 | h3 | h3
      · have : ((n : Int) + 1) * k ≤ ((n : Int) + 1) * (-1) := Int.mul_le_mul_of_nonneg_left (by omega) (by omega)
        omega
      · subst h3; rw [Int.mul_zero] at h2; omega
      · have : ((n : Int) + 1) * 1 ≤ ((n : Int) + 1) * k := Int.mul_le_mul_of_nonneg_left (by omega) (by omega)
        omega
    have := lenI_le (m := (List.range (n - 1)).map fun i => x (i + 1)) hnd (fun a ha => by
      obtain ⟨i, hi, rfl⟩ := List.mem_map.1 ha
      rw [List.mem_range] at hi
      obtain ⟨v, h1, h2, h3⟩ := hall (i + 1) (by omega) (by omega)
      exact List.mem_map.2 ⟨v - 1, List.mem_range.2 (by omega), by rw [show v - 1 + 1 = v by omega, h3]⟩)
    simp at this
    omega

/-! ## node 0 -/

/-- z moves of node 0; behind the j-th one it has a value that was new -/
structure Zi (n : Nat) (b : Int) (j : Nat) (x : Vl) (z : Nat) : Prop where
  le : z ≤ j
  val : x 0 = (b + z) % ((n : Int) + 1)
  new : z < j → ∀ v, 1 ≤ v → v < n → x v ≠ (b + j) % ((n : Int) + 1)
  pre : z = j → ∀ v, 1 ≤ v → v < n → x v = (b + j) % ((n : Int) + 1) → x (v - 1) = (b + j) % ((n : Int) + 1)

theorem mod_ne {b : Int} {z j n : Nat} (h : z < j) (hj : j ≤ n) : (b + z) % ((n : Int) + 1) ≠ (b + j) % ((n : Int) + 1) := by
  intro e
  have h1 : ((b + z) - (b + j)) % ((n : Int) + 1) = 0 := by rw [Int.sub_emod, e, Int.sub_self, Int.zero_emod]
  obtain ⟨k, hk⟩ := Int.dvd_of_emod_eq_zero h1
  rcases Int.lt_trichotomy k 0 with h3 | h3 | h3
  · have : ((n : Int) + 1) * k ≤ ((n : Int) + 1) * (-1) := Int.mul_le_mul_of_nonneg_left (by omega) (by omega)
    omega
  · subst h3; rw [Int.mul_zero] at hk; omega
  · have : ((n : Int) + 1) * 1 ≤ ((n : Int) + 1) * k := Int.mul_le_mul_of_nonneg_left (by omega) (by omega)
    omega
theorem Zi.step {b : Int} {j z : Nat} (hn : 1 ≤ n) (hj : j ≤ n) (h : Zi n b j x z) (hc : Ch n x s) (hne : ¬ Eqs n x) : Zi n b j (st n s x) (z + if s 0 = true then 1 else 0) := by
  obtain ⟨h1, h2, h3, h4⟩ := h
  cases hs : s 0 with
  | true =>
    simp only [if_true]
    have hen : x 0 = x (n - 1) := by have := hc.en 0 (by omega) hs; simpa [Go.Plain.Ring.en] using this
    have hlt : z < j := by
      rcases Nat.lt_or_ge z j with e | e
      · exact e
      · exfalso
        have ez : z = j := by omega
        apply hne
        have hw : x 0 = (b + j) % ((n : Int) + 1) := by rw [h2, ez]
        have key : ∀ d, d < n → x (n - 1 - d) = (b + j) % ((n : Int) + 1) := by
          intro d
          induction d with
          | zero => intro _; rw [Nat.sub_zero, ← hen, hw]
          | succ d ih =>
            intro hd
            have := h4 ez (n - 1 - d) (by omega) (by omega) (ih (by omega))
            rwa [show n - 1 - d - 1 = n - 1 - (d + 1) by omega] at this
        intro v hv
        rw [hw]
        have := key (n - 1 - v) (by omega)
        rwa [show n - 1 - (n - 1 - v) = v by omega] at this
    have hx0 : st n s x 0 = (b + ((z + 1 : Nat) : Int)) % ((n : Int) + 1) := by
      simp only [st, hs, if_true]
      rw [h2, Int.emod_add_emod]
      congr 1
      omega
    have hx0n : x 0 ≠ (b + j) % ((n : Int) + 1) := by rw [h2]; exact mod_ne hlt hj
    have hall : ∀ v, 1 ≤ v → v < n → st n s x v ≠ (b + j) % ((n : Int) + 1) := fun v hv1 hv2 => by
      simp only [st]
      split
      · rw [if_neg (by omega)]
        by_cases e : v = 1
        · subst e; exact hx0n
        · exact h3 hlt (v - 1) (by omega) (by omega)
      · exact h3 hlt v hv1 hv2
    exact ⟨by omega, hx0, fun _ => hall, fun _ v hv1 hv2 e => (hall v hv1 hv2 e).elim⟩
  | false =>
    simp only [Bool.false_eq_true, if_false, Nat.add_zero]
    have hx0 : st n s x 0 = x 0 := by simp [st, hs]
    refine ⟨h1, by rw [hx0]; exact h2, fun hlt v hv1 hv2 => ?_, fun ez v hv1 hv2 e => ?_⟩
    · simp only [st]
      split
      · rw [if_neg (by omega)]
        by_cases e : v = 1
        · subst e; rw [h2]; exact mod_ne hlt hj
        · exact h3 hlt (v - 1) (by omega) (by omega)
      · exact h3 hlt v hv1 hv2
    · have hw : x (v - 1) = (b + j) % ((n : Int) + 1) := by
        simp only [st] at e
        split at e
        · rwa [if_neg (by omega)] at e
        · exact h4 ez v hv1 hv2 e
      simp only [st]
      split
      · rename_i hsv
        by_cases e0 : v = 1
        · subst e0; rw [hs] at hsv; cases hsv
        · rw [if_neg (by omega)]
          exact h4 ez (v - 1) (by omega) (by omega) hw
      · exact hw

/-! ## the other nodes -/

/-- how often each node has moved -/
structure Mi (n : Nat) (x : Vl) (mv : Nat → Nat) : Prop where
  le : ∀ v, 1 ≤ v → v < n → mv v ≤ mv (v - 1) + 1
  eq : ∀ v, 1 ≤ v → v < n → mv v = mv (v - 1) + 1 → x v = x (v - 1)
def up (s : Sb) (mv : Nat → Nat) : Nat → Nat := fun v => mv v + if s v = true then 1 else 0
theorem Mi.step {mv : Nat → Nat} (h : Mi n x mv) (hc : Ch n x s) : Mi n (st n s x) (up s mv) := by
  have key : ∀ v, 1 ≤ v → v < n → up s mv v ≤ up s mv (v - 1) + 1 ∧ (up s mv v = up s mv (v - 1) + 1 → st n s x v = st n s x (v - 1)) := fun v hv1 hv2 => by
    have hle := h.le v hv1 hv2
    have heq := h.eq v hv1 hv2
    cases hs : s v with
    | true =>
      have hne : x v ≠ x (v - 1) := by have := hc.en v hv2 hs; simpa [en, show v ≠ 0 by omega] using this
      have hlt : mv v ≤ mv (v - 1) := by
        rcases Nat.lt_or_ge (mv (v - 1)) (mv v) with e | e
        · exact (hne (heq (by omega))).elim
        · exact e
      cases hs2 : s (v - 1) with
      | true => simp only [up, hs, hs2, if_true]; exact ⟨by omega, fun e => by omega⟩
      | false =>
        simp only [up, hs, hs2, if_true, Bool.false_eq_true, if_false]
        refine ⟨by omega, fun _ => ?_⟩
        simp [st, hs, hs2, show v ≠ 0 by omega]
    | false =>
      cases hs2 : s (v - 1) with
      | true => simp only [up, hs, hs2, if_true, Bool.false_eq_true, if_false]; exact ⟨by omega, fun e => by omega⟩
      | false =>
        simp only [up, hs, hs2, Bool.false_eq_true, if_false]
        refine ⟨by omega, fun e => ?_⟩
        simp [st, hs, hs2]
        exact heq (by omega)
  exact ⟨fun v a b => (key v a b).1, fun v a b => (key v a b).2⟩

/-! ## rounds -/

/-- g = 0: node 0 has moved in this round; g = f + 1: f whole rounds since its last move, and this one has begun behind it -/
structure Gi (n : Nat) (x : Vl) (p : Sb) (g : Nat) : Prop where
  le : g ≤ n
  eq : ∀ v, v < g → x v = x 0
  pend : 1 ≤ g → g < n → x g ≠ x 0 → p g = true
/-- what a round still waits for -/
def left (n : Nat) (x : Vl) (p s : Sb) : Vl → Sb → Prop := fun y q => ∀ v, v < n → (q v = true ↔ p v = true ∧ s v = false ∧ en n y v)

theorem Gi.stay {p q : Sb} {g : Nat} (h : Gi n x p g) (hc : Ch n x s) (h0 : s 0 = false) (hq : left n x p s (st n s x) q) : Gi n (st n s x) q g := by
  have hx0 : st n s x 0 = x 0 := by simp [st, h0]
  have heq : ∀ v, v < g → st n s x v = x 0 := fun v hv => by
    simp only [st]
    split
    · rename_i hs
      by_cases e : v = 0
      · subst e; rw [h0] at hs; cases hs
      · rw [if_neg e]; exact h.eq (v - 1) (by omega)
    · exact h.eq v hv
  refine ⟨h.le, fun v hv => by rw [hx0]; exact heq v hv, fun h1 h2 h3 => ?_⟩
  rw [hx0] at h3
  have hng : s g = false := by
    cases e : s g with
    | false => rfl
    | true =>
      exfalso; apply h3
      simp only [st, e, if_true]
      rw [if_neg (by omega)]
      exact h.eq (g - 1) (by omega)
  have hxg : st n s x g = x g := by simp [st, hng]
  rw [hxg] at h3
  refine (hq g h2).2 ⟨h.pend h1 h2 h3, hng, ?_⟩
  rw [en, if_neg (by omega), hxg, heq (g - 1) (by omega)]
  exact h3
/-- a round is complete without a move of node 0: a node more has its value -/
theorem Gi.full {p q : Sb} {g : Nat} (h : Gi n x p g) (hc : Ch n x s) (h0 : s 0 = false) (hq : left n x p s (st n s x) q) (hz : ∀ v, v < n → q v = false) (hne : ¬ Eqs n (st n s x)) {q' : Sb} (hq' : ∀ v, v < n → en n (st n s x) v → q' v = true) :
    Gi n (st n s x) q' (g + 1) := by
  have hs := h.stay hc h0 hq
  have hgn : g < n := by
    rcases Nat.lt_or_ge g n with e | e
    · exact e
    · exact (hne fun v hv => hs.eq v (by omega)).elim
  have hg : ∀ v, v < g + 1 → st n s x v = st n s x 0 := fun v hv => by
    by_cases e : v = g
    · subst e
      by_cases e0 : v = 0
      · rw [e0]
      · exact Classical.byContradiction fun hx => by
          have := hs.pend (by omega) hgn hx
          rw [hz v hgn] at this; cases this
    · exact hs.eq v (by omega)
  refine ⟨by omega, hg, fun h1 h2 h3 => hq' _ h2 ?_⟩
  rw [en, if_neg (by omega), Nat.add_sub_cancel, hg g (by omega)]
  exact h3
/-- node 0 moves, and a new round begins behind it -/
theorem Gi.new (hn : 1 ≤ n) {q' : Sb} (hq' : ∀ v, v < n → en n x v → q' v = true) : Gi n x q' 1 := by
  refine ⟨hn, fun v hv => by rw [show v = 0 by omega], fun _ h2 h3 => hq' _ h2 ?_⟩
  rw [en, if_neg (by omega)]; exact h3
theorem Gi.none (p : Sb) : Gi n x p 0 := ⟨by omega, fun v hv => by omega, fun h => by omega⟩

/-! ## the whole run -/

structure Inv (n : Nat) (b : Int) (j : Nat) (x : Vl) (p : Sb) (z r : Nat) (mv : Nat → Nat) : Prop where
  zi : Zi n b j x z
  mi : Mi n x mv
  mz : mv 0 = z
  gi : ∃ g, Gi n x p g ∧ r + 1 ≤ z * n + g
/-- a step behind which not all values are equal; the round goes on (q), or a new one begins (q = enabled) -/
theorem Inv.step {b : Int} {j z r : Nat} {p q : Sb} {mv : Nat → Nat} (hn : 1 ≤ n) (hj : j ≤ n) (h : Inv n b j x p z r mv) (hc : Ch n x s) (hne : ¬ Eqs n x) (hne' : ¬ Eqs n (st n s x)) (hq : left n x p s (st n s x) q) :
    ((∃ v, v < n ∧ q v = true) → Inv n b j (st n s x) q (z + if s 0 = true then 1 else 0) r (up s mv)) ∧
    ((∀ v, v < n → q v = false) → ∀ q' : Sb, (∀ v, v < n → en n (st n s x) v → q' v = true) → Inv n b j (st n s x) q' (z + if s 0 = true then 1 else 0) (r + 1) (up s mv)) := by
  obtain ⟨h1, h2, h3, g, h4, h5⟩ := h
  have z1 := h1.step hn hj hc hne
  have m1 := h2.step hc
  have m0 : up s mv 0 = z + if s 0 = true then 1 else 0 := by simp only [up, h3]
  have hg := h4.le
  refine ⟨fun _ => ⟨z1, m1, m0, ?_⟩, fun hz q' hq' => ⟨z1, m1, m0, ?_⟩⟩
  · cases hs : s 0 with
    | true => exact ⟨0, Gi.none q, by simp only [if_true, Nat.add_mul]; omega⟩
    | false => exact ⟨g, h4.stay hc hs hq, by simp only [Bool.false_eq_true, if_false, Nat.add_zero]; exact h5⟩
  · cases hs : s 0 with
    | true => exact ⟨1, Gi.new hn hq', by simp only [if_true, Nat.add_mul]; omega⟩
    | false => exact ⟨g + 1, h4.full hc hs hq hz hne' hq', by simp only [Bool.false_eq_true, if_false, Nat.add_zero]; omega⟩
def sumN (f : Nat → Nat) : Nat → Nat
  | 0 => 0
  | k + 1 => sumN f k + f k
def tri : Nat → Nat
  | 0 => 0
  | k + 1 => tri k + k
/-- while not all values are equal: moves, rounds -/
theorem Inv.bounds {b : Int} {j z r : Nat} {p : Sb} {mv : Nat → Nat} (hn : 1 ≤ n) (hj : j ≤ n) (h : Inv n b j x p z r mv) (hne : ¬ Eqs n x) : mv 0 ≤ n ∧ (∀ v, v < n → mv v ≤ n + v) ∧ sumN mv n ≤ n * n + tri n ∧ r + 1 ≤ n * n + n := by
  obtain ⟨h1, h2, h3, g, h4, h5⟩ := h
  have hz := h1.le
  have hv : ∀ v, v < n → mv v ≤ n + v := by
    intro v
    induction v with
    | zero => intro _; omega
    | succ v ih => intro hv; have := h2.le (v + 1) (by omega) hv; have := ih (by omega); rw [Nat.add_sub_cancel] at *; omega
  have hs : ∀ k, k ≤ n → sumN mv k ≤ n * k + tri k := by
    intro k
    induction k with
    | zero => intro _; simp [sumN, tri]
    | succ k ih => intro hk; have := ih (by omega); have := hv k (by omega); simp only [sumN, tri, Nat.mul_succ]; omega
  have hg := h4.le
  have hzn : z * n ≤ n * n := Nat.mul_le_mul_right n (by omega)
  exact ⟨by omega, hv, hs n (Nat.le_refl _), by omega⟩
end Go.Plain.Ring

namespace Go.Proofs.YtinmenifoebfmaaGreatDoor
open Go.Eng
set_option maxRecDepth 100000
set_option linter.unusedVariables false

/-! ## the ring's steps -/

theorem rconf_of {g : G} (hg : g.valid = true) {c : Cf} (h : Conf pRing g c) : g.rconf c = true := by
  obtain ⟨f1, f2, f3, f4, f5, f6, f7⟩ := val_facts hg
  rw [G.rconf, conf_iff]
  refine ⟨h.len, fun v hv => ?_⟩
  have hl : v < c.length := by rw [h.len]; exact hv
  refine ⟨h.row v hl, fun x hx => ?_⟩
  obtain rfl : x = 0 := by omega
  have := h.val v hl 0 (by decide)
  have e : bnd g (gV pRing.vars 0) v = (0, 0 + 1 * (g.ids.length : Int) + 0 * topI g) := rfl
  rw [e] at this
  simp only [bN]
  change 0 ≤ gI (gC c v) 0 ∧ gI (gC c v) 0 ≤ 0 + 1 * (g.ids.length : Int) + 0 * topI g at this
  omega
theorem ring_range {g : G} {c : Cf} (h : g.rconf c = true) {v : Nat} (hv : v < g.ids.length) : 0 ≤ x0 c v ∧ x0 c v ≤ g.ids.length := by
  rw [G.rconf, conf_iff] at h
  have := (h.2 v hv).2 0 (by omega)
  exact this
theorem mod_sem {a n : Int} (h : 0 ≤ a ∧ a ≤ n) (hn : 1 ≤ n ∧ n ≤ 24) : binI 32 (binI 33 a 1) (binI 33 n 1) = (a + 1) % (n + 1) := by
  have e1 : binI 33 a 1 = a + 1 := sat_eq (by unfold inR; omega)
  have e2 : binI 33 n 1 = n + 1 := sat_eq (by unfold inR; omega)
  rw [e1, e2]
  have e3 : binI 32 (a + 1) (n + 1) = if n + 1 = 0 then 0 else sat (a + 1 - (n + 1) * quoI (a + 1) (n + 1)) := rfl
  rw [e3, if_neg (by omega)]
  have e4 : quoI (a + 1) (n + 1) = (a + 1) / (n + 1) := by
    rw [quoI, if_neg (by omega), if_neg (by omega)]
    exact Int.tdiv_eq_ediv_of_nonneg (by omega)
  rw [e4, ← Int.emod_def]
  have := Int.emod_nonneg (a + 1) (show n + 1 ≠ 0 by omega)
  have := Int.emod_lt_of_pos (a + 1) (show 0 < n + 1 by omega)
  exact sat_eq (by unfold inR; omega)
theorem ring_move0 {g : G} (h : g.rfit = true) {c : Cf} (hc : g.rconf c = true) (he : pv c g.ids.length 0 = true) : gI (moveL pRing g c 0 (ruleI pRing g c 0).toNat) 0 = (x0 c 0 + 1) % ((g.ids.length : Int) + 1) := by
  obtain ⟨h1, h2, h3, h4⟩ := rfit_facts h
  have hr := ring_range hc (v := 0) (by omega)
  have hlen : 0 < (gC c 0).length := by rw [G.rconf, conf_iff] at hc; have := (hc.2 0 (by omega)).1; omega
  have e : ruleI pRing g c 0 = 0 := by
    rw [ruleI, ring_gds h c (by omega)]
    rw [pv] at he
    have hx : decide (x0 c 0 = x0 c (prevN g.ids.length 0)) = true := by simpa [prevN] using he
    rw [hx]; rfl
  rw [e]
  show gI ((gC c 0).set 0 (brI 1 0 (0 + 1 * (g.ids.length : Int) + 0 * topI g) (binI 32 (binI 33 (x0 c 0) 1) (binI 33 (g.ids.length : Int) 1)))) 0 = _
  rw [gI_set _ _ _ _ hlen, if_pos rfl, mod_sem hr (by omega)]
  have := Int.emod_nonneg (x0 c 0 + 1) (show (g.ids.length : Int) + 1 ≠ 0 by omega)
  have := Int.emod_lt_of_pos (x0 c 0 + 1) (show 0 < (g.ids.length : Int) + 1 by omega)
  rw [brI, if_pos (by omega)]
theorem ring_moveS {g : G} (h : g.rfit = true) {c : Cf} (hc : g.rconf c = true) {v : Nat} (hv0 : 1 ≤ v) (hv : v < g.ids.length) (he : pv c g.ids.length v = true) : gI (moveL pRing g c v (ruleI pRing g c v).toNat) 0 = x0 c (v - 1) := by
  obtain ⟨h1, h2, h3, h4⟩ := rfit_facts h
  have hr := ring_range hc (v := v - 1) (by omega)
  have hlen : 0 < (gC c v).length := by rw [G.rconf, conf_iff] at hc; have := (hc.2 v hv).1; omega
  have hp : prevN g.ids.length v = v - 1 := by rw [prevN, show v + g.ids.length - 1 = (v - 1) + g.ids.length by omega, Nat.add_mod_right, Nat.mod_eq_of_lt (by omega)]
  have e : ruleI pRing g c v = 1 := by
    rw [ruleI, ring_gds h c hv, hp]
    rw [pv_pos hv0 hv] at he
    have hx : decide (x0 c v = x0 c (v - 1)) = false := by simpa using he
    rw [hx, show decide (v = 0) = false by rw [decide_eq_false_iff_not]; omega]; rfl
  rw [e]
  show gI ((gC c v).set 0 (brI 1 0 (0 + 1 * (g.ids.length : Int) + 0 * topI g) (hdT.sem g c v (-1)))) 0 = _
  rw [gI_set _ _ _ _ hlen, if_pos rfl, hd_sem h c hv, hp, brI, if_pos (by omega)]
/-- a step, as the plain law has it -/
theorem ring_step {g : G} (h : g.rfit = true) {c : Cf} (hc : g.rconf c = true) {s : Nat} (hs : Part s (enN pRing g c)) {v : Nat} (hv : v < g.ids.length) :
    x0 (stepC pRing g c s) v = Go.Plain.Ring.st g.ids.length (fun v => s.testBit v) (x0 c) v := by
  have hl : c.length = g.ids.length := (conf_small hc).1
  show gI (gC (stepC pRing g c s) v) 0 = _
  rw [stepC_row pRing g c s (by omega), Go.Plain.Ring.st]
  split
  · rename_i hb
    have hen := hs v hb
    rw [en_bit, ring_rule h c hv, Bool.and_eq_true] at hen
    by_cases e : v = 0
    · subst e; rw [if_pos rfl]; exact ring_move0 h hc hen.2
    · rw [if_neg e]; exact ring_moveS h hc (by omega) hv hen.2
  · rfl
theorem ring_enabled {g : G} (h : g.rfit = true) (c : Cf) {v : Nat} (hv : v < g.ids.length) : (enN pRing g c).testBit v = true ↔ Go.Plain.Ring.en g.ids.length (x0 c) v := by
  rw [en_bit, ring_rule h c hv, decide_eq_true hv, Bool.true_and, Go.Plain.Ring.en]
  by_cases e : v = 0
  · subst e; rw [if_pos rfl, pv_zero (by omega), decide_eq_true_eq]
  · rw [if_neg e, pv_pos (by omega) hv]; simp
theorem chg_of_form {c : Cf} {k j : Nat} (hj : j ≤ k) (h1 : ∀ v, v ≤ j → x0 c v = x0 c 0) (h2 : ∀ v, j < v → v ≤ k → x0 c v = x0 c k) : chg c k ≤ 1 := by
  have z : ∀ i, i ≤ j → chg c i = 0 := by
    intro i
    induction i with
    | zero => intro _; rfl
    | succ i ih =>
      intro hi
      rw [chg, if_pos ((h1 i (by omega)).trans (h1 (i + 1) hi).symm)]
      exact ih (by omega)
  have o : ∀ i, i ≤ k → chg c i ≤ 1 := by
    intro i
    induction i with
    | zero => intro _; simp [chg]
    | succ i ih =>
      intro hi
      by_cases e : i + 1 ≤ j
      · rw [z _ e]; omega
      · by_cases e2 : i = j
        · rw [chg, z i (by omega)]; split <;> omega
        · rw [chg, if_pos ((h2 i (by omega) (by omega)).trans (h2 (i + 1) (by omega) hi).symm)]
          exact ih (by omega)
  exact o k (Nat.le_refl _)
theorem legit_of_form {g : G} (h : g.rfit = true) {c : Cf} (hc : g.rconf c = true) {j : Nat} (hj : j < g.ids.length) (j2 : ∀ v, v ≤ j → x0 c v = x0 c 0) (j3 : ∀ v, j < v → v < g.ids.length → x0 c v = x0 c (g.ids.length - 1)) : g.rlegit c = true := by
  have hcl : c.length = g.ids.length := (conf_small hc).1
  rw [G.rlegit, h, hc, Bool.true_and, Bool.true_and, decide_eq_true_eq, hcl]
  exact chg_of_form (by omega) j2 (fun v a b => j3 v a (by omega))
end Go.Proofs.YtinmenifoebfmaaGreatDoor

namespace Go.Proofs.YtinmenifoebfmaaGreatDoor
open Go.Eng
set_option maxRecDepth 100000
set_option linter.unusedVariables false

/-! ## Watch -/

theorem copyR_ok (c : Cf) (hc : c.length ≤ 1000) (hr : ∀ v, v < c.length → (gC c v).length ≤ 1000) : Ret Tryz.prog 74 [cV c] (cV c) := by
  refine ret_frz rfl ?_
  refine (copy_ok c hc hr).mono ?_
  rintro v own' _ ⟨rfl, rfl⟩
  conv => whnf
  refine Len.mk (by omega) ?_
  exact VLe.fz rfl (fun h => h) (fun i j hi hj => VLe.of_eq (by rw [shiftF_eq, Nat.zero_add]))
theorem rcheck_ok (p : Pr) (hp : PrOk p) (g : G) (hs : g.Small) (hg : g.valid = true) (c : Cf) (hc : Conf p g c) (k : Int) (hk : dk k = true) (n : Nat) (hn : n ≤ 4096) : Ret Tryz.prog 38 [p.v, g.v, .int .i64 k, cV c, .int .i64 n] (.int .i64 0) := by
  have h1 := check_ok p hp g hs hg c hc
  have h2 := dvalid_ok k
  rw [hk] at h2
  refine ret_frz rfl ?_
  refine fn_rule mixed Tryz.func38 rfl hc38 hr38 rfl ?_
  repeat' ((conv => whnf); first | (refine Br.tt ?_) | (refine Br.ff ?_) | (refine Br.dec ?_ ?_ <;> intro _ <;> try omega) | (refine (h1 _ _).mono ?_; rintro _ _ _ ⟨rfl, rfl, rfl⟩) | (refine (h2 _ _).mono ?_; rintro _ _ _ ⟨rfl, rfl, rfl⟩))
  all_goals (conv => whnf)
  all_goals exact VLe.rfl

def gT (l : List (Cf × Cnt)) (i : Nat) : Cf × Cnt := l.getD i default
def vCfs (l : List (Cf × Cnt)) : Nat → Nat → V := fun i _ => cV (gT l i).1
def vKs (l : List (Cf × Cnt)) : Nat → Nat → V := fun i j => cntF (gT l i).2 j
def runV (L : List (Cf × Cnt)) : V := .tup [.fz L.length 1 false (vCfs L), .fz L.length 5 false (vKs L), .int .i64 0]
theorem en_and (p : Pr) {g : G} (hg : g.valid = true) (c : Cf) : bitI .and .u32 (enN p g c : Int) (full g.ids.length : Nat) = (enN p g c : Nat) := by
  obtain ⟨f1, f2, f3, f4, f5, f6, f7⟩ := val_facts hg
  rw [bit_and (en_32 p hg c) (by rw [full]; exact nb_lt _ (by omega))]
  congr 1
  apply Nat.eq_of_testBit_eq
  intro i
  rw [Nat.testBit_and]
  cases e : (enN p g c).testBit i with
  | false => rfl
  | true =>
    have := en_part p hg c i e
    rw [f3] at this
    rw [this]; rfl

/-- where a run stands -/
structure RunS where
  c : Cf
  n : Cnt
  pre : List (Cf × Cnt)
  ch : List Nat
  en : List Nat
structure RunI (p : Pr) (g : G) (k : Int) (c0 : Cf) (n0 : Cnt) (ws : List Nat) (x : RunS) : Prop where
  le : x.ch.length ≤ ws.length
  conf : Conf p g x.c
  ok : x.n.Ok
  steps : x.n.steps = x.ch.length
  pl : x.pre.length = x.ch.length
  el : x.en.length = x.ch.length + 1
  tot : trc p g k c0 n0 ws = x.pre ++ trc p g k x.c x.n (ws.drop x.ch.length)
  cho : chsL p g k c0 ws = x.ch ++ chsL p g k x.c (ws.drop x.ch.length)
def cntC (k : Cnt) : List V := [.int .i64 k.steps, .int .i64 k.moves, .int .i64 k.rounds, .int .i64 k.begun, .int .u32 k.pend]
theorem ws_drop {ws : List Nat} {i : Nat} (h : i < ws.length) : ws.drop i = ws.getD i 0 :: ws.drop (i + 1) := by
  rw [List.drop_eq_getElem_cons h]
  simp [List.getD, h]
theorem run_start {p : Pr} {g : G} (hg : g.valid = true) {k : Int} {c : Cf} (hc : Conf p g c) (ws : List Nat) : RunI p g k c (cnt0 (enN p g c)) ws ⟨c, cnt0 (enN p g c), [], [], [enN p g c]⟩ :=
  ⟨Nat.zero_le _, hc, cnt0_ok (en_24 p hg c), rfl, rfl, rfl, rfl, rfl⟩
theorem run_next {p : Pr} (hp : PrOk p) {g : G} (hg : g.valid = true) {k : Int} (hk : dk k = true) {c0 : Cf} {n0 : Cnt} {ws : List Nat} (hl : ws.length ≤ 4000) {x : RunS} (hx : RunI p g k c0 n0 ws x) (hi : x.ch.length < ws.length) (h0 : enN p g x.c ≠ 0) :
    RunI p g k c0 n0 ws ⟨nxC p g k x.c (ws.getD x.ch.length 0), nxK p g k x.c x.n (ws.getD x.ch.length 0), x.pre ++ [(x.c, x.n)], x.ch ++ [chC p g k x.c (ws.getD x.ch.length 0)], x.en ++ [enN p g (nxC p g k x.c (ws.getD x.ch.length 0))]⟩ := by
  obtain ⟨k1, k2⟩ := nx_ok hg hk hx.ok (by have := hx.steps; omega) (ws.getD x.ch.length 0) h0 (k := k)
  have ht := hx.tot
  have hc := hx.cho
  rw [ws_drop hi, trc, if_neg h0] at ht
  rw [ws_drop hi, chsL, if_neg h0] at hc
  refine ⟨by simp only [List.length_append, List.length_singleton]; omega, nx_conf hp hg hk hx.conf _ h0, k1, ?_, ?_, ?_, ?_, ?_⟩
  · simp only [List.length_append, List.length_singleton]; rw [k2, hx.steps]
  · simp only [List.length_append, List.length_singleton]; rw [hx.pl]
  · simp only [List.length_append, List.length_singleton]; rw [hx.el]
  · simp only [List.length_append, List.length_singleton]; rw [ht]; simp
  · simp only [List.length_append, List.length_singleton]; rw [hc]; simp
theorem run_end {p : Pr} {g : G} {k : Int} {c0 : Cf} {n0 : Cnt} {ws : List Nat} {x : RunS} (hx : RunI p g k c0 n0 ws x) (h : x.ch.length = ws.length ∨ enN p g x.c = 0) : trc p g k c0 n0 ws = x.pre ++ [(x.c, x.n)] ∧ chsL p g k c0 ws = x.ch := by
  have ht := hx.tot
  have hc := hx.cho
  by_cases e : x.ch.length < ws.length
  · have h0 : enN p g x.c = 0 := by rcases h with h | h; omega; exact h
    rw [ws_drop e, trc, if_pos h0] at ht
    rw [ws_drop e, chsL, if_pos h0] at hc
    exact ⟨ht, by simpa using hc⟩
  · rw [List.drop_of_length_le (by omega)] at ht hc
    exact ⟨ht, by simpa [chsL] using hc⟩
theorem vle_appU7 (l : List Nat) (a : Nat) (F : Nat → Nat → V) (x : Int) (hF : F 0 0 = .int .u32 x) (hx : x = a) (i j : Nat) (hi : i < (l ++ [a]).length) (hj : j < 1) : VLe (fapp (shiftF 0 (vU7 l)) l.length (shiftF 0 F) i j) (vU7 (l ++ [a]) i j) := by
  obtain rfl : j = 0 := by omega
  apply VLe.of_eq
  simp only [List.length_append, List.length_singleton] at hi
  by_cases h : i < l.length
  · rw [fapp_lt h, shiftF_eq, Nat.zero_add]
    simp [vU7, List.getD, List.getElem?_append_left h]
  · rw [fapp_ge h]
    have : i = l.length := by omega
    subst this
    simp [shiftF, hF, vU7, hx]
theorem gT_snoc (l : List (Cf × Cnt)) (a : Cf × Cnt) (i : Nat) (h : i < l.length + 1) : gT (l ++ [a]) i = if i < l.length then gT l i else a := by
  by_cases e : i < l.length
  · simp [gT, List.getD, e, List.getElem?_append_left e]
  · have : i = l.length := by omega
    subst this
    simp [gT, List.getD]
theorem vle_appCf (l : List (Cf × Cnt)) (a : Cf × Cnt) (F : Nat → Nat → V) (hF : F 0 0 = cV a.1) (n i j : Nat) (hn : n = l.length) (hi : i < l.length + 1) (hj : j < 1) : VLe (fapp (shiftF 0 (vCfs l)) n (shiftF 0 F) i j) (vCfs (l ++ [a]) i j) := by
  obtain rfl : j = 0 := by omega
  subst hn
  apply VLe.of_eq
  rw [vCfs, gT_snoc l a i hi]
  by_cases h : i < l.length
  · rw [fapp_lt h, shiftF_eq, Nat.zero_add, if_pos h]; rfl
  · rw [fapp_ge h, if_neg h]
    have : i = l.length := by omega
    subst this
    simp [shiftF, hF]
theorem vle_appCnt (l : List (Cf × Cnt)) (a : Cf × Cnt) (F : Nat → Nat → V) (hF : ∀ j, j < 5 → F 0 j = cntF a.2 j) (n i j : Nat) (hn : n = l.length) (hi : i < l.length + 1) (hj : j < 5) : VLe (fapp (shiftF 0 (vKs l)) n (shiftF 0 F) i j) (vKs (l ++ [a]) i j) := by
  subst hn
  apply VLe.of_eq
  rw [vKs, gT_snoc l a i hi]
  by_cases h : i < l.length
  · rw [fapp_lt h, shiftF_eq, Nat.zero_add, if_pos h]; rfl
  · rw [fapp_ge h, if_neg h]
    have : i = l.length := by omega
    subst this
    simp only [shiftF_eq, Nat.zero_add, Nat.sub_self]
    exact hF j hj
theorem five_cnt (k : Cnt) (F : Nat → Nat → V) (h0 : F 0 0 = .int .i64 k.steps) (h1 : F 0 1 = .int .i64 k.moves) (h2 : F 0 2 = .int .i64 k.rounds) (h3 : F 0 3 = .int .i64 k.begun) (h4 : F 0 4 = .int .u32 k.pend) : ∀ j, j < 5 → F 0 j = cntF k j := fun j hj => by
  rcases (show j = 0 ∨ j = 1 ∨ j = 2 ∨ j = 3 ∨ j = 4 by omega) with rfl | rfl | rfl | rfl | rfl
  · exact h0
  · exact h1
  · exact h2
  · exact h3
  · exact h4

theorem vle_e0 {X : V} {F : Nat → Nat → V} (h : F 0 0 = X) (i j : Nat) (hi : i < 1) (hj : j < 1) : VLe (shiftF 0 (tab [[X]]) i j) (F i j) := by
  obtain rfl : i = 0 := by omega
  obtain rfl : j = 0 := by omega
  rw [h]; exact VLe.rfl
theorem vle_k0 {k : Cnt} {F : Nat → Nat → V} (h : ∀ j, F 0 j = cntF k j) (i j : Nat) (hi : i < 1) (hj : j < 5) : VLe (shiftF 0 (tab [[.int .i64 k.steps, .int .i64 k.moves, .int .i64 k.rounds, .int .i64 k.begun, .int .u32 k.pend]]) i j) (F i j) := by
  obtain rfl : i = 0 := by omega
  rw [h]
  rcases (show j = 0 ∨ j = 1 ∨ j = 2 ∨ j = 3 ∨ j = 4 by omega) with rfl | rfl | rfl | rfl | rfl <;> exact VLe.rfl
theorem runV_end (L : List (Cf × Cnt)) (n : Nat) (hn : n = L.length) : VLe (V.tup [.fz n 1 false (shiftF 0 (vCfs L)), .fz n 5 false (shiftF 0 (vKs L)), .int .i64 0]) (runV L) := by
  subst hn
  refine VLe.tup ⟨VLe.fz rfl (fun h => h) (fun i j _ _ => VLe.of_eq (by rw [shiftF_eq, Nat.zero_add])), VLe.fz rfl (fun h => h) (fun i j _ _ => VLe.of_eq (by rw [shiftF_eq, Nat.zero_add])), VLe.rfl, True.intro⟩

set_option maxHeartbeats 16000000 in
theorem watch_ok (p : Pr) (hp : PrOk p) (g : G) (hs : g.Small) (hg : g.valid = true) (k : Int) (hk : dk k = true) (c : Cf) (hc : Conf p g c) (ws : List Nat) (hwl : ws.length ≤ 1000) (hw : ∀ w ∈ ws, w < 4294967296) :
    RG 43 [p.v, g.v, .int .i64 k, cV c, .fz ws.length 1 false (vU7 ws)] (runV (trc p g k c (cnt0 (enN p g c)) ws)) := by
  obtain ⟨f1, f2, f3, f4, f5, f6, f7⟩ := val_facts hg
  have hcl := hc.len
  have hvl := hp.vlen
  have h1 := rcheck_ok p hp g hs hg c hc k hk ws.length (by omega)
  have h2 := mover_ok p hp g hg
  have h3 := newnet_ok g hs hg
  have h4 := all_ok g hg
  have h5 := copyR_ok c (by omega) (fun v hv => by have := hc.row v hv; omega)
  have h6 := men_ok p hp g hg c hc
  have h7 := begin_ok (enN p g c) (en_24 p hg c)
  have ha := en_and p hg c
  refine ret_frzG2 rfl ?_
  refine fn_rule mixed Tryz.func43 rfl hc43 hr43 rfl ?_
  repeat' ((conv => whnf); first | (refine Sv.mk _ ha.symm ?_) | (refine Br.ff ?_) | (refine Len.mk (by omega) ?_) | (refine (h1 _ _).mono ?_; rintro _ _ _ ⟨rfl, rfl, rfl⟩) | (refine (h2 _ _).mono ?_; rintro _ _ _ ⟨rfl, rfl, rfl⟩) | (refine (h3 _ _).mono ?_; rintro _ _ _ ⟨rfl, rfl, rfl⟩) | (refine (h4 _ _).mono ?_; rintro _ _ _ ⟨rfl, rfl, rfl⟩) | (refine (h5 _ _).mono ?_; rintro _ _ _ ⟨rfl, rfl, rfl⟩) | (refine (h6 _ _).mono ?_; rintro _ _ _ ⟨rfl, rfl, rfl⟩) | (refine (h7 _ _).mono ?_; rintro _ _ _ ⟨rfl, rfl, rfl⟩) | (refine fn_rule mixed Tryz.func39 rfl hc39 hr39 rfl ?_) | (refine fn_rule mixed Tryz.func41 rfl hc41 hr41 rfl ?_) | (refine fn_rule mixed Tryz.func66 rfl hc66 hr66 rfl ?_) | (refine fn_rule mixed Tryz.func73 rfl hc73 hr73 rfl ?_) | (refine Chk.mk (by kernel_rfl) ?_) | (refine And.intro rfl ?_))
  all_goals (conv => whnf)
  refine loop_w mixed [3, 4, 8, 10, 12, 39] [17, 19, 21, 22] [23, 24, 25, 26, 27, 28, 29, 30, 31, 32, 33, 34, 35, 36, 37, 38, 39, 40, 41, 42, 43, 44, 45, 46, 47, 48, 49, 50, 51, 52, 53, 54, 55, 56, 57, 58, 59] [22, 21, 19, 17, 14, 13, 12, 11, 10, 9, 8, 3, 2, 999] (fun x : RunS => [(1, cV x.c), (11, .int .u32 (enN p g x.c : Nat)), (40, .int .i64 x.ch.length)]) (fun x => [(22, .vec x.ch.length 1 (vU7 x.ch)), (21, .vec x.en.length 1 (vU7 x.en)), (19, .vec (x.pre.length + 1) 5 (vKs (x.pre ++ [(x.c, x.n)]))), (17, .vec (x.pre.length + 1) 1 (vCfs (x.pre ++ [(x.c, x.n)]))), (14, .cells (cntC x.n)), (13, .cells [.vec 22 1 0 x.ch.length, .vec 21 1 0 x.en.length, .nilslice, .int .i64 0, .int .i64 0, .int .i64 0, .int .i64 0, .int .u32 0]), (12, .cells [.nilslice, .nilslice, .nilslice, .int .i64 0, .int .i64 0, .int .i64 0, .int .i64 0, .int .u32 0]), (11, .cells [mvP p g, .fz g.ports.length 1 false (vNet g), .int .i64 k, .int .u32 (full g.ids.length : Nat), .fn (.func 73) false [.loc 2 0, .loc 3 0]]), (10, .cells [.nilslice, .nilslice, .nilslice, .int .i64 0, .int .i64 0, .int .i64 0, .int .i64 0, .int .u32 0]), (9, .cells [.fz ws.length 1 false (vU7 ws)]), (8, .cells [mvP p g, .fz g.ports.length 1 false (vNet g), .int .i64 k, .int .u32 (full g.ids.length : Nat), .fn (.func 73) false [.loc 2 0, .loc 3 0]]), (3, .cells [.vec 19 5 0 (x.pre.length + 1)]), (2, .cells [.vec 17 1 0 (x.pre.length + 1)]), (999, GB)]) (fun m x => m = ws.length - x.ch.length ∧ RunI p g k c (cnt0 (enN p g c)) ws x) ws.length ⟨c, cnt0 (enN p g c), [], [], [enN p g c]⟩ ⟨rfl, run_start hg hc ws⟩ rfl (fun _ => rfl) ?_ ?_
  · refine weak_by (fun _ _ => [(14, some 14), (13, some 13), (12, some 12), (11, some 11), (10, some 10), (9, some 9), (8, some 8), (3, some 3), (2, some 2), (999, some 999), (17, some 17), (19, some 19), (21, some 21), (22, none)]) ?_ ?_ rfl
    · repeat' (first | exact True.intro | (refine VRen.fn ?_) | (refine ⟨⟨_, rfl, ?_⟩, ?_⟩) | exact VRen.kf rfl | exact VRen.loc rfl | (refine And.intro ?_ ?_))
    · repeat' (first | exact vle_e0 (by rfl) _ _ hi hj | exact vle_k0 (k := cnt0 (enN p g c)) (fun _ => by rfl) _ _ hi hj | exact True.intro | (refine VRen.fn ?_) | exact ⟨rfl, rfl, rfl⟩ | (refine ⟨⟨_, rfl, ?_⟩, ?_⟩) | exact VRen.kf rfl | exact VRen.loc rfl | exact VRen.vec rfl rfl rfl | exact VRen.nil rfl rfl | (refine ⟨Nat.le_refl _, rfl, fun i j hi hj => ?_⟩) | (refine ⟨⟨_, _, rfl⟩, ?_⟩) | (refine And.intro ?_ ?_))
  rintro m x ⟨hm, hx⟩
  clear h5 h6 h7 ha
  have hcx := hx.conf
  have hlx := hcx.len
  have hpl := hx.pl
  have hel := hx.el
  have hle := hx.le
  by_cases hi : x.ch.length < ws.length
  · have hwb : ws.getD x.ch.length 0 < 4294967296 := hw _ (by rw [List.getD_eq_getElem?_getD, List.getElem?_eq_getElem hi]; exact List.getElem_mem hi)
    have hrs := nresolve_ok g hg k (enN p g x.c) (ws.getD x.ch.length 0) (en_32 p hg x.c) hwb (en_part p hg x.c)
    change RG _ _ (.int .u32 (chC p g k x.c (ws.getD x.ch.length 0) : Nat)) at hrs
    by_cases h0 : enN p g x.c = 0
    · obtain ⟨e1, e2⟩ := run_end hx (.inr h0)
      rw [e1]
      repeat' ((conv => whnf); first | (refine Br.ff ?_) | (refine Br.dec ?_ ?_ <;> intro _ <;> try omega) | (refine Br.bne ?_ ?_ <;> intro _ <;> try omega) | (refine Ix.nat (by omega) ?_) | (refine Len.mk (by omega) ?_) | (refine (hrs _ _ rfl).mono ?_; rintro _ _ _ ⟨rfl, rfl, rfl⟩) | (refine fn_rule mixed Tryz.func67 rfl hc67 hr67 rfl ?_) | (refine Chk.mk (by kernel_rfl) ?_) | (refine And.intro rfl ?_))
      all_goals (conv => whnf)
      all_goals exact runV_end _ _ (by simp)
    · have hnx := run_next hp hg hk (by omega) hx hi h0
      obtain ⟨c1, c2, c3, c4, c5, c6⟩ := ch_facts p hg hk x.c (ws.getD x.ch.length 0) h0
      have hcn := nx_conf hp hg hk hcx (ws.getD x.ch.length 0) h0
      have hpm := npermits_ok g hg k (enN p g x.c) (chC p g k x.c (ws.getD x.ch.length 0)) (en_32 p hg x.c) (by omega) (en_part p hg x.c)
      have hin : inner g k (enN p g x.c) (chC p g k x.c (ws.getD x.ch.length 0)) = true := rs_inner hg hk (en_32 p hg x.c) (en_part p hg x.c) h0
      rw [hin] at hpm
      have hst := mstep_ok p hp g hg x.c hcx (chC p g k x.c (ws.getD x.ch.length 0)) (by omega) (fun v hv hb => by have := c2 v hb; rw [en_bit, Bool.and_eq_true, decide_eq_true_eq, decide_eq_true_eq] at this; exact this.2)
      change Ret _ _ _ (cV (nxC p g k x.c (ws.getD x.ch.length 0))) at hst
      have hen := men_ok p hp g hg _ hcn
      have ha := en_and p hg (nxC p g k x.c (ws.getD x.ch.length 0))
      have hcp := copyR_ok (nxC p g k x.c (ws.getD x.ch.length 0)) (by rw [hcn.len]; omega) (fun v hv => by have := hcn.row v hv; omega)
      have had := add_ok x.n hx.ok (by have := hx.steps; omega) (chC p g k x.c (ws.getD x.ch.length 0)) (enN p g (nxC p g k x.c (ws.getD x.ch.length 0))) c1 c4 (en_24 p hg _)
      change Ret _ _ _ (.tup [(nxK p g k x.c x.n (ws.getD x.ch.length 0)).v, .int .i64 0]) at had
      generalize nxK p g k x.c x.n (ws.getD x.ch.length 0) = n' at *
      generalize nxC p g k x.c (ws.getD x.ch.length 0) = c' at *
      generalize chC p g k x.c (ws.getD x.ch.length 0) = s at *
      have e1 := en_32 p hg x.c
      repeat' ((conv => whnf); first | (refine Sv.mk _ ha.symm ?_) | (refine Br.tt ?_) | (refine Br.dec ?_ ?_ <;> intro _ <;> try omega) | (refine Br.bne ?_ ?_ <;> intro _ <;> try omega) | (refine Br.nbeq ?_ ?_ <;> intro _ <;> try omega) | (refine Ar.i64 (by omega) (by omega) ?_) | (refine Ix.nat (by omega) ?_) | (refine Len.mk (by omega) ?_) | (refine (hrs _ _ rfl).mono ?_; rintro _ _ _ ⟨rfl, rfl, rfl⟩) | (refine (hpm _ _ rfl).mono ?_; rintro _ _ _ ⟨rfl, rfl, rfl⟩) | (refine (hst _ _).mono ?_; rintro _ _ _ ⟨rfl, rfl, rfl⟩) | (refine (hen _ _).mono ?_; rintro _ _ _ ⟨rfl, rfl, rfl⟩) | (refine (hcp _ _).mono ?_; rintro _ _ _ ⟨rfl, rfl, rfl⟩) | (refine (had _ _).mono ?_; rintro _ _ _ ⟨rfl, rfl, rfl⟩) | (refine fn_rule mixed Tryz.func73 rfl hc73 hr73 rfl ?_) | (refine fn_rule mixed Tryz.func67 rfl hc67 hr67 rfl ?_) | (refine Chk.mk (by kernel_rfl) ?_) | (refine And.intro rfl ?_))
      all_goals (conv => whnf)
      refine ⟨_, _, ?_, ⟨rfl, hnx⟩, ?_⟩
      · simp only [List.length_append, List.length_singleton]; omega
      · refine weak_by (fun env own => [(14, some 14), (13, some 13), (12, some 12), (11, some 11), (10, some 10), (9, some 9), (8, some 8), (3, some 3), (2, some 2), (999, some 999), (17, ckeyo own 2 0), (19, ckeyo own 3 0), (21, ckeyo own 13 1), (22, ckeyo own 13 0)]) ?_ ?_ rfl
        · repeat' (first | exact VRen.int (by simp only [List.length_append, List.length_singleton] <;> omega) | exact True.intro | (refine VRen.fn ?_) | (refine ⟨⟨_, rfl, ?_⟩, ?_⟩) | exact VRen.kf rfl | exact VRen.loc rfl | (refine And.intro ?_ ?_))
        · repeat' (first | exact VRen.vec rfl rfl (by simp only [List.length_append, List.length_singleton] <;> omega) | (refine ⟨by simp only [List.length_append, List.length_singleton] <;> omega, rfl, fun i j hi hj => ?_⟩) | exact VRen.int (by simp only [List.length_append, List.length_singleton] <;> omega) | exact vle_appU7 _ _ _ _ (by rfl) (by rfl) _ _ hi hj | exact vle_appCf _ _ _ (by rfl) _ _ _ (by simp) hi hj | exact vle_appCnt _ _ _ (five_cnt _ _ (by rfl) (by rfl) (by rfl) (by rfl) (by rfl)) _ _ _ (by simp) hi hj | exact True.intro | (refine VRen.fn ?_) | exact ⟨rfl, rfl, rfl⟩ | (refine ⟨⟨_, rfl, ?_⟩, ?_⟩) | exact VRen.kf rfl | exact VRen.loc rfl | (refine And.intro ?_ ?_))
  · obtain ⟨e1, e2⟩ := run_end hx (.inl (by omega))
    rw [e1]
    repeat' ((conv => whnf); first | (refine Br.ff ?_) | (refine Br.dec ?_ ?_ <;> intro _ <;> try omega) | (refine Len.mk (by omega) ?_) | (refine And.intro rfl ?_))
    all_goals (conv => whnf)
    all_goals exact runV_end _ _ (by simp)

/-! ## Run -/

theorem wrun_ok (t : ByteArray) (p : Pr) (hp : PrOk p) (hpr : Ret Tryz.prog 13 [.str t] p.v) (g : G) (hs : g.Small) (hg : g.valid = true) (k : Int) (hk : dk k = true) (c : Cf) (hc : Conf p g c) (ws : List Nat) (hwl : ws.length ≤ 1000) (hw : ∀ w ∈ ws, w < 4294967296) :
    RG 16 [.str t, g.v, .int .i64 k, cV c, .fz ws.length 1 false (vU7 ws)] (.tup [.fz (trc p g k c (cnt0 (enN p g c)) ws).length 1 false (vCfs (trc p g k c (cnt0 (enN p g c)) ws)), .fz (trc p g k c (cnt0 (enN p g c)) ws).length 5 false (vKs (trc p g k c (cnt0 (enN p g c)) ws)), .bool true]) := by
  have h1 := watch_ok p hp g hs hg k hk c hc ws hwl hw
  have h2 := trc_ne p g k c (cnt0 (enN p g c)) ws
  have h3 := trc_len p g k ws c (cnt0 (enN p g c))
  rw [runV] at h1
  generalize trc p g k c (cnt0 (enN p g c)) ws = L at *
  refine ret_frzG rfl ?_
  refine fn_rule mixed Tryz.func16 rfl hc16 hr16 rfl ?_
  repeat' ((conv => whnf); first | (refine Br.tt ?_) | (refine Br.dec ?_ ?_ <;> intro _ <;> try omega) | (refine (h1 _ _ rfl).mono ?_; rintro _ _ _ ⟨rfl, rfl, rfl⟩) | (refine (hpr _ _).mono ?_; rintro _ _ _ ⟨rfl, rfl, rfl⟩) | (refine And.intro rfl ?_))
  all_goals (conv => whnf)
  all_goals exact VLe.rfl
end Go.Proofs.YtinmenifoebfmaaGreatDoor

namespace Go.Proofs.YtinmenifoebfmaaGreatDoor
open Go.Eng
set_option maxRecDepth 100000
set_option linter.unusedVariables false

/-! ## legitimate or not, along a run -/

theorem gT_mem {T : List (Cf × Cnt)} {i : Nat} (h : i < T.length) : gT T i ∈ T := by
  simp [gT, List.getD, h]
theorem csmall_of {p : Pr} (hp : PrOk p) {g : G} (hg : g.valid = true) {c : Cf} (h : Conf p g c) : CSmall c := by
  obtain ⟨f1, f2, f3, f4, f5, f6, f7⟩ := val_facts hg
  have hl := h.len
  have hv := hp.vlen
  refine ⟨by omega, fun r hr => ?_⟩
  obtain ⟨i, hi, e⟩ := List.mem_iff_getElem.1 hr
  have h2 : gC c i = r := by simp [gC, List.getD, hi, e]
  have := h.row i hi
  rw [← h2]; omega

/-- a step of a run -/
structure StepAt (p : Pr) (g : G) (k : Int) (a : Cf × Cnt) (s : Nat) (b : Cf × Cnt) : Prop where
  conf : Conf p g a.1
  ok : a.2.Ok
  en : enN p g a.1 ≠ 0
  ne : s ≠ 0
  part : Part s (enN p g a.1)
  okc : okC g k (enN p g a.1) s = true
  lt : s < 16777216
  cf : b.1 = stepC p g a.1 s
  cn : b.2 = a.2.add s (enN p g b.1)
theorem trc_step {p : Pr} (hp : PrOk p) {g : G} (hg : g.valid = true) {k : Int} (hk : dk k = true) : ∀ (ws : List Nat) (c : Cf) (n : Cnt) (i : Nat), Conf p g c → n.Ok → n.steps + ws.length ≤ 4096 → i + 1 < (trc p g k c n ws).length →
    StepAt p g k (gT (trc p g k c n ws) i) ((chsL p g k c ws).getD i 0) (gT (trc p g k c n ws) (i + 1))
  | [], c, n, i, _, _, _, h => by simp [trc] at h
  | w :: ws, c, n, i, hc, hn, hl, h => by
    simp only [List.length_cons] at hl
    by_cases h0 : enN p g c = 0
    · rw [trc, if_pos h0] at h; simp at h
    · rw [trc, if_neg h0] at h ⊢
      rw [chsL, if_neg h0]
      obtain ⟨c1, c2, c3, c4, c5, c6⟩ := ch_facts p hg hk c w h0
      obtain ⟨k1, k2⟩ := nx_ok hg hk hn (by omega) w h0 (k := k)
      have hcn := nx_conf hp hg hk hc w h0
      cases i with
      | zero =>
        have e : gT ((c, n) :: trc p g k (nxC p g k c w) (nxK p g k c n w) ws) (0 + 1) = (nxC p g k c w, nxK p g k c n w) := by
          cases ws <;> rfl
        rw [e]
        exact ⟨hc, hn, h0, c1, c2, c3, c4, rfl, rfl⟩
      | succ i =>
        have := trc_step hp hg hk ws (nxC p g k c w) (nxK p g k c n w) i hcn k1 (by omega) (by simpa using h)
        exact this
theorem trc_zero (p : Pr) (g : G) (k : Int) (c : Cf) (n : Cnt) (ws : List Nat) : gT (trc p g k c n ws) 0 = (c, n) := by
  cases ws <;> rfl
end Go.Proofs.YtinmenifoebfmaaGreatDoor

namespace Go.Proofs.YtinmenifoebfmaaGreatDoor
open Go.Eng
set_option maxRecDepth 100000
set_option linter.unusedVariables false

/-! ## one token goes round -/

/-- node t alone is privileged -/
def TokF (n : Nat) (x : Nat → Int) (t : Nat) : Prop :=
  t < n ∧ ((t = 0 ∧ ∀ v, v < n → x v = x 0) ∨ (0 < t ∧ (∀ v, v < t → x v = x 0) ∧ (∀ v, t ≤ v → v < n → x v = x (n - 1)) ∧ x 0 ≠ x (n - 1)))
theorem tok_en {n t : Nat} {x : Nat → Int} (hn : 1 ≤ n) (h : TokF n x t) {v : Nat} (hv : v < n) : Go.Plain.Ring.en n x v ↔ v = t := by
  obtain ⟨ht, h⟩ := h
  rw [Go.Plain.Ring.en]
  rcases h with ⟨h0, h1⟩ | ⟨h0, h1, h2, h3⟩
  · subst h0
    by_cases e : v = 0
    · subst e
      rw [if_pos rfl]
      exact ⟨fun _ => rfl, fun _ => (h1 (n - 1) (by omega)).symm⟩
    · rw [if_neg e]
      exact ⟨fun hx => (hx ((h1 v hv).trans (h1 (v - 1) (by omega)).symm)).elim, fun hx => (e hx).elim⟩
  · by_cases e : v = 0
    · subst e
      rw [if_pos rfl]
      exact ⟨fun hx => (h3 hx).elim, fun hx => by omega⟩
    · rw [if_neg e]
      rcases (show v < t ∨ v = t ∨ t < v by omega) with q | q | q
      · exact ⟨fun hx => (hx ((h1 v q).trans (h1 (v - 1) (by omega)).symm)).elim, fun hx => by omega⟩
      · subst q
        exact ⟨fun _ => rfl, fun _ hx => h3 (((h1 (v - 1) (by omega)).symm.trans hx.symm).trans (h2 v (Nat.le_refl _) hv))⟩
      · exact ⟨fun hx => (hx ((h2 v (by omega) hv).trans (h2 (v - 1) (by omega) (by omega)).symm)).elim, fun hx => by omega⟩
theorem tok_next {n t : Nat} {x y : Nat → Int} (hn : 3 ≤ n) (hx : 0 ≤ x 0 ∧ x 0 ≤ n) (h : TokF n x t) (hy : ∀ v, v < n → y v = if v = t then (if v = 0 then (x 0 + 1) % ((n : Int) + 1) else x (v - 1)) else x v) : TokF n y ((t + 1) % n) := by
  obtain ⟨ht, h⟩ := h
  rcases h with ⟨h0, h1⟩ | ⟨h0, h1, h2, h3⟩
  · subst h0
    have e1 : (0 + 1) % n = 1 := Nat.mod_eq_of_lt (by omega)
    rw [e1]
    have y0 : y 0 = (x 0 + 1) % ((n : Int) + 1) := by rw [hy 0 (by omega), if_pos rfl, if_pos rfl]
    have yv : ∀ v, 1 ≤ v → v < n → y v = x 0 := fun v a b => by rw [hy v b, if_neg (by omega)]; exact h1 v b
    refine ⟨by omega, .inr ⟨by omega, fun v hv => by rw [show v = 0 by omega], fun v a b => by rw [yv v a b, yv (n - 1) (by omega) (by omega)], ?_⟩⟩
    rw [y0, yv (n - 1) (by omega) (by omega)]
    intro e
    by_cases q : x 0 = n
    · rw [q, Int.emod_self] at e; omega
    · rw [Int.emod_eq_of_lt (by omega) (by omega)] at e; omega
  · have yt : y t = x 0 := by rw [hy t ht, if_pos rfl, if_neg (by omega)]; exact h1 _ (by omega)
    have yl : ∀ v, v < t + 1 → v < n → y v = x 0 := fun v a b => by
      by_cases e : v = t
      · rw [e]; exact yt
      · rw [hy v b, if_neg e]; exact h1 v (by omega)
    have yh : ∀ v, t + 1 ≤ v → v < n → y v = x (n - 1) := fun v a b => by rw [hy v b, if_neg (by omega)]; exact h2 v (by omega) b
    by_cases e : t + 1 = n
    · rw [e, Nat.mod_self]
      exact ⟨by omega, .inl ⟨rfl, fun v hv => by rw [yl v (by omega) hv, yl 0 (by omega) (by omega)]⟩⟩
    · rw [Nat.mod_eq_of_lt (by omega)]
      refine ⟨by omega, .inr ⟨by omega, fun v hv => by rw [yl v hv (by omega), yl 0 (by omega) (by omega)], fun v a b => by rw [yh v a b, yh (n - 1) (by omega) (by omega)], ?_⟩⟩
      rw [yl 0 (by omega) (by omega), yh (n - 1) (by omega) (by omega)]
      exact h3
theorem tok_priv {g : G} (h : g.rfit = true) {c : Cf} (hc : g.rconf c = true) {t : Nat} (ht : TokF g.ids.length (x0 c) t) : enN pRing g c = 2 ^ t := by
  obtain ⟨h1, h2, h3, h4⟩ := rfit_facts h
  apply Nat.eq_of_testBit_eq
  intro v
  rw [Nat.testBit_two_pow]
  by_cases hv : v < g.ids.length
  · have := ring_enabled h c hv
    rw [tok_en (by omega) ht hv] at this
    rw [Bool.eq_iff_iff, this, decide_eq_true_eq]
    exact ⟨fun e => e.symm, fun e => e.symm⟩
  · have := ht.1
    rw [en_bit, decide_eq_false hv, Bool.false_and]
    rw [decide_eq_false (by omega)]
theorem part_pow {s t : Nat} (h : Part s (2 ^ t)) (h0 : s ≠ 0) : s = 2 ^ t := by
  have hb : s.testBit t = true := by
    apply Classical.byContradiction
    intro hn
    apply h0
    refine zero_bits.2 fun i => ?_
    cases e : s.testBit i with
    | false => rfl
    | true =>
      have := h i e
      rw [Nat.testBit_two_pow, decide_eq_true_eq] at this
      subst this
      exact (hn e).elim
  apply Nat.eq_of_testBit_eq
  intro i
  rw [Nat.testBit_two_pow]
  by_cases e : t = i
  · subst e; rw [hb, decide_eq_true rfl]
  · rw [decide_eq_false e]
    cases q : s.testBit i with
    | false => rfl
    | true =>
      have := h i q
      rw [Nat.testBit_two_pow, decide_eq_true_eq] at this
      exact (e this).elim
theorem tok_step {g : G} (h : g.rfit = true) {x y : Cf × Cnt} {s : Nat} (hst : StepAt pRing g 3 x s y) {t : Nat} (ht : TokF g.ids.length (x0 x.1) t) : TokF g.ids.length (x0 y.1) ((t + 1) % g.ids.length) := by
  obtain ⟨h1, h2, h3, h4⟩ := rfit_facts h
  have hrc := rconf_of h1 hst.conf
  have hs : s = 2 ^ t := part_pow (by rw [← tok_priv h hrc ht]; exact hst.part) hst.ne
  refine tok_next h2 (ring_range hrc (by omega)) ht fun v hv => ?_
  rw [hst.cf, ring_step h hrc hst.part hv, Go.Plain.Ring.st, hs, Nat.testBit_two_pow]
  by_cases e : v = t
  · subst e; rw [if_pos (by simp), if_pos rfl]
  · rw [if_neg (by simp; omega), if_neg e]
theorem tok_legit {g : G} (h : g.rfit = true) {c : Cf} (hc : g.rconf c = true) {t : Nat} (ht : TokF g.ids.length (x0 c) t) : g.rlegit c = true := by
  obtain ⟨h1, h2, h3, h4⟩ := rfit_facts h
  obtain ⟨q1, q | ⟨q2, q3, q4, q5⟩⟩ := ht
  · exact legit_of_form h hc (j := 0) (by omega) (fun v hv => by rw [show v = 0 by omega]) (fun v a b => (q.2 v b).trans (q.2 _ (by omega)).symm)
  · exact legit_of_form h hc (j := t - 1) (by omega) (fun v hv => q3 v (by omega)) (fun v a b => q4 v (by omega) b)
/-- nobody rests: a run is as long as its wishes -/
theorem trc_full {p : Pr} (hp : PrOk p) {g : G} (hg : g.valid = true) {k : Int} (hk : dk k = true) (he : ∀ c, Conf p g c → enN p g c ≠ 0) : ∀ (ws : List Nat) (c : Cf) (n : Cnt), Conf p g c → (trc p g k c n ws).length = ws.length + 1
  | [], c, n, _ => rfl
  | w :: ws, c, n, hc => by
    have h0 := he c hc
    rw [trc, if_neg h0, List.length_cons, trc_full hp hg hk he ws _ _ (nx_conf hp hg hk hc w h0), List.length_cons]

/-! ## where it starts -/

def turnC (n : Nat) (ch a b : Int) : Cf := (List.range n).map fun (v : Nat) => [if (v : Int) ≤ ch then a else b]
theorem turn_row {n v : Nat} (ch a b : Int) (hv : v < n) : gC (turnC n ch a b) v = [if (v : Int) ≤ ch then a else b] := by
  simp [gC, turnC, List.getD, hv]
theorem turn_x0 {n v : Nat} (ch a b : Int) (hv : v < n) : x0 (turnC n ch a b) v = if (v : Int) ≤ ch then a else b := by
  rw [x0, turn_row ch a b hv]; rfl
theorem turn_conf {g : G} (hg : g.valid = true) {ch a b : Int} (ha : 0 ≤ a ∧ a ≤ g.ids.length) (hb : 0 ≤ b ∧ b ≤ g.ids.length) : Conf pRing g (turnC g.ids.length ch a b) := by
  have hl : (turnC g.ids.length ch a b).length = g.ids.length := by simp [turnC]
  refine ⟨hl, fun v hv => ?_, fun v hv x hx => ?_⟩
  · rw [hl] at hv
    rw [turn_row ch a b hv]; rfl
  · rw [hl] at hv
    obtain rfl : x = 0 := by have : x < 1 := hx; omega
    have e : bnd g (gV pRing.vars 0) v = (0, 0 + 1 * (g.ids.length : Int) + 0 * topI g) := rfl
    rw [e]
    have := turn_x0 ch a b hv
    simp only [x0] at this
    rw [this]
    simp only
    split <;> omega
theorem turn_tok {n : Nat} (hn : 3 ≤ n) {ch a b : Int} (hc : 0 ≤ ch ∧ ch < n) : ∃ t, TokF n (x0 (turnC n ch a b)) t := by
  by_cases e : a = b ∨ ch = n - 1
  · refine ⟨0, by omega, .inl ⟨rfl, fun v hv => ?_⟩⟩
    rw [turn_x0 ch a b hv, turn_x0 ch a b (by omega)]
    rcases e with e | e
    · subst e; simp
    · rw [if_pos (by omega), if_pos (by omega)]
  · refine ⟨ch.toNat + 1, by omega, .inr ⟨by omega, fun v hv => ?_, fun v h1 h2 => ?_, ?_⟩⟩
    · rw [turn_x0 ch a b (by omega), turn_x0 ch a b (by omega), if_pos (by omega), if_pos (by omega)]
    · rw [turn_x0 ch a b h2, turn_x0 ch a b (by omega), if_neg (by omega), if_neg (by omega)]
    · rw [turn_x0 ch a b (by omega), turn_x0 ch a b (by omega), if_pos (by omega), if_neg (by omega)]
      exact fun h => e (.inl h)

/-! ## who has moved -/

def mvd (n t i v : Nat) : Bool := decide ((v + n - t) % n < i)
theorem mvd_at {n t i v : Nat} (ht : t < n) (hv : v < n) (hi : i < n) : (v + n - t) % n = i ↔ v = (t + i) % n := by
  by_cases h : t ≤ v
  · rw [show v + n - t = (v - t) + n by omega, Nat.add_mod_right, Nat.mod_eq_of_lt (by omega)]
    constructor
    · intro e; rw [show t + i = v by omega, Nat.mod_eq_of_lt hv]
    · intro e
      by_cases q : t + i < n
      · rw [Nat.mod_eq_of_lt q] at e; omega
      · rw [show t + i = (t + i - n) + n by omega, Nat.add_mod_right, Nat.mod_eq_of_lt (by omega)] at e; omega
  · rw [Nat.mod_eq_of_lt (by omega)]
    constructor
    · intro e; rw [show t + i = v + n by omega, Nat.add_mod_right, Nat.mod_eq_of_lt hv]
    · intro e
      by_cases q : t + i < n
      · rw [Nat.mod_eq_of_lt q] at e; omega
      · rw [show t + i = (t + i - n) + n by omega, Nat.add_mod_right, Nat.mod_eq_of_lt (by omega)] at e; omega
theorem mvd_or {n t i : Nat} (ht : t < n) (hi : i < n) : nb (mvd n t i) n ||| 2 ^ ((t + i) % n) = nb (mvd n t (i + 1)) n := by
  have hm : (t + i) % n < n := Nat.mod_lt _ (by omega)
  apply Nat.eq_of_testBit_eq
  intro v
  rw [Nat.testBit_or, nb_bit, nb_bit, Nat.testBit_two_pow]
  by_cases hv : v < n
  · have := mvd_at ht hv hi
    simp only [hv, decide_true, Bool.true_and, mvd]
    rw [Bool.eq_iff_iff, Bool.or_eq_true, decide_eq_true_eq, decide_eq_true_eq, decide_eq_true_eq]
    omega
  · simp [hv]; omega
theorem mvd_and {n t i : Nat} (ht : t < n) (hi : i < n) : nb (mvd n t i) n &&& 2 ^ ((t + i) % n) = 0 := by
  have hm : (t + i) % n < n := Nat.mod_lt _ (by omega)
  apply Nat.eq_of_testBit_eq
  intro v
  rw [Nat.testBit_and, nb_bit, Nat.zero_testBit, Nat.testBit_two_pow]
  by_cases hv : v < n
  · have := mvd_at ht hv hi
    simp only [hv, decide_true, Bool.true_and, mvd]
    rw [Bool.and_eq_false_iff, decide_eq_false_iff_not, decide_eq_false_iff_not]
    omega
  · simp [hv]
theorem mvd_zero (n t : Nat) : nb (mvd n t 0) n = 0 := nb_zero_iff.2 fun v _ => by simp [mvd]
theorem mvd_full {n t : Nat} (hn : 1 ≤ n) : nb (mvd n t n) n + 1 = 2 ^ n := by
  have : nb (mvd n t n) n = nb (fun _ => true) n := nb_ext fun v _ => by
    rw [mvd, decide_eq_true]; exact Nat.mod_lt _ (by omega)
  rw [this]; exact nb_all n
theorem nxt_pow {n t : Nat} (hn : n ≤ 24) (ht : t < n) : (if 2 ^ t * 2 = 2 ^ n then 1 else 2 ^ t * 2) = 2 ^ ((t + 1) % n) := by
  by_cases e : t + 1 = n
  · rw [if_pos (by rw [← e, Nat.pow_succ]), e, Nat.mod_self]
  · rw [if_neg (fun h => by
      rw [← Nat.pow_succ] at h
      exact e ((Nat.pow_right_inj (by omega)).1 h)), Nat.mod_eq_of_lt (by omega), Nat.pow_succ]
end Go.Proofs.YtinmenifoebfmaaGreatDoor

namespace Go.Proofs.YtinmenifoebfmaaGreatDoor
open Go.Eng
set_option maxRecDepth 100000
set_option linter.unusedVariables false

theorem weak_frz {N : Nat} {chg : List Nat} {env : Env} {own own' : Own} {ks : List Nat} {v v' : V} (t : Nat) (ht : Go.Eng.look env t = some v) (h : frzV own v fun v1 own1 => v1 = v' ∧ own1 = own') : Weak N chg ⟨env, own, ks⟩ ⟨(t, v') :: env, own', ks⟩ :=
  ⟨fun B M w σ a s => by
    obtain ⟨v1, own1, ⟨rfl, rfl⟩, hsub, hs⟩ := frzV_sound h
    obtain ⟨M', h1, tr, hd, hE⟩ := hs M w σ ks _ s.heap (s.env t v ht)
    have tr0 : Tr0 M w σ own M' w σ own1 := ⟨tr.adv, tr.new⟩
    refine ⟨M', σ, ⟨fun t' v'' hv => ?_, h1, s.size, s.defers.tr0 tr0⟩, tr0, fun _ _ _ => rfl⟩
    by_cases e : t = t'
    · subst e
      rw [look_here rfl] at hv
      cases hv
      exact hd
    · rw [look_there e] at hv
      exact (s.env t' v'' hv).mono hE (Sg.le_refl _)⟩
theorem vle_appRow (c : Cf) (n i j : Nat) (hi : i < n + 1) (hj : j < 1) (F : Nat → Nat → V) (hX : VLe (F 0 0) (vC c n 0)) : VLe (fapp (shiftF 0 (vC c)) n (shiftF 0 F) i j) (vC c i j) := by
  obtain rfl : j = 0 := by omega
  by_cases h : i < n
  · rw [fapp_lt h, shiftF_eq, Nat.zero_add]; exact VLe.rfl
  · rw [fapp_ge h]
    have : i = n := by omega
    subst this
    simp only [shiftF_eq, Nat.zero_add, Nat.sub_self]
    exact hX
theorem row_one {c : Cf} {v : Nat} {a : Int} (h : gC c v = [a]) (F : Nat → Nat → V) (hF : F 0 0 = .int .i64 a) : VLe (.fz 1 1 false F) (vC c v 0) := by
  rw [vC, h]
  refine VLe.fz rfl (fun h => h) fun p q hp hq => ?_
  obtain rfl : p = 0 := by omega
  obtain rfl : q = 0 := by omega
  rw [hF]; exact VLe.rfl
def stA (c : Cf) (n v : Nat) : V := if v < n then .vec 2 1 0 v else .fz n 1 false (vC c)
def blA (c : Cf) (n v : Nat) : Blk := if v < n then .vec v 1 (vC c) else .vec 0 1 (vC c)

set_option maxHeartbeats 16000000 in
theorem lawTurns (x : Net) (hx : x.Small) (va : Int) (hva : -9223372036854775808 ≤ va ∧ va ≤ 9223372036854775807) (cg : Int) (hcg : -9223372036854775808 ≤ cg ∧ cg ≤ 9223372036854775807) (ot : Int) (hot : -9223372036854775808 ≤ ot ∧ ot ≤ 9223372036854775807) (wi : List Int) (hwi : wi.length ≤ 9223372036854775807) :
    RG 5 [x.v, .int .i64 va, .int .i64 cg, .int .i64 ot, .fz wi.length 1 false (vUI wi)] (.bool true) := by
  have hR := ringNet_ok x hx 9 (by omega) (by omega)
  obtain ⟨hfit, hs⟩ := ringG_ok x (most := 9) (by omega) (by omega)
  generalize x.ringG 9 = g at *
  obtain ⟨hg, n3, n24, hpl⟩ := rfit_facts hfit
  have w1 := within_ok cg g.ports.length (by omega)
  have w2 := within_ok va (g.ports.length + 1) (by omega)
  have w3 := within_ok ot (g.ports.length + 1) (by omega)
  have r1 := within_range cg (b := (g.ports.length : Int)) (by omega)
  have r2 := within_range va (b := (g.ports.length : Int) + 1) (by omega)
  have r3 := within_range ot (b := (g.ports.length : Int) + 1) (by omega)
  generalize within cg g.ports.length = ch at *
  generalize within va (g.ports.length + 1) = a at *
  generalize within ot (g.ports.length + 1) = b at *
  have hc := turn_conf (g := g) (ch := ch) (a := a) (b := b) hg (by omega) (by omega)
  obtain ⟨t, ht⟩ := turn_tok (n := g.ids.length) (ch := ch) (a := a) (b := b) n3 (by omega)
  have hrow := fun v (hv : v < g.ids.length) => turn_row (n := g.ids.length) (v := v) ch a b hv
  have hcl : (turnC g.ids.length ch a b).length = g.ids.length := hc.len
  generalize turnC g.ids.length ch a b = c at *
  have hk := known_ok
  have htx := text_ok
  have hwi := wishes_ok wi hwi g.ports.length (by omega)
  have hwl := wsL_len wi g.ports.length
  have hwlt := wsL_lt wi g.ports.length
  generalize wsL wi g.ports.length = ws at *
  have hok0 : (cnt0 (enN pRing g c)).Ok := cnt0_ok (en_24 _ hg c)
  have hrun := wrun_ok txtB pRing ring_prOk program_ok g hs hg 3 (by decide) c hc ws (by omega) hwlt
  have hall := trc_all ring_prOk hg (k := 3) (by decide) ws c (cnt0 (enN pRing g c)) hc hok0 (by simp only [cnt0]; omega)
  have hlen := trc_full ring_prOk hg (k := 3) (by decide) (fun c hc => by rw [ring_en hfit (rconf_of hg hc)]; exact (ring_tokens hfit (rconf_of hg hc)).1) ws c (cnt0 (enN pRing g c)) hc
  have hstep := fun i => trc_step ring_prOk hg (k := 3) (by decide) ws c (cnt0 (enN pRing g c)) i hc hok0 (by simp only [cnt0]; omega)
  have hz := trc_zero pRing g 3 c (cnt0 (enN pRing g c)) ws
  have hlg := legit_ok g hs c (csmall_of ring_prOk hg hc)
  rw [tok_legit hfit (rconf_of hg hc) ht] at hlg
  generalize trc pRing g 3 c (cnt0 (enN pRing g c)) ws = T at *
  have htok : ∀ i, i < T.length → TokF g.ids.length (x0 (gT T i).1) ((t + i) % g.ids.length) := by
    intro i
    induction i with
    | zero => intro _; rw [hz, Nat.add_zero, Nat.mod_eq_of_lt ht.1]; exact ht
    | succ i ih =>
      intro h
      have := tok_step hfit (hstep i h) (ih (by omega))
      rwa [Nat.mod_add_mod] at this
  have htn := ht.1
  have hpv : ∀ i, i < T.length → Ret Tryz.prog 25 [g.v, cV (gT T i).1] (.int .u32 (2 ^ ((t + i) % g.ids.length) : Nat)) := fun i h => by
    have hci := (hall _ (gT_mem h)).1
    have hp := privileged_ok g hs _ (csmall_of ring_prOk hg hci)
    rw [← ring_en hfit (rconf_of hg hci), tok_priv hfit (rconf_of hg hci) (htok i h)] at hp
    exact hp
  refine ret_frzG rfl ?_
  refine fn_rule mixed Tryz.func5 rfl hc5 hr5 rfl ?_
  repeat' ((conv => whnf); first | (refine (hR _ _).mono ?_; rintro _ _ _ ⟨rfl, rfl, rfl⟩) | (refine (w1 _ _).mono ?_; rintro _ _ _ ⟨rfl, rfl, rfl⟩))
  all_goals (conv => whnf)
  refine loop_u mixed [1, 2, 3, 4, 11, 12] [2] [3, 4, 5, 6, 7, 8, 9, 10, 11, 12, 13, 14, 15, 16, 17, 18, 19, 20, 21, 22, 23, 24, 25, 26, 27, 28, 29] [2, 1, 0, 999] (fun v : Nat => [(13, stA c g.ports.length v), (14, .int .i64 v)]) (fun own v => (2, blA c g.ports.length v) :: own) (fun m v => m = g.ports.length - v ∧ v ≤ g.ports.length) g.ports.length 0 ⟨rfl, Nat.zero_le _⟩ rfl (fun _ => rfl) ?_ ?_
  · have e1 : stA c g.ports.length 0 = .vec 2 1 0 0 := if_pos (by omega)
    have e2 : blA c g.ports.length 0 = .vec 0 1 (vC c) := if_pos (by omega)
    simp only [e1, e2]
    refine weak_by (fun _ _ => [(0, some 0), (1, some 1), (2, none), (999, some 999)]) ?_ ?_ rfl
    · repeat' (first | exact True.intro | (refine ⟨⟨_, rfl, ?_⟩, ?_⟩) | exact VRen.kf rfl | exact VRen.loc rfl | exact VRen.nil rfl rfl)
    · repeat' (first | exact True.intro | exact ⟨rfl, rfl, rfl⟩ | (refine ⟨⟨_, rfl, ?_⟩, ?_⟩) | exact VRen.kf rfl | (refine ⟨⟨_, _, rfl⟩, ?_⟩) | (refine And.intro ?_ ?_))
  rintro m v ⟨hm, hv⟩
  by_cases hvl : v < g.ports.length
  · have e1 : stA c g.ports.length v = .vec 2 1 0 v := if_pos hvl
    have e2 : blA c g.ports.length v = .vec v 1 (vC c) := if_pos hvl
    simp only [e1, e2]
    have hr := hrow v (by omega)
    by_cases hle : (v : Int) ≤ ch
    · rw [if_pos hle] at hr
      repeat' ((conv => whnf); first | (refine Br.dec ?_ ?_ <;> intro _ <;> try omega) | (refine Br.nbeq ?_ ?_ <;> intro _ <;> try omega) | (refine Ar.i64 (by omega) (by omega) ?_) | (refine Len.mk (by omega) ?_) | (refine (w2 _ _).mono ?_; rintro _ _ _ ⟨rfl, rfl, rfl⟩))
      all_goals (conv => whnf)
      refine ⟨g.ports.length - (v + 1), v + 1, by omega, ⟨rfl, by omega⟩, ?_⟩
      by_cases hl2 : v + 1 < g.ports.length
      · have e3 : stA c g.ports.length (v + 1) = .vec 2 1 0 (v + 1) := if_pos hl2
        have e4 : blA c g.ports.length (v + 1) = .vec (v + 1) 1 (vC c) := if_pos hl2
        simp only [e3, e4]
        refine weak_by (fun env own => [(0, some 0), (1, some 1), (2, ekey env 13), (999, some 999)]) ?_ ?_ rfl
        · repeat' (first | exact True.intro | (refine ⟨⟨_, rfl, ?_⟩, ?_⟩) | exact VRen.kf rfl | exact VRen.loc rfl | exact VRen.vec rfl rfl rfl)
        · repeat' (first | (refine ⟨Nat.le_refl _, rfl, fun i j hi hj => ?_⟩; exact vle_appRow c _ _ _ hi hj _ (row_one hr _ (by rfl))) | exact True.intro | exact ⟨rfl, rfl, rfl⟩ | (refine ⟨⟨_, rfl, ?_⟩, ?_⟩) | exact VRen.kf rfl | (refine And.intro ?_ ?_))
      · have e3 : stA c g.ports.length (v + 1) = .fz g.ports.length 1 false (vC c) := if_neg hl2
        have e4 : blA c g.ports.length (v + 1) = .vec 0 1 (vC c) := if_neg hl2
        have en : v + 1 = g.ports.length := by omega
        simp only [e3, e4]
        refine Weak.trans (weak_frz 13 rfl (by (conv => whnf); exact Len.mk (by omega) ⟨rfl, rfl⟩)) ?_ (ks_sub rfl)
        refine weak_by (fun env own => [(0, some 0), (1, some 1), (2, none), (999, some 999)]) ?_ ?_ rfl
        · repeat' (first | exact VRen.fz en (fun h => h) (fun i j hi hj => by rw [shiftF_eq, Nat.zero_add]; exact vle_appRow c _ _ _ hi hj _ (row_one hr _ (by rfl))) | exact True.intro | (refine ⟨⟨_, rfl, ?_⟩, ?_⟩) | exact VRen.kf rfl | exact VRen.loc rfl)
        · repeat' (first | exact True.intro | exact ⟨rfl, rfl, rfl⟩ | (refine ⟨⟨_, rfl, ?_⟩, ?_⟩) | exact VRen.kf rfl | (refine ⟨⟨_, _, rfl⟩, ?_⟩) | (refine And.intro ?_ ?_))
    · rw [if_neg hle] at hr
      repeat' ((conv => whnf); first | (refine Br.dec ?_ ?_ <;> intro _ <;> try omega) | (refine Br.nbeq ?_ ?_ <;> intro _ <;> try omega) | (refine Ar.i64 (by omega) (by omega) ?_) | (refine Len.mk (by omega) ?_) | (refine (w3 _ _).mono ?_; rintro _ _ _ ⟨rfl, rfl, rfl⟩))
      all_goals (conv => whnf)
      refine ⟨g.ports.length - (v + 1), v + 1, by omega, ⟨rfl, by omega⟩, ?_⟩
      by_cases hl2 : v + 1 < g.ports.length
      · have e3 : stA c g.ports.length (v + 1) = .vec 2 1 0 (v + 1) := if_pos hl2
        have e4 : blA c g.ports.length (v + 1) = .vec (v + 1) 1 (vC c) := if_pos hl2
        simp only [e3, e4]
        refine weak_by (fun env own => [(0, some 0), (1, some 1), (2, ekey env 13), (999, some 999)]) ?_ ?_ rfl
        · repeat' (first | exact True.intro | (refine ⟨⟨_, rfl, ?_⟩, ?_⟩) | exact VRen.kf rfl | exact VRen.loc rfl | exact VRen.vec rfl rfl rfl)
        · repeat' (first | (refine ⟨Nat.le_refl _, rfl, fun i j hi hj => ?_⟩; exact vle_appRow c _ _ _ hi hj _ (row_one hr _ (by rfl))) | exact True.intro | exact ⟨rfl, rfl, rfl⟩ | (refine ⟨⟨_, rfl, ?_⟩, ?_⟩) | exact VRen.kf rfl | (refine And.intro ?_ ?_))
      · have e3 : stA c g.ports.length (v + 1) = .fz g.ports.length 1 false (vC c) := if_neg hl2
        have e4 : blA c g.ports.length (v + 1) = .vec 0 1 (vC c) := if_neg hl2
        have en : v + 1 = g.ports.length := by omega
        simp only [e3, e4]
        refine Weak.trans (weak_frz 13 rfl (by (conv => whnf); exact Len.mk (by omega) ⟨rfl, rfl⟩)) ?_ (ks_sub rfl)
        refine weak_by (fun env own => [(0, some 0), (1, some 1), (2, none), (999, some 999)]) ?_ ?_ rfl
        · repeat' (first | exact VRen.fz en (fun h => h) (fun i j hi hj => by rw [shiftF_eq, Nat.zero_add]; exact vle_appRow c _ _ _ hi hj _ (row_one hr _ (by rfl))) | exact True.intro | (refine ⟨⟨_, rfl, ?_⟩, ?_⟩) | exact VRen.kf rfl | exact VRen.loc rfl)
        · repeat' (first | exact True.intro | exact ⟨rfl, rfl, rfl⟩ | (refine ⟨⟨_, rfl, ?_⟩, ?_⟩) | exact VRen.kf rfl | (refine ⟨⟨_, _, rfl⟩, ?_⟩) | (refine And.intro ?_ ?_))
  · have e1 : stA c g.ports.length v = .fz g.ports.length 1 false (vC c) := if_neg hvl
    have e2 : blA c g.ports.length v = .vec 0 1 (vC c) := if_neg hvl
    have ecv : V.fz g.ports.length 1 false (vC c) = cV c := by rw [cV, hcl, hpl]
    simp only [e1, e2, ecv]
    repeat' ((conv => whnf); first | (refine Br.tt ?_) | (refine Br.dec ?_ ?_ <;> intro _ <;> try omega) | (refine Br.bne ?_ ?_ <;> intro _ <;> try omega) | (refine Ar.i64 (by omega) (by omega) ?_) | (refine (hwi _ _).mono ?_; rintro _ _ _ ⟨rfl, rfl, rfl⟩) | (refine (htx _ _).mono ?_; rintro _ _ _ ⟨rfl, rfl, rfl⟩) | (refine (hlg _ _).mono ?_; rintro _ _ _ ⟨rfl, rfl, rfl⟩) | (refine (hrun _ _ rfl).mono ?_; rintro _ _ _ ⟨rfl, rfl, rfl⟩) | (refine And.intro rfl ?_))
    all_goals (conv => whnf)
    rw [← hpl] at hpv htn n3 n24
    have hT : T.length = g.ports.length + 1 := by omega
    have hP : 2 ^ g.ports.length ≤ 2 ^ 24 := Nat.pow_le_pow_right (by omega) (by omega)
    have hnbl : ∀ i, nb (mvd g.ports.length t i) g.ports.length < 4294967296 := fun i => nb_lt _ (by omega)
    refine loop_r mixed [11, 12, 15] (fun i : Nat => [(18, .int .u32 (nb (mvd g.ports.length t i) g.ports.length : Nat)), (19, .int .i64 i)]) (fun m i => m = g.ports.length - i ∧ i ≤ g.ports.length) g.ports.length 0 ⟨rfl, Nat.zero_le _⟩ ?_ ?_
    · refine weak_by (fun _ _ => [(0, some 0), (1, some 1), (2, some 2), (999, some 999)]) ?_ ?_ rfl
      · repeat' (first | exact VRen.int (by rw [mvd_zero]; rfl) | exact True.intro | (refine ⟨⟨_, rfl, ?_⟩, ?_⟩) | exact VRen.kf rfl | exact VRen.loc rfl)
      · repeat' (first | exact True.intro | exact ⟨rfl, rfl, rfl⟩ | (refine ⟨⟨_, rfl, ?_⟩, ?_⟩) | exact VRen.kf rfl | (refine ⟨Nat.le_refl _, rfl, fun i j hi hj => ?_⟩) | exact VLe.rfl | (refine And.intro ?_ ?_))
    rintro m i ⟨hm, hi⟩
    by_cases hil : i < g.ports.length
    · have p1 := hpv i (by omega)
      have p2 := hpv (i + 1) (by omega)
      have hm1 : (t + i) % g.ports.length < g.ports.length := Nat.mod_lt _ (by omega)
      have hnx := nxt_pow n24 hm1
      rw [Nat.mod_add_mod, Nat.add_assoc] at hnx
      have ha := mvd_and htn hil
      have ho := mvd_or htn hil
      have hs1 := pow_single ((t + i) % g.ports.length)
      have hpp : 2 ^ ((t + i) % g.ports.length) < 2 ^ g.ports.length := Nat.pow_lt_pow_right (by omega) hm1
      have hp0 : 0 < 2 ^ ((t + i) % g.ports.length) := Nat.two_pow_pos _
      generalize 2 ^ ((t + i) % g.ports.length) = p at *
      generalize 2 ^ ((t + (i + 1)) % g.ports.length) = p' at *
      have hb1 : bitI .and .u32 (p : Int) ((p : Int) - 1) = 0 := by
        rw [show (p : Int) - 1 = ((p - 1 : Nat) : Int) by omega, bit_and (by omega) (by omega), hs1]; rfl
      have hb2 : bitI .and .u32 (nb (mvd g.ports.length t i) g.ports.length : Nat) (p : Int) = 0 := by
        rw [bit_and (hnbl i) (by omega), ha]; rfl
      have hb3 : bitI .or .u32 (nb (mvd g.ports.length t i) g.ports.length : Nat) (p : Int) = (nb (mvd g.ports.length t (i + 1)) g.ports.length : Nat) := by
        rw [bit_or (hnbl i) (by omega), ho]
      have hsh : ((p * 2 : Nat) : Int) = IntKind.u32.wrap ((p : Int) * 2 ^ (min (1 : Int).toNat 32)) := by
        have e2 : (2 : Int) ^ (min (1 : Int).toNat 32) = 2 := by decide
        rw [e2, wrap_u32 (by omega) (by omega)]
        push_cast
        rfl
      by_cases hw : p * 2 = 2 ^ g.ports.length
      · rw [if_pos hw] at hnx
        subst hnx
        repeat' ((conv => whnf); first | (refine Ar.mk _ hsh ?_) | (refine Sv.mk 0 hb1.symm ?_) | (refine Sv.mk 0 hb2.symm ?_) | (refine Sv.mk _ hb3.symm ?_) | (refine Ix.mk (i + 1) (by omega) (by omega) ?_) | (refine Br.ff ?_) | (refine Br.dec ?_ ?_ <;> intro _ <;> try omega) | (refine Ar.i64 (by omega) (by omega) ?_) | (refine Ar.u32 (by omega) (by omega) ?_) | (refine Ar.sh1 (by omega) ?_) | (refine Ar.u64 (by omega) (by omega) ?_) | (refine Nn.mk (by omega) ?_) | (refine Ix.nat (by omega) ?_) | (refine (p1 _ _).mono ?_; rintro _ _ _ ⟨rfl, rfl, rfl⟩) | (refine (p2 _ _).mono ?_; rintro _ _ _ ⟨rfl, rfl, rfl⟩))
        all_goals (conv => whnf)
        all_goals
          refine ⟨g.ports.length - (i + 1), i + 1, by omega, ⟨rfl, by omega⟩, ?_⟩
          refine weak_by (fun _ _ => [(0, some 0), (1, some 1), (2, some 2), (999, some 999)]) ?_ ?_ rfl
          · repeat' (first | exact True.intro | (refine ⟨⟨_, rfl, ?_⟩, ?_⟩) | exact VRen.kf rfl | exact VRen.loc rfl)
          · repeat' (first | exact True.intro | exact ⟨rfl, rfl, rfl⟩ | (refine ⟨⟨_, rfl, ?_⟩, ?_⟩) | exact VRen.kf rfl | (refine ⟨Nat.le_refl _, rfl, fun i j hi hj => ?_⟩) | exact VLe.rfl | (refine And.intro ?_ ?_))
      · rw [if_neg hw] at hnx
        subst hnx
        repeat' ((conv => whnf); first | (refine Ar.mk _ hsh ?_) | (refine Sv.mk 0 hb1.symm ?_) | (refine Sv.mk 0 hb2.symm ?_) | (refine Sv.mk _ hb3.symm ?_) | (refine Ix.mk (i + 1) (by omega) (by omega) ?_) | (refine Br.ff ?_) | (refine Br.dec ?_ ?_ <;> intro _ <;> try omega) | (refine Br.bne ?_ ?_ <;> intro _ <;> try omega) | (refine Ar.i64 (by omega) (by omega) ?_) | (refine Ar.u32 (by omega) (by omega) ?_) | (refine Ar.sh1 (by omega) ?_) | (refine Ar.u64 (by omega) (by omega) ?_) | (refine Nn.mk (by omega) ?_) | (refine Ix.nat (by omega) ?_) | (refine (p1 _ _).mono ?_; rintro _ _ _ ⟨rfl, rfl, rfl⟩) | (refine (p2 _ _).mono ?_; rintro _ _ _ ⟨rfl, rfl, rfl⟩))
        all_goals (conv => whnf)
        all_goals
          refine ⟨g.ports.length - (i + 1), i + 1, by omega, ⟨rfl, by omega⟩, ?_⟩
          refine weak_by (fun _ _ => [(0, some 0), (1, some 1), (2, some 2), (999, some 999)]) ?_ ?_ rfl
          · repeat' (first | exact True.intro | (refine ⟨⟨_, rfl, ?_⟩, ?_⟩) | exact VRen.kf rfl | exact VRen.loc rfl)
          · repeat' (first | exact True.intro | exact ⟨rfl, rfl, rfl⟩ | (refine ⟨⟨_, rfl, ?_⟩, ?_⟩) | exact VRen.kf rfl | (refine ⟨Nat.le_refl _, rfl, fun i j hi hj => ?_⟩) | exact VLe.rfl | (refine And.intro ?_ ?_))
    · have ei : i = g.ports.length := by omega
      subst ei
      have hf := mvd_full (n := g.ports.length) (t := t) (by omega)
      have hl := hnbl g.ports.length
      repeat' ((conv => whnf); first | (refine Br.tt ?_) | (refine Br.dec ?_ ?_ <;> intro _ <;> try omega) | (refine Ar.u32 (by omega) (by omega) ?_) | (refine Ar.sh1 (by omega) ?_) | (refine Ar.u64 (by omega) (by omega) ?_) | (refine Nn.mk (by omega) ?_) | (refine (hk _ _).mono ?_; rintro _ _ _ ⟨rfl, rfl, rfl⟩))
      all_goals (conv => whnf)
      all_goals first | exact VLe.rfl | (exfalso; omega)
end Go.Proofs.YtinmenifoebfmaaGreatDoor

