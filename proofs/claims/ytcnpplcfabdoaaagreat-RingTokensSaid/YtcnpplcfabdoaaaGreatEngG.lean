/-
  The engine, part G: all operations.
-/
import Derived.Test.YtcnpplcfabdoaaaGreatEngF2
namespace Go.Eng

/-! ## composite literals -/

theorem foldl_set (l : List Value) : ∀ (k : Nat) (cells : Array Value) (off : Nat), off + k + l.length ≤ cells.size →
    (l.zipIdx k).foldl (fun cs (p : Value × Nat) => cs.setIfInBounds (off + p.2) p.1) cells = (cells.toList.take (off + k) ++ l ++ cells.toList.drop (off + k + l.length)).toArray := by
  induction l with
  | nil =>
    intro k cells off h
    apply Array.ext'
    simp
  | cons x l ih =>
    intro k cells off h
    simp only [List.length_cons] at h
    rw [List.zipIdx_cons, List.foldl_cons, ih (k + 1) _ off (by simp; omega)]
    apply Array.ext'
    simp only [Array.toList_setIfInBounds]
    have hlen : off + k < cells.toList.length := by simp; omega
    apply List.ext_getElem?
    intro i
    have g1 := splice_get (cells.toList.set (off + k) x) l (off + (k + 1)) (by simp; omega) i
    have g2 := splice_get cells.toList (x :: l) (off + k) (by simp; omega) i
    rw [g1, g2]
    simp only [List.length_cons, List.getElem?_set]
    by_cases h1 : i < off + k
    · rw [if_pos (by omega), if_pos h1, if_neg (by omega)]
    · by_cases h2 : i = off + k
      · subst h2
        rw [if_pos (by omega), if_pos rfl, if_pos hlen, if_neg (by omega), if_pos (by omega)]
        simp
      · rw [if_neg (by omega), if_neg h1]
        by_cases h3 : i < off + (k + 1) + l.length
        · rw [if_pos h3, if_pos (by omega)]
          rw [show i - (off + k) = (i - (off + (k + 1))) + 1 by omega]
          simp
        · rw [if_neg h3, if_neg (by omega), if_neg (by omega)]

theorem fill_cons {place : Nat → Option (Nat × Nat)} {cells : Array Value} {i off size : Nat} {v : Value} {rest : List (Nat × Value)} (hp : place i = some (off, size)) (hs : v.cells.size = size) (hfit : off + size ≤ cells.size) :
    Instr.fill place cells ((i, v) :: rest) = Instr.fill place (cells.toList.take off ++ v.cells.toList ++ cells.toList.drop (off + size)).toArray rest := by
  have hf := foldl_set v.cells.toList 0 cells off (by simp; omega)
  simp only [Nat.add_zero, Array.length_toList, hs] at hf
  have he : v.cells.zipIdx.foldl (fun cs (p : Value × Nat) => cs.setIfInBounds (off + p.2) p.1) cells = (cells.toList.take off ++ v.cells.toList ++ cells.toList.drop (off + size)).toArray := by
    rw [← hf, ← Array.foldl_toList]
    simp
  have hb : (decide (v.cells.size ≠ size) || decide (off + v.cells.size > cells.size)) = false := by simp [hs]; omega
  simp only [Instr.fill, hp, hb, Bool.false_eq_true, if_false]
  exact congrArg (fun c => Instr.fill place c rest) he

/-- parts put into cells, abstractly -/
def fillK (env : Env) : List (Nat × Nat × X) → List V → (List V → Prop) → Prop
  | [], zs, K => K zs
  | (off, size, x) :: r, zs, K => x.get env fun v => v.cellsK fun vs => match Nat.beq vs.length size, Nat.ble (off + size) zs.length, allB V.cellB vs with
    | true, true, true => setK zs off vs fun zs => fillK env r zs K
    | _, _, _ => False

def cParts (place : Nat → Option (Nat × Nat)) : List (Nat × Operand) → Option (List (Nat × Nat × X))
  | [] => some []
  | (i, o) :: r => match place i, cX o, cParts place r with
    | some (off, size), some x, some l => some ((off, size, x) :: l)
    | _, _, _ => none

theorem fillK_sound (env : Env) (place : Nat → Option (Nat × Nat)) : ∀ (ps : List (Nat × Operand)) (l : List (Nat × Nat × X)) (zs : List V) (K : List V → Prop), cParts place ps = some l → fillK env l zs K →
    ∃ r, K r ∧ r.length = zs.length ∧ ((∀ z ∈ zs, z.cellB = true) → ∀ z ∈ r, z.cellB = true) ∧
    ∀ M w σ (a : Act) (us : List Value), (∀ x, x ∈ l.map (·.2.2) → XOk M w σ env a x) → zs.length = us.length → (∀ (i : Nat) (v : V) (u : Value), zs[i]? = some v → us[i]? = some u → Den M w σ v u) →
      ∃ us' : List Value, Instr.fill place us.toArray (ps.map fun p => (p.1, a.eval p.2)) = some us'.toArray ∧ us'.length = us.length ∧
        (∀ (i : Nat) (v : V) (u : Value), r[i]? = some v → us'[i]? = some u → Den M w σ v u)
  | [], l, zs, K, hc, h => by
    simp [cParts] at hc
    subst hc
    exact ⟨zs, h, rfl, fun h => h, fun M w σ a us _ hl hd => ⟨us, rfl, rfl, hd⟩⟩
  | (i, o) :: ps, l, zs, K, hc, h => by
    unfold cParts at hc
    split at hc <;> simp only [Option.some.injEq, reduceCtorEq] at hc
    rename_i off size x l' h1 h2 h3
    subst hc
    obtain ⟨v, h, hv⟩ := get_sound h2 h
    obtain ⟨vs, h, hvs⟩ := cellsK_sound h
    split at h
    · rename_i e1 e2 e3
      have e1 := Nat.eq_of_beq_eq_true e1
      have e2 := Nat.le_of_ble_eq_true e2
      obtain ⟨zs', h, s1, s2, s3⟩ := setK_sound _ _ _ _ h
      obtain ⟨r, hK, r1, r2, r3⟩ := fillK_sound env place ps l' zs' K h3 h
      refine ⟨r, hK, by omega, ?_, ?_⟩
      · intro hz
        apply r2
        intro z hzm
        rw [s3] at hzm
        rcases List.mem_append.1 hzm with hm | hm
        · rcases List.mem_append.1 hm with hm | hm
          · exact hz z (List.mem_of_mem_take hm)
          · exact allB_mem e3 z hm
        · exact hz z (List.mem_of_mem_drop hm)
      · intro M w σ a us hx hl hd
        obtain ⟨l1, l2⟩ := hvs M w σ _ (hv M w σ a (hx x (by simp)))
        have hsz : (a.eval o).cells.size = size := by omega
        have lenu : (a.eval o).cells.toList.length = size := by simpa using hsz
        have hsp := splice_length us (a.eval o).cells.toList off (by omega)
        rw [lenu] at hsp
        obtain ⟨us', f1, f2, f3⟩ := r3 M w σ a (us.take off ++ (a.eval o).cells.toList ++ us.drop (off + size)) (fun y hy => hx y (by simp only [List.map_cons, List.mem_cons]; exact .inr hy)) (by omega) (by
          intro j v' u' hv' hu'
          have g1 := splice_get us (a.eval o).cells.toList off (by omega) j
          rw [lenu] at g1
          have g2 := splice_get zs vs off (by omega) j
          rw [← s3, e1] at g2
          rw [g1] at hu'
          rw [g2] at hv'
          split at hv'
          · rename_i c1
            rw [if_pos c1] at hu'
            exact hd j v' u' hv' hu'
          · rename_i c1
            rw [if_neg c1] at hu'
            split at hv'
            · rename_i c2
              rw [if_pos c2] at hu'
              exact l2 _ v' u' hv' (by simpa using hu')
            · rename_i c2
              rw [if_neg c2] at hu'
              exact hd j v' u' hv' hu')
        refine ⟨us', ?_, by omega, f3⟩
        rw [List.map_cons, fill_cons h1 hsz (by simp; omega)]
        exact f1
    · exact h.elim


/-- the cells of some elements, one behind the other -/
def flatK (s : Nat) : List V → (List V → Prop) → Prop
  | [], K => K []
  | v :: r, K => v.cellsK fun vs => match Nat.beq vs.length s, allB V.cellB vs with
    | true, true => flatK s r fun cs => K (vs ++ cs)
    | _, _ => False

theorem flatK_sound (s : Nat) : ∀ (l : List V) (K : List V → Prop), flatK s l K → ∃ cs, K cs ∧ cs.length = l.length * s ∧
    ∀ M w σ (us : List Value), l.length = us.length → (∀ (i : Nat) (v : V) (u : Value), l[i]? = some v → us[i]? = some u → Den M w σ v u) →
      (∀ u ∈ us, u.cells.size = s) ∧ ∀ i u, us[i]? = some u → ∀ j, j < s → ∃ x v, u.cells[j]? = some x ∧ x.oneCell' = true ∧ cs[i * s + j]? = some v ∧ Den M w σ v x
  | [], K, h => ⟨[], h, by simp, fun M w σ us hl _ => by
      have : us = [] := List.eq_nil_of_length_eq_zero (by simpa using hl.symm)
      subst this
      simp⟩
  | v :: r, K, h => by
    obtain ⟨vs, hA, hvs⟩ := cellsK_sound h
    clear h
    split at hA
    · rename_i e1 e2
      have e1 := Nat.eq_of_beq_eq_true e1
      obtain ⟨cs, hK, hl, hr⟩ := flatK_sound s r _ hA
      refine ⟨_, hK, by simp [hl, e1, Nat.add_mul, Nat.add_comm], fun M w σ us hlu hd => ?_⟩
      cases us with
      | nil => simp at hlu
      | cons u us =>
        obtain ⟨c1, c2⟩ := hvs M w σ u (hd 0 v u (by simp) (by simp))
        obtain ⟨d1, d2⟩ := hr M w σ us (by simpa using hlu) (fun i v u hv hu => hd (i + 1) v u (by simpa using hv) (by simpa using hu))
        refine ⟨fun u' hu' => ?_, fun i u' hu' j hj => ?_⟩
        · rcases List.mem_cons.1 hu' with e | e
          · subst e; omega
          · exact d1 u' e
        · cases i with
          | zero =>
            simp at hu'
            subst hu'
            have hj1 : j < vs.length := by omega
            have hj2 : j < u.cells.size := by omega
            have hdd := c2 j vs[j] u.cells[j] (by simp [hj1]) (by simp [hj2])
            refine ⟨u.cells[j], vs[j], by simp [hj2], hdd.oneCell (allB_mem e2 _ (List.getElem_mem hj1)), ?_, hdd⟩
            rw [List.getElem?_append_left (by omega)]
            simp [hj1]
          | succ i =>
            obtain ⟨x, y, a1, a2, a3, a4⟩ := d2 i u' (by simpa using hu') j hj
            refine ⟨x, y, a1, a2, ?_, a4⟩
            rw [List.getElem?_append_right (by rw [e1, Nat.add_mul]; omega)]
            rw [show (i + 1) * s + j - vs.length = i * s + j by rw [e1, Nat.add_mul]; omega]
            exact a3
    · exact hA.elim

def rowsK (s : Nat) : List V → (List (List V) → Prop) → Prop
  | [], K => K []
  | v :: r, K => v.cellsK fun vs => match Nat.beq vs.length s, allB V.cellB vs, allB V.kf1 vs with
    | true, true, true => rowsK s r fun rs => K (vs :: rs)
    | _, _, _ => False

theorem rowsK_sound (s : Nat) : ∀ (l : List V) (K : List (List V) → Prop), rowsK s l K → ∃ rs, K rs ∧ rs.length = l.length ∧
    ∀ M w σ (us : List Value), l.length = us.length → (∀ (i : Nat) (v : V) (u : Value), l[i]? = some v → us[i]? = some u → Den M w σ v u) →
      (∀ u ∈ us, u.cells.size = s) ∧ ∀ i u, us[i]? = some u → ∀ j, j < s → ∃ x, u.cells[j]? = some x ∧ x.oneCell' = true ∧ Den M w Sg.none (tab rs i j) x
  | [], K, h => ⟨[], h, rfl, fun M w σ us hl _ => by
      have : us = [] := List.eq_nil_of_length_eq_zero (by simpa using hl.symm)
      subst this
      simp⟩
  | v :: l, K, h => by
    obtain ⟨vs, h, hvs⟩ := cellsK_sound h
    split at h
    · rename_i e1 e2 e3
      have e1 := Nat.eq_of_beq_eq_true e1
      obtain ⟨rs, hK, hl, hr⟩ := rowsK_sound s l _ h
      refine ⟨vs :: rs, hK, by simp [hl], ?_⟩
      intro M w σ us hlen hd
      cases us with
      | nil => simp at hlen
      | cons u us =>
        obtain ⟨l1, l2⟩ := hvs M w σ u (hd 0 v u (by simp) (by simp))
        obtain ⟨q1, q2⟩ := hr M w σ us (by simpa using hlen) (fun i v' u' h1 h2 => hd (i + 1) v' u' (by simpa using h1) (by simpa using h2))
        refine ⟨?_, ?_⟩
        · intro x hx
          rcases List.mem_cons.1 hx with e | e
          · subst e; omega
          · exact q1 x e
        · intro i u' hu' j hj
          cases i with
          | zero =>
            simp at hu'
            subst hu'
            have hj1 : j < vs.length := by omega
            have hj2 : j < u.cells.size := by omega
            have hdj := l2 j vs[j] u.cells[j] (by simp [hj1]) (by simp [hj2])
            refine ⟨u.cells[j], by simp [hj2], hdj.oneCell (allB_mem e2 _ (List.getElem_mem hj1)), ?_⟩
            have := hdj.kf1 (allB_mem e3 _ (List.getElem_mem hj1)) Sg.none
            simpa [tab, List.getD, hj1] using this
          | succ i =>
            obtain ⟨x, x1, x2, x3⟩ := q2 i u' (by simpa using hu') j hj
            exact ⟨x, x1, x2, by simpa [tab] using x3⟩
    · exact h.elim

def idxs {α : Type} : Nat → List (Nat × α) → Bool
  | _, [] => true
  | i, (k, _) :: r => match Nat.beq k i with | true => idxs (i + 1) r | false => false

theorem fill_rows (s : Nat) : ∀ (ps : List (Nat × Value)) (i : Nat) (cells : Array Value), idxs i ps = true → (∀ p ∈ ps, p.2.cells.size = s) → (i + ps.length) * s ≤ cells.size →
    ∃ cells', Instr.fill (fun i => some (i * s, s)) cells ps = some cells' ∧ cells'.size = cells.size ∧ (∀ q, q < i * s → cells'[q]? = cells[q]?) ∧
      ∀ r p, ps[r]? = some p → ∀ j, j < s → cells'[(i + r) * s + j]? = p.2.cells[j]?
  | [], i, cells, _, _, _ => ⟨cells, rfl, rfl, fun _ _ => rfl, by simp⟩
  | (k, v) :: ps, i, cells, hi, hs, hfit => by
    unfold idxs at hi
    split at hi
    · rename_i hk
      have hk := Nat.eq_of_beq_eq_true hk
      subst hk
      have hsz : v.cells.size = s := hs (k, v) (by simp)
      have h1 : k * s + s ≤ cells.size := by
        have : (k + 1) * s ≤ (k + (ps.length + 1)) * s := Nat.mul_le_mul_right _ (by omega)
        rw [Nat.succ_mul] at this
        simp only [List.length_cons] at hfit
        omega
      have lenv : v.cells.toList.length = s := by simpa using hsz
      have hsp := splice_length cells.toList v.cells.toList (k * s) (by simp; omega)
      rw [lenv] at hsp
      obtain ⟨c', f1, f2, f3, f4⟩ := fill_rows s ps (k + 1) (cells.toList.take (k * s) ++ v.cells.toList ++ cells.toList.drop (k * s + s)).toArray hi (fun p hp => hs p (by simp [hp]))
        (by simp only [List.size_toArray, hsp, Array.length_toList]; simp only [List.length_cons] at hfit; rw [show k + 1 + ps.length = k + (ps.length + 1) by omega]; exact hfit)
      have g := splice_get cells.toList v.cells.toList (k * s) (by simp; omega)
      rw [lenv] at g
      refine ⟨c', ?_, by rw [f2]; simp only [List.size_toArray, hsp, Array.length_toList], ?_, ?_⟩
      · rw [fill_cons (place := fun i => some (i * s, s)) rfl hsz (by omega)]; exact f1
      · intro q hq
        rw [f3 q (by rw [Nat.succ_mul]; omega), List.getElem?_toArray, g q, if_pos hq]
        simp
      · intro r p hp j hj
        cases r with
        | zero =>
          simp at hp
          subst hp
          rw [Nat.add_zero, f3 _ (by rw [Nat.succ_mul]; omega), List.getElem?_toArray, g, if_neg (by omega), if_pos (by omega), show k * s + j - k * s = j by omega]
          simp
        | succ r =>
          have := f4 r p (by simpa using hp) j hj
          rw [show k + (r + 1) = k + 1 + r by omega]
          exact this
    · cases hi

end Go.Eng
