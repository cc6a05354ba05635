/-
  graph.symmetric, for the evaluator of closed states.
-/
import Derived.Test.YtcnpplcfabdoaaaGreatGR1
import Derived.Test.YtcnpplcfabdoaaaGreatEvF
namespace Go.Proofs.YtcnpplcfabdoaaaGreat
open Go.Eng
set_option maxRecDepth 100000

noncomputable def dF (l : List (List C)) (n : Nat) : Option (List (Int × Int)) := @Nat.rec (fun _ => List (List C) → Option (List (Int × Int))) (fun _ => some []) (fun _ ih l => match l with
  | [.int .i64 a, .int .i64 b] :: r => match ih r with
    | some q => some ((a, b) :: q)
    | none => none
  | _ => none) n l
theorem dF_ok {z : List C} : ∀ {n : Nat} {l : List (List C)} {q : List (Int × Int)}, dF l n = some q → q.length = n ∧ ∀ i j, i < n → j < 2 → tabz (C.vs z) (C.vss l) i j = vF q i j
  | 0, l, q, h => by
    have h : some [] = some q := h
    cases h
    exact ⟨rfl, fun i j hi => by omega⟩
  | n + 1, l, q, h => by
    replace h : (match (generalizing := false) l with
      | [.int .i64 a, .int .i64 b] :: r => match dF r n with
        | some q => some ((a, b) :: q)
        | none => none
      | _ => none) = some q := h
    split at h
    · rename_i a b r
      split at h
      · rename_i q' hq
        cases h
        obtain ⟨h1, h2⟩ := dF_ok (z := z) hq
        refine ⟨by simp [h1], fun i j hi hj => ?_⟩
        cases i with
        | zero =>
          match j, hj with
          | 0, _ => simp [tabz, C.vss, C.vs, C.v, vF, gF]
          | 1, _ => simp [tabz, C.vss, C.vs, C.v, vF, gF]
        | succ i =>
          have := h2 i j (by omega) hj
          simp only [tabz, C.vss, List.getD_cons_succ] at this ⊢
          rw [this]
          simp [vF, gF]
      · cases h
    · cases h
noncomputable def dP (l : List (List C)) (n : Nat) : Option (List (List (Int × Int))) := @Nat.rec (fun _ => List (List C) → Option (List (List (Int × Int)))) (fun _ => some []) (fun _ ih l => match l with
  | [.fz m 2 _ _ rows] :: r => match dF rows m with
    | some q => match ih r with
      | some p => some (q :: p)
      | none => none
    | none => none
  | [.nilslice] :: r => match ih r with
    | some p => some ([] :: p)
    | none => none
  | _ => none) n l
theorem dP_ok {z : List C} : ∀ {n : Nat} {l : List (List C)} {p : List (List (Int × Int))}, dP l n = some p → p.length = n ∧ (∀ r ∈ p, r.length ≤ 9223372036854775807 ∨ 9223372036854775807 < r.length) ∧ ∀ i j, i < n → j < 1 → VLe (tabz (C.vs z) (C.vss l) i j) (vP p i j)
  | 0, l, p, h => by
    have h : some [] = some p := h
    cases h
    exact ⟨rfl, by simp, fun i j hi => by omega⟩
  | n + 1, l, p, h => by
    replace h : (match (generalizing := false) l with
      | [.fz m 2 _ _ rows] :: r => match dF rows m with
        | some q => match dP r n with
          | some p => some (q :: p)
          | none => none
        | none => none
      | [.nilslice] :: r => match dP r n with
        | some p => some ([] :: p)
        | none => none
      | _ => none) = some p := h
    have step : ∀ (x : C) (q : List (Int × Int)) (r : List (List C)) (p' : List (List (Int × Int))), VLe x.v (.fz q.length 2 false (vF q)) → dP r n = some p' →
        (q :: p').length = n + 1 ∧ (∀ r ∈ (q :: p'), r.length ≤ 9223372036854775807 ∨ 9223372036854775807 < r.length) ∧ ∀ i j, i < n + 1 → j < 1 → VLe (tabz (C.vs z) (C.vss ([x] :: r)) i j) (vP (q :: p') i j) := by
      intro x q r p' hx hp
      obtain ⟨h1, h2, h3⟩ := dP_ok (z := z) hp
      refine ⟨by simp [h1], fun _ _ => by omega, fun i j hi hj => ?_⟩
      obtain rfl : j = 0 := by omega
      cases i with
      | zero =>
        have e1 : tabz (C.vs z) (C.vss ([x] :: r)) 0 0 = x.v := by simp [tabz, C.vss, C.vs]
        have e2 : vP (q :: p') 0 0 = .fz q.length 2 false (vF q) := by simp [vP, gR]
        rw [e1, e2]
        exact hx
      | succ i =>
        have := h3 i 0 (by omega) hj
        simpa [tabz, C.vss, vP, gR] using this
    split at h
    · rename_i m full z' rows r
      split at h
      · rename_i q hq
        split at h
        · rename_i p' hp
          cases h
          obtain ⟨a1, a2⟩ := dF_ok (z := z') hq
          refine step _ q r p' ?_ hp
          simp only [C.v]
          exact VLe.fz a1.symm (fun h => by cases h) (fun i j hi hj => VLe.of_eq (a2 i j hi hj))
        · cases h
      · cases h
    · rename_i r
      split at h
      · rename_i p' hp
        cases h
        exact step _ [] r p' (by simp only [C.v]; exact VLe.nilfz rfl) hp
      · cases h
    · cases h
noncomputable def symg (args : List C) : Option C := match args with
  | [.fz n 1 _ _ rows] => match Nat.ble n 24 with
    | true => match dP rows n with
      | some p => match p.all (fun r => Nat.ble r.length 9223372036854775807) with
        | true => match portsOk p with | true => some (.bool true) | false => some (.bool false)
        | false => none
      | none => none
    | false => none
  | _ => none
theorem ret_le {P : Program} {f : FuncId} {args args' : List V} {X : V} (hk : allB V.kf args = true) (h : Ret P f args' X) (hl : LLe args args') : Ret P f args X := fun own ks => ⟨fun M w σ us hlen hd hh => by
  obtain ⟨d1, d2⟩ := hl.dens hlen (fun i v u hv hu => (hd i v u hv hu).kf (allB_mem hk v (List.mem_of_getElem? hv)) Sg.none)
  exact (h own ks).out M w σ us d1.symm.symm (fun i v u hv hu => (d2 i v u hv hu).mono (Ext.mk (fun _ _ h => ⟨h, rfl⟩) (Nat.le_refl _)) (Sg.none_le σ)) hh⟩
theorem sym_ext : FdOk Tryz.prog 167 (.ext symg) := by
  refine ⟨by kernel_rfl, fun args v h => ?_⟩
  unfold symg at h
  split at h
  · rename_i n full z rows
    split at h
    · rename_i hn
      split at h
      · rename_i p hp
        split at h
        · rename_i hl
          obtain ⟨a1, _, a3⟩ := dP_ok (z := z) hp
          have hs := sym_ok p (by rw [a1]; exact Nat.le_of_ble_eq_true hn) (fun r hr => Nat.le_of_ble_eq_true (List.all_eq_true.1 hl r hr))
          have hv : v.v = .bool (portsOk p) := by
            split at h
            · rename_i e; cases h; simp [C.v, e]
            · rename_i e; cases h; simp [C.v, e]
          rw [hv]
          refine ret_le (by simp [C.vs, C.v, allB, V.kf, V.kf2, V.kf1]) hs ⟨?_, trivial⟩
          simp only [C.v]
          exact VLe.fz a1.symm (fun h => by cases h) a3
        · cases h
      · cases h
    · cases h
  · cases h
end Go.Proofs.YtcnpplcfabdoaaaGreat
