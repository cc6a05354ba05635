import Derived.Test.YtcnpplcfabdoaaaGreatEngT
import Derived.Test.YtcnpplcfabdoaaaGreatGRCode
import Derived.Test.YtcnpplcfabdoaaaGreatEngU
import Derived.Test.YtcnpplcfabdoaaaGreatEngV
namespace Go.Proofs.YtcnpplcfabdoaaaGreat
open Go.Eng
set_option maxRecDepth 100000
set_option linter.unusedVariables false

/-! ## graphs -/

structure G where
  ids : List Int
  ports : List (List (Int × Int))

def gI (l : List Int) (i : Nat) : Int := l.getD i 0
def gF (l : List (Int × Int)) (i : Nat) : Int × Int := l.getD i (0, 0)
def gR (l : List (List (Int × Int))) (i : Nat) : List (Int × Int) := l.getD i []
def vI (l : List Int) : Nat → Nat → V := fun i _ => .int .i64 (gI l i)
def vF (l : List (Int × Int)) : Nat → Nat → V := fun i j => match j with
  | 0 => .int .i64 (gF l i).1
  | _ + 1 => .int .i64 (gF l i).2
def vP (p : List (List (Int × Int))) : Nat → Nat → V := fun i _ => .fz (gR p i).length 2 false (vF (gR p i))
def G.v (g : G) : V := .agg [.fz g.ids.length 1 false (vI g.ids), .fz g.ports.length 1 false (vP g.ports)]

def okID (i : Int) : Bool := decide (0 ≤ i ∧ i ≤ 255)
def okL (n v : Nat) (l : Int × Int) : Bool := decide (0 ≤ l.1 ∧ l.1 < n ∧ l.1 ≠ v ∧ 1 ≤ l.2 ∧ l.2 ≤ 15)
def okR (n v : Nat) (r : List (Int × Int)) : Bool := r.all (okL n v) && decide (r.map (·.1)).Nodup
def symL (p : List (List (Int × Int))) (v : Nat) (l : Int × Int) : Bool := decide (((v : Int), l.2) ∈ gR p l.1.toNat)
def idsOk (l : List Int) : Bool := l.all okID && decide l.Nodup
def rowsOk (p : List (List (Int × Int))) : Bool := decide (∀ v, v < p.length → okR p.length v (gR p v) = true)
def symOk (p : List (List (Int × Int))) : Bool := decide (∀ v, v < p.length → ∀ l, l ∈ gR p v → symL p v l = true)
def portsOk (p : List (List (Int × Int))) : Bool := rowsOk p && symOk p
def G.valid (g : G) : Bool := decide (1 ≤ g.ids.length ∧ g.ids.length ≤ 24 ∧ g.ports.length = g.ids.length) && (idsOk g.ids && portsOk g.ports)

theorem gI_take (l : List Int) (i : Nat) (h : i < l.length) : l.take (i + 1) = l.take i ++ [gI l i] := by
  rw [List.take_succ_eq_append_getElem h]
  simp only [gI, List.getD, List.getElem?_eq_getElem h, Option.getD_some]
theorem gF_take (l : List (Int × Int)) (i : Nat) (h : i < l.length) : l.take (i + 1) = l.take i ++ [gF l i] := by
  rw [List.take_succ_eq_append_getElem h]
  simp only [gF, List.getD, List.getElem?_eq_getElem h, Option.getD_some]
theorem gI_mem {l : List Int} {i : Nat} (h : i < l.length) : gI l i ∈ l := by
  simp only [gI, List.getD, List.getElem?_eq_getElem h]
  exact List.getElem_mem h
theorem gF_mem {l : List (Int × Int)} {i : Nat} (h : i < l.length) : gF l i ∈ l := by
  simp only [gF, List.getD, List.getElem?_eq_getElem h]
  exact List.getElem_mem h
theorem gI_get {l : List Int} {x : Int} (h : x ∈ l) : ∃ i, i < l.length ∧ gI l i = x := by
  obtain ⟨i, hi, he⟩ := List.mem_iff_getElem.1 h
  exact ⟨i, hi, by simp only [gI, List.getD, List.getElem?_eq_getElem hi, Option.getD_some]; exact he⟩

def seenF (l : List Int) : Nat → Nat → V := fun j _ => .bool (decide ((j : Int) ∈ l))

theorem seen_set (l : List Int) (a : Int) (i j : Nat) (k : Nat) (ha : 0 ≤ a) (hk : k = a.toNat) (hj : j < 1) : VLe (fset (seenF l) k 0 [.bool true] i j) (seenF (l ++ [a]) i j) := by
  apply VLe.of_eq
  subst hk
  have hj0 : j = 0 := by omega
  subst hj0
  by_cases h : i = a.toNat
  · subst h
    have e : ((a.toNat : Nat) : Int) = a := by omega
    simp only [fset, seenF, e]
    simp
  · have : ¬ (i : Int) = a := by omega
    simp [fset, seenF, h, this]

theorem idsOk_iff (l : List Int) : idsOk l = true ↔ (∀ a ∈ l, 0 ≤ a ∧ a ≤ 255) ∧ l.Nodup := by
  simp [idsOk, okID]

theorem ids_bad {l : List Int} (i : Nat) (h : i < l.length) (hb : ¬ (0 ≤ gI l i ∧ gI l i ≤ 255) ∨ gI l i ∈ l.take i) : VLe (V.bool false) (V.bool (idsOk l)) := by
  refine VLe.bool ?_
  symm
  rw [← Bool.not_eq_true, idsOk_iff]
  rintro ⟨h1, h2⟩
  rcases hb with hb | hb
  · exact hb (h1 _ (gI_mem h))
  · have := gI_take l i h
    have hn : (l.take (i + 1)).Nodup := h2.sublist (List.take_sublist _ _)
    rw [this, List.nodup_append] at hn
    exact hn.2.2 _ hb _ (by simp) rfl

theorem diff_ok (l : List Int) (hl : l.length ≤ 1000000) : Ret Tryz.prog 166 [.fz l.length 1 false (vI l)] (.bool (idsOk l)) := by
  refine ret_frz rfl ?_
  refine fn_rule mixed Tryz.func166 rfl hc166 hr166 rfl ?_
  repeat' ((conv => whnf); first | fail)
  all_goals (conv => whnf)
  refine loop_w mixed [3, 6, 7] [] [1, 2, 3, 4, 5, 6, 7, 8, 9, 10, 11, 12, 13, 14, 15, 16, 17, 18, 19, 20, 21, 22, 23, 24, 25, 26, 27, 28, 29] [0] (fun i : Nat => [(8, .int .i64 i)]) (fun i => [(0, .vec 256 1 (seenF (l.take i)))])
    (fun n i => n = l.length - i ∧ i ≤ l.length ∧ (∀ a ∈ l.take i, 0 ≤ a ∧ a ≤ 255) ∧ (l.take i).Nodup) l.length 0 ⟨rfl, Nat.zero_le _, by simp, by simp⟩ rfl (fun _ => rfl) ?_ ?_
  · refine weak_by (fun _ _ => [(0, some 0)]) ?_ ?_ rfl
    · repeat' (first | exact True.intro | exact VRen.oel rfl rfl | (refine ⟨⟨_, rfl, ?_⟩, ?_⟩) | exact VRen.kf rfl)
    · repeat' (first | exact VLe.of_eq (by simp [seenF]) | exact True.intro | (refine ⟨⟨_, rfl, ?_⟩, ?_⟩) | (refine ⟨Nat.le_refl _, rfl, fun i j hi hj => ?_⟩))
  rintro n i ⟨hn, hi, hb, hd⟩
  repeat' ((conv => whnf); first | (refine Br.dec ?_ ?_ <;> intro _ <;> try omega) | (refine Ar.i64 (by omega) (by omega) ?_) | (refine Ix.nat (by omega) ?_) | (refine Ix.int (by omega) (by omega) ?_) | (refine Ltn.mk (by omega) ?_))
  all_goals (conv => whnf)
  · exact ids_bad i (by omega) (.inl (by omega))
  · exact ids_bad i (by omega) (.inl (by omega))
  · exact ids_bad i (by omega) (.inr (by rename_i h; rwa [show (((gI l i).toNat : Nat) : Int) = gI l i by omega] at h))
  · rename_i hni
    rw [show (((gI l i).toNat : Nat) : Int) = gI l i by omega] at hni
    refine ⟨l.length - (i + 1), i + 1, by omega, ⟨rfl, by omega, ?_, ?_⟩, ?_⟩
    · rw [gI_take l i (by omega)]
      intro a ha
      rcases List.mem_append.1 ha with h | h
      · exact hb a h
      · rw [List.mem_singleton.1 h]; omega
    · rw [gI_take l i (by omega), List.nodup_append]
      exact ⟨hd, by simp, fun a ha b hb' e => hni (by rw [List.mem_singleton.1 hb'] at e; rw [← e]; exact ha)⟩
    · simp only [gI_take l i (by omega)]
      refine weak_by (fun _ _ => [(0, some 0)]) ?_ ?_ rfl
      · repeat' (first | exact True.intro | exact VRen.oel rfl rfl | (refine ⟨⟨_, rfl, ?_⟩, ?_⟩) | exact VRen.kf rfl)
      · repeat' (first | exact seen_set _ _ _ _ _ (by omega) rfl hj | exact True.intro | (refine ⟨⟨_, rfl, ?_⟩, ?_⟩) | (refine ⟨Nat.le_refl _, rfl, fun i j hi hj => ?_⟩))
  · rw [List.take_of_length_le (by omega)] at hb hd
    exact VLe.bool ((idsOk_iff l).2 ⟨hb, hd⟩).symm

/-! ## symmetric -/

abbrev Ent := (Int × Int) × V
def entR (u : Nat) (r : List (Int × Int)) : List Ent := r.map fun l => (((u : Int), l.1), V.int .i64 l.2)
def ents (p : List (List (Int × Int))) : Nat → List Ent
  | 0 => []
  | v + 1 => ents p v ++ entR v (gR p v)

theorem entR_snoc (u : Nat) (r : List (Int × Int)) (l : Int × Int) : entR u (r ++ [l]) = entR u r ++ [(((u : Int), l.1), V.int .i64 l.2)] := by simp [entR]
theorem mem_entR {u : Nat} {r : List (Int × Int)} {e : Ent} : e ∈ entR u r ↔ ∃ l ∈ r, e = (((u : Int), l.1), V.int .i64 l.2) := by
  simp only [entR, List.mem_map]
  exact ⟨fun ⟨l, h, e⟩ => ⟨l, h, e.symm⟩, fun ⟨l, h, e⟩ => ⟨l, h, e.symm⟩⟩
theorem mem_ents {p : List (List (Int × Int))} {e : Ent} : ∀ {v : Nat}, e ∈ ents p v ↔ ∃ u, u < v ∧ ∃ l ∈ gR p u, e = (((u : Int), l.1), V.int .i64 l.2)
  | 0 => by simp [ents]
  | v + 1 => by
    simp only [ents, List.mem_append, mem_ents (v := v), mem_entR]
    constructor
    · rintro (⟨u, h, x⟩ | x)
      · exact ⟨u, by omega, x⟩
      · exact ⟨v, by omega, x⟩
    · rintro ⟨u, h, x⟩
      by_cases hu : u = v
      · subst hu; exact .inr x
      · exact .inl ⟨u, by omega, x⟩

theorem mfind_some : ∀ {es : List Ent} {p : Int × Int} {x : V}, mfind es p = some x → (p, x) ∈ es
  | [], _, _, h => by simp [mfind] at h
  | (q, u) :: r, p, x, h => by
    simp only [mfind] at h
    split at h
    · rename_i e; cases h; subst e; simp
    · exact List.mem_cons_of_mem _ (mfind_some h)
theorem mfind_none : ∀ {es : List Ent} {p : Int × Int}, mfind es p = none → ∀ x, (p, x) ∉ es
  | [], _, _, _ => by simp
  | (q, u) :: r, p, h, x => by
    simp only [mfind] at h
    split at h
    · cases h
    · rename_i e
      intro hm
      rcases List.mem_cons.1 hm with e' | e'
      · cases e'; exact e rfl
      · exact mfind_none h x e'
theorem mput_none : ∀ {es : List Ent} {p : Int × Int} {y : V}, mfind es p = none → mput es p y = es ++ [(p, y)]
  | [], _, _, _ => rfl
  | (q, u) :: r, p, y, h => by
    simp only [mfind] at h
    split at h
    · cases h
    · rename_i e
      simp only [mput, if_neg e, List.cons_append, mput_none h]

def Ints (es : List Ent) : Prop := ∀ e ∈ es, ∃ w : Int, e.2 = V.int .i64 w
theorem ints_ents (p : List (List (Int × Int))) (v : Nat) : Ints (ents p v) := fun e he => by
  obtain ⟨u, _, l, _, rfl⟩ := mem_ents.1 he
  exact ⟨_, rfl⟩
theorem ints_more (p : List (List (Int × Int))) (v : Nat) (r : List (Int × Int)) : Ints (ents p v ++ entR v r) := fun e he => by
  rcases List.mem_append.1 he with he | he
  · exact ints_ents p v e he
  · obtain ⟨l, _, rfl⟩ := mem_entR.1 he
    exact ⟨_, rfl⟩
theorem mget_ints {es : List Ent} {p : Int × Int} {A : V → Prop} {B : Prop} (hi : Ints es) (h1 : ∀ w : Int, mfind es p = some (.int .i64 w) → A (.int .i64 w)) (h2 : mfind es p = none → B) : MGet (mfind es p) A B :=
  ⟨fun v hv => by
    obtain ⟨w, hw⟩ := hi _ (mfind_some hv)
    simp only at hw
    subst hw
    exact h1 w hv, h2⟩
theorem mnext_ints {n : Nat} {idxs : List Nat} {es : List Ent} {A : Nat → Ent → Prop} {B : Prop} (hi : Ints es) (h1 : ∀ i (a b w : Int), i < n → i ∉ idxs → es[i]? = some ((a, b), V.int .i64 w) → A i ((a, b), V.int .i64 w)) (h2 : (∀ i, i < n → i ∈ idxs) → B) : MNext n idxs es A B :=
  ⟨fun i p h3 h4 h5 => by
    obtain ⟨⟨a, b⟩, x⟩ := p
    obtain ⟨w, hw⟩ := hi _ (List.mem_of_getElem? h5)
    simp only at hw
    subst hw
    exact h1 i a b w h3 h4 h5, h2⟩

theorem okR_iff {n v : Nat} {r : List (Int × Int)} : okR n v r = true ↔ (∀ l ∈ r, 0 ≤ l.1 ∧ l.1 < n ∧ l.1 ≠ v ∧ 1 ≤ l.2 ∧ l.2 ≤ 15) ∧ (r.map (·.1)).Nodup := by
  simp only [okR, okL, Bool.and_eq_true, List.all_eq_true, decide_eq_true_eq]
theorem rowsOk_iff {p : List (List (Int × Int))} : rowsOk p = true ↔ ∀ v, v < p.length → okR p.length v (gR p v) = true := by simp [rowsOk]
theorem symOk_iff {p : List (List (Int × Int))} : symOk p = true ↔ ∀ v, v < p.length → ∀ l ∈ gR p v, ((v : Int), l.2) ∈ gR p l.1.toNat := by
  simp only [symOk, symL, decide_eq_true_eq]

theorem fst_uniq {r : List (Int × Int)} (h : (r.map (·.1)).Nodup) {a b : Int × Int} (ha : a ∈ r) (hb : b ∈ r) (e : a.1 = b.1) : a = b := by
  induction r with
  | nil => simp at ha
  | cons x r ih =>
    simp only [List.map_cons, List.nodup_cons] at h
    rcases List.mem_cons.1 ha with ea | ha
    · rcases List.mem_cons.1 hb with eb | hb
      · rw [ea, eb]
      · exact (h.1 (List.mem_map.2 ⟨b, hb, by rw [← e, ea]⟩)).elim
    · rcases List.mem_cons.1 hb with eb | hb
      · exact (h.1 (List.mem_map.2 ⟨a, ha, by rw [e, eb]⟩)).elim
      · exact ih h.2 ha hb

theorem sym_ents {p : List (List (Int × Int))} (hr : ∀ v, v < p.length → okR p.length v (gR p v) = true) :
    symOk p = true ↔ ∀ e ∈ ents p p.length, mfind (ents p p.length) (e.1.2, e.1.1) = some e.2 := by
  rw [symOk_iff]
  constructor
  · intro h e he
    obtain ⟨u, hu, l, hl, rfl⟩ := mem_ents.1 he
    obtain ⟨hL, _⟩ := okR_iff.1 (hr u hu)
    have hb := hL l hl
    have hm := h u hu l hl
    have hto : l.1.toNat < p.length := by omega
    have e1 : ((l.1.toNat : Nat) : Int) = l.1 := by omega
    simp only
    cases hf : mfind (ents p p.length) (l.1, (u : Int)) with
    | none => exact (mfind_none hf _ (mem_ents.2 ⟨l.1.toNat, hto, _, hm, by rw [e1]⟩)).elim
    | some x =>
      obtain ⟨u', hu', l', hl', he'⟩ := mem_ents.1 (mfind_some hf)
      simp only [Prod.mk.injEq] at he'
      obtain ⟨⟨a1, a2⟩, a3⟩ := he'
      have : u' = l.1.toNat := by omega
      subst this
      have := fst_uniq (okR_iff.1 (hr _ hu')).2 hm hl' a2
      rw [a3, ← this]
  · intro h v hv l hl
    have := h _ (mem_ents.2 ⟨v, hv, l, hl, rfl⟩)
    simp only at this
    obtain ⟨u', hu', l', hl', he'⟩ := mem_ents.1 (mfind_some this)
    simp only [Prod.mk.injEq, V.int.injEq, true_and] at he'
    obtain ⟨⟨a1, a2⟩, a3⟩ := he'
    have : l.1.toNat = u' := by omega
    rw [this]
    have : ((v : Int), l.2) = l' := Prod.ext a2 a3
    rw [this]; exact hl'

theorem ports_row {p : List (List (Int × Int))} (v : Nat) (hv : v < p.length) (h : okR p.length v (gR p v) = false) : VLe (V.bool false) (V.bool (portsOk p)) := by
  refine VLe.bool ?_
  symm
  rw [portsOk, Bool.and_eq_false_iff]
  left
  rw [← Bool.not_eq_true, rowsOk_iff]
  intro hh
  rw [hh v hv] at h; cases h

theorem row_bad {n v : Nat} {r : List (Int × Int)} (j : Nat) (hj : j < r.length) (h : ¬ (0 ≤ (gF r j).1 ∧ (gF r j).1 < n ∧ (gF r j).1 ≠ v ∧ 1 ≤ (gF r j).2 ∧ (gF r j).2 ≤ 15)) : okR n v r = false := by
  rw [← Bool.not_eq_true, okR_iff]
  exact fun hh => h (hh.1 _ (gF_mem hj))
theorem row_twice {n v : Nat} {r : List (Int × Int)} (j : Nat) (hj : j < r.length) (h : (gF r j).1 ∈ (r.take j).map (·.1)) : okR n v r = false := by
  rw [← Bool.not_eq_true, okR_iff]
  rintro ⟨_, hn⟩
  have := (hn.sublist ((List.take_sublist (j + 1) r).map _))
  rw [gF_take r j hj, List.map_append, List.nodup_append] at this
  exact this.2.2 _ h _ (by simp) rfl

theorem gR_len {p : List (List (Int × Int))} {k : Nat} (h : ∀ r ∈ p, r.length ≤ k) (v : Nat) : (gR p v).length ≤ k := by
  simp only [gR, List.getD]
  cases hv : p[v]? with
  | none => simp
  | some r => exact h r (List.mem_of_getElem? hv)

theorem idx_le {n : Nat} {l : List Nat} (hn : l.Nodup) (hb : ∀ i ∈ l, i < n) : l.length ≤ n := by
  induction n generalizing l with
  | zero =>
    cases l with
    | nil => simp
    | cons a l => have := hb a (by simp); omega
  | succ n ih =>
    have h1 := ih (l := l.erase n) (hn.erase _) (fun i hi => by
      have h2 := hb i (List.mem_of_mem_erase hi)
      have h3 : i ≠ n := fun e => by subst e; exact (hn.not_mem_erase) hi
      omega)
    rw [List.length_erase] at h1
    split at h1 <;> omega

set_option maxHeartbeats 4000000 in
theorem sym_ok (p : List (List (Int × Int))) (hp : p.length ≤ 24) (hr : ∀ r ∈ p, r.length ≤ 9223372036854775807) : Ret Tryz.prog 167 [.fz p.length 1 false (vP p)] (.bool (portsOk p)) := by
  refine ret_frz rfl ?_
  refine fn_rule mixed Tryz.func167 rfl hc167 hr167 rfl ?_
  repeat' ((conv => whnf); first | fail)
  all_goals (conv => whnf)
  refine loop_w mixed [0, 3, 14, 15] [] [1, 2, 3, 4, 5, 6, 7, 8, 9, 10, 11, 12, 13, 14, 15, 16, 17, 18, 19, 20, 21, 22, 23, 24, 25, 26, 27, 28, 29] [0] (fun i : Nat => [(16, .int .i64 i)]) (fun i => [(0, .map (.pair .i64) (ents p i))])
    (fun n i => n = p.length - i ∧ i ≤ p.length ∧ ∀ v, v < i → okR p.length v (gR p v) = true) p.length 0 ⟨rfl, Nat.zero_le _, fun v h => by omega⟩ rfl (fun _ => rfl) ?_ ?_
  · refine weak_by (fun _ _ => [(0, some 0)]) ?_ ?_ rfl
    · repeat' (first | exact True.intro | exact VRen.map rfl | (refine ⟨⟨_, rfl, ?_⟩, ?_⟩) | exact VRen.kf rfl)
    · repeat' (first | exact True.intro | exact ⟨rfl, rfl⟩ | (refine ⟨⟨_, rfl, ?_⟩, ?_⟩))
  rintro n v ⟨hn, hv, hrow⟩
  have hrl := gR_len hr v
  repeat' ((conv => whnf); first | (refine Br.dec ?_ ?_ <;> intro _ <;> try omega) | (refine Ix.nat (by omega) ?_))
  all_goals (conv => whnf)
  · refine loop_w mixed [0, 3, 4, 14, 15, 16, 21, 22] [] [1, 2, 3, 4, 5, 6, 7, 8, 9, 10, 11, 12, 13, 14, 15, 16, 17, 18, 19, 20, 21, 22, 23, 24, 25, 26, 27, 28, 29] [0] (fun j : Nat => [(23, .int .i64 j)]) (fun j => [(0, .map (.pair .i64) (ents p v ++ entR v ((gR p v).take j)))])
      (fun n j => n = (gR p v).length - j ∧ j ≤ (gR p v).length ∧ okR p.length v ((gR p v).take j) = true) (gR p v).length 0 ⟨rfl, Nat.zero_le _, by simp [okR]⟩ rfl (fun _ => rfl) ?_ ?_
    · refine weak_by (fun _ _ => [(0, some 0)]) ?_ ?_ rfl
      · repeat' (first | exact True.intro | exact VRen.map rfl | (refine ⟨⟨_, rfl, ?_⟩, ?_⟩) | exact VRen.kf rfl)
      · repeat' (first | exact ⟨rfl, by simp [entR]⟩ | exact True.intro | (refine ⟨⟨_, rfl, ?_⟩, ?_⟩))
    rintro n j ⟨hn, hj, hok⟩
    repeat' ((conv => whnf); first | (refine Br.dec ?_ ?_ <;> intro _ <;> try omega) | (refine Ar.i64 (by omega) (by omega) ?_) | (refine Ix.nat (by omega) ?_) | (refine mget_ints (ints_more _ _ _) (fun w hw => ?_) (fun hw => ?_)))
    all_goals (conv => whnf)
    · exact ports_row v (by omega) (row_bad j (by omega) (by omega))
    · exact ports_row v (by omega) (row_bad j (by omega) (by omega))
    · exact ports_row v (by omega) (row_bad j (by omega) (by omega))
    · exact ports_row v (by omega) (row_bad j (by omega) (by omega))
    · exact ports_row v (by omega) (row_bad j (by omega) (by omega))
    · refine ports_row v (by omega) (row_twice j (by omega) ?_)
      rcases List.mem_append.1 (mfind_some hw) with h | h
      · obtain ⟨u, hu, l, _, he⟩ := mem_ents.1 h
        simp only [Prod.mk.injEq] at he
        omega
      · obtain ⟨l, hl, he⟩ := mem_entR.1 h
        simp only [Prod.mk.injEq] at he
        exact List.mem_map.2 ⟨l, hl, he.1.2.symm⟩
    · have hnin : (gF (gR p v) j).1 ∉ ((gR p v).take j).map (·.1) := fun h => by
        obtain ⟨l, hl, he⟩ := List.mem_map.1 h
        refine mfind_none hw (.int .i64 l.2) (List.mem_append_right _ (mem_entR.2 ⟨l, hl, ?_⟩))
        rw [he]
      refine ⟨(gR p v).length - (j + 1), j + 1, by omega, ⟨rfl, by omega, ?_⟩, ?_⟩
      · rw [okR_iff] at hok ⊢
        rw [gF_take _ j (by omega)]
        refine ⟨fun l hl => ?_, ?_⟩
        · rcases List.mem_append.1 hl with h | h
          · exact hok.1 l h
          · rw [List.mem_singleton.1 h]; omega
        · rw [List.map_append, List.nodup_append]
          refine ⟨hok.2, by simp, fun a ha b hb e => hnin ?_⟩
          simp only [List.map_cons, List.map_nil, List.mem_singleton] at hb
          rw [← hb, ← e]; exact ha
      · have e1 : ents p v ++ entR v ((gR p v).take (j + 1)) = mput (ents p v ++ entR v ((gR p v).take j)) ((v : Int), (gF (gR p v) j).1) (.int .i64 (gF (gR p v) j).2) := by
          rw [mput_none hw, gF_take _ j (by omega), entR_snoc, List.append_assoc]
        simp only [e1]
        refine weak_by (fun _ _ => [(0, some 0)]) ?_ ?_ rfl
        · repeat' (first | exact True.intro | exact VRen.map rfl | (refine ⟨⟨_, rfl, ?_⟩, ?_⟩) | exact VRen.kf rfl)
        · repeat' (first | exact True.intro | exact ⟨rfl, rfl⟩ | (refine ⟨⟨_, rfl, ?_⟩, ?_⟩))
    · have hfull : (gR p v).take j = gR p v := List.take_of_length_le (by omega)
      rw [hfull] at hok
      refine ⟨p.length - (v + 1), v + 1, by omega, ⟨rfl, by omega, fun u hu => ?_⟩, ?_⟩
      · by_cases e : u = v
        · subst e; exact hok
        · exact hrow u (by omega)
      · refine weak_by (fun _ _ => [(0, some 0)]) ?_ ?_ rfl
        · repeat' (first | exact True.intro | exact VRen.map rfl | (refine ⟨⟨_, rfl, ?_⟩, ?_⟩) | exact VRen.kf rfl)
        · repeat' (first | exact ⟨rfl, by rw [hfull]; rfl⟩ | exact True.intro | (refine ⟨⟨_, rfl, ?_⟩, ?_⟩))
  · have hvp : v = p.length := by omega
    subst hvp
    have hse := sym_ents hrow
    have hro : rowsOk p = true := rowsOk_iff.2 hrow
    refine loop_w mixed [3, 69] [] [2, 3, 4, 5, 6, 7, 8, 9, 10, 11, 12, 13, 14, 15, 16, 17, 18, 19, 20, 21, 22, 23, 24, 25, 26, 27, 28, 29] [1, 0] (fun _ : List Nat => []) (fun ix => [(1, .iter 0 (ents p p.length).length ix), (0, .map (.pair .i64) (ents p p.length))])
      (fun n ix => n = (ents p p.length).length - ix.length ∧ ix.Nodup ∧ (∀ i ∈ ix, i < (ents p p.length).length) ∧ ∀ i ∈ ix, ∀ e, (ents p p.length)[i]? = some e → mfind (ents p p.length) (e.1.2, e.1.1) = some e.2)
      (ents p p.length).length [] ⟨rfl, by simp, by simp, by simp⟩ rfl (fun _ => rfl) ?_ ?_
    · refine weak_by (fun _ _ => [(1, some 1), (0, some 0)]) ?_ ?_ rfl
      · repeat' (first | exact True.intro | exact VRen.map rfl | (refine ⟨⟨_, rfl, ?_⟩, ?_⟩) | exact VRen.loc rfl)
      · repeat' (first | exact True.intro | exact ⟨rfl, rfl⟩ | exact ⟨rfl, rfl, rfl⟩ | (refine ⟨⟨_, rfl, ?_⟩, ?_⟩))
    rintro n ix ⟨hn', hnd, hlt, hix⟩
    repeat' ((conv => whnf); first | (refine Br.bne ?_ ?_ <;> intro _ <;> try omega) | (refine Ix.mk 0 rfl (by omega) ?_) | (refine Ix.mk 1 rfl (by omega) ?_) | (refine Chk.mk (Nat.beq_refl _) ?_) | (refine mnext_ints (ints_ents _ _) (fun i a b w hi hni he => ?_) (fun hall => ?_)) | (refine ⟨_, List.getLast?_concat, _, ‹_›, ?_⟩) | (refine mget_ints (ints_ents _ _) (fun w' hw => ?_) (fun hw => ?_)))
    all_goals (conv => whnf)
    · refine VLe.bool ?_
      symm
      rw [portsOk, Bool.and_eq_false_iff]
      right
      rw [← Bool.not_eq_true, hse]
      intro hh
      have := hh _ (List.mem_of_getElem? he)
      rw [hw] at this
      simp at this
      contradiction
    · rename_i hww
      refine ⟨(ents p p.length).length - (ix ++ [i]).length, ix ++ [i], ?_, ⟨rfl, ?_, ?_, ?_⟩, ?_⟩
      · have h1 : (ix ++ [i]).Nodup := List.nodup_append.2 ⟨hnd, by simp, fun a ha b hb e => hni (by rw [List.mem_singleton.1 hb] at e; rw [← e]; exact ha)⟩
        have := idx_le h1 (n := (ents p p.length).length) (fun k hk => by
          rcases List.mem_append.1 hk with h | h
          · exact hlt k h
          · rw [List.mem_singleton.1 h]; exact hi)
        simp at this ⊢
        omega
      · exact List.nodup_append.2 ⟨hnd, by simp, fun a ha b hb e => hni (by rw [List.mem_singleton.1 hb] at e; rw [← e]; exact ha)⟩
      · intro k hk
        rcases List.mem_append.1 hk with h | h
        · exact hlt k h
        · rw [List.mem_singleton.1 h]; exact hi
      · intro k hk e hke
        rcases List.mem_append.1 hk with h | h
        · exact hix k h e hke
        · rw [List.mem_singleton.1 h, he] at hke
          cases hke
          rw [hw, hww]
      · refine weak_by (fun _ _ => [(1, some 1), (0, some 0)]) ?_ ?_ rfl
        · repeat' (first | exact True.intro | exact VRen.map rfl | (refine ⟨⟨_, rfl, ?_⟩, ?_⟩) | exact VRen.loc rfl)
        · repeat' (first | exact True.intro | exact ⟨rfl, rfl⟩ | exact ⟨rfl, rfl, rfl⟩ | (refine ⟨⟨_, rfl, ?_⟩, ?_⟩))
    · refine VLe.bool ?_
      symm
      rw [portsOk, Bool.and_eq_false_iff]
      right
      rw [← Bool.not_eq_true, hse]
      intro hh
      have := hh _ (List.mem_of_getElem? he)
      rw [hw] at this
      cases this
    · exfalso
      obtain ⟨u, hu, l, hl, he'⟩ := mem_ents.1 (List.mem_of_getElem? he)
      have := (okR_iff.1 (hrow u hu)).1 l hl
      simp only [Prod.mk.injEq, V.int.injEq, true_and] at he'
      omega
    · refine VLe.bool ?_
      symm
      rw [portsOk, Bool.and_eq_true]
      refine ⟨hro, hse.2 fun e he => ?_⟩
      obtain ⟨k, hk, hke⟩ := List.mem_iff_getElem.1 he
      exact hix k (hall k hk) e (by rw [← hke]; simp [hk])

/-! ## Valid -/

structure G.Small (g : G) : Prop where
  ids : g.ids.length ≤ 9223372036854775807
  ports : g.ports.length ≤ 9223372036854775807
  rows : ∀ r ∈ g.ports, r.length ≤ 9223372036854775807

theorem valid_ok (g : G) (hs : g.Small) : Ret Tryz.prog 116 [g.v] (.bool g.valid) := by
  refine ret_frz rfl ?_
  refine fn_rule mixed Tryz.func116 rfl hc116 hr116 rfl ?_
  have s1 := hs.ids
  have s2 := hs.ports
  by_cases h : 1 ≤ g.ids.length ∧ g.ids.length ≤ 24 ∧ g.ports.length = g.ids.length
  · rw [G.valid, decide_eq_true h, Bool.true_and]
    have h1 := diff_ok g.ids (by omega)
    have h2 := sym_ok g.ports (by omega) hs.rows
    revert h1 h2
    generalize idsOk g.ids = b1
    generalize portsOk g.ports = b2
    intro h1 h2
    cases b1 <;> cases b2 <;>
    repeat' ((conv => whnf); first | (refine Br.tt ?_) | (refine Br.ff ?_) | (refine Br.dec ?_ ?_ <;> intro _ <;> try omega) | (refine Br.bne ?_ ?_ <;> intro _ <;> try omega) | (refine (h1 _ _).mono ?_; rintro _ _ _ ⟨rfl, rfl, rfl⟩) | (refine (h2 _ _).mono ?_; rintro _ _ _ ⟨rfl, rfl, rfl⟩))
    all_goals (conv => whnf)
    all_goals exact VLe.rfl
  · rw [G.valid, decide_eq_false h, Bool.false_and]
    repeat' ((conv => whnf); first | (refine Br.dec ?_ ?_ <;> intro _ <;> try omega) | (refine Br.bne ?_ ?_ <;> intro _ <;> try omega))
    all_goals (conv => whnf)
    all_goals exact VLe.rfl
end Go.Proofs.YtcnpplcfabdoaaaGreat

namespace Go.Proofs.YtcnpplcfabdoaaaGreat
open Go.Eng
set_option maxRecDepth 100000
set_option linter.unusedVariables false

/-! ## the reference's Valid -/

theorem okR_len {n v : Nat} {r : List (Int × Int)} (hv : v < n) (h : okR n v r = true) : r.length < n := by
  obtain ⟨h1, h2⟩ := okR_iff.1 h
  have hnd : (v :: (r.map fun l => l.1.toNat)).Nodup := by
    refine List.nodup_cons.2 ⟨fun hm => ?_, ?_⟩
    · obtain ⟨l, hl, e⟩ := List.mem_map.1 hm
      have := h1 l hl
      omega
    · have : ∀ (q : List (Int × Int)), (∀ l ∈ q, 0 ≤ l.1) → (q.map (·.1)).Nodup → (q.map fun l => l.1.toNat).Nodup := by
        intro q
        induction q with
        | nil => intro _ _; simp
        | cons x q ih =>
          intro hq hn
          simp only [List.map_cons, List.nodup_cons] at hn ⊢
          refine ⟨fun hm => ?_, ih (fun l hl => hq l (by simp [hl])) hn.2⟩
          obtain ⟨l, hl, e⟩ := List.mem_map.1 hm
          refine hn.1 (List.mem_map.2 ⟨l, hl, ?_⟩)
          have a := hq l (by simp [hl])
          have b := hq x (by simp)
          omega
      exact this r (fun l hl => (h1 l hl).1) h2
  have := idx_le hnd (n := n) (fun i hi => by
    rcases List.mem_cons.1 hi with e | e
    · omega
    · obtain ⟨l, hl, rfl⟩ := List.mem_map.1 e
      have := h1 l hl
      omega)
  simp at this
  omega

end Go.Proofs.YtcnpplcfabdoaaaGreat

namespace Go.Proofs.YtcnpplcfabdoaaaGreat
open Go.Eng
set_option maxRecDepth 100000
set_option linter.unusedVariables false

/-! ## configurations -/

abbrev Cf := List (List Int)
def gC (c : Cf) (i : Nat) : List Int := c.getD i []
def vC (c : Cf) : Nat → Nat → V := fun i _ => .fz (gC c i).length 1 false (vI (gC c i))
def cV (c : Cf) : V := .fz c.length 1 false (vC c)

structure CSmall (c : Cf) : Prop where
  len : c.length ≤ 9223372036854775807
  rows : ∀ r ∈ c, r.length ≤ 9223372036854775807

theorem gC_len {c : Cf} (h : CSmall c) (v : Nat) : (gC c v).length ≤ 9223372036854775807 := by
  simp only [gC, List.getD]
  cases hv : c[v]? with
  | none => simp
  | some r => exact h.rows r (List.mem_of_getElem? hv)

/-- the lists fit: so many nodes, so many variables, within these bounds -/
def conf (n m : Nat) (B : Nat → Nat → Int × Int) (c : Cf) : Bool :=
  decide (c.length = n) && decide (∀ v, v < n → (gC c v).length = m ∧ ∀ x, x < m → (B v x).1 ≤ gI (gC c v) x ∧ gI (gC c v) x ≤ (B v x).2)

theorem conf_iff {n m : Nat} {B : Nat → Nat → Int × Int} {c : Cf} : conf n m B c = true ↔ c.length = n ∧ ∀ v, v < n → (gC c v).length = m ∧ ∀ x, x < m → (B v x).1 ≤ gI (gC c v) x ∧ gI (gC c v) x ≤ (B v x).2 := by
  simp only [conf, Bool.and_eq_true, decide_eq_true_eq]
theorem conf_no {n m : Nat} {B : Nat → Nat → Int × Int} {c : Cf} (h : ¬ (c.length = n ∧ ∀ v, v < n → (gC c v).length = m ∧ ∀ x, x < m → (B v x).1 ≤ gI (gC c v) x ∧ gI (gC c v) x ≤ (B v x).2)) : conf n m B c = false := by
  rw [← Bool.not_eq_true, conf_iff]; exact h

def bG (g : G) (gs : List Int) (v x : Nat) : Int × Int := if gI gs x = -1 then (-1, ((gR g.ports v).length : Int) - 1) else (0, gI gs x)

set_option maxHeartbeats 4000000 in
theorem bconf_ok (g : G) (hs : g.Small) (hp : g.ports.length = g.ids.length) (c : Cf) (hc : CSmall c) (gs : List Int) (hg : gs.length ≤ 1000) :
    Ret Tryz.prog 120 [g.v, cV c, .fz gs.length 1 false (vI gs)] (.bool (conf g.ids.length gs.length (bG g gs) c)) := by
  have s1 := hs.ids
  have s2 := hc.len
  refine ret_frz rfl ?_
  refine fn_rule mixed Tryz.func120 rfl hc120 hr120 rfl ?_
  repeat' ((conv => whnf); first | (refine Br.bne ?_ ?_ <;> intro _ <;> try omega))
  all_goals (conv => whnf)
  · exact VLe.bool (conf_no (fun h => by omega)).symm
  refine loop_r mixed [2, 3, 19, 20] (fun i : Nat => [(21, .int .i64 i)]) (fun m v => m = c.length - v ∧ v ≤ c.length ∧ ∀ u, u < v → (gC c u).length = gs.length ∧ ∀ x, x < gs.length → (bG g gs u x).1 ≤ gI (gC c u) x ∧ gI (gC c u) x ≤ (bG g gs u x).2) c.length 0 ⟨rfl, Nat.zero_le _, fun u hu => by omega⟩ ?_ ?_
  · refine weak_by (fun _ _ => [(0, some 0)]) ?_ ?_ rfl
    · repeat' (first | exact True.intro | (refine ⟨⟨_, rfl, ?_⟩, ?_⟩) | exact VRen.kf rfl | exact VRen.loc rfl)
    · repeat' (first | exact True.intro | (refine ⟨⟨_, rfl, ?_⟩, ?_⟩) | exact VRen.kf rfl | (refine And.intro ?_ ?_))
  rintro m v ⟨hm, hv, hall⟩
  have hcl := gC_len hc v
  have hrl := gR_len hs.rows v
  repeat' ((conv => whnf); first | (refine Br.dec ?_ ?_ <;> intro _ <;> try omega) | (refine Br.bne ?_ ?_ <;> intro _ <;> try omega) | (refine Ix.nat (by omega) ?_))
  all_goals (conv => whnf)
  · rename_i hne
    exact VLe.bool (conf_no (fun h => hne (by have := (h.2 v (by omega)).1; omega))).symm
  · refine loop_r mixed [2, 3, 7, 19, 20, 21, 31, 32] (fun i : Nat => [(33, .int .i64 i)]) (fun m x => m = gs.length - x ∧ x ≤ gs.length ∧ ∀ y, y < x → (bG g gs v y).1 ≤ gI (gC c v) y ∧ gI (gC c v) y ≤ (bG g gs v y).2) gs.length 0 ⟨rfl, Nat.zero_le _, fun u hu => by omega⟩ ?_ ?_
    · refine weak_by (fun _ _ => [(0, some 0)]) ?_ ?_ rfl
      · repeat' (first | exact True.intro | (refine ⟨⟨_, rfl, ?_⟩, ?_⟩) | exact VRen.kf rfl | exact VRen.loc rfl)
      · repeat' (first | exact True.intro | (refine ⟨⟨_, rfl, ?_⟩, ?_⟩) | exact VRen.kf rfl | (refine And.intro ?_ ?_))
    rintro m x ⟨hm, hx, hrow⟩
    have hb : bG g gs v x = if gI gs x = -1 then (-1, ((gR g.ports v).length : Int) - 1) else (0, gI gs x) := rfl
    repeat' ((conv => whnf); first | (refine Br.dec ?_ ?_ <;> intro _ <;> try omega) | (refine Ar.i64 (by omega) (by omega) ?_) | (refine Ix.nat (by omega) ?_) | (refine And.intro rfl ?_))
    all_goals (conv => whnf)
    all_goals try (exfalso; omega)
    all_goals first
      | (refine VLe.bool (conf_no (fun h => ?_)).symm; have := (h.2 v (by omega)).2 x (by omega); rw [hb] at this; split at this <;> simp only at this <;> omega)
      | (refine ⟨gs.length - (x + 1), x + 1, by omega, ⟨rfl, by omega, fun y hy => ?_⟩, ?_⟩
         · by_cases e : y = x
           · subst e; rw [hb]; split <;> simp only <;> omega
           · exact hrow y (by omega)
         · refine weak_by (fun _ _ => [(0, some 0)]) ?_ ?_ rfl
           · repeat' (first | exact True.intro | (refine ⟨⟨_, rfl, ?_⟩, ?_⟩) | exact VRen.kf rfl | exact VRen.loc rfl)
           · repeat' (first | exact True.intro | (refine ⟨⟨_, rfl, ?_⟩, ?_⟩) | exact VRen.kf rfl | (refine And.intro ?_ ?_)))
      | (refine ⟨c.length - (v + 1), v + 1, by omega, ⟨rfl, by omega, fun u hu => ?_⟩, ?_⟩
         · by_cases e : u = v
           · subst e; exact ⟨by omega, fun y hy => hrow y (by omega)⟩
           · exact hall u (by omega)
         · refine weak_by (fun _ _ => [(0, some 0)]) ?_ ?_ rfl
           · repeat' (first | exact True.intro | (refine ⟨⟨_, rfl, ?_⟩, ?_⟩) | exact VRen.kf rfl | exact VRen.loc rfl)
           · repeat' (first | exact True.intro | (refine ⟨⟨_, rfl, ?_⟩, ?_⟩) | exact VRen.kf rfl | (refine And.intro ?_ ?_)))
  · exact VLe.bool (conf_iff.2 ⟨by omega, fun u hu => hall u (by omega)⟩).symm

/-! ## the reference's configurations -/

structure Vr where
  name : ByteArray
  kind : Int
  lo : Int
  hi : Int
  pn : Int
  pid : Int
instance : Inhabited Vr := ⟨⟨ByteArray.mk #[], 0, 0, 0, 0, 0⟩⟩
def gV (l : List Vr) (i : Nat) : Vr := l.getD i default
def vV (l : List Vr) : Nat → Nat → V := fun i j => match j with
  | 0 => .str (gV l i).name
  | 1 => .int .i64 (gV l i).kind
  | 2 => .int .i64 (gV l i).lo
  | 3 => .int .i64 (gV l i).hi
  | 4 => .int .i64 (gV l i).pn
  | _ => .int .i64 (gV l i).pid

def maxL : List Int → Int → Int
  | [], m => m
  | a :: r, m => maxL r (if a > m then a else m)
theorem maxL_snoc : ∀ (l : List Int) (a m : Int), maxL (l ++ [a]) m = if a > maxL l m then a else maxL l m
  | [], a, m => rfl
  | x :: r, a, m => maxL_snoc r a _
theorem maxL_le : ∀ (l : List Int) (m k : Int), m ≤ k → (∀ a ∈ l, a ≤ k) → maxL l m ≤ k
  | [], m, k, h, _ => h
  | a :: r, m, k, h, hl => maxL_le r _ k (by have := hl a (by simp); split <;> omega) (fun b hb => hl b (by simp [hb]))
theorem maxL_ge : ∀ (l : List Int) (m : Int), m ≤ maxL l m
  | [], m => Int.le_refl _
  | a :: r, m => Int.le_trans (by split <;> omega) (maxL_ge r _)

def bV (g : G) (vs : List Vr) (v x : Nat) : Int × Int :=
  if (gV vs x).kind = 2 then (0, 1) else if (gV vs x).kind = 3 then (-1, ((gR g.ports v).length : Int) - 1) else ((gV vs x).lo, (gV vs x).hi + (gV vs x).pn * g.ports.length + (gV vs x).pid * maxL g.ids 0)

structure VOk (vs : List Vr) : Prop where
  len : vs.length ≤ 1000
  b : ∀ x, 0 ≤ (gV vs x).hi ∧ (gV vs x).hi ≤ 1000 ∧ 0 ≤ (gV vs x).pn ∧ (gV vs x).pn ≤ 1000 ∧ 0 ≤ (gV vs x).pid ∧ (gV vs x).pid ≤ 1000

theorem val_facts {g : G} (h : g.valid = true) : 1 ≤ g.ids.length ∧ g.ids.length ≤ 24 ∧ g.ports.length = g.ids.length ∧ (∀ a ∈ g.ids, 0 ≤ a ∧ a ≤ 255) ∧ g.ids.Nodup ∧ (∀ v, v < g.ports.length → okR g.ports.length v (gR g.ports v) = true) ∧ ∀ v, v < g.ports.length → ∀ l ∈ gR g.ports v, ((v : Int), l.2) ∈ gR g.ports l.1.toNat := by
  simp only [G.valid, Bool.and_eq_true, decide_eq_true_eq, portsOk] at h
  obtain ⟨⟨h1, h2, h3⟩, h4, h5, h6⟩ := h
  have h4 := (idsOk_iff _).1 h4
  exact ⟨h1, h2, h3, h4.1, h4.2, rowsOk_iff.1 h5, symOk_iff.1 h6⟩

end Go.Proofs.YtcnpplcfabdoaaaGreat

namespace Go.Proofs.YtcnpplcfabdoaaaGreat
open Go.Eng
set_option maxRecDepth 100000
set_option linter.unusedVariables false

/-! ## rings -/

def fitR (n v : Nat) (r : List (Int × Int)) : Bool := decide (r.length = 2 ∧ (gF r 0).1 = ((v : Int) + n - 1).tmod n ∧ (gF r 1).1 = ((v : Int) + 1).tmod n)
theorem fitR_iff {n v : Nat} {r : List (Int × Int)} : fitR n v r = true ↔ r.length = 2 ∧ (gF r 0).1 = ((v : Int) + n - 1).tmod n ∧ (gF r 1).1 = ((v : Int) + 1).tmod n := by
  rw [fitR, decide_eq_true_eq]
def G.ring (g : G) : Bool := decide (3 ≤ g.ids.length ∧ ∀ v, v < g.ports.length → fitR g.ids.length v (gR g.ports v) = true)
def G.rfit (g : G) : Bool := g.valid && g.ring
theorem ring_iff {g : G} : g.ring = true ↔ 3 ≤ g.ids.length ∧ ∀ v, v < g.ports.length → fitR g.ids.length v (gR g.ports v) = true := by
  rw [G.ring, decide_eq_true_eq]
theorem ring_no {g : G} (h : ¬ (3 ≤ g.ids.length ∧ ∀ v, v < g.ports.length → fitR g.ids.length v (gR g.ports v) = true)) : g.ring = false := by
  rw [← Bool.not_eq_true, ring_iff]; exact h

set_option maxHeartbeats 4000000 in
theorem fit_ok (g : G) (hs : g.Small) : Ret Tryz.prog 128 [g.v] (.bool g.rfit) := by
  have s1 := hs.ids
  have s2 := hs.ports
  have hval := valid_ok g hs
  refine ret_frz rfl ?_
  refine fn_rule mixed Tryz.func128 rfl hc128 hr128 rfl ?_
  by_cases hg : g.valid = true
  · rw [G.rfit]
    rw [hg] at hval ⊢
    rw [Bool.true_and]
    obtain ⟨f1, f2, f3, f4, f5, f6, f7⟩ := val_facts hg
    repeat' ((conv => whnf); first | (refine Br.tt ?_) | (refine Br.dec ?_ ?_ <;> intro _ <;> try omega) | (refine (hval _ _).mono ?_; rintro _ _ _ ⟨rfl, rfl, rfl⟩))
    all_goals (conv => whnf)
    · exact VLe.bool (ring_no (fun h => by omega)).symm
    refine loop_r mixed [3, 17, 18] (fun i : Nat => [(19, .int .i64 i)]) (fun m v => m = g.ports.length - v ∧ v ≤ g.ports.length ∧ ∀ u, u < v → fitR g.ids.length u (gR g.ports u) = true) g.ports.length 0 ⟨rfl, Nat.zero_le _, fun u hu => by omega⟩ ?_ ?_
    · refine weak_by (fun _ _ => [(0, some 0)]) ?_ ?_ rfl
      · repeat' (first | exact True.intro | (refine ⟨⟨_, rfl, ?_⟩, ?_⟩) | exact VRen.kf rfl)
      · repeat' (first | exact True.intro | (refine ⟨⟨_, rfl, ?_⟩, ?_⟩) | exact VRen.kf rfl | (refine And.intro ?_ ?_))
    rintro m v ⟨hm, hv, hall⟩
    have hrl := gR_len hs.rows v
    repeat' ((conv => whnf); first | (refine Br.dec ?_ ?_ <;> intro _ <;> try omega) | (refine Br.bne ?_ ?_ <;> intro _ <;> try omega) | (refine Ar.i64 (by omega) (by omega) ?_) | (refine Sv.mk _ rfl ?_) | (refine Nz.mk (by omega) ?_) | (refine Ix.nat (by omega) ?_) | (refine Ix.mk 0 rfl (by omega) ?_) | (refine Ix.mk 1 rfl (by omega) ?_))
    all_goals (conv => whnf)
    all_goals try (exfalso; omega)
    all_goals first
      | (refine VLe.bool (ring_no (fun h => ?_)).symm; have h2 := fitR_iff.1 (h.2 v (by omega)); omega)
      | (refine ⟨g.ports.length - (v + 1), v + 1, by omega, ⟨rfl, by omega, fun u hu => ?_⟩, ?_⟩
         · by_cases e : u = v
           · subst e; exact fitR_iff.2 ⟨by omega, by omega, by omega⟩
           · exact hall u (by omega)
         · refine weak_by (fun _ _ => [(0, some 0)]) ?_ ?_ rfl
           · repeat' (first | exact True.intro | (refine ⟨⟨_, rfl, ?_⟩, ?_⟩) | exact VRen.kf rfl)
           · repeat' (first | exact True.intro | (refine ⟨⟨_, rfl, ?_⟩, ?_⟩) | exact VRen.kf rfl | (refine And.intro ?_ ?_)))
      | exact VLe.bool (ring_iff.2 ⟨by omega, fun u hu => hall u (by omega)⟩).symm
  · simp only [Bool.not_eq_true] at hg
    rw [G.rfit]
    rw [hg] at hval ⊢
    rw [Bool.false_and]
    repeat' ((conv => whnf); first | (refine Br.ff ?_) | (refine (hval _ _).mono ?_; rintro _ _ _ ⟨rfl, rfl, rfl⟩))
    all_goals (conv => whnf)
    all_goals exact VLe.rfl

end Go.Proofs.YtcnpplcfabdoaaaGreat

namespace Go.Proofs.YtcnpplcfabdoaaaGreat
open Go.Eng
set_option maxRecDepth 100000
set_option linter.unusedVariables false

def bN (g : G) (v x : Nat) : Int × Int := (0, g.ids.length)
def G.rconf (g : G) (c : Cf) : Bool := conf g.ids.length 1 (bN g) c

theorem conf_ext {n m : Nat} {B B' : Nat → Nat → Int × Int} {c : Cf} (h : ∀ v x, v < n → x < m → B v x = B' v x) : conf n m B c = conf n m B' c := by
  rw [Bool.eq_iff_iff, conf_iff, conf_iff]
  refine and_congr Iff.rfl (forall_congr' fun v => forall_congr' fun hv => and_congr Iff.rfl (forall_congr' fun x => forall_congr' fun hx => ?_))
  rw [h v x hv hx]

theorem one_le (a : Int) (f : Nat → Nat → V) (hf : f 0 0 = .int .i64 a) : ∀ i j : Nat, i < 1 → j < 1 → VLe (f i j) (vI [a] i j) := by
  intro i j hi hj
  have e : i = 0 := by omega
  have e' : j = 0 := by omega
  subst e; subst e'
  rw [hf]
  exact VLe.rfl

theorem conf_small {n m : Nat} {B : Nat → Nat → Int × Int} {c : Cf} (h : conf n m B c = true) : c.length = n ∧ ∀ v, v < n → (gC c v).length = m := by
  have := conf_iff.1 h
  exact ⟨this.1, fun v hv => (this.2 v hv).1⟩

theorem configuration_ok (g : G) (hs : g.Small) (c : Cf) (hc : CSmall c) : Ret Tryz.prog 78 [g.v, cV c] (.bool (g.rfit && g.rconf c)) := by
  have s1 := hs.ids
  have s2 := hs.ports
  have hfit := fit_ok g hs
  refine ret_frz rfl ?_
  refine fn_rule mixed Tryz.func78 rfl hc78 hr78 rfl ?_
  by_cases hg : g.rfit = true
  · rw [hg] at hfit ⊢
    rw [Bool.true_and]
    have hg2 := hg
    rw [G.rfit, Bool.and_eq_true] at hg2
    obtain ⟨f1, f2, f3, f4, f5, f6, f7⟩ := val_facts hg2.1
    have hb := bconf_ok g hs f3 c hc [(g.ids.length : Int)] (by simp)
    have he : conf g.ids.length [(g.ids.length : Int)].length (bG g [(g.ids.length : Int)]) c = g.rconf c := conf_ext (fun v x hv hx => by
      have e : x = 0 := by simp at hx; omega
      subst e
      show bG g [(g.ids.length : Int)] v 0 = (0, (g.ids.length : Int))
      rw [bG, if_neg (by show ¬ (g.ids.length : Int) = -1; omega)]; rfl)
    rw [he] at hb
    repeat' ((conv => whnf); first | (refine Br.tt ?_) | (refine (hfit _ _).mono ?_; rintro _ _ _ ⟨rfl, rfl, rfl⟩) | (refine call_frz [1] hb ⟨by decide, VLe.rfl, VLe.rfl, VLe.fz rfl (fun h => h) (one_le _ _ rfl), True.intro⟩ ?_) | (refine Br.any (fun _ => ?_) (fun _ => ?_)))
    all_goals (conv => whnf)
    all_goals exact VLe.bool (Eq.symm (by assumption))
  · simp only [Bool.not_eq_true] at hg
    rw [hg] at hfit ⊢
    rw [Bool.false_and]
    repeat' ((conv => whnf); first | (refine Br.ff ?_) | (refine (hfit _ _).mono ?_; rintro _ _ _ ⟨rfl, rfl, rfl⟩))
    all_goals (conv => whnf)
    all_goals exact VLe.rfl

/-! ## the reference's variables -/

def vX : List Vr := [⟨ByteArray.mk #[120], 1, 0, 0, 1, 0⟩]
theorem number_ok (s : ByteArray) (a b d : Int) : Ret Tryz.prog 58 [.str s, .int .i64 a, .int .i64 b, .int .i64 d] (.agg [.str s, .int .i64 1, .int .i64 0, .int .i64 a, .int .i64 b, .int .i64 d]) := by
  refine ret_frz rfl ?_
  refine fn_rule mixed Tryz.func58 rfl hc58 hr58 rfl ?_
  repeat' ((conv => whnf); first | fail)
  all_goals (conv => whnf)
  all_goals exact VLe.rfl
theorem vars_ok : Ret Tryz.prog 39 [] (.fz vX.length 6 false (vV vX)) := by
  refine ret_frz rfl ?_
  refine fn_rule mixed Tryz.func39 rfl hc39 hr39 rfl ?_
  repeat' ((conv => whnf); first | (refine Len.mk (by omega) ?_) | (refine (number_ok _ _ _ _ _ _).mono ?_; rintro _ _ _ ⟨rfl, rfl, rfl⟩))
  all_goals (conv => whnf)
  refine VLe.fz rfl (fun h => h) (fun i j hi hj => ?_)
  have e : i = 0 := by omega
  subst e
  rcases j with _ | _ | _ | _ | _ | _ | j
  all_goals first | (exfalso; omega) | exact VLe.rfl
theorem vX_ok : VOk vX := ⟨by decide, fun x => by
  cases x with
  | zero => exact ⟨by decide, by decide, by decide, by decide, by decide, by decide⟩
  | succ x => exact ⟨by simp [gV, vX, default], by simp [gV, vX, default], by simp [gV, vX, default], by simp [gV, vX, default], by simp [gV, vX, default], by simp [gV, vX, default]⟩⟩
abbrev x0 (c : Cf) (v : Nat) : Int := gI (gC c v) 0
def chg (c : Cf) : Nat → Nat
  | 0 => 0
  | k + 1 => if x0 c k = x0 c (k + 1) then chg c k else chg c k + 1
theorem chg_le (c : Cf) : ∀ k, chg c k ≤ k
  | 0 => Nat.le_refl _
  | k + 1 => by have := chg_le c k; rw [chg]; split <;> omega
theorem chg_eq {c : Cf} {k : Nat} (h : x0 c k = x0 c (k + 1)) : chg c (k + 1) = chg c k := by rw [chg, if_pos h]
theorem chg_ne {c : Cf} {k : Nat} (h : x0 c k ≠ x0 c (k + 1)) : chg c (k + 1) = chg c k + 1 := by rw [chg, if_neg h]
def G.rlegit (g : G) (c : Cf) : Bool := g.rfit && g.rconf c && decide (chg c (c.length - 1) ≤ 1)

theorem rfit_facts {g : G} (h : g.rfit = true) : g.valid = true ∧ 3 ≤ g.ids.length ∧ g.ids.length ≤ 24 ∧ g.ports.length = g.ids.length := by
  rw [G.rfit, Bool.and_eq_true] at h
  obtain ⟨f1, f2, f3, _⟩ := val_facts h.1
  exact ⟨h.1, (ring_iff.1 h.2).1, f2, f3⟩

set_option maxHeartbeats 4000000 in
theorem legit_ok (g : G) (hs : g.Small) (c : Cf) (hc : CSmall c) : Ret Tryz.prog 45 [g.v, cV c] (.bool (g.rlegit c)) := by
  have s2 := hc.len
  have hcf := configuration_ok g hs c hc
  refine ret_frz rfl ?_
  refine fn_rule mixed Tryz.func45 rfl hc45 hr45 rfl ?_
  by_cases hg : (g.rfit && g.rconf c) = true
  · rw [G.rlegit]
    rw [hg] at hcf ⊢
    rw [Bool.true_and]
    rw [Bool.and_eq_true] at hg
    obtain ⟨f1, f2, f3, f4⟩ := rfit_facts hg.1
    obtain ⟨h1, h2⟩ := conf_small hg.2
    repeat' ((conv => whnf); first | (refine Br.tt ?_) | (refine Ar.i64 (by omega) (by omega) ?_) | (refine (hcf _ _).mono ?_; rintro _ _ _ ⟨rfl, rfl, rfl⟩))
    all_goals (conv => whnf)
    refine loop_r mixed [1, 13] (fun i : Nat => [(5, .int .i64 (chg c i)), (14, .int .i64 i)]) (fun m v => m = c.length - v ∧ v + 1 ≤ c.length) c.length 0 ⟨rfl, by omega⟩ ?_ ?_
    · refine weak_by (fun _ _ => [(0, some 0)]) ?_ ?_ rfl
      · repeat' (first | exact True.intro | (refine ⟨⟨_, rfl, ?_⟩, ?_⟩) | exact VRen.kf rfl)
      · repeat' (first | exact True.intro | (refine ⟨⟨_, rfl, ?_⟩, ?_⟩) | exact VRen.kf rfl | (refine And.intro ?_ ?_))
    rintro m v ⟨hm, hv⟩
    have r1 := h2 v
    have r2 := h2 (v + 1)
    have hl := chg_le c v
    repeat' ((conv => whnf); first | (refine Ix.mk (v + 1) (by first | omega | rfl) (by omega) ?_) | (refine Br.dec ?_ ?_ <;> intro _ <;> try omega) | (refine Br.bne ?_ ?_ <;> intro _ <;> try omega) | (refine Ar.i64 (by omega) (by omega) ?_) | (refine Ix.nat (by omega) ?_) | (refine Ix.mk 0 rfl (by omega) ?_))
    all_goals (conv => whnf)
    all_goals try (exfalso; omega)
    all_goals first
      | (refine ⟨c.length - (v + 1), v + 1, by omega, ⟨rfl, by omega⟩, ?_⟩
         first
         | (have hx := chg_eq (c := c) (k := v) (by assumption)
            refine weak_by (fun _ _ => [(0, some 0)]) ?_ ?_ rfl
            · repeat' (first | exact True.intro | (refine ⟨⟨_, rfl, ?_⟩, ?_⟩) | exact VRen.kf rfl | exact VRen.int (by omega))
            · repeat' (first | exact True.intro | (refine ⟨⟨_, rfl, ?_⟩, ?_⟩) | exact VRen.kf rfl | (refine And.intro ?_ ?_)))
         | (have hx := chg_ne (c := c) (k := v) (by assumption)
            refine weak_by (fun _ _ => [(0, some 0)]) ?_ ?_ rfl
            · repeat' (first | exact True.intro | (refine ⟨⟨_, rfl, ?_⟩, ?_⟩) | exact VRen.kf rfl | exact VRen.int (by omega))
            · repeat' (first | exact True.intro | (refine ⟨⟨_, rfl, ?_⟩, ?_⟩) | exact VRen.kf rfl | (refine And.intro ?_ ?_))))
      | (have e : c.length - 1 = v := by omega
         refine VLe.bool ?_
         rw [e]
         symm
         first | (rw [decide_eq_true_eq]; omega) | (rw [decide_eq_false_iff_not]; omega))
  · simp only [Bool.not_eq_true] at hg
    rw [G.rlegit]
    rw [hg] at hcf ⊢
    rw [Bool.false_and]
    repeat' ((conv => whnf); first | (refine Br.ff ?_) | (refine (hcf _ _).mono ?_; rintro _ _ _ ⟨rfl, rfl, rfl⟩))
    all_goals (conv => whnf)
    all_goals exact VLe.rfl

def pv (c : Cf) (n v : Nat) : Bool := decide (x0 c v = x0 c ((v + n - 1) % n)) == decide (v = 0)
def G.rpriv (g : G) (c : Cf) : Nat := if g.rfit && g.rconf c then nb (pv c c.length) c.length else 0
theorem mod_facts {v n : Nat} (h : v < n) : (((v : Int) + n) - 1).tmod n = ((v + n - 1) % n : Nat) := by
  rw [Int.tmod_eq_emod_of_nonneg (by omega), show ((v : Int) + n) - 1 = ((v + n - 1 : Nat) : Int) by omega]
  exact (Int.natCast_emod _ _).symm

set_option maxHeartbeats 4000000 in
theorem privileged_ok (g : G) (hs : g.Small) (c : Cf) (hc : CSmall c) : Ret Tryz.prog 40 [g.v, cV c] (.int .u32 (g.rpriv c)) := by
  have s2 := hc.len
  have hcf := configuration_ok g hs c hc
  refine ret_frz rfl ?_
  refine fn_rule mixed Tryz.func40 rfl hc40 hr40 rfl ?_
  rw [G.rpriv]
  by_cases hg : (g.rfit && g.rconf c) = true
  · rw [hg] at hcf ⊢
    rw [if_pos rfl]
    rw [Bool.and_eq_true] at hg
    obtain ⟨f1, f2, f3, f4⟩ := rfit_facts hg.1
    obtain ⟨h1, h2⟩ := conf_small hg.2
    repeat' ((conv => whnf); first | (refine Br.tt ?_) | (refine (hcf _ _).mono ?_; rintro _ _ _ ⟨rfl, rfl, rfl⟩))
    all_goals (conv => whnf)
    refine loop_r mixed [1, 5, 15] (fun i : Nat => [(6, .int .u32 (nb (pv c c.length) i)), (16, .int .i64 i)]) (fun m v => m = c.length - v ∧ v ≤ c.length) c.length 0 ⟨rfl, by omega⟩ ?_ ?_
    · refine weak_by (fun _ _ => [(0, some 0)]) ?_ ?_ rfl
      · repeat' (first | exact True.intro | (refine ⟨⟨_, rfl, ?_⟩, ?_⟩) | exact VRen.kf rfl)
      · repeat' (first | exact True.intro | (refine ⟨⟨_, rfl, ?_⟩, ?_⟩) | exact VRen.kf rfl | (refine And.intro ?_ ?_))
    rintro m v ⟨hm, hv⟩
    have r1 := h2 v
    have hmod := fun h => mod_facts (v := v) (n := c.length) h
    have hml : (v + c.length - 1) % c.length < c.length := Nat.mod_lt _ (by omega)
    have r2 := h2 _ (by rw [← h1]; exact hml)
    have hpv : pv c c.length v = (decide (gI (gC c v) 0 = gI (gC c ((v + c.length - 1) % c.length)) 0) == decide (v = 0)) := rfl
    repeat' ((conv => whnf); first | (refine Ix.mk ((v + c.length - 1) % c.length) (hmod (by omega)) hml ?_) | (refine Br.tt ?_) | (refine Br.ff ?_) | (refine Br.dec ?_ ?_ <;> intro _ <;> try omega) | (refine Ar.i64 (by omega) (by omega) ?_) | (refine Ar.sh1 (by omega) ?_) | (refine Sv.mk _ rfl ?_) | (refine Nz.mk (by omega) ?_) | (refine Nn.mk (by omega) ?_) | (refine Ix.nat (by omega) ?_) | (refine Ix.mk 0 rfl (by omega) ?_))
    all_goals (conv => whnf)
    all_goals try (exfalso; omega)
    all_goals first
      | (refine ⟨c.length - (v + 1), v + 1, by omega, ⟨rfl, by omega⟩, ?_⟩
         first
         | (have hp : pv c c.length v = true := by rw [hpv, beq_iff_eq, decide_eq_decide]; omega
            have hx := nb_or (p := pv c c.length) (k := v) (by omega) hp
            refine weak_by (fun _ _ => [(0, some 0)]) ?_ ?_ rfl
            · repeat' (first | exact VRen.int hx | exact True.intro | (refine ⟨⟨_, rfl, ?_⟩, ?_⟩) | exact VRen.kf rfl)
            · repeat' (first | exact True.intro | (refine ⟨⟨_, rfl, ?_⟩, ?_⟩) | exact VRen.kf rfl | (refine And.intro ?_ ?_)))
         | (have hp : pv c c.length v = false := by rw [hpv, beq_eq_false_iff_ne, ne_eq, decide_eq_decide]; omega
            have hx := nb_no (p := pv c c.length) (k := v) hp
            refine weak_by (fun _ _ => [(0, some 0)]) ?_ ?_ rfl
            · repeat' (first | exact VRen.int (by rw [hx]) | exact True.intro | (refine ⟨⟨_, rfl, ?_⟩, ?_⟩) | exact VRen.kf rfl)
            · repeat' (first | exact True.intro | (refine ⟨⟨_, rfl, ?_⟩, ?_⟩) | exact VRen.kf rfl | (refine And.intro ?_ ?_))))
      | (have e : v = c.length := by omega
         rw [← e]; exact VLe.rfl)
  · simp only [Bool.not_eq_true] at hg
    rw [hg] at hcf ⊢
    rw [if_neg (by simp)]
    repeat' ((conv => whnf); first | (refine Br.ff ?_) | (refine (hcf _ _).mono ?_; rintro _ _ _ ⟨rfl, rfl, rfl⟩))
    all_goals (conv => whnf)
    all_goals exact VLe.rfl

theorem pv_pos {c : Cf} {n v : Nat} (h : 1 ≤ v) (hn : v < n) : pv c n v = !decide (gI (gC c v) 0 = gI (gC c (v - 1)) 0) := by
  have e : (v + n - 1) % n = v - 1 := by
    rw [show v + n - 1 = (v - 1) + n by omega, Nat.add_mod_right, Nat.mod_eq_of_lt (by omega)]
  rw [pv, e, show decide (v = 0) = false by rw [decide_eq_false_iff_not]; omega]
  show (decide (gI (gC c v) 0 = gI (gC c (v - 1)) 0) == false) = _
  cases decide (gI (gC c v) 0 = gI (gC c (v - 1)) 0) <;> rfl
theorem pv_zero {c : Cf} {n : Nat} (hn : 0 < n) : pv c n 0 = decide (gI (gC c 0) 0 = gI (gC c (n - 1)) 0) := by
  have e : (0 + n - 1) % n = n - 1 := by
    rw [Nat.zero_add, Nat.mod_eq_of_lt (by omega)]
  rw [pv, e]; simp
end Go.Proofs.YtcnpplcfabdoaaaGreat

namespace Go.Proofs.YtcnpplcfabdoaaaGreat
open Go.Eng
set_option maxRecDepth 100000
set_option linter.unusedVariables false

/-! ## world -/

def within (a b : Int) : Int := if b < 1 then 0 else if a.tmod b < 0 then a.tmod b + b else a.tmod b
theorem within_ok (a b : Int) (hb : b ≤ 9223372036854775807) : Ret Tryz.prog 12 [.int .i64 a, .int .i64 b] (.int .i64 (within a b)) := by
  refine ret_frz rfl ?_
  refine fn_rule mixed Tryz.func12 rfl hc12 hr12 rfl ?_
  have h1 : 1 ≤ b → -b < a.tmod b := fun h => Int.neg_lt_of_neg_lt (by have := Int.lt_tmod_of_pos (-a) (show 0 < b by omega); rw [Int.neg_tmod] at this; have h2 := Int.tmod_lt_of_pos (-a) (show 0 < b by omega); rw [Int.neg_tmod] at h2; omega)
  rw [within]
  repeat' ((conv => whnf); first | (refine Br.dec ?_ ?_ <;> intro _ <;> try omega) | (refine Ar.i64 (by omega) (by omega) ?_) | (refine Sv.mk _ rfl ?_) | (refine Nz.mk (by omega) ?_))
  all_goals (conv => whnf)
  · rw [if_pos (by omega)]; exact VLe.rfl
  · rw [if_neg (by omega), if_pos (by omega)]; exact VLe.rfl
  · rw [if_neg (by omega), if_neg (by omega)]; exact VLe.rfl

theorem at_ok (l : List Int) (hl : l.length ≤ 9223372036854775807) (i : Nat) : Ret Tryz.prog 77 [.fz l.length 1 false (vI l), .int .i64 i] (.int .i64 (gI l i)) := by
  refine ret_frz rfl ?_
  refine fn_rule mixed Tryz.func77 rfl hc77 hr77 rfl ?_
  repeat' ((conv => whnf); first | (refine Br.dec ?_ ?_ <;> intro _ <;> try omega) | (refine Ix.nat (by omega) ?_))
  all_goals (conv => whnf)
  · exact VLe.rfl
  · have : gI l i = 0 := by simp only [gI, List.getD]; rw [List.getElem?_eq_none (by omega)]; rfl
    rw [this]; exact VLe.rfl

def net (n : Int) : V := .agg [.int .i64 n, .nilslice, .nilslice, .nilslice, .bool false, .bool false]
def g3 : G := ⟨[0, 1, 2], [[(2, 1), (1, 1)], [(0, 1), (2, 1)], [(1, 1), (0, 1)]]⟩

theorem at_nil (i : Nat) : Ret Tryz.prog 77 [.fz 0 1 false (vI []), .int .i64 i] (.int .i64 0) := at_ok [] (by decide) i
theorem w_2_3 : Ret Tryz.prog 12 [.int .i64 2, .int .i64 3] (.int .i64 2) := within_ok 2 3 (by decide)
theorem w_0_256 : Ret Tryz.prog 12 [.int .i64 0, .int .i64 256] (.int .i64 0) := within_ok 0 256 (by decide)
theorem w_0_15 : Ret Tryz.prog 12 [.int .i64 0, .int .i64 15] (.int .i64 0) := within_ok 0 15 (by decide)

set_option maxHeartbeats 4000000 in
theorem ring3 : Ret Tryz.prog 37 [net 3, .int .i64 5] g3.v := by
  refine ret_frz rfl ?_
  refine fn_rule mixed Tryz.func37 rfl hc37 hr37 rfl ?_
  repeat' ((conv => whnf); first | (refine MkS.cells ?_) | (refine Bd.mk 3 (by decide) (by omega) ?_) | (refine Sv.mk 0 (by decide) ?_) | (refine Sv.mk 1 (by decide) ?_) | (refine Sv.mk 2 (by decide) ?_) | (refine Br.tt ?_) | (refine Br.ff ?_) | (refine Ar.i64 (by omega) (by omega) ?_) | (refine Nz.mk (by omega) ?_) | (refine Ix.mk 0 rfl (by omega) ?_) | (refine Ix.mk 1 rfl (by omega) ?_) | (refine Ix.int (by omega) (by omega) ?_) | (refine Len.mk (by omega) ?_) | (refine Ltn.mk (by omega) ?_) | (refine fn_rule mixed Tryz.func76 rfl hc76 hr76 rfl ?_) | (refine (w_2_3 _ _).mono ?_; rintro _ _ _ ⟨rfl, rfl, rfl⟩) | (refine (w_0_256 _ _).mono ?_; rintro _ _ _ ⟨rfl, rfl, rfl⟩) | (refine (w_0_15 _ _).mono ?_; rintro _ _ _ ⟨rfl, rfl, rfl⟩) | (refine loop_fuel mixed 20 ?_) | (refine call_frz [] (at_nil 0) ⟨VLe.nilfz rfl, VLe.int (by omega), True.intro⟩ ?_) | (refine call_frz [] (at_nil 1) ⟨VLe.nilfz rfl, VLe.int (by omega), True.intro⟩ ?_) | (refine call_frz [] (at_nil 2) ⟨VLe.nilfz rfl, VLe.int (by omega), True.intro⟩ ?_))
  all_goals (conv => whnf)
  refine VLe.agg ⟨VLe.fz rfl (fun h => h) (fun i j hi hj => ?_), VLe.fz rfl (fun h => h) (fun i j hi hj => ?_), True.intro⟩
  · rcases i with _ | _ | _ | i
    all_goals first | (exfalso; omega) | (rcases j with _ | j; exact VLe.rfl; exfalso; omega)
  · rcases i with _ | _ | _ | i
    all_goals first | (exfalso; omega) | skip
    all_goals
      obtain rfl : j = 0 := by omega
      refine VLe.fz rfl (fun h => h) (fun i j hi hj => ?_)
      rcases i with _ | _ | i
      all_goals first | (exfalso; omega) | (rcases j with _ | _ | j; exact VLe.rfl; exact VLe.rfl; exfalso; omega)

theorem cf3_small (a b d : Int) : CSmall [[a], [b], [d]] := ⟨by simp, by simp⟩
theorem g3_small : g3.Small := ⟨by decide, by decide, by decide⟩
theorem l222 : g3.rlegit [[2], [2], [2]] = true := by decide +kernel
theorem l201 : g3.rlegit [[2], [0], [1]] = false := by decide +kernel
theorem p221 : g3.rpriv [[2], [2], [1]] = 4 := by decide +kernel
theorem p201 : g3.rpriv [[2], [0], [1]] = 6 := by decide +kernel

theorem cf3_le {a b d : Int} {k1 k2 k3 : Nat → Nat → V} (h1 : k1 0 0 = .int .i64 a) (h2 : k2 0 0 = .int .i64 b) (h3 : k3 0 0 = .int .i64 d) {f : Nat → Nat → V}
    (f0 : f 0 0 = .fz 1 1 false k1) (f1 : f 1 0 = .fz 1 1 false k2) (f2 : f 2 0 = .fz 1 1 false k3) : VLe (.fz 3 1 false f) (cV [[a], [b], [d]]) := by
  refine VLe.fz rfl (fun h => h) (fun i j hi hj => ?_)
  have e : j = 0 := by omega
  subst e
  rcases i with _ | _ | _ | i
  · rw [f0]; exact VLe.fz rfl (fun h => h) (one_le _ _ h1)
  · rw [f1]; exact VLe.fz rfl (fun h => h) (one_le _ _ h2)
  · rw [f2]; exact VLe.fz rfl (fun h => h) (one_le _ _ h3)
  · exfalso; omega

set_option maxHeartbeats 4000000 in
theorem known_ok : Ret Tryz.prog 41 [] (.bool true) := by
  have h1 := legit_ok g3 g3_small _ (cf3_small 2 2 2)
  have h2 := legit_ok g3 g3_small _ (cf3_small 2 0 1)
  have h3 := privileged_ok g3 g3_small _ (cf3_small 2 2 1)
  have h4 := privileged_ok g3 g3_small _ (cf3_small 2 0 1)
  rw [l222] at h1
  rw [l201] at h2
  rw [p221] at h3
  rw [p201] at h4
  refine ret_frz rfl ?_
  refine fn_rule mixed Tryz.func41 rfl hc41 hr41 rfl ?_
  repeat' ((conv => whnf); first | (refine Br.tt ?_) | (refine Br.ff ?_) | (refine (ring3 _ _).mono ?_; rintro _ _ _ ⟨rfl, rfl, rfl⟩) | (refine call_frz [1, 2, 3, 4] h1 ⟨by decide, by decide, by decide, VLe.rfl, cf3_le rfl rfl rfl rfl rfl rfl, True.intro⟩ ?_) | (refine call_frz [5, 6, 7, 8] h3 ⟨by decide, by decide, by decide, VLe.rfl, cf3_le rfl rfl rfl rfl rfl rfl, True.intro⟩ ?_) | (refine call_frz [9, 10, 11, 12] h2 ⟨by decide, by decide, by decide, VLe.rfl, cf3_le rfl rfl rfl rfl rfl rfl, True.intro⟩ ?_) | (refine call_frz [13, 14, 15, 16] h4 ⟨by decide, by decide, by decide, VLe.rfl, cf3_le rfl rfl rfl rfl rfl rfl, True.intro⟩ ?_))
  all_goals (conv => whnf)
  all_goals exact VLe.rfl
end Go.Proofs.YtcnpplcfabdoaaaGreat

namespace Go.Proofs.YtcnpplcfabdoaaaGreat
open Go.Eng
set_option maxRecDepth 100000
set_option linter.unusedVariables false

/-! ## sets of nodes -/

abbrev full (n : Nat) : Nat := nb (fun _ => true) n
end Go.Proofs.YtcnpplcfabdoaaaGreat

