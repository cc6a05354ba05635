import Derived.Test.YtcnpplcfabdoaaaGreatEngT
import Derived.Test.YtcnpplcfabdoaaaGreatGRCode
namespace Go.Proofs.YtcnpplcfabdoaaaGreat
open Go.Eng
set_option maxRecDepth 100000
set_option linter.unusedVariables false

/-! ## graphs -/

structure G where
  ids : List Int
  ports : List (List (Int × Int))

def gI (l : List Int) (i : Nat) : Int := l.getD i 0
def gF (l : List (Int × Int)) (i : Nat) : Int × Int := l.getD i (0, 0)
def gR (l : List (List (Int × Int))) (i : Nat) : List (Int × Int) := l.getD i []
def vI (l : List Int) : Nat → Nat → V := fun i _ => .int .i64 (gI l i)
def vF (l : List (Int × Int)) : Nat → Nat → V := fun i j => match j with
  | 0 => .int .i64 (gF l i).1
  | _ + 1 => .int .i64 (gF l i).2
def vP (p : List (List (Int × Int))) : Nat → Nat → V := fun i _ => .fz (gR p i).length 2 false (vF (gR p i))
def G.v (g : G) : V := .agg [.fz g.ids.length 1 false (vI g.ids), .fz g.ports.length 1 false (vP g.ports)]

def okID (i : Int) : Bool := decide (0 ≤ i ∧ i ≤ 255)
def okL (n v : Nat) (l : Int × Int) : Bool := decide (0 ≤ l.1 ∧ l.1 < n ∧ l.1 ≠ v ∧ 1 ≤ l.2 ∧ l.2 ≤ 15)
def okR (n v : Nat) (r : List (Int × Int)) : Bool := r.all (okL n v) && decide (r.map (·.1)).Nodup
def symL (p : List (List (Int × Int))) (v : Nat) (l : Int × Int) : Bool := decide (((v : Int), l.2) ∈ gR p l.1.toNat)
def idsOk (l : List Int) : Bool := l.all okID && decide l.Nodup
def rowsOk (p : List (List (Int × Int))) : Bool := decide (∀ v, v < p.length → okR p.length v (gR p v) = true)
def symOk (p : List (List (Int × Int))) : Bool := decide (∀ v, v < p.length → ∀ l, l ∈ gR p v → symL p v l = true)
def portsOk (p : List (List (Int × Int))) : Bool := rowsOk p && symOk p
def G.valid (g : G) : Bool := decide (1 ≤ g.ids.length ∧ g.ids.length ≤ 24 ∧ g.ports.length = g.ids.length) && (idsOk g.ids && portsOk g.ports)

theorem gI_take (l : List Int) (i : Nat) (h : i < l.length) : l.take (i + 1) = l.take i ++ [gI l i] := by
  rw [List.take_succ_eq_append_getElem h]
  simp only [gI, List.getD, List.getElem?_eq_getElem h, Option.getD_some]
theorem gF_take (l : List (Int × Int)) (i : Nat) (h : i < l.length) : l.take (i + 1) = l.take i ++ [gF l i] := by
  rw [List.take_succ_eq_append_getElem h]
  simp only [gF, List.getD, List.getElem?_eq_getElem h, Option.getD_some]
theorem gI_mem {l : List Int} {i : Nat} (h : i < l.length) : gI l i ∈ l := by
  simp only [gI, List.getD, List.getElem?_eq_getElem h]
  exact List.getElem_mem h
theorem gF_mem {l : List (Int × Int)} {i : Nat} (h : i < l.length) : gF l i ∈ l := by
  simp only [gF, List.getD, List.getElem?_eq_getElem h]
  exact List.getElem_mem h
theorem gF_get {l : List (Int × Int)} {x : Int × Int} (h : x ∈ l) : ∃ i, i < l.length ∧ gF l i = x := by
  obtain ⟨i, hi, he⟩ := List.mem_iff_getElem.1 h
  exact ⟨i, hi, by simp only [gF, List.getD, List.getElem?_eq_getElem hi, Option.getD_some]; exact he⟩
theorem gI_get {l : List Int} {x : Int} (h : x ∈ l) : ∃ i, i < l.length ∧ gI l i = x := by
  obtain ⟨i, hi, he⟩ := List.mem_iff_getElem.1 h
  exact ⟨i, hi, by simp only [gI, List.getD, List.getElem?_eq_getElem hi, Option.getD_some]; exact he⟩

theorem in_ok (a b c : Int) : Ret Tryz.prog 126 [.int .i64 a, .int .i64 b, .int .i64 c] (.bool (decide (b ≤ a ∧ a ≤ c))) := by
  refine ret_frz rfl ?_
  refine fn_rule mixed Tryz.func126 rfl hc126 hr126 rfl ?_
  repeat' ((conv => whnf); first
      | (refine Br.tt ?_)
      | (refine Br.ff ?_)
      | (refine Br.dec (fun _ => ?_) (fun _ => ?_) <;> first | (exfalso; omega) | skip)
      | (refine Br.beq (fun _ => ?_) (fun _ => ?_) <;> first | (exfalso; omega) | skip)
      | (refine Br.bne (fun _ => ?_) (fun _ => ?_) <;> first | (exfalso; omega) | skip)
      | (refine Br.nbeq (fun _ => ?_) (fun _ => ?_) <;> first | (exfalso; omega) | skip)
      | (refine Br.nble (fun _ => ?_) (fun _ => ?_) <;> first | (exfalso; omega) | skip)
      | (refine Ar.i64 (by omega) (by omega) ?_)
      | (refine Ar.u32 (by omega) (by omega) ?_)
      | (refine Ar.sh1 (by omega) ?_)
      | (refine Ar.u64 (by omega) (by omega) ?_)
      | (refine Sv.mk _ rfl ?_)
      | (refine Nz.mk (by omega) ?_)
      | (refine Nn.mk (by omega) ?_)
      | (refine Ix.nat (by omega) ?_)
      | (refine Ix.ofNat (by omega) ?_)
      | (refine Ix.mk 0 rfl (by omega) ?_)
      | (refine Ix.mk 1 rfl (by omega) ?_)
      | (refine Ix.int (by omega) (by omega) ?_)
      | (refine Bd.nat (by omega) ?_)
      | (refine Bd.mk 0 rfl (by omega) ?_)
      | (refine Bd.mk 1 rfl (by omega) ?_)
      | (refine Bd.int (by omega) (by omega) ?_)
      | (refine Len.mk (by omega) ?_)
      | (refine Len.mk (by simp only [List.length_cons, List.length_nil]; omega) ?_)
      | (refine Ltn.mk (by omega) ?_)
      | (refine Both.mk ?_ ?_)
      | (refine MkS.vec ?_)
      | (refine Br.any (fun _ => ?_) (fun _ => ?_)))
  all_goals (conv => whnf)
  all_goals exact VLe.bool (by symm; first | (rw [decide_eq_true_eq]; omega) | (rw [decide_eq_false_iff_not]; omega))

/-! ## DifferentIDs -/

def seenF (l : List Int) : Nat → Nat → V := fun j _ => .bool (decide ((j : Int) ∈ l))

theorem seen_set (l : List Int) (a : Int) (i j : Nat) (k : Nat) (ha : 0 ≤ a) (hk : k = a.toNat) (hj : j < 1) : VLe (fset (seenF l) k 0 [.bool true] i j) (seenF (l ++ [a]) i j) := by
  apply VLe.of_eq
  subst hk
  have hj0 : j = 0 := by omega
  subst hj0
  by_cases h : i = a.toNat
  · subst h
    have e : ((a.toNat : Nat) : Int) = a := by omega
    simp only [fset, seenF, e]
    simp
  · have : ¬ (i : Int) = a := by omega
    simp [fset, seenF, h, this]

theorem idsOk_iff (l : List Int) : idsOk l = true ↔ (∀ a ∈ l, 0 ≤ a ∧ a ≤ 255) ∧ l.Nodup := by
  simp [idsOk, okID]

theorem ids_bad {l : List Int} (i : Nat) (h : i < l.length) (hb : ¬ (0 ≤ gI l i ∧ gI l i ≤ 255) ∨ gI l i ∈ l.take i) : VLe (V.bool false) (V.bool (idsOk l)) := by
  refine VLe.bool ?_
  symm
  rw [← Bool.not_eq_true, idsOk_iff]
  rintro ⟨h1, h2⟩
  rcases hb with hb | hb
  · exact hb (h1 _ (gI_mem h))
  · have := gI_take l i h
    have hn : (l.take (i + 1)).Nodup := h2.sublist (List.take_sublist _ _)
    rw [this, List.nodup_append] at hn
    exact hn.2.2 _ hb _ (by simp) rfl

theorem diff_ok (l : List Int) (hl : l.length ≤ 1000000) : Ret Tryz.prog 166 [.fz l.length 1 false (vI l)] (.bool (idsOk l)) := by
  refine ret_frz rfl ?_
  refine fn_rule mixed Tryz.func166 rfl hc166 hr166 rfl ?_
  repeat' ((conv => whnf); first
      | (refine Br.tt ?_)
      | (refine Br.ff ?_)
      | (refine Br.dec (fun _ => ?_) (fun _ => ?_) <;> first | (exfalso; omega) | skip)
      | (refine Br.beq (fun _ => ?_) (fun _ => ?_) <;> first | (exfalso; omega) | skip)
      | (refine Br.bne (fun _ => ?_) (fun _ => ?_) <;> first | (exfalso; omega) | skip)
      | (refine Br.nbeq (fun _ => ?_) (fun _ => ?_) <;> first | (exfalso; omega) | skip)
      | (refine Br.nble (fun _ => ?_) (fun _ => ?_) <;> first | (exfalso; omega) | skip)
      | (refine Ar.i64 (by omega) (by omega) ?_)
      | (refine Ar.u32 (by omega) (by omega) ?_)
      | (refine Ar.sh1 (by omega) ?_)
      | (refine Ar.u64 (by omega) (by omega) ?_)
      | (refine Sv.mk _ rfl ?_)
      | (refine Nz.mk (by omega) ?_)
      | (refine Nn.mk (by omega) ?_)
      | (refine Ix.nat (by omega) ?_)
      | (refine Ix.ofNat (by omega) ?_)
      | (refine Ix.mk 0 rfl (by omega) ?_)
      | (refine Ix.mk 1 rfl (by omega) ?_)
      | (refine Ix.int (by omega) (by omega) ?_)
      | (refine Bd.nat (by omega) ?_)
      | (refine Bd.mk 0 rfl (by omega) ?_)
      | (refine Bd.mk 1 rfl (by omega) ?_)
      | (refine Bd.int (by omega) (by omega) ?_)
      | (refine Len.mk (by omega) ?_)
      | (refine Len.mk (by simp only [List.length_cons, List.length_nil]; omega) ?_)
      | (refine Ltn.mk (by omega) ?_)
      | (refine Both.mk ?_ ?_)
      | (refine MkS.vec ?_)
      | (refine Br.any (fun _ => ?_) (fun _ => ?_)))
  all_goals (conv => whnf)
  refine loop_w mixed [3, 6, 7] [] [1, 2, 3, 4, 5, 6, 7, 8, 9, 10, 11, 12, 13, 14, 15, 16, 17, 18, 19, 20, 21, 22, 23, 24, 25, 26, 27, 28, 29] [0] (fun i : Nat => [(8, .int .i64 i)]) (fun i => [(0, .vec 256 1 (seenF (l.take i)))])
    (fun n i => n = l.length - i ∧ i ≤ l.length ∧ (∀ a ∈ l.take i, 0 ≤ a ∧ a ≤ 255) ∧ (l.take i).Nodup) l.length 0 ⟨rfl, Nat.zero_le _, by simp, by simp⟩ rfl (fun _ => rfl) ?_ ?_
  · refine weak_by (fun _ _ => [(0, some 0)]) ?_ ?_ rfl
    · repeat' (first | exact VLe.of_eq (by simp [seenF]) | exact True.intro | exact VRen.oel rfl rfl | exact VRen.map rfl | exact VRen.yld rfl | (refine VRen.fn ?_) | exact ⟨rfl, rfl⟩ | exact ⟨rfl, rfl, rfl⟩ | (refine ⟨rfl, rfl, rfl, rfl, rfl, ?_⟩) | (refine ⟨⟨_, rfl, ?_⟩, ?_⟩) | exact VRen.kf rfl | exact VRen.int rfl | exact VRen.int (by omega) | exact VRen.loc rfl | exact VRen.vec rfl rfl rfl | exact VRen.vec rfl (by omega) (by omega) | exact VRen.nil rfl rfl | exact VRen.nil rfl (by omega) | exact VRen.fz rfl (fun h => h) (fun _ _ _ _ => VLe.rfl) | (refine ⟨Nat.le_refl _, rfl, fun i j hi hj => ?_⟩) | (refine ⟨by omega, rfl, fun i j hi hj => ?_⟩) | exact VLe.rfl | (refine ⟨⟨_, _, rfl⟩, ?_⟩) | (refine And.intro ?_ ?_))
    · repeat' (first | exact VLe.of_eq (by simp [seenF]) | exact True.intro | exact VRen.oel rfl rfl | exact VRen.map rfl | exact VRen.yld rfl | (refine VRen.fn ?_) | exact ⟨rfl, rfl⟩ | exact ⟨rfl, rfl, rfl⟩ | (refine ⟨rfl, rfl, rfl, rfl, rfl, ?_⟩) | (refine ⟨⟨_, rfl, ?_⟩, ?_⟩) | exact VRen.kf rfl | exact VRen.int rfl | exact VRen.int (by omega) | exact VRen.loc rfl | exact VRen.vec rfl rfl rfl | exact VRen.vec rfl (by omega) (by omega) | exact VRen.nil rfl rfl | exact VRen.nil rfl (by omega) | exact VRen.fz rfl (fun h => h) (fun _ _ _ _ => VLe.rfl) | (refine ⟨Nat.le_refl _, rfl, fun i j hi hj => ?_⟩) | (refine ⟨by omega, rfl, fun i j hi hj => ?_⟩) | exact VLe.rfl | (refine ⟨⟨_, _, rfl⟩, ?_⟩) | (refine And.intro ?_ ?_))
  rintro n i ⟨hn, hi, hb, hd⟩
  repeat' ((conv => whnf); first
      | (refine Br.tt ?_)
      | (refine Br.ff ?_)
      | (refine Br.dec (fun _ => ?_) (fun _ => ?_) <;> first | (exfalso; omega) | skip)
      | (refine Br.beq (fun _ => ?_) (fun _ => ?_) <;> first | (exfalso; omega) | skip)
      | (refine Br.bne (fun _ => ?_) (fun _ => ?_) <;> first | (exfalso; omega) | skip)
      | (refine Br.nbeq (fun _ => ?_) (fun _ => ?_) <;> first | (exfalso; omega) | skip)
      | (refine Br.nble (fun _ => ?_) (fun _ => ?_) <;> first | (exfalso; omega) | skip)
      | (refine Ar.i64 (by omega) (by omega) ?_)
      | (refine Ar.u32 (by omega) (by omega) ?_)
      | (refine Ar.sh1 (by omega) ?_)
      | (refine Ar.u64 (by omega) (by omega) ?_)
      | (refine Sv.mk _ rfl ?_)
      | (refine Nz.mk (by omega) ?_)
      | (refine Nn.mk (by omega) ?_)
      | (refine Ix.nat (by omega) ?_)
      | (refine Ix.ofNat (by omega) ?_)
      | (refine Ix.mk 0 rfl (by omega) ?_)
      | (refine Ix.mk 1 rfl (by omega) ?_)
      | (refine Ix.int (by omega) (by omega) ?_)
      | (refine Bd.nat (by omega) ?_)
      | (refine Bd.mk 0 rfl (by omega) ?_)
      | (refine Bd.mk 1 rfl (by omega) ?_)
      | (refine Bd.int (by omega) (by omega) ?_)
      | (refine Len.mk (by omega) ?_)
      | (refine Len.mk (by simp only [List.length_cons, List.length_nil]; omega) ?_)
      | (refine Ltn.mk (by omega) ?_)
      | (refine Both.mk ?_ ?_)
      | (refine MkS.vec ?_)
      | (refine Br.any (fun _ => ?_) (fun _ => ?_)))
  all_goals (conv => whnf)
  · exact ids_bad i (by omega) (.inl (by omega))
  · exact ids_bad i (by omega) (.inl (by omega))
  · exact ids_bad i (by omega) (.inr (by rename_i h; rwa [show (((gI l i).toNat : Nat) : Int) = gI l i by omega] at h))
  · rename_i hni
    rw [show (((gI l i).toNat : Nat) : Int) = gI l i by omega] at hni
    refine ⟨l.length - (i + 1), i + 1, by omega, ⟨rfl, by omega, ?_, ?_⟩, ?_⟩
    · rw [gI_take l i (by omega)]
      intro a ha
      rcases List.mem_append.1 ha with h | h
      · exact hb a h
      · rw [List.mem_singleton.1 h]; omega
    · rw [gI_take l i (by omega), List.nodup_append]
      exact ⟨hd, by simp, fun a ha b hb' e => hni (by rw [List.mem_singleton.1 hb'] at e; rw [← e]; exact ha)⟩
    · simp only [gI_take l i (by omega)]
      refine weak_by (fun _ _ => [(0, some 0)]) ?_ ?_ rfl
      · repeat' (first | exact seen_set _ _ _ _ _ (by omega) rfl hj | exact True.intro | exact VRen.oel rfl rfl | exact VRen.map rfl | exact VRen.yld rfl | (refine VRen.fn ?_) | exact ⟨rfl, rfl⟩ | exact ⟨rfl, rfl, rfl⟩ | (refine ⟨rfl, rfl, rfl, rfl, rfl, ?_⟩) | (refine ⟨⟨_, rfl, ?_⟩, ?_⟩) | exact VRen.kf rfl | exact VRen.int rfl | exact VRen.int (by omega) | exact VRen.loc rfl | exact VRen.vec rfl rfl rfl | exact VRen.vec rfl (by omega) (by omega) | exact VRen.nil rfl rfl | exact VRen.nil rfl (by omega) | exact VRen.fz rfl (fun h => h) (fun _ _ _ _ => VLe.rfl) | (refine ⟨Nat.le_refl _, rfl, fun i j hi hj => ?_⟩) | (refine ⟨by omega, rfl, fun i j hi hj => ?_⟩) | exact VLe.rfl | (refine ⟨⟨_, _, rfl⟩, ?_⟩) | (refine And.intro ?_ ?_))
      · repeat' (first | exact seen_set _ _ _ _ _ (by omega) rfl hj | exact True.intro | exact VRen.oel rfl rfl | exact VRen.map rfl | exact VRen.yld rfl | (refine VRen.fn ?_) | exact ⟨rfl, rfl⟩ | exact ⟨rfl, rfl, rfl⟩ | (refine ⟨rfl, rfl, rfl, rfl, rfl, ?_⟩) | (refine ⟨⟨_, rfl, ?_⟩, ?_⟩) | exact VRen.kf rfl | exact VRen.int rfl | exact VRen.int (by omega) | exact VRen.loc rfl | exact VRen.vec rfl rfl rfl | exact VRen.vec rfl (by omega) (by omega) | exact VRen.nil rfl rfl | exact VRen.nil rfl (by omega) | exact VRen.fz rfl (fun h => h) (fun _ _ _ _ => VLe.rfl) | (refine ⟨Nat.le_refl _, rfl, fun i j hi hj => ?_⟩) | (refine ⟨by omega, rfl, fun i j hi hj => ?_⟩) | exact VLe.rfl | (refine ⟨⟨_, _, rfl⟩, ?_⟩) | (refine And.intro ?_ ?_))
  · rw [List.take_of_length_le (by omega)] at hb hd
    exact VLe.bool ((idsOk_iff l).2 ⟨hb, hd⟩).symm

/-! ## symmetric -/

abbrev Ent := (Int × Int) × V
def entR (u : Nat) (r : List (Int × Int)) : List Ent := r.map fun l => (((u : Int), l.1), V.int .i64 l.2)
def ents (p : List (List (Int × Int))) : Nat → List Ent
  | 0 => []
  | v + 1 => ents p v ++ entR v (gR p v)

theorem entR_snoc (u : Nat) (r : List (Int × Int)) (l : Int × Int) : entR u (r ++ [l]) = entR u r ++ [(((u : Int), l.1), V.int .i64 l.2)] := by simp [entR]
theorem mem_entR {u : Nat} {r : List (Int × Int)} {e : Ent} : e ∈ entR u r ↔ ∃ l ∈ r, e = (((u : Int), l.1), V.int .i64 l.2) := by
  simp only [entR, List.mem_map]
  exact ⟨fun ⟨l, h, e⟩ => ⟨l, h, e.symm⟩, fun ⟨l, h, e⟩ => ⟨l, h, e.symm⟩⟩
theorem mem_ents {p : List (List (Int × Int))} {e : Ent} : ∀ {v : Nat}, e ∈ ents p v ↔ ∃ u, u < v ∧ ∃ l ∈ gR p u, e = (((u : Int), l.1), V.int .i64 l.2)
  | 0 => by simp [ents]
  | v + 1 => by
    simp only [ents, List.mem_append, mem_ents (v := v), mem_entR]
    constructor
    · rintro (⟨u, h, x⟩ | x)
      · exact ⟨u, by omega, x⟩
      · exact ⟨v, by omega, x⟩
    · rintro ⟨u, h, x⟩
      by_cases hu : u = v
      · subst hu; exact .inr x
      · exact .inl ⟨u, by omega, x⟩

theorem mfind_some : ∀ {es : List Ent} {p : Int × Int} {x : V}, mfind es p = some x → (p, x) ∈ es
  | [], _, _, h => by simp [mfind] at h
  | (q, u) :: r, p, x, h => by
    simp only [mfind] at h
    split at h
    · rename_i e; cases h; subst e; simp
    · exact List.mem_cons_of_mem _ (mfind_some h)
theorem mfind_none : ∀ {es : List Ent} {p : Int × Int}, mfind es p = none → ∀ x, (p, x) ∉ es
  | [], _, _, _ => by simp
  | (q, u) :: r, p, h, x => by
    simp only [mfind] at h
    split at h
    · cases h
    · rename_i e
      intro hm
      rcases List.mem_cons.1 hm with e' | e'
      · cases e'; exact e rfl
      · exact mfind_none h x e'
theorem mput_none : ∀ {es : List Ent} {p : Int × Int} {y : V}, mfind es p = none → mput es p y = es ++ [(p, y)]
  | [], _, _, _ => rfl
  | (q, u) :: r, p, y, h => by
    simp only [mfind] at h
    split at h
    · cases h
    · rename_i e
      simp only [mput, if_neg e, List.cons_append, mput_none h]

def Ints (es : List Ent) : Prop := ∀ e ∈ es, ∃ w : Int, e.2 = V.int .i64 w
theorem ints_ents (p : List (List (Int × Int))) (v : Nat) : Ints (ents p v) := fun e he => by
  obtain ⟨u, _, l, _, rfl⟩ := mem_ents.1 he
  exact ⟨_, rfl⟩
theorem ints_more (p : List (List (Int × Int))) (v : Nat) (r : List (Int × Int)) : Ints (ents p v ++ entR v r) := fun e he => by
  rcases List.mem_append.1 he with he | he
  · exact ints_ents p v e he
  · obtain ⟨l, _, rfl⟩ := mem_entR.1 he
    exact ⟨_, rfl⟩
theorem mget_ints {es : List Ent} {p : Int × Int} {A : V → Prop} {B : Prop} (hi : Ints es) (h1 : ∀ w : Int, mfind es p = some (.int .i64 w) → A (.int .i64 w)) (h2 : mfind es p = none → B) : MGet (mfind es p) A B :=
  ⟨fun v hv => by
    obtain ⟨w, hw⟩ := hi _ (mfind_some hv)
    simp only at hw
    subst hw
    exact h1 w hv, h2⟩
theorem mnext_ints {n : Nat} {idxs : List Nat} {es : List Ent} {A : Nat → Ent → Prop} {B : Prop} (hi : Ints es) (h1 : ∀ i (a b w : Int), i < n → i ∉ idxs → es[i]? = some ((a, b), V.int .i64 w) → A i ((a, b), V.int .i64 w)) (h2 : (∀ i, i < n → i ∈ idxs) → B) : MNext n idxs es A B :=
  ⟨fun i p h3 h4 h5 => by
    obtain ⟨⟨a, b⟩, x⟩ := p
    obtain ⟨w, hw⟩ := hi _ (List.mem_of_getElem? h5)
    simp only at hw
    subst hw
    exact h1 i a b w h3 h4 h5, h2⟩

theorem okR_iff {n v : Nat} {r : List (Int × Int)} : okR n v r = true ↔ (∀ l ∈ r, 0 ≤ l.1 ∧ l.1 < n ∧ l.1 ≠ v ∧ 1 ≤ l.2 ∧ l.2 ≤ 15) ∧ (r.map (·.1)).Nodup := by
  simp only [okR, okL, Bool.and_eq_true, List.all_eq_true, decide_eq_true_eq]
theorem rowsOk_iff {p : List (List (Int × Int))} : rowsOk p = true ↔ ∀ v, v < p.length → okR p.length v (gR p v) = true := by simp [rowsOk]
theorem symOk_iff {p : List (List (Int × Int))} : symOk p = true ↔ ∀ v, v < p.length → ∀ l ∈ gR p v, ((v : Int), l.2) ∈ gR p l.1.toNat := by
  simp only [symOk, symL, decide_eq_true_eq]

theorem fst_uniq {r : List (Int × Int)} (h : (r.map (·.1)).Nodup) {a b : Int × Int} (ha : a ∈ r) (hb : b ∈ r) (e : a.1 = b.1) : a = b := by
  induction r with
  | nil => simp at ha
  | cons x r ih =>
    simp only [List.map_cons, List.nodup_cons] at h
    rcases List.mem_cons.1 ha with ea | ha
    · rcases List.mem_cons.1 hb with eb | hb
      · rw [ea, eb]
      · exact (h.1 (List.mem_map.2 ⟨b, hb, by rw [← e, ea]⟩)).elim
    · rcases List.mem_cons.1 hb with eb | hb
      · exact (h.1 (List.mem_map.2 ⟨a, ha, by rw [e, eb]⟩)).elim
      · exact ih h.2 ha hb

theorem sym_ents {p : List (List (Int × Int))} (hr : ∀ v, v < p.length → okR p.length v (gR p v) = true) :
    symOk p = true ↔ ∀ e ∈ ents p p.length, mfind (ents p p.length) (e.1.2, e.1.1) = some e.2 := by
  rw [symOk_iff]
  constructor
  · intro h e he
    obtain ⟨u, hu, l, hl, rfl⟩ := mem_ents.1 he
    obtain ⟨hL, _⟩ := okR_iff.1 (hr u hu)
    have hb := hL l hl
    have hm := h u hu l hl
    have hto : l.1.toNat < p.length := by omega
    have e1 : ((l.1.toNat : Nat) : Int) = l.1 := by omega
    simp only
    cases hf : mfind (ents p p.length) (l.1, (u : Int)) with
    | none => exact (mfind_none hf _ (mem_ents.2 ⟨l.1.toNat, hto, _, hm, by rw [e1]⟩)).elim
    | some x =>
      obtain ⟨u', hu', l', hl', he'⟩ := mem_ents.1 (mfind_some hf)
      simp only [Prod.mk.injEq] at he'
      obtain ⟨⟨a1, a2⟩, a3⟩ := he'
      have : u' = l.1.toNat := by omega
      subst this
      have := fst_uniq (okR_iff.1 (hr _ hu')).2 hm hl' a2
      rw [a3, ← this]
  · intro h v hv l hl
    have := h _ (mem_ents.2 ⟨v, hv, l, hl, rfl⟩)
    simp only at this
    obtain ⟨u', hu', l', hl', he'⟩ := mem_ents.1 (mfind_some this)
    simp only [Prod.mk.injEq, V.int.injEq, true_and] at he'
    obtain ⟨⟨a1, a2⟩, a3⟩ := he'
    have : l.1.toNat = u' := by omega
    rw [this]
    have : ((v : Int), l.2) = l' := Prod.ext a2 a3
    rw [this]; exact hl'

theorem ports_row {p : List (List (Int × Int))} (v : Nat) (hv : v < p.length) (h : okR p.length v (gR p v) = false) : VLe (V.bool false) (V.bool (portsOk p)) := by
  refine VLe.bool ?_
  symm
  rw [portsOk, Bool.and_eq_false_iff]
  left
  rw [← Bool.not_eq_true, rowsOk_iff]
  intro hh
  rw [hh v hv] at h; cases h

theorem row_bad {n v : Nat} {r : List (Int × Int)} (j : Nat) (hj : j < r.length) (h : ¬ (0 ≤ (gF r j).1 ∧ (gF r j).1 < n ∧ (gF r j).1 ≠ v ∧ 1 ≤ (gF r j).2 ∧ (gF r j).2 ≤ 15)) : okR n v r = false := by
  rw [← Bool.not_eq_true, okR_iff]
  exact fun hh => h (hh.1 _ (gF_mem hj))
theorem row_twice {n v : Nat} {r : List (Int × Int)} (j : Nat) (hj : j < r.length) (h : (gF r j).1 ∈ (r.take j).map (·.1)) : okR n v r = false := by
  rw [← Bool.not_eq_true, okR_iff]
  rintro ⟨_, hn⟩
  have := (hn.sublist ((List.take_sublist (j + 1) r).map _))
  rw [gF_take r j hj, List.map_append, List.nodup_append] at this
  exact this.2.2 _ h _ (by simp) rfl

theorem gR_len {p : List (List (Int × Int))} {k : Nat} (h : ∀ r ∈ p, r.length ≤ k) (v : Nat) : (gR p v).length ≤ k := by
  simp only [gR, List.getD]
  cases hv : p[v]? with
  | none => simp
  | some r => exact h r (List.mem_of_getElem? hv)

theorem idx_le {n : Nat} {l : List Nat} (hn : l.Nodup) (hb : ∀ i ∈ l, i < n) : l.length ≤ n := by
  induction n generalizing l with
  | zero =>
    cases l with
    | nil => simp
    | cons a l => have := hb a (by simp); omega
  | succ n ih =>
    have h1 := ih (l := l.erase n) (hn.erase _) (fun i hi => by
      have h2 := hb i (List.mem_of_mem_erase hi)
      have h3 : i ≠ n := fun e => by subst e; exact (hn.not_mem_erase) hi
      omega)
    rw [List.length_erase] at h1
    split at h1 <;> omega

set_option maxHeartbeats 4000000 in
theorem sym_ok (p : List (List (Int × Int))) (hp : p.length ≤ 24) (hr : ∀ r ∈ p, r.length ≤ 9223372036854775807) : Ret Tryz.prog 167 [.fz p.length 1 false (vP p)] (.bool (portsOk p)) := by
  refine ret_frz rfl ?_
  refine fn_rule mixed Tryz.func167 rfl hc167 hr167 rfl ?_
  repeat' ((conv => whnf); first
      | (refine Br.tt ?_)
      | (refine Br.ff ?_)
      | (refine Br.dec (fun _ => ?_) (fun _ => ?_) <;> first | (exfalso; omega) | skip)
      | (refine Br.beq (fun _ => ?_) (fun _ => ?_) <;> first | (exfalso; omega) | skip)
      | (refine Br.bne (fun _ => ?_) (fun _ => ?_) <;> first | (exfalso; omega) | skip)
      | (refine Br.nbeq (fun _ => ?_) (fun _ => ?_) <;> first | (exfalso; omega) | skip)
      | (refine Br.nble (fun _ => ?_) (fun _ => ?_) <;> first | (exfalso; omega) | skip)
      | (refine Ar.i64 (by omega) (by omega) ?_)
      | (refine Ar.u32 (by omega) (by omega) ?_)
      | (refine Ar.sh1 (by omega) ?_)
      | (refine Ar.u64 (by omega) (by omega) ?_)
      | (refine Sv.mk _ rfl ?_)
      | (refine Nz.mk (by omega) ?_)
      | (refine Nn.mk (by omega) ?_)
      | (refine Ix.nat (by omega) ?_)
      | (refine Ix.ofNat (by omega) ?_)
      | (refine Ix.mk 0 rfl (by omega) ?_)
      | (refine Ix.mk 1 rfl (by omega) ?_)
      | (refine Ix.int (by omega) (by omega) ?_)
      | (refine Bd.nat (by omega) ?_)
      | (refine Bd.mk 0 rfl (by omega) ?_)
      | (refine Bd.mk 1 rfl (by omega) ?_)
      | (refine Bd.int (by omega) (by omega) ?_)
      | (refine Len.mk (by omega) ?_)
      | (refine Len.mk (by simp only [List.length_cons, List.length_nil]; omega) ?_)
      | (refine Ltn.mk (by omega) ?_)
      | (refine Both.mk ?_ ?_)
      | (refine MkS.vec ?_)
      | (refine Br.any (fun _ => ?_) (fun _ => ?_)))
  all_goals (conv => whnf)
  refine loop_w mixed [0, 3, 14, 15] [] [1, 2, 3, 4, 5, 6, 7, 8, 9, 10, 11, 12, 13, 14, 15, 16, 17, 18, 19, 20, 21, 22, 23, 24, 25, 26, 27, 28, 29] [0] (fun i : Nat => [(16, .int .i64 i)]) (fun i => [(0, .map (.pair .i64) (ents p i))])
    (fun n i => n = p.length - i ∧ i ≤ p.length ∧ ∀ v, v < i → okR p.length v (gR p v) = true) p.length 0 ⟨rfl, Nat.zero_le _, fun v h => by omega⟩ rfl (fun _ => rfl) ?_ ?_
  · refine weak_by (fun _ _ => [(0, some 0)]) ?_ ?_ rfl
    · repeat' (first | exact True.intro | exact VRen.oel rfl rfl | exact VRen.map rfl | exact VRen.yld rfl | (refine VRen.fn ?_) | exact ⟨rfl, rfl⟩ | exact ⟨rfl, rfl, rfl⟩ | (refine ⟨rfl, rfl, rfl, rfl, rfl, ?_⟩) | (refine ⟨⟨_, rfl, ?_⟩, ?_⟩) | exact VRen.kf rfl | exact VRen.int rfl | exact VRen.int (by omega) | exact VRen.loc rfl | exact VRen.vec rfl rfl rfl | exact VRen.vec rfl (by omega) (by omega) | exact VRen.nil rfl rfl | exact VRen.nil rfl (by omega) | exact VRen.fz rfl (fun h => h) (fun _ _ _ _ => VLe.rfl) | (refine ⟨Nat.le_refl _, rfl, fun i j hi hj => ?_⟩) | (refine ⟨by omega, rfl, fun i j hi hj => ?_⟩) | exact VLe.rfl | (refine ⟨⟨_, _, rfl⟩, ?_⟩) | (refine And.intro ?_ ?_))
    · repeat' (first | exact True.intro | exact VRen.oel rfl rfl | exact VRen.map rfl | exact VRen.yld rfl | (refine VRen.fn ?_) | exact ⟨rfl, rfl⟩ | exact ⟨rfl, rfl, rfl⟩ | (refine ⟨rfl, rfl, rfl, rfl, rfl, ?_⟩) | (refine ⟨⟨_, rfl, ?_⟩, ?_⟩) | exact VRen.kf rfl | exact VRen.int rfl | exact VRen.int (by omega) | exact VRen.loc rfl | exact VRen.vec rfl rfl rfl | exact VRen.vec rfl (by omega) (by omega) | exact VRen.nil rfl rfl | exact VRen.nil rfl (by omega) | exact VRen.fz rfl (fun h => h) (fun _ _ _ _ => VLe.rfl) | (refine ⟨Nat.le_refl _, rfl, fun i j hi hj => ?_⟩) | (refine ⟨by omega, rfl, fun i j hi hj => ?_⟩) | exact VLe.rfl | (refine ⟨⟨_, _, rfl⟩, ?_⟩) | (refine And.intro ?_ ?_))
  rintro n v ⟨hn, hv, hrow⟩
  have hrl := gR_len hr v
  repeat' ((conv => whnf); first
      | (refine Br.tt ?_)
      | (refine Br.ff ?_)
      | (refine Br.dec (fun _ => ?_) (fun _ => ?_) <;> first | (exfalso; omega) | skip)
      | (refine Br.beq (fun _ => ?_) (fun _ => ?_) <;> first | (exfalso; omega) | skip)
      | (refine Br.bne (fun _ => ?_) (fun _ => ?_) <;> first | (exfalso; omega) | skip)
      | (refine Br.nbeq (fun _ => ?_) (fun _ => ?_) <;> first | (exfalso; omega) | skip)
      | (refine Br.nble (fun _ => ?_) (fun _ => ?_) <;> first | (exfalso; omega) | skip)
      | (refine Ar.i64 (by omega) (by omega) ?_)
      | (refine Ar.u32 (by omega) (by omega) ?_)
      | (refine Ar.sh1 (by omega) ?_)
      | (refine Ar.u64 (by omega) (by omega) ?_)
      | (refine Sv.mk _ rfl ?_)
      | (refine Nz.mk (by omega) ?_)
      | (refine Nn.mk (by omega) ?_)
      | (refine Ix.nat (by omega) ?_)
      | (refine Ix.ofNat (by omega) ?_)
      | (refine Ix.mk 0 rfl (by omega) ?_)
      | (refine Ix.mk 1 rfl (by omega) ?_)
      | (refine Ix.int (by omega) (by omega) ?_)
      | (refine Bd.nat (by omega) ?_)
      | (refine Bd.mk 0 rfl (by omega) ?_)
      | (refine Bd.mk 1 rfl (by omega) ?_)
      | (refine Bd.int (by omega) (by omega) ?_)
      | (refine Len.mk (by omega) ?_)
      | (refine Len.mk (by simp only [List.length_cons, List.length_nil]; omega) ?_)
      | (refine Ltn.mk (by omega) ?_)
      | (refine Both.mk ?_ ?_)
      | (refine MkS.vec ?_)
      | (refine Br.any (fun _ => ?_) (fun _ => ?_)))
  all_goals (conv => whnf)
  · refine loop_w mixed [0, 3, 4, 14, 15, 16, 21, 22] [] [1, 2, 3, 4, 5, 6, 7, 8, 9, 10, 11, 12, 13, 14, 15, 16, 17, 18, 19, 20, 21, 22, 23, 24, 25, 26, 27, 28, 29] [0] (fun j : Nat => [(23, .int .i64 j)]) (fun j => [(0, .map (.pair .i64) (ents p v ++ entR v ((gR p v).take j)))])
      (fun n j => n = (gR p v).length - j ∧ j ≤ (gR p v).length ∧ okR p.length v ((gR p v).take j) = true) (gR p v).length 0 ⟨rfl, Nat.zero_le _, by simp [okR]⟩ rfl (fun _ => rfl) ?_ ?_
    · refine weak_by (fun _ _ => [(0, some 0)]) ?_ ?_ rfl
      · repeat' (first | exact ⟨rfl, by simp [entR]⟩ | exact True.intro | exact VRen.oel rfl rfl | exact VRen.map rfl | exact VRen.yld rfl | (refine VRen.fn ?_) | exact ⟨rfl, rfl⟩ | exact ⟨rfl, rfl, rfl⟩ | (refine ⟨rfl, rfl, rfl, rfl, rfl, ?_⟩) | (refine ⟨⟨_, rfl, ?_⟩, ?_⟩) | exact VRen.kf rfl | exact VRen.int rfl | exact VRen.int (by omega) | exact VRen.loc rfl | exact VRen.vec rfl rfl rfl | exact VRen.vec rfl (by omega) (by omega) | exact VRen.nil rfl rfl | exact VRen.nil rfl (by omega) | exact VRen.fz rfl (fun h => h) (fun _ _ _ _ => VLe.rfl) | (refine ⟨Nat.le_refl _, rfl, fun i j hi hj => ?_⟩) | (refine ⟨by omega, rfl, fun i j hi hj => ?_⟩) | exact VLe.rfl | (refine ⟨⟨_, _, rfl⟩, ?_⟩) | (refine And.intro ?_ ?_))
      · repeat' (first | exact ⟨rfl, by simp [entR]⟩ | exact True.intro | exact VRen.oel rfl rfl | exact VRen.map rfl | exact VRen.yld rfl | (refine VRen.fn ?_) | exact ⟨rfl, rfl⟩ | exact ⟨rfl, rfl, rfl⟩ | (refine ⟨rfl, rfl, rfl, rfl, rfl, ?_⟩) | (refine ⟨⟨_, rfl, ?_⟩, ?_⟩) | exact VRen.kf rfl | exact VRen.int rfl | exact VRen.int (by omega) | exact VRen.loc rfl | exact VRen.vec rfl rfl rfl | exact VRen.vec rfl (by omega) (by omega) | exact VRen.nil rfl rfl | exact VRen.nil rfl (by omega) | exact VRen.fz rfl (fun h => h) (fun _ _ _ _ => VLe.rfl) | (refine ⟨Nat.le_refl _, rfl, fun i j hi hj => ?_⟩) | (refine ⟨by omega, rfl, fun i j hi hj => ?_⟩) | exact VLe.rfl | (refine ⟨⟨_, _, rfl⟩, ?_⟩) | (refine And.intro ?_ ?_))
    rintro n j ⟨hn, hj, hok⟩
    repeat' ((conv => whnf); first
        | (refine Br.tt ?_)
        | (refine Br.ff ?_)
        | (refine Br.dec (fun _ => ?_) (fun _ => ?_) <;> first | (exfalso; omega) | skip)
        | (refine Br.beq (fun _ => ?_) (fun _ => ?_) <;> first | (exfalso; omega) | skip)
        | (refine Br.bne (fun _ => ?_) (fun _ => ?_) <;> first | (exfalso; omega) | skip)
        | (refine Br.nbeq (fun _ => ?_) (fun _ => ?_) <;> first | (exfalso; omega) | skip)
        | (refine Br.nble (fun _ => ?_) (fun _ => ?_) <;> first | (exfalso; omega) | skip)
        | (refine Ar.i64 (by omega) (by omega) ?_)
        | (refine Ar.u32 (by omega) (by omega) ?_)
        | (refine Ar.sh1 (by omega) ?_)
        | (refine Ar.u64 (by omega) (by omega) ?_)
        | (refine Sv.mk _ rfl ?_)
        | (refine Nz.mk (by omega) ?_)
        | (refine Nn.mk (by omega) ?_)
        | (refine Ix.nat (by omega) ?_)
        | (refine Ix.ofNat (by omega) ?_)
        | (refine Ix.mk 0 rfl (by omega) ?_)
        | (refine Ix.mk 1 rfl (by omega) ?_)
        | (refine Ix.int (by omega) (by omega) ?_)
        | (refine Bd.nat (by omega) ?_)
        | (refine Bd.mk 0 rfl (by omega) ?_)
        | (refine Bd.mk 1 rfl (by omega) ?_)
        | (refine Bd.int (by omega) (by omega) ?_)
        | (refine Len.mk (by omega) ?_)
        | (refine Len.mk (by simp only [List.length_cons, List.length_nil]; omega) ?_)
        | (refine Ltn.mk (by omega) ?_)
        | (refine Both.mk ?_ ?_)
        | (refine MkS.vec ?_)
        | (refine mget_ints (ints_more _ _ _) (fun w hw => ?_) (fun hw => ?_))
        | (refine Br.any (fun _ => ?_) (fun _ => ?_)))
    all_goals (conv => whnf)
    · exact ports_row v (by omega) (row_bad j (by omega) (by omega))
    · exact ports_row v (by omega) (row_bad j (by omega) (by omega))
    · exact ports_row v (by omega) (row_bad j (by omega) (by omega))
    · exact ports_row v (by omega) (row_bad j (by omega) (by omega))
    · exact ports_row v (by omega) (row_bad j (by omega) (by omega))
    · refine ports_row v (by omega) (row_twice j (by omega) ?_)
      rcases List.mem_append.1 (mfind_some hw) with h | h
      · obtain ⟨u, hu, l, _, he⟩ := mem_ents.1 h
        simp only [Prod.mk.injEq] at he
        omega
      · obtain ⟨l, hl, he⟩ := mem_entR.1 h
        simp only [Prod.mk.injEq] at he
        exact List.mem_map.2 ⟨l, hl, he.1.2.symm⟩
    · have hnin : (gF (gR p v) j).1 ∉ ((gR p v).take j).map (·.1) := fun h => by
        obtain ⟨l, hl, he⟩ := List.mem_map.1 h
        refine mfind_none hw (.int .i64 l.2) (List.mem_append_right _ (mem_entR.2 ⟨l, hl, ?_⟩))
        rw [he]
      refine ⟨(gR p v).length - (j + 1), j + 1, by omega, ⟨rfl, by omega, ?_⟩, ?_⟩
      · rw [okR_iff] at hok ⊢
        rw [gF_take _ j (by omega)]
        refine ⟨fun l hl => ?_, ?_⟩
        · rcases List.mem_append.1 hl with h | h
          · exact hok.1 l h
          · rw [List.mem_singleton.1 h]; omega
        · rw [List.map_append, List.nodup_append]
          refine ⟨hok.2, by simp, fun a ha b hb e => hnin ?_⟩
          simp only [List.map_cons, List.map_nil, List.mem_singleton] at hb
          rw [← hb, ← e]; exact ha
      · have e1 : ents p v ++ entR v ((gR p v).take (j + 1)) = mput (ents p v ++ entR v ((gR p v).take j)) ((v : Int), (gF (gR p v) j).1) (.int .i64 (gF (gR p v) j).2) := by
          rw [mput_none hw, gF_take _ j (by omega), entR_snoc, List.append_assoc]
        simp only [e1]
        refine weak_by (fun _ _ => [(0, some 0)]) ?_ ?_ rfl
        · repeat' (first | exact True.intro | exact VRen.oel rfl rfl | exact VRen.map rfl | exact VRen.yld rfl | (refine VRen.fn ?_) | exact ⟨rfl, rfl⟩ | exact ⟨rfl, rfl, rfl⟩ | (refine ⟨rfl, rfl, rfl, rfl, rfl, ?_⟩) | (refine ⟨⟨_, rfl, ?_⟩, ?_⟩) | exact VRen.kf rfl | exact VRen.int rfl | exact VRen.int (by omega) | exact VRen.loc rfl | exact VRen.vec rfl rfl rfl | exact VRen.vec rfl (by omega) (by omega) | exact VRen.nil rfl rfl | exact VRen.nil rfl (by omega) | exact VRen.fz rfl (fun h => h) (fun _ _ _ _ => VLe.rfl) | (refine ⟨Nat.le_refl _, rfl, fun i j hi hj => ?_⟩) | (refine ⟨by omega, rfl, fun i j hi hj => ?_⟩) | exact VLe.rfl | (refine ⟨⟨_, _, rfl⟩, ?_⟩) | (refine And.intro ?_ ?_))
        · repeat' (first | exact True.intro | exact VRen.oel rfl rfl | exact VRen.map rfl | exact VRen.yld rfl | (refine VRen.fn ?_) | exact ⟨rfl, rfl⟩ | exact ⟨rfl, rfl, rfl⟩ | (refine ⟨rfl, rfl, rfl, rfl, rfl, ?_⟩) | (refine ⟨⟨_, rfl, ?_⟩, ?_⟩) | exact VRen.kf rfl | exact VRen.int rfl | exact VRen.int (by omega) | exact VRen.loc rfl | exact VRen.vec rfl rfl rfl | exact VRen.vec rfl (by omega) (by omega) | exact VRen.nil rfl rfl | exact VRen.nil rfl (by omega) | exact VRen.fz rfl (fun h => h) (fun _ _ _ _ => VLe.rfl) | (refine ⟨Nat.le_refl _, rfl, fun i j hi hj => ?_⟩) | (refine ⟨by omega, rfl, fun i j hi hj => ?_⟩) | exact VLe.rfl | (refine ⟨⟨_, _, rfl⟩, ?_⟩) | (refine And.intro ?_ ?_))
    · have hfull : (gR p v).take j = gR p v := List.take_of_length_le (by omega)
      rw [hfull] at hok
      refine ⟨p.length - (v + 1), v + 1, by omega, ⟨rfl, by omega, fun u hu => ?_⟩, ?_⟩
      · by_cases e : u = v
        · subst e; exact hok
        · exact hrow u (by omega)
      · refine weak_by (fun _ _ => [(0, some 0)]) ?_ ?_ rfl
        · repeat' (first | exact ⟨rfl, by rw [hfull]; rfl⟩ | exact True.intro | exact VRen.oel rfl rfl | exact VRen.map rfl | exact VRen.yld rfl | (refine VRen.fn ?_) | exact ⟨rfl, rfl⟩ | exact ⟨rfl, rfl, rfl⟩ | (refine ⟨rfl, rfl, rfl, rfl, rfl, ?_⟩) | (refine ⟨⟨_, rfl, ?_⟩, ?_⟩) | exact VRen.kf rfl | exact VRen.int rfl | exact VRen.int (by omega) | exact VRen.loc rfl | exact VRen.vec rfl rfl rfl | exact VRen.vec rfl (by omega) (by omega) | exact VRen.nil rfl rfl | exact VRen.nil rfl (by omega) | exact VRen.fz rfl (fun h => h) (fun _ _ _ _ => VLe.rfl) | (refine ⟨Nat.le_refl _, rfl, fun i j hi hj => ?_⟩) | (refine ⟨by omega, rfl, fun i j hi hj => ?_⟩) | exact VLe.rfl | (refine ⟨⟨_, _, rfl⟩, ?_⟩) | (refine And.intro ?_ ?_))
        · repeat' (first | exact ⟨rfl, by rw [hfull]; rfl⟩ | exact True.intro | exact VRen.oel rfl rfl | exact VRen.map rfl | exact VRen.yld rfl | (refine VRen.fn ?_) | exact ⟨rfl, rfl⟩ | exact ⟨rfl, rfl, rfl⟩ | (refine ⟨rfl, rfl, rfl, rfl, rfl, ?_⟩) | (refine ⟨⟨_, rfl, ?_⟩, ?_⟩) | exact VRen.kf rfl | exact VRen.int rfl | exact VRen.int (by omega) | exact VRen.loc rfl | exact VRen.vec rfl rfl rfl | exact VRen.vec rfl (by omega) (by omega) | exact VRen.nil rfl rfl | exact VRen.nil rfl (by omega) | exact VRen.fz rfl (fun h => h) (fun _ _ _ _ => VLe.rfl) | (refine ⟨Nat.le_refl _, rfl, fun i j hi hj => ?_⟩) | (refine ⟨by omega, rfl, fun i j hi hj => ?_⟩) | exact VLe.rfl | (refine ⟨⟨_, _, rfl⟩, ?_⟩) | (refine And.intro ?_ ?_))
  · have hvp : v = p.length := by omega
    subst hvp
    have hse := sym_ents hrow
    have hro : rowsOk p = true := rowsOk_iff.2 hrow
    refine loop_w mixed [3, 69] [] [2, 3, 4, 5, 6, 7, 8, 9, 10, 11, 12, 13, 14, 15, 16, 17, 18, 19, 20, 21, 22, 23, 24, 25, 26, 27, 28, 29] [1, 0] (fun _ : List Nat => []) (fun ix => [(1, .iter 0 (ents p p.length).length ix), (0, .map (.pair .i64) (ents p p.length))])
      (fun n ix => n = (ents p p.length).length - ix.length ∧ ix.Nodup ∧ (∀ i ∈ ix, i < (ents p p.length).length) ∧ ∀ i ∈ ix, ∀ e, (ents p p.length)[i]? = some e → mfind (ents p p.length) (e.1.2, e.1.1) = some e.2)
      (ents p p.length).length [] ⟨rfl, by simp, by simp, by simp⟩ rfl (fun _ => rfl) ?_ ?_
    · refine weak_by (fun _ _ => [(1, some 1), (0, some 0)]) ?_ ?_ rfl
      · repeat' (first | exact True.intro | exact VRen.oel rfl rfl | exact VRen.map rfl | exact VRen.yld rfl | (refine VRen.fn ?_) | exact ⟨rfl, rfl⟩ | exact ⟨rfl, rfl, rfl⟩ | (refine ⟨rfl, rfl, rfl, rfl, rfl, ?_⟩) | (refine ⟨⟨_, rfl, ?_⟩, ?_⟩) | exact VRen.kf rfl | exact VRen.int rfl | exact VRen.int (by omega) | exact VRen.loc rfl | exact VRen.vec rfl rfl rfl | exact VRen.vec rfl (by omega) (by omega) | exact VRen.nil rfl rfl | exact VRen.nil rfl (by omega) | exact VRen.fz rfl (fun h => h) (fun _ _ _ _ => VLe.rfl) | (refine ⟨Nat.le_refl _, rfl, fun i j hi hj => ?_⟩) | (refine ⟨by omega, rfl, fun i j hi hj => ?_⟩) | exact VLe.rfl | (refine ⟨⟨_, _, rfl⟩, ?_⟩) | (refine And.intro ?_ ?_))
      · repeat' (first | exact True.intro | exact VRen.oel rfl rfl | exact VRen.map rfl | exact VRen.yld rfl | (refine VRen.fn ?_) | exact ⟨rfl, rfl⟩ | exact ⟨rfl, rfl, rfl⟩ | (refine ⟨rfl, rfl, rfl, rfl, rfl, ?_⟩) | (refine ⟨⟨_, rfl, ?_⟩, ?_⟩) | exact VRen.kf rfl | exact VRen.int rfl | exact VRen.int (by omega) | exact VRen.loc rfl | exact VRen.vec rfl rfl rfl | exact VRen.vec rfl (by omega) (by omega) | exact VRen.nil rfl rfl | exact VRen.nil rfl (by omega) | exact VRen.fz rfl (fun h => h) (fun _ _ _ _ => VLe.rfl) | (refine ⟨Nat.le_refl _, rfl, fun i j hi hj => ?_⟩) | (refine ⟨by omega, rfl, fun i j hi hj => ?_⟩) | exact VLe.rfl | (refine ⟨⟨_, _, rfl⟩, ?_⟩) | (refine And.intro ?_ ?_))
    rintro n ix ⟨hn', hnd, hlt, hix⟩
    repeat' ((conv => whnf); first
        | (refine Br.tt ?_)
        | (refine Br.ff ?_)
        | (refine Br.dec (fun _ => ?_) (fun _ => ?_) <;> first | (exfalso; omega) | skip)
        | (refine Br.beq (fun _ => ?_) (fun _ => ?_) <;> first | (exfalso; omega) | skip)
        | (refine Br.bne (fun _ => ?_) (fun _ => ?_) <;> first | (exfalso; omega) | skip)
        | (refine Br.nbeq (fun _ => ?_) (fun _ => ?_) <;> first | (exfalso; omega) | skip)
        | (refine Br.nble (fun _ => ?_) (fun _ => ?_) <;> first | (exfalso; omega) | skip)
        | (refine Ar.i64 (by omega) (by omega) ?_)
        | (refine Ar.u32 (by omega) (by omega) ?_)
        | (refine Ar.sh1 (by omega) ?_)
        | (refine Ar.u64 (by omega) (by omega) ?_)
        | (refine Sv.mk _ rfl ?_)
        | (refine Nz.mk (by omega) ?_)
        | (refine Nn.mk (by omega) ?_)
        | (refine Ix.nat (by omega) ?_)
        | (refine Ix.ofNat (by omega) ?_)
        | (refine Ix.mk 0 rfl (by omega) ?_)
        | (refine Ix.mk 1 rfl (by omega) ?_)
        | (refine Ix.int (by omega) (by omega) ?_)
        | (refine Bd.nat (by omega) ?_)
        | (refine Bd.mk 0 rfl (by omega) ?_)
        | (refine Bd.mk 1 rfl (by omega) ?_)
        | (refine Bd.int (by omega) (by omega) ?_)
        | (refine Len.mk (by omega) ?_)
        | (refine Len.mk (by simp only [List.length_cons, List.length_nil]; omega) ?_)
        | (refine Ltn.mk (by omega) ?_)
        | (refine Both.mk ?_ ?_)
        | (refine MkS.vec ?_)
        | (refine Chk.mk (Nat.beq_refl _) ?_)
        | (refine mnext_ints (ints_ents _ _) (fun i a b w hi hni he => ?_) (fun hall => ?_))
        | (refine ⟨_, List.getLast?_concat, _, ‹_›, ?_⟩)
        | (refine mget_ints (ints_ents _ _) (fun w' hw => ?_) (fun hw => ?_))
        | (refine Br.any (fun _ => ?_) (fun _ => ?_)))
    all_goals (conv => whnf)
    · refine VLe.bool ?_
      symm
      rw [portsOk, Bool.and_eq_false_iff]
      right
      rw [← Bool.not_eq_true, hse]
      intro hh
      have := hh _ (List.mem_of_getElem? he)
      rw [hw] at this
      simp at this
      contradiction
    · rename_i hww
      refine ⟨(ents p p.length).length - (ix ++ [i]).length, ix ++ [i], ?_, ⟨rfl, ?_, ?_, ?_⟩, ?_⟩
      · have h1 : (ix ++ [i]).Nodup := List.nodup_append.2 ⟨hnd, by simp, fun a ha b hb e => hni (by rw [List.mem_singleton.1 hb] at e; rw [← e]; exact ha)⟩
        have := idx_le h1 (n := (ents p p.length).length) (fun k hk => by
          rcases List.mem_append.1 hk with h | h
          · exact hlt k h
          · rw [List.mem_singleton.1 h]; exact hi)
        simp at this ⊢
        omega
      · exact List.nodup_append.2 ⟨hnd, by simp, fun a ha b hb e => hni (by rw [List.mem_singleton.1 hb] at e; rw [← e]; exact ha)⟩
      · intro k hk
        rcases List.mem_append.1 hk with h | h
        · exact hlt k h
        · rw [List.mem_singleton.1 h]; exact hi
      · intro k hk e hke
        rcases List.mem_append.1 hk with h | h
        · exact hix k h e hke
        · rw [List.mem_singleton.1 h, he] at hke
          cases hke
          rw [hw, hww]
      · refine weak_by (fun _ _ => [(1, some 1), (0, some 0)]) ?_ ?_ rfl
        · repeat' (first | exact True.intro | exact VRen.oel rfl rfl | exact VRen.map rfl | exact VRen.yld rfl | (refine VRen.fn ?_) | exact ⟨rfl, rfl⟩ | exact ⟨rfl, rfl, rfl⟩ | (refine ⟨rfl, rfl, rfl, rfl, rfl, ?_⟩) | (refine ⟨⟨_, rfl, ?_⟩, ?_⟩) | exact VRen.kf rfl | exact VRen.int rfl | exact VRen.int (by omega) | exact VRen.loc rfl | exact VRen.vec rfl rfl rfl | exact VRen.vec rfl (by omega) (by omega) | exact VRen.nil rfl rfl | exact VRen.nil rfl (by omega) | exact VRen.fz rfl (fun h => h) (fun _ _ _ _ => VLe.rfl) | (refine ⟨Nat.le_refl _, rfl, fun i j hi hj => ?_⟩) | (refine ⟨by omega, rfl, fun i j hi hj => ?_⟩) | exact VLe.rfl | (refine ⟨⟨_, _, rfl⟩, ?_⟩) | (refine And.intro ?_ ?_))
        · repeat' (first | exact True.intro | exact VRen.oel rfl rfl | exact VRen.map rfl | exact VRen.yld rfl | (refine VRen.fn ?_) | exact ⟨rfl, rfl⟩ | exact ⟨rfl, rfl, rfl⟩ | (refine ⟨rfl, rfl, rfl, rfl, rfl, ?_⟩) | (refine ⟨⟨_, rfl, ?_⟩, ?_⟩) | exact VRen.kf rfl | exact VRen.int rfl | exact VRen.int (by omega) | exact VRen.loc rfl | exact VRen.vec rfl rfl rfl | exact VRen.vec rfl (by omega) (by omega) | exact VRen.nil rfl rfl | exact VRen.nil rfl (by omega) | exact VRen.fz rfl (fun h => h) (fun _ _ _ _ => VLe.rfl) | (refine ⟨Nat.le_refl _, rfl, fun i j hi hj => ?_⟩) | (refine ⟨by omega, rfl, fun i j hi hj => ?_⟩) | exact VLe.rfl | (refine ⟨⟨_, _, rfl⟩, ?_⟩) | (refine And.intro ?_ ?_))
    · refine VLe.bool ?_
      symm
      rw [portsOk, Bool.and_eq_false_iff]
      right
      rw [← Bool.not_eq_true, hse]
      intro hh
      have := hh _ (List.mem_of_getElem? he)
      rw [hw] at this
      cases this
    · exfalso
      obtain ⟨u, hu, l, hl, he'⟩ := mem_ents.1 (List.mem_of_getElem? he)
      have := (okR_iff.1 (hrow u hu)).1 l hl
      simp only [Prod.mk.injEq, V.int.injEq, true_and] at he'
      omega
    · refine VLe.bool ?_
      symm
      rw [portsOk, Bool.and_eq_true]
      refine ⟨hro, hse.2 fun e he => ?_⟩
      obtain ⟨k, hk, hke⟩ := List.mem_iff_getElem.1 he
      exact hix k (hall k hk) e (by rw [← hke]; simp [hk])

/-! ## Valid -/

structure G.Small (g : G) : Prop where
  ids : g.ids.length ≤ 9223372036854775807
  ports : g.ports.length ≤ 9223372036854775807
  rows : ∀ r ∈ g.ports, r.length ≤ 9223372036854775807

theorem valid_ok (g : G) (hs : g.Small) : Ret Tryz.prog 116 [g.v] (.bool g.valid) := by
  refine ret_frz rfl ?_
  refine fn_rule mixed Tryz.func116 rfl hc116 hr116 rfl ?_
  have s1 := hs.ids
  have s2 := hs.ports
  by_cases h : 1 ≤ g.ids.length ∧ g.ids.length ≤ 24 ∧ g.ports.length = g.ids.length
  · rw [G.valid, decide_eq_true h, Bool.true_and]
    have h1 := diff_ok g.ids (by omega)
    have h2 := sym_ok g.ports (by omega) hs.rows
    revert h1 h2
    generalize idsOk g.ids = b1
    generalize portsOk g.ports = b2
    intro h1 h2
    cases b1 <;> cases b2 <;>
    repeat' ((conv => whnf); first
        | (refine Br.tt ?_)
        | (refine Br.ff ?_)
        | (refine Br.dec (fun _ => ?_) (fun _ => ?_) <;> first | (exfalso; omega) | skip)
        | (refine Br.beq (fun _ => ?_) (fun _ => ?_) <;> first | (exfalso; omega) | skip)
        | (refine Br.bne (fun _ => ?_) (fun _ => ?_) <;> first | (exfalso; omega) | skip)
        | (refine Br.nbeq (fun _ => ?_) (fun _ => ?_) <;> first | (exfalso; omega) | skip)
        | (refine Br.nble (fun _ => ?_) (fun _ => ?_) <;> first | (exfalso; omega) | skip)
        | (refine Ar.i64 (by omega) (by omega) ?_)
        | (refine Ar.u32 (by omega) (by omega) ?_)
        | (refine Ar.sh1 (by omega) ?_)
        | (refine Ar.u64 (by omega) (by omega) ?_)
        | (refine Sv.mk _ rfl ?_)
        | (refine Nz.mk (by omega) ?_)
        | (refine Nn.mk (by omega) ?_)
        | (refine Ix.nat (by omega) ?_)
        | (refine Ix.ofNat (by omega) ?_)
        | (refine Ix.mk 0 rfl (by omega) ?_)
        | (refine Ix.mk 1 rfl (by omega) ?_)
        | (refine Ix.int (by omega) (by omega) ?_)
        | (refine Bd.nat (by omega) ?_)
        | (refine Bd.mk 0 rfl (by omega) ?_)
        | (refine Bd.mk 1 rfl (by omega) ?_)
        | (refine Bd.int (by omega) (by omega) ?_)
        | (refine Len.mk (by omega) ?_)
        | (refine Len.mk (by simp only [List.length_cons, List.length_nil]; omega) ?_)
        | (refine Ltn.mk (by omega) ?_)
        | (refine Both.mk ?_ ?_)
        | (refine MkS.vec ?_)
        | (refine (h1 _ _).mono ?_; rintro _ _ _ ⟨rfl, rfl, rfl⟩)
        | (refine (h2 _ _).mono ?_; rintro _ _ _ ⟨rfl, rfl, rfl⟩)
        | (refine Br.any (fun _ => ?_) (fun _ => ?_)))
    all_goals (conv => whnf)
    all_goals exact VLe.rfl
  · rw [G.valid, decide_eq_false h, Bool.false_and]
    repeat' ((conv => whnf); first
        | (refine Br.tt ?_)
        | (refine Br.ff ?_)
        | (refine Br.dec (fun _ => ?_) (fun _ => ?_) <;> first | (exfalso; omega) | skip)
        | (refine Br.beq (fun _ => ?_) (fun _ => ?_) <;> first | (exfalso; omega) | skip)
        | (refine Br.bne (fun _ => ?_) (fun _ => ?_) <;> first | (exfalso; omega) | skip)
        | (refine Br.nbeq (fun _ => ?_) (fun _ => ?_) <;> first | (exfalso; omega) | skip)
        | (refine Br.nble (fun _ => ?_) (fun _ => ?_) <;> first | (exfalso; omega) | skip)
        | (refine Ar.i64 (by omega) (by omega) ?_)
        | (refine Ar.u32 (by omega) (by omega) ?_)
        | (refine Ar.sh1 (by omega) ?_)
        | (refine Ar.u64 (by omega) (by omega) ?_)
        | (refine Sv.mk _ rfl ?_)
        | (refine Nz.mk (by omega) ?_)
        | (refine Nn.mk (by omega) ?_)
        | (refine Ix.nat (by omega) ?_)
        | (refine Ix.ofNat (by omega) ?_)
        | (refine Ix.mk 0 rfl (by omega) ?_)
        | (refine Ix.mk 1 rfl (by omega) ?_)
        | (refine Ix.int (by omega) (by omega) ?_)
        | (refine Bd.nat (by omega) ?_)
        | (refine Bd.mk 0 rfl (by omega) ?_)
        | (refine Bd.mk 1 rfl (by omega) ?_)
        | (refine Bd.int (by omega) (by omega) ?_)
        | (refine Len.mk (by omega) ?_)
        | (refine Len.mk (by simp only [List.length_cons, List.length_nil]; omega) ?_)
        | (refine Ltn.mk (by omega) ?_)
        | (refine Both.mk ?_ ?_)
        | (refine MkS.vec ?_)
        | (refine Br.any (fun _ => ?_) (fun _ => ?_)))
    all_goals (conv => whnf)
    all_goals exact VLe.rfl
end Go.Proofs.YtcnpplcfabdoaaaGreat
