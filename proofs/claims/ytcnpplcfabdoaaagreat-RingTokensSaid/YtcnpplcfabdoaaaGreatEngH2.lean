/-
  The engine, part H2: soundness of new slices, maps, ranges over maps.
-/
import Derived.Test.YtcnpplcfabdoaaaGreatEngH
namespace Go.Eng
open Go.ChangeMaps (setBlock)

theorem set_same {w : World} {r : Nat} {o : Obj} (h : r < w.heap.size) : (setBlock w r o).heap[r]? = some o := by simp [setBlock, h]
theorem set_other {w : World} {r k : Nat} {o : Obj} (h : k ≠ r) : (setBlock w r o).heap[k]? = w.heap[k]? := by
  simp [setBlock, Array.getElem?_setIfInBounds_ne (Ne.symm h)]
theorem set_size {w : World} {r : Nat} {o : Obj} : (setBlock w r o).heap.size = w.heap.size := by simp [setBlock]

theorem pairK_sound {ik : MKd} {v : V} {K : KyT ik → Prop} (h : pairK ik v K) : ∃ p, K p ∧ ∀ M w σ u, Den M w σ v u → u = keyP ik p := by
  cases ik with
  | one ik =>
    simp only [pairK] at h
    split at h
    · split at h
      · rename_i e1
        have e1 := of_decide_eq_true e1
        subst e1
        exact ⟨_, h, fun M w σ u hd => by cases hd; rfl⟩
      · exact h.elim
    · exact h.elim
  | str =>
    simp only [pairK] at h
    split at h
    · exact ⟨_, h, fun M w σ u hd => by cases hd; rfl⟩
    · exact h.elim
  | pair ik =>
  simp only [pairK] at h
  split at h
  · rename_i k a k' b
    split at h
    · rename_i e1 e2
      have e1 := of_decide_eq_true e1
      have e2 := of_decide_eq_true e2
      subst e1 e2
      refine ⟨_, h, fun M w σ u hd => ?_⟩
      cases hd with
      | agg _ _ us hl hd =>
        match us, hl, hd with
        | [x, y], _, hd =>
          have h1 := hd 0 _ x rfl rfl
          have h2 := hd 1 _ y rfl rfl
          cases h1
          cases h2
          rfl
    · exact h.elim
  · exact h.elim

theorem mapK_sound {own : Own} {m : V} {K : Nat → (ik : MKd) → List (KyT ik × V) → Prop} (h : mapK own m K) : ∃ k ik es, m = .map k ∧ look own k = some (.map ik es) ∧ K k ik es := by
  unfold mapK at h
  split at h
  · split at h
    · exact ⟨_, _, _, rfl, ‹_›, h⟩
    · exact h.elim
  · exact h.elim

theorem iterK_sound {own : Own} {m : V} {K : Nat → Nat → Nat → List Nat → (ik : MKd) → List (KyT ik × V) → Prop} (h : iterK own m K) :
    ∃ k km n idxs ik es, m = .loc k 0 ∧ look own k = some (.iter km n idxs) ∧ look own km = some (.map ik es) ∧ es.length = n ∧ K k km n idxs ik es := by
  unfold iterK at h
  split at h
  · split at h
    · split at h
      · obtain ⟨h1, h2⟩ := h
        exact ⟨_, _, _, _, _, _, rfl, ‹_›, ‹_›, Nat.eq_of_beq_eq_true h1, h2⟩
      · exact h.elim
    · exact h.elim
  · exact h.elim

theorem den_pair {M : Nat → Prop} {w : World} {σ : Sg} {ik : MKd} (p : KyT ik) : Den M w σ (keyV ik p) (keyP ik p) := by
  cases ik with
  | one k => exact .int _ _ _
  | str => exact .str _ _
  | pair ik =>
    refine .agg _ _ [.int ik p.1, .int ik p.2] rfl fun i v u hv hu => ?_
    match i, hv, hu with
    | 0, hv, hu => simp at hv hu; subst hv hu; exact .int _ _ _
    | 1, hv, hu => simp at hv hu; subst hv hu; exact .int _ _ _
    | i + 2, hv, hu => simp at hv

theorem den_tup2 {M : Nat → Prop} {w : World} {σ : Sg} {a b : V} {x y : Value} (h1 : Den M w σ a x) (h2 : Den M w σ b y) : Den M w σ (.tup [a, b]) (.tuple #[x, y]) := by
  refine .tup _ _ [x, y] rfl fun i v u hv hu => ?_
  match i, hv, hu with
  | 0, hv, hu => simp at hv hu; subst hv hu; exact h1
  | 1, hv, hu => simp at hv hu; subst hv hu; exact h2
  | i + 2, hv, hu => simp at hv
theorem den_tup3 {M : Nat → Prop} {w : World} {σ : Sg} {a b c : V} {x y z : Value} (h1 : Den M w σ a x) (h2 : Den M w σ b y) (h3 : Den M w σ c z) : Den M w σ (.tup [a, b, c]) (.tuple #[x, y, z]) := by
  refine .tup _ _ [x, y, z] rfl fun i v u hv hu => ?_
  match i, hv, hu with
  | 0, hv, hu => simp at hv hu; subst hv hu; exact h1
  | 1, hv, hu => simp at hv hu; subst hv hu; exact h2
  | 2, hv, hu => simp at hv hu; subst hv hu; exact h3
  | i + 3, hv, hu => simp at hv
theorem den_tup1 {M : Nat → Prop} {w : World} {σ : Sg} {a : V} {x : Value} (h1 : Den M w σ a x) : Den M w σ (.tup [a]) (.tuple #[x]) := by
  refine .tup _ _ [x] rfl fun i v u hv hu => ?_
  match i, hv, hu with
  | 0, hv, hu => simp at hv hu; subst hv hu; exact h1
  | i + 1, hv, hu => simp at hv
theorem Den.none_le {M : Nat → Prop} {w : World} {σ : Sg} {v : V} {u : Value} (h : Den M w Sg.none v u) : Den M w σ v u := h.mono ⟨fun _ _ h => ⟨h, rfl⟩, Nat.le_refl _⟩ (fun _ _ h => by cases h)

theorem keyStays (ik : MKd) (p : KyT ik) (P : Program) (w : World) : (Instr.keyThatStays (keyP ik p) (keyP ik p)).run P w = .ok (keyP ik p) w := by
  have : Instr.sameBits 10000 (keyP ik p) (keyP ik p) = true := by
    cases ik <;> (rw [keyP, show (10000 : Nat) = 9999 + 1 from rfl]; simp [Instr.sameBits]) <;> exact (Go.MapKept.bytes_beq _ _).2 rfl
  simp [Instr.keyThatStays, this, go_sem]

theorem look_of_mem {α : Type} : ∀ {l : List (Nat × α)} {k : Nat} {v : α}, (l.map (·.1)).Nodup → (k, v) ∈ l → look l k = some v
  | [], _, _, _, h => by simp at h
  | (q, c) :: l, k, v, hn, h => by
    simp only [List.map_cons, List.nodup_cons] at hn
    rcases List.mem_cons.1 h with e | e
    · cases e; simp [look]
    · have : Nat.beq q k = false := by
        rw [← Bool.not_eq_true]
        intro hb
        have := Nat.eq_of_beq_eq_true hb
        subst this
        exact hn.1 (List.mem_map.2 ⟨_, e, rfl⟩)
      simp only [look, this]
      exact look_of_mem hn.2 e

theorem kd_upd {σ : Sg} {own own' : Own} {ks : List Nat} (h : own'.map (·.1) = own.map (·.1)) : Kd σ own ks σ own' ks := ⟨fun _ h => h, fun _ h _ => h, fun k hk => .inl (by rw [h] at hk; exact hk)⟩

theorem xop_sound {P : Program} {o : Oper} {xo : XOp} (hc : cXop P o.op = some xo) {env : Env} {own : Own} {ks : List Nat} {K : V → Own → List Nat → Prop} (h : vxop xo env own ks K)
    {M : Nat → Prop} {w : World} {σ : Sg} {a : Act} (ok : ∀ x, x ∈ xo.xs → XOk M w σ env a x) (hh : HSim M w σ own ks) (Q : Exit → Act → World → Prop) : o.wp P a w (OP o a M w σ own ks K) Q := by
  obtain ⟨dst, op, type, pos, after, guard⟩ := o
  simp only at hc
  unfold cXop at hc
  split at hc
  · -- a new slice
    rename_i t l c
    split at hc
    case h_2 => cases hc
    rename_i e he
    split at hc
    case h_2 => cases hc
    rename_i s b zs x h1 h2 h3 h4 h5
    split at hc
    case h_2 => cases hc
    rename_i hzl hzk
    cases hc
    have hzl := Nat.eq_of_beq_eq_true hzl
    obtain ⟨v, h, hv⟩ := get_sound h4 h
    have dv := hv M w σ a (ok _ (by simp [XOp.xs]))
    split at h
    case h_2 => exact h.elim
    rename_i k n
    obtain ⟨m, rfl, hm, h⟩ := h
    obtain ⟨hbm, h⟩ := h
    obtain ⟨kk, ks', rfl, hK⟩ := fresh_sound h
    obtain ⟨i, z, hi, hz, hzc⟩ := zeroOf_info h3
    have hisz : i.size = s := by simpa [szOf, hi] using h1
    have hib : i.bytes = b := by simpa [hi] using h2
    obtain ⟨l1, l2⟩ := den_ofCells (M := M) (w := w) Sg.none hzc
    have hl : a.eval l = .int k m := by generalize a.eval l = q at dv; cases dv; rfl
    obtain ⟨kc, hlc⟩ : ∃ kc, a.eval c = .int kc m := by
      unfold sameB at h5
      split at h5
      · rename_i n1 n2 e1 e2
        cases e1; cases e2
        rw [← Nat.eq_of_beq_eq_true h5]; exact ⟨_, hl⟩
      · rename_i k1 a1 k2 a2 e1 e2
        cases e1; cases e2
        have e3 := of_decide_eq_true h5
        simp only [Act.eval] at hl ⊢
        cases hl
        exact ⟨k2, by rw [e3]⟩
      · cases h5
    have hb' : (i.bytes : Int) * (m : Int) ≤ 281474976710656 := by
      have : ((i.bytes * m : Nat) : Int) ≤ 281474976710656 := by rw [hib, Nat.mul_comm]; omega
      rwa [Int.natCast_mul] at this
    have hr := run_make (P := P) w t e i z he hi hz k kc m m (by omega) (Int.le_refl _) hb' (by omega)
    simp only [Int.toNat_natCast] at hr
    have zsz : z.cells.size = s := by simp at l1; omega
    rcases mksK_out hK with hK1 | ⟨hs1, hK1⟩
    rotate_left
    · subst hs1
      have hz0 : 0 < zs.length := by omega
      have hd := l2 0 zs[0] z.cells[0] (by simp [hz0]) (by simp [show 0 < z.cells.size by omega])
      obtain ⟨M', σ', n1, n2, n3, n4, n5⟩ := new_cellsv (k := kk) (ks := ks') hh 1 m (List.replicate m (zs.getD 0 default)) (madeCells z.cells (m * i.size)) e (by rw [size_madeCells, hisz]; simp) (fun q x y hx hy => by
        have hq : q < m := by have := (List.getElem?_eq_some_iff.1 hx).1; simpa using this
        have ex : x = zs[0] := by
          rw [List.getElem?_replicate, if_pos hq] at hx
          simp only [Option.some.injEq] at hx
          rw [← hx]; simp [List.getD, hz0]
        have ey : y = z.cells[0] := by
          simp only [madeCells, Array.getElem?_map] at hy
          rw [Array.getElem?_range, if_pos (by rw [hisz]; omega)] at hy
          simp only [Option.map_some, zsz, Nat.mod_one, Option.some.injEq] at hy
          rw [← hy, getElem!_pos z.cells 0 (by omega)]
        rw [ex, ey]
        exact hd.mono ⟨fun _ _ h => ⟨h, rfl⟩, Nat.le_refl _⟩ (fun _ _ h => by cases h))
      refine wp_value (u := .slice (some ⟨w.heap.size, 0, none⟩) m m) (w' := w.alloc (.cells (madeCells z.cells (m * i.size)) e)) ?_ ⟨_, M', σ', _, _, ks', rfl, n3, n1, n2, n5, hK1⟩
      refine run_v (s := Instr.makeSlice t (a.eval l) (a.eval c)) ?_
      rw [hl, hlc]
      exact hr
    obtain ⟨M', σ', n1, n2, n3, n4, n5⟩ := new_vec' (w' := w.alloc (.cells (madeCells z.cells (m * i.size)) e)) hh m s m (fun _ j => zs.getD j default) (madeCells z.cells (m * i.size)) e (.inl rfl) (Nat.le_refl _) (by rw [size_madeCells, hisz]; exact Nat.le_refl _) (fun p j hp hj => by
      have hlt : p * s + j < m * s := by
        have : (p + 1) * s ≤ m * s := Nat.mul_le_mul_right _ hp
        rw [Nat.add_mul] at this
        omega
      have hjz : j < z.cells.size := by omega
      have hjs : j < zs.length := by omega
      have hmod : (p * s + j) % z.cells.size = j := by
        rw [zsz, Nat.add_comm, Nat.add_mul_mod_self_right, Nat.mod_eq_of_lt hj]
      have hd := l2 j zs[j] z.cells[j] (by simp [hjs]) (by simp [hjz])
      refine ⟨z.cells[j], ?_, hd.oneCell ?_, by simpa [List.getD, hjs] using hd⟩
      · simp only [madeCells, Array.getElem?_map]
        rw [Array.getElem?_range, if_pos (by rw [hisz]; exact hlt)]
        simp only [Option.map_some, hmod]
        rw [getElem!_pos z.cells j hjz]
      · exact ofCells_cellB hzc _ (List.getElem_mem hjs))
    refine wp_value (u := .slice (some ⟨w.heap.size, 0, none⟩) m m) (w' := w.alloc (.cells (madeCells z.cells (m * i.size)) e)) ?_ ⟨_, M', σ', _, _, ks', rfl, n3 m (Nat.le_refl _), n1, n2, n5, hK1⟩
    refine run_v (s := Instr.makeSlice t (a.eval l) (a.eval c)) ?_
    rw [hl, hlc]
    exact hr
  · -- a new map
    rename_i t
    simp only [Option.map_eq_some_iff] at hc
    obtain ⟨⟨ik, kt, et, e⟩, hm, rfl⟩ := hc
    obtain ⟨kk, ks', rfl, hK⟩ := fresh_sound h
    obtain ⟨M', n1, n2⟩ := hsim_new (w' := w.alloc (.map #[] 0)) hh (some w.heap.size, 0, 0) (.map ik []) (fun n e => by simpa using e.symm) rfl rfl rfl (by rw [alloc_size]; omega)
      (fun n hn => alloc_get hn) (fun M' hM' hE => ⟨w.heap.size, 0, #[], Sg.set_same _ _ _, (hM' _).2 (.inr rfl), alloc_new, True.intro⟩)
    refine wp_value (u := .map (some w.heap.size)) (w' := w.alloc (.map #[] 0)) ?_ ⟨_, M', _, .map kk, _, ks', rfl, .map _ _ _ _ _ (Sg.set_same _ _ _), n1, n2, kd_set _ _ kd_cons, hK⟩
    refine run_v (s := Instr.makeMap t none) ?_
    simp [Instr.makeMap, Sem.run_bind, run_newObj_alloc, go_sem]
  · -- lookup
    rename_i t m0 x0 comma
    split at hc
    case h_2 => cases hc
    rename_i ik kt et e m x hm h1 h2
    simp only [Option.map_eq_some_iff] at hc
    obtain ⟨zv, hz, rfl⟩ := hc
    obtain ⟨q1, q2⟩ := isM2_spec hm
    obtain ⟨vm, hg, hvm⟩ := get_sound h1 h
    clear h
    obtain ⟨vx, h, hvx⟩ := get_sound h2 hg
    clear hg
    replace h := mapK_sound h
    obtain ⟨k, ik', es, rfl, hlook, h⟩ := h
    split at h
    case h_2 => exact h.elim
    rename_i hik
    have hik := of_decide_eq_true hik
    subst hik
    obtain ⟨p, h, hp⟩ := pairK_sound h
    have dm := hvm M w σ a (ok _ (by simp [XOp.xs]))
    have dx := hp M w σ _ (hvx M w σ a (ok _ (by simp [XOp.xs])))
    obtain ⟨b, κ, arr, z1, z2, z3, z4⟩ := hh.own.blk k _ (look_mem hlook)
    have hme : a.eval m0 = .map (some b) := by
      generalize a.eval m0 = q at dm
      cases dm with
      | map _ _ b' _ _ hk => rw [z1] at hk; cases hk; rfl
    obtain ⟨zz, hzz, hzc⟩ : ∃ zz, (zeroValue et).run P w = .ok zz w ∧ ofCell zz = some zv := by
      unfold zero1 at hz
      split at hz
      · rename_i i hi
        split at hz
        · rename_i zz hzz
          exact ⟨zz, by simp [zeroValue, typeInfo, Sem.run_bind, hi, hzz, go_sem], hz⟩
        · cases hz
      · cases hz
    have dz : Den M w σ zv zz := den_ofCell hzc σ
    rcases find_pair q2 p arr.toList es 0 z4 0 with ⟨n, x', v, a1, a2, a3, a4, a5, _⟩ | ⟨a1, a2, _⟩
    · have hK := h.hit v a4
      refine wp_value (u := if comma then .tuple #[x'.val, .bool true] else x'.val) (w' := w) ?_ ⟨_, M, σ, if comma then .tup [v, .bool true] else v, own, ks, rfl, ?_, hh, Tr.refl _ _ _ _, Kd.refl _ _ _, ?_⟩
      · refine run_v (s := Instr.lookup t (a.eval m0) (a.eval x0) comma) ?_
        rw [hme, dx]
        simp only [Instr.lookup, Sem.run_bind, run_underlying q1, MapKept.run_getObj_map z3, Result.andThen_ok, Sem.run_pure, run_checkPair q2, findKey_pair q2, a1]
      · cases comma
        · exact a5.none_le
        · exact den_tup2 a5.none_le (.bool _ _)
      · cases comma <;> exact hK
    · have hK := h.miss a2
      refine wp_value (u := if comma then .tuple #[zz, .bool false] else zz) (w' := w) ?_ ⟨_, M, σ, if comma then .tup [zv, .bool false] else zv, own, ks, rfl, ?_, hh, Tr.refl _ _ _ _, Kd.refl _ _ _, ?_⟩
      · refine run_v (s := Instr.lookup t (a.eval m0) (a.eval x0) comma) ?_
        rw [hme, dx]
        simp only [Instr.lookup, Sem.run_bind, run_underlying q1, MapKept.run_getObj_map z3, Result.andThen_ok, Sem.run_pure, run_checkPair q2, findKey_pair q2, a1, hzz]
      · cases comma
        · exact dz
        · exact den_tup2 dz (.bool _ _)
      · cases comma <;> exact hK
  · -- a store
    rename_i t m0 x0 y0
    split at hc
    case h_2 => cases hc
    rename_i ik kt et e m x y hm h1 h2 h3
    cases hc
    obtain ⟨q1, q2⟩ := isM2_spec hm
    obtain ⟨vm, hg, hvm⟩ := get_sound h1 h
    clear h
    obtain ⟨vx, hg2, hvx⟩ := get_sound h2 hg
    clear hg
    obtain ⟨vy, h, hvy⟩ := get_sound h3 hg2
    clear hg2
    replace h := mapK_sound h
    obtain ⟨k, ik', es, rfl, hlook, h⟩ := h
    split at h
    case h_2 => exact h.elim
    rename_i hik hkf
    have hik := of_decide_eq_true hik
    subst hik
    obtain ⟨p, h, hp⟩ := pairK_sound h
    have dm := hvm M w σ a (ok _ (by simp [XOp.xs]))
    have dx := hp M w σ _ (hvx M w σ a (ok _ (by simp [XOp.xs])))
    have dy := (hvy M w σ a (ok _ (by simp [XOp.xs]))).kf2 hkf Sg.none
    obtain ⟨own', hK, hu1, hu2⟩ := updK_sound _ _ _ _ h hh.own.nodup ⟨_, look_mem hlook⟩
    obtain ⟨b, κ, arr, z1, z2, z3, z4⟩ := hh.own.blk k _ (look_mem hlook)
    have hme : a.eval m0 = .map (some b) := by
      generalize a.eval m0 = q at dm
      cases dm with
      | map _ _ b' _ _ hk => rw [z1] at hk; cases hk; rfl
    have hlt := lt_of_getElem? z3
    obtain ⟨arr', hrun, hrel⟩ : ∃ arr' : Array MapEntry, (Instr.mapUpdate t (a.eval m0) (a.eval x0) (a.eval y0)).run P w = .ok () (setBlock w b (.map arr' arr'.size)) ∧ ERel M w ik' arr'.toList (mput es p vy) 0 := by
      rw [hme, dx]
      rcases find_pair q2 p arr.toList es 0 z4 0 with ⟨n, x', v, a1, a2, a3, a4, a5, a6⟩ | ⟨a1, a2, a3⟩
      · refine ⟨arr.modify n fun e => { e with key := keyP ik' p, val := a.eval y0 }, ?_, ?_⟩
        · have hn : (arr[n]?).map (·.key) = some (keyP ik' p) := by
            rw [Array.getElem?_toList] at a2
            rw [a2]; simp [a3]
          simp only [Nat.zero_add] at a1
          simp only [Instr.mapUpdate, Sem.run_bind, run_underlying q1, MapKept.run_getObj_map z3, Result.andThen_ok, Sem.run_pure, run_checkPair q2, findKey_pair q2, a1, hn, Option.getD_some, keyStays, MapKept.run_setObj_map _ z3, Array.size_modify]
          rfl
        · have := a6 vy (a.eval y0) dy
          simpa using this
      · refine ⟨arr.push { key := keyP ik' p, val := a.eval y0, born := arr.size }, ?_, ?_⟩
        · simp only [Instr.mapUpdate, Sem.run_bind, run_underlying q1, MapKept.run_getObj_map z3, Result.andThen_ok, Sem.run_pure, run_checkPair q2, findKey_pair q2, a1, MapKept.run_setObj_map _ z3, Array.size_push]
          rfl
        · have := a3 vy (a.eval y0) dy
          simpa using this
    have hw := hsim_write (w' := setBlock w b (.map arr' arr'.size)) hh k b (.map ik' es) (.map ik' (mput es p vy)) (look_mem hlook) (.inl (by simp [blkOf, z1])) hu2 hu1 rfl rfl rfl set_size (fun n hn => set_other hn)
      (fun hE => ⟨b, κ, arr', z1, z2, set_same hlt, hrel.mono hE⟩)
    unfold Oper.wp
    have hex : (execOp a.eval ⟨dst, .mapUpdate t m0 x0 y0, type, pos, after, guard⟩).run P w = .ok .skip (setBlock w b (.map arr' arr'.size)) := by
      show ((Instr.mapUpdate t (a.eval m0) (a.eval x0) (a.eval y0) >>= fun _ => pure Next.skip) : Sem Next).run P w = _
      rw [Sem.run_bind, hrun]
      rfl
    rw [hex]
    exact ⟨undef, M, σ, _, own', ks, rfl, .raw _ _, hw.1, hw.2, kd_upd hu1, hK⟩
  · -- range
    rename_i t x0
    split at hc
    case h_2 => cases hc
    rename_i pp hm
    obtain ⟨ik, kt, et, e⟩ := pp
    simp only [Option.map_eq_some_iff] at hc
    obtain ⟨x, h1, rfl⟩ := hc
    obtain ⟨q1, _⟩ := isM2_spec hm
    obtain ⟨vm, h, hvm⟩ := get_sound h1 h
    obtain ⟨k, ik', es, rfl, hlook, h⟩ := mapK_sound h
    obtain ⟨kk, ks', rfl, hK⟩ := fresh_sound h
    have dm := hvm M w σ a (ok _ (by simp [XOp.xs]))
    obtain ⟨b, κ, arr, z1, z2, z3, z4⟩ := hh.own.blk k _ (look_mem hlook)
    have hme : a.eval x0 = .map (some b) := by
      generalize a.eval x0 = q at dm
      cases dm with
      | map _ _ b' _ _ hk => rw [z1] at hk; cases hk; rfl
    have hlen : arr.size = es.length := by have := z4.length; simpa using this
    have hne : k ≠ kk := fun e => by
      have := hh.fresh kk (by simp)
      rw [← e, z1] at this; cases this
    obtain ⟨M', n1, n2⟩ := hsim_new (w' := w.alloc (.mapIter (some b) arr.size #[] arr.size)) hh (some w.heap.size, 0, 0) (.iter k es.length []) (fun n e => by simpa using e.symm) rfl rfl rfl (by rw [alloc_size]; omega)
      (fun n hn => alloc_get hn) (fun M' hM' hE => ⟨w.heap.size, 0, b, 0, κ, Sg.set_same _ _ _, (hM' _).2 (.inr rfl), by rw [Sg.set_other _ _ _ hne]; exact z1, by rw [← hlen]; exact alloc_new⟩)
    refine wp_value (u := .pointer (some ⟨w.heap.size, 0, none⟩)) (w' := w.alloc (.mapIter (some b) arr.size #[] arr.size)) ?_ ⟨_, M', _, .loc kk 0, _, ks', rfl, .loc _ _ _ _ _ _ (Sg.set_same _ _ _), n1, n2, kd_set _ _ kd_cons, hK⟩
    refine run_v (s := Instr.range t (a.eval x0)) ?_
    rw [hme]
    exact run_range_map w t kt et b arr arr.size q1 z3
  · -- next
    rename_i x0
    simp only [Option.map_eq_some_iff] at hc
    obtain ⟨x, h1, rfl⟩ := hc
    obtain ⟨vm, h, hvm⟩ := get_sound h1 h
    obtain ⟨k, km, n, idxs, ik, es, rfl, hlook, hlm, hlen, h⟩ := iterK_sound h
    have dm := hvm M w σ a (ok _ (by simp [XOp.xs]))
    obtain ⟨r, κ, b, base, κ', y1, y2, y3, y4⟩ := hh.own.blk k _ (look_mem hlook)
    obtain ⟨b', κ2, arr, z1, z2, z3, z4⟩ := hh.own.blk km _ (look_mem hlm)
    rw [z1] at y3
    simp only [Option.some.injEq, Prod.mk.injEq] at y3
    obtain ⟨rfl, rfl, rfl⟩ := y3
    have hme : a.eval x0 = .pointer (some ⟨r, 0, none⟩) := by
      generalize a.eval x0 = q at dm
      cases dm with
      | loc _ _ _ b2 base2 _ hk => rw [y1] at hk; cases hk; rfl
    have hsz : arr.size = n := by rw [← hlen]; have := z4.length; simpa using this
    have hborn : ∀ (j : Nat) (e : MapEntry), arr[j]? = some e → ∃ p, es[j]? = some p ∧ e.key = keyP ik p.1 ∧ e.born = j ∧ Den M w Sg.none p.2 e.val := fun j e he => by
      obtain ⟨p, c1, c2, c3, c4⟩ := z4.get j e (by simpa using he)
      exact ⟨p, c1, c2, by omega, c4⟩
    have hold : ∀ e ∈ arr.toList, e.born < n := fun e he => by
      obtain ⟨j, hj⟩ := List.getElem?_of_mem he
      obtain ⟨p, c1, _, c3, _⟩ := hborn j e (by simpa using hj)
      have := (List.getElem?_eq_some_iff.1 c1).1
      omega
    have hltr := lt_of_getElem? y4
    rcases run_next_at (P := P) w type r b' n n idxs.toArray arr arr.size y4 z3 hold (Nat.le_refl _) with ⟨h0, hrun⟩ | ⟨e, he, w1, hal, hrun⟩
    · have hall : ∀ i, i < n → i ∈ idxs := by
        intro i hi
        apply Classical.byContradiction
        intro hni
        have hi' : i < arr.size := by omega
        obtain ⟨p, _, _, c3, _⟩ := hborn i arr[i] (by simp [hi'])
        have hmem : arr[i] ∈ leftOf arr idxs.toArray := by
          unfold leftOf
          rw [Array.mem_filter]
          refine ⟨Array.getElem_mem hi', ?_⟩
          simp [c3, hni]
        have : 0 < (leftOf arr idxs.toArray).size := by
          obtain ⟨q, hq, _⟩ := Array.mem_iff_getElem.1 hmem
          omega
        omega
      refine wp_value (u := .tuple #[.bool false]) (w' := w) ?_ ⟨_, M, σ, _, own, ks, rfl, den_tup1 (.bool _ _), hh, Tr.refl _ _ _ _, Kd.refl _ _ _, h.over hall⟩
      refine run_v (s := Instr.next (a.eval x0) false type) ?_
      rw [hme]; exact hrun
    · have he' : e ∈ leftOf arr idxs.toArray := by simpa using he
      unfold leftOf at he'
      rw [Array.mem_filter] at he'
      obtain ⟨hea, hen⟩ := he'
      obtain ⟨j, hj, hje⟩ := Array.mem_iff_getElem.1 hea
      obtain ⟨p, c1, c2, c3, c4⟩ := hborn j e (by rw [← hje]; simp [hj])
      have hnin : j ∉ idxs := by
        rw [c3] at hen
        simpa using hen
      have hA := h.one j p (by omega) hnin c1
      obtain ⟨own', hK, hu1, hu2⟩ := updK_sound _ _ _ _ hA hh.own.nodup ⟨_, look_mem hlook⟩
      have hkne : km ≠ k := fun e => by
        subst e
        rw [hlook] at hlm; cases hlm
      have hw1 : w1.heap = w.heap ∧ w1.os = w.os ∧ w1.tape = w.tape ∧ w1.output = w.output := by rcases hal with rfl | rfl <;> exact ⟨rfl, rfl, rfl, rfl⟩
      let w' := setBlock w1 r (.mapIter (some b') n (idxs.toArray.push e.born) arr.size)
      have hwr := hsim_write (w' := w') hh k r _ (.iter km n (idxs ++ [j])) (look_mem hlook) (.inl (by simp [blkOf, y1])) hu2 hu1 hw1.2.1 hw1.2.2.1 hw1.2.2.2 (by simp [w', set_size, hw1.1])
        (fun q hq => by show (setBlock w1 r _).heap[q]? = _; rw [set_other hq, hw1.1]) (fun hE => by
          refine ⟨r, κ, b', 0, κ2, y1, y2, z1, ?_⟩
          show (setBlock w1 r _).heap[r]? = _
          rw [set_same (by rw [hw1.1]; exact hltr), hsz, c3]
          simp)
      have hE := hwr.2.ext hh.own
      refine wp_value (u := .tuple #[.bool true, e.key, e.val]) (w' := w') ?_ ⟨_, M, σ, _, own', ks, rfl, ?_, hwr.1, hwr.2, kd_upd hu1, hK⟩
      · refine run_v (s := Instr.next (a.eval x0) false type) ?_
        rw [hme]; exact hrun
      · rw [c2]
        exact den_tup3 (.bool _ _) (den_pair _) (c4.none_le.mono hE (Sg.le_refl _))
  · -- entry
    rename_i x0
    simp only [Option.map_eq_some_iff] at hc
    obtain ⟨x, h1, rfl⟩ := hc
    obtain ⟨vm, h, hvm⟩ := get_sound h1 h
    obtain ⟨k, km, n, idxs, ik, es, rfl, hlook, hlm, hlen, j, hlast, p, hp, hK⟩ := iterK_sound h
    have dm := hvm M w σ a (ok _ (by simp [XOp.xs]))
    obtain ⟨r, κ, b, base, κ', y1, y2, y3, y4⟩ := hh.own.blk k _ (look_mem hlook)
    obtain ⟨b', κ2, arr, z1, z2, z3, z4⟩ := hh.own.blk km _ (look_mem hlm)
    rw [z1] at y3
    simp only [Option.some.injEq, Prod.mk.injEq] at y3
    obtain ⟨rfl, rfl, rfl⟩ := y3
    have hme : a.eval x0 = .pointer (some ⟨r, 0, none⟩) := by
      generalize a.eval x0 = q at dm
      cases dm with
      | loc _ _ _ b2 base2 _ hk => rw [y1] at hk; cases hk; rfl
    have hsz : arr.size = n := by rw [← hlen]; have := z4.length; simpa using this
    have hj : j < arr.size := by have := (List.getElem?_eq_some_iff.1 hp).1; omega
    obtain ⟨p', c1, c2, c3, c4⟩ := z4.get j arr[j] (by simp [hj])
    rw [hp] at c1
    cases c1
    have hbn : (arr.toList.map (·.born)).Nodup := by
      have : ∀ (l : List MapEntry) (es : List (KyT ik × V)) (i : Nat), ERel M w ik l es i → (l.map (·.born)).Nodup ∧ ∀ e ∈ l, i ≤ e.born := by
        intro l
        induction l with
        | nil => intro es i _; simp
        | cons e l ih =>
          intro es i hr
          cases es with
          | nil => exact hr.elim
          | cons q es =>
            obtain ⟨d1, d2⟩ := ih es (i + 1) hr.2
            refine ⟨?_, fun e' he' => ?_⟩
            · simp only [List.map_cons, List.nodup_cons]
              refine ⟨fun hm => ?_, d1⟩
              obtain ⟨e', he', hb⟩ := List.mem_map.1 hm
              have := d2 e' he'
              have := hr.1.2.1
              omega
            · rcases List.mem_cons.1 he' with e1 | e1
              · subst e1; have := hr.1.2.1; omega
              · have := d2 e' e1; omega
      exact (this _ _ _ z4).1
    obtain ⟨pre, rfl⟩ : ∃ pre, idxs = pre ++ [j] := by
      obtain ⟨ys, hys⟩ := List.getLast?_eq_some_iff.1 hlast
      exact ⟨ys, hys⟩
    have hit : w.heap[r]? = some (.mapIter (some b') n (pre.toArray.push (arr[j]).born) arr.size) := by
      rw [y4, c3, hsz]
      simp
    refine wp_value (u := .tuple #[(arr[j]).key, (arr[j]).val]) (w' := w) ?_ ⟨_, M, σ, _, own, ks, rfl, ?_, hh, Tr.refl _ _ _ _, Kd.refl _ _ _, hK⟩
    · refine run_v (s := Instr.entry (a.eval x0)) ?_
      rw [hme]
      exact run_entry_at w r b' n pre.toArray arr arr.size arr[j] hit z3 (by simp) hbn
    · rw [c2]
      exact den_tup2 (den_pair _) c4.none_le
  · -- an element of the package's table
    rename_i T g i0
    split at hc
    case h_2 => cases hc
    rename_i n e x h1 h2
    simp only [Option.map_eq_some_iff] at hc
    obtain ⟨s, hs, rfl⟩ := hc
    obtain ⟨v, h, hv⟩ := get_sound h2 h
    have dv := hv M w σ a (ok _ (by simp [XOp.xs]))
    split at h
    case h_2 => exact h.elim
    rename_i k n'
    unfold globK at h
    split at h
    case h_2 => exact h.elim
    rename_i g' m f hlook
    split at h
    case h_2 => exact h.elim
    rename_i hg
    have hg := Nat.eq_of_beq_eq_true hg
    subst hg
    split at h
    case h_2 => exact h.elim
    rename_i hs1 hnm
    have hs1 := Nat.eq_of_beq_eq_true hs1
    have hnm := Nat.eq_of_beq_eq_true hnm
    subst hs1 hnm
    obtain ⟨j, rfl, hj, hK⟩ := h
    obtain ⟨_, hd⟩ := hh.own.blk 999 _ (look_mem hlook)
    have hi : a.eval i0 = .int k j := by generalize a.eval i0 = q at dv; cases dv; rfl
    have hrun : (execOp a.eval ⟨dst, .indexAddr T (.global g) i0, type, pos, after, guard⟩).run P w = .ok (.value (.pointer (some ⟨g, 0 + j * 1, none⟩))) w := by
      refine run_v (s := Instr.indexAt T (a.eval (.global g)) (a.eval i0)) ?_
      rw [show a.eval (.global g) = .pointer (some ⟨g, 0, none⟩) from rfl, hi]
      have h0 : (0 : Int) ≤ j ∧ (j : Int) < n := by omega
      simp [Instr.indexAt, asIntOf, Sem.run_bind, run_underlying h1, run_szOf hs, addr_add, h0, go_sem, Instr.sureAddr]
      intro hcon; omega
    refine wp_value (u := .pointer (some ⟨g, 0 + j * 1, none⟩)) (w' := w) hrun ⟨_, M, σ, _, own, ks, rfl, ?_, hh, Tr.refl _ _ _ _, Kd.refl _ _ _, hK⟩
    generalize hq : (Value.pointer (some ⟨g, 0, none⟩)) = q at hd
    cases hd with
    | fe _ _ _ _ _ _ b off u hi hM hb hcell h1 hd =>
      simp only [Value.pointer.injEq, Option.some.injEq, Addr.mk.injEq] at hq
      obtain ⟨rfl, e2, _⟩ := hq
      have e3 : off = 0 := by omega
      subst e3
      have := Den.fe (M := M) (w := w) σ n 1 f j 0 g 0 u hj hM hb hcell h1 hd
      simpa using this
  · -- a slice of an array: it is frozen
    rename_i t x0 hi0
    split at hc
    case h_2 => cases hc
    rename_i n e h1
    split at hc
    case h_2 => cases hc
    rename_i s x hi h2 h3 h4
    cases hc
    obtain ⟨vp, h, hvp⟩ := get_sound h3 h
    split at h
    case h_2 => exact h.elim
    rename_i k s'
    split at h
    case h_2 => exact h.elim
    rename_i n' s'' f hlook
    split at h
    case h_2 => exact h.elim
    rename_i e1 e2 e3
    have e1 := Nat.eq_of_beq_eq_true e1
    have e2 := Nat.eq_of_beq_eq_true e2
    have e3 := Nat.le_of_ble_eq_true e3
    subst e1 e2
    obtain ⟨hh', hK, hbd⟩ := bdK_sound h4 h
    have dp := hvp M w σ a (ok _ (by simp [XOp.xs]))
    have g1 := hbd.ev (fun y hy => ok y (by simp [XOp.xs, hy]))
    have hle : hh' ≤ n := by rcases g1 with ⟨_, g⟩ | ⟨_, _, g⟩ <;> omega
    generalize hpe : a.eval x0 = q at dp
    cases dp with
    | oel _ _ _ _ _ b base κ hk =>
      have hmem := look_mem hlook
      obtain ⟨bo, base', κ', s1, s2, s3⟩ := hh.own.blk k _ hmem
      rw [s1] at hk
      simp only [Option.some.injEq, Prod.mk.injEq] at hk
      obtain ⟨rfl, rfl, rfl⟩ := hk
      have hkeep : look (keepK [k] own) k = some (.vec n' s f) := look_of_mem (keep_sim hh [k]).nodup (keepK_mem.2 ⟨hmem, by simp⟩)
      have hf : frzV own (.vec k s 0 hh') fun v' own' => v' = .fz hh' s false f ∧ own' = dropK [k] own := by
        have hb0 : bor0 (keepK [k] own) (.vec k s 0 hh') fun v' => v' = .fz hh' s false f ∧ True := by
          simp only [bor0, hkeep, Nat.beq_refl]
          exact ⟨by omega, rfl, trivial⟩
        simp only [frzV, frzKeys, hlook, bor]
        unfold bor1
        split
        · rename_i e; cases e; simp only [hkeep]; exact hb0
        · rename_i e; cases e; simp only [hkeep]; exact hb0
        · exact hb0
      obtain ⟨v', own', ⟨rfl, rfl⟩, hkeys, hsnd⟩ := frzV_sound hf
      obtain ⟨M', f1, f2, f3, _⟩ := hsnd M w σ ks (.slice (some ⟨b, base' + 0 * s, none⟩) hh' κ') hh (.vec _ _ _ _ _ _ _ _ _ _ s1 rfl (by omega) fun _ => ⟨b, rfl, rfl⟩)
      have dF : Den M' w σ (.fz hh' s false f) (.slice (some ⟨b, base' + 0 * s, none⟩) hh' n) := by
        cases f3 with
        | fz0 => exact .fz0 _ _ _ _ _ _ (fun h => by cases h)
        | fz _ _ _ _ _ _ _ _ u a1 a2 a3 a4 a5 a6 a7 => exact .fz _ _ _ _ _ _ _ _ u hle (fun h => by cases h) a3 a4 a5 a6 a7
      refine wp_value (u := .slice (some ⟨b, base' + 0 * s, none⟩) hh' n) (w' := w) ?_ ⟨_, M', σ, _, _, ks, rfl, dF, f1, f2, ⟨fun _ h => h, fun _ h _ => h, fun k hk => .inl (hkeys k hk)⟩, hK⟩
      refine run_v (s := Instr.sliceAt t (a.eval x0) none (hi0.map a.eval) none) ?_
      rw [hpe]
      have hb := run_bounds (P := P) (w := w) (isSlice := false) (len := n) (cap := n) (l := 0) (h := hh') (m := n) (low := none) (high := hi0.map a.eval) (max := none) (.inl ⟨rfl, rfl⟩) (by
        rcases g1 with ⟨g, g'⟩ | ⟨k, g, g'⟩
        · subst g; exact .inl ⟨rfl, rfl, g'⟩
        · exact .inr ⟨k, g, g'⟩) (.inl ⟨rfl, rfl⟩)
      simp [Instr.sliceAt, Sem.run_bind, run_underlying h1, hb, run_szOf h2, go_sem, Instr.sureAddr, addr_add]
  · cases hc

end Go.Eng
