/-
  The engine, part I: soundness of one operation, and of operations in a row.
-/
import Derived.Test.YtcnpplcfabdoaaaGreatEngH2
import Derived.BigCall
import Derived.Orders
import Derived.OrdersIn
import Derived.TacticsIn
namespace Go.Eng

def SOp.isEff : SOp → Bool
  | .asg _ | .store _ _ _ | .app _ _ _ _ | .clr _ _ _ | .call _ _ | .callv _ _ | .xt _ => true
  | _ => false

theorem run_callFunc {P : Program} {f : FuncId} (h : callable P f = true) (args : Array Value) (w : World) : (callFunc f args).run P w = .ok (.enter f args) w := by
  unfold callable at h
  split at h
  · rename_i fn hf
    split at h
    · rename_i c hb
      split at h
      · cases h
      · rename_i hn
        simp only [callFunc, Sem.run_bind, run_program, Result.andThen_ok, hf, hn, hb, Option.isNone_some, Bool.false_eq_true, if_false, Sem.run_pure]
    · cases h
  · cases h

theorem clr_cells {P : Program} {e : TypeId} {s : Nat} {zs : List V} (h4 : szOf P e = some s) (h5 : zeroOf P e = some zs) (h7 : zs.length = s) (M : Nat → Prop) (w : World) :
    ∃ z, (zeroValue e).run P w = .ok z w ∧ ∀ n, ((Builtin.zeroCells z.cells n).toList).length = n * s ∧ (∀ i j, i < n → j < s → ∃ x, (Builtin.zeroCells z.cells n).toList[i * s + j]? = some x ∧ Den M w Sg.none (zs.getD j default) x) ∧
      ∀ x ∈ (Builtin.zeroCells z.cells n).toList, x.oneCell' = true := by
  obtain ⟨i, z, hi, hz, hzc⟩ := zeroOf_info h5
  obtain ⟨l1, l2⟩ := den_ofCells (M := M) (w := w) Sg.none hzc
  have hcb := ofCells_cellB hzc
  have hsz : z.cells.size = s := by simpa using (l1.symm.trans h7)
  refine ⟨z, by simp [zeroValue, typeInfo, Sem.run_bind, hi, hz, go_sem], fun n => ?_⟩
  have hlen : (Builtin.zeroCells z.cells n).toList.length = n * s := by simp [Builtin.zeroCells, hsz]
  have hget : ∀ q, q < n * s → (Builtin.zeroCells z.cells n).toList[q]? = some (z.cells[q % s]!) := by
    intro q hq
    simp [Builtin.zeroCells, hsz, hq]
  refine ⟨hlen, ?_, ?_⟩
  · intro i j hi' hj
    have hq : i * s + j < n * s := by
      have : (i + 1) * s ≤ n * s := Nat.mul_le_mul_right _ hi'
      rw [Nat.succ_mul] at this
      omega
    refine ⟨_, hget _ hq, ?_⟩
    have hmod : (i * s + j) % s = j := by rw [Nat.mul_comm, Nat.mul_add_mod]; exact Nat.mod_eq_of_lt hj
    rw [hmod]
    have hj' : j < zs.length := by omega
    have hj2 : j < z.cells.size := by omega
    have := l2 j (zs[j]) (z.cells[j]) (by simp [hj']) (by simp [hj2])
    simpa [List.getD, hj', getElem!_pos z.cells j hj2] using this
  · intro x hx
    obtain ⟨q, hq, he⟩ := List.getElem_of_mem hx
    have hq' : q < n * s := by rw [← hlen]; exact hq
    have h1 := hget q hq'
    rw [List.getElem?_eq_getElem hq, he] at h1
    cases h1
    have hspos : 0 < s := by
      rcases Nat.eq_zero_or_pos s with h | h
      · subst h; simp at hq'
      · exact h
    have hj2 : q % s < z.cells.size := by rw [hsz]; exact Nat.mod_lt _ hspos
    have hj' : q % s < zs.length := by rw [h7]; exact Nat.mod_lt _ hspos
    have hd := l2 (q % s) (zs[q % s]) (z.cells[q % s]) (by simp [hj']) (by simp [hj2])
    have := hd.oneCell (hcb _ (List.getElem_mem hj'))
    simpa [getElem!_pos z.cells (q % s) hj2] using this

theorem eff_sound0 {P : Program} {o : Oper} {so : SOp} (hc : cOp P o.op = some so) (hcv : ∀ x xs, so ≠ .callv x xs) (he : so.isEff = true) {env : Env} {own : Own} {ks : List Nat} {K : V → Own → List Nat → Prop} (h : vop P so env own ks K)
    {M : Nat → Prop} {w : World} {σ : Sg} {a : Act} (ok : ∀ x, x ∈ so.xs → XOk M w σ env a x) (hh : HSim M w σ own ks) (Q : Exit → Act → World → Prop) : o.wp P a w (OP o a M w σ own ks K) Q := by
  obtain ⟨dst, op, type, pos, after, guard⟩ := o
  have hw := cOp_was hc
  simp only at hw
  cases hw <;> simp only [SOp.isEff, reduceCtorEq] at he
  case callv => exact (hcv _ _ rfl).elim
  case xt xo hx => exact xop_sound (o := ⟨dst, op, type, pos, after, guard⟩) hx h ok hh Q
  case asg x0 x hx =>
    obtain ⟨v, hK, hv⟩ := get_sound hx h
    exact wp_value (o := ⟨dst, .assign x0, type, pos, after, guard⟩) (u := a.eval x0) rfl ⟨_, M, σ, v, own, ks, rfl, hv M w σ a (ok _ (by simp [SOp.xs])), hh, Tr.refl _ _ _ _, Kd.refl _ _ _, hK⟩
  case store t a0 x0 n xa xx h1 h2 h3 h4 =>
    obtain ⟨p, h, hp⟩ := get_sound h3 h
    obtain ⟨v, h, hv⟩ := get_sound h4 h
    obtain ⟨v1, own1, h, hkk, hfz⟩ := vstoreF_sound h
    obtain ⟨M1, hh1, tr1, hv1, hE1⟩ := hfz M w σ ks _ hh (hv M w σ a (ok _ (by simp [SOp.xs])))
    obtain ⟨w', own', r1, r2, r3, r4, hK⟩ := vstore_sound h1 h2 h hh1 ((hp M w σ a (ok _ (by simp [SOp.xs]))).mono hE1 (Sg.le_refl _)) hv1
    have hrun : (execOp a.eval ⟨dst, .store t a0 x0, type, pos, after, guard⟩).run P w = .ok .skip w' := by
      show ((Instr.storeAt t (a.eval a0) (a.eval x0) >>= fun _ => pure Next.skip) : Sem Next).run P w = _
      rw [Sem.run_bind, r1]
      rfl
    unfold Oper.wp
    rw [hrun]
    exact ⟨undef, M1, σ, _, own', ks, rfl, .raw _ _, r2, tr1.trans r3, ⟨fun _ h => h, fun _ h _ => h, fun k hk => .inl (hkk k (r4 k hk))⟩, hK⟩
  case call f args ats xs h1 h2 =>
    obtain ⟨vs, h, hl, hvs⟩ := gets_sound h2 h
    have hrun : (execOp a.eval ⟨dst, .call ⟨.value (.func f), args, ats⟩, type, pos, after, guard⟩).run P w = .ok (.enter f (args.map a.eval)) w := by
      rw [execOp_call_go]
      have : #[] ++ args.map a.eval ++ #[] = args.map a.eval := by simp
      rw [this]
      exact run_callFunc h1 _ w
    unfold Oper.wp
    rw [hrun]
    have hargs : args.map a.eval = (args.toList.map a.eval).toArray := by
      apply Array.ext'
      simp
    rw [hargs]
    refine (h.out M w σ (args.toList.map a.eval) (by simpa using hl) (hvs M w σ a ok) hh).mono ?_
    rintro e w' ⟨M', σ', v, own', ks', u, rfl, d, hh', tr, kd, hK⟩
    exact ⟨u, M', σ', v, own', ks', rfl, d, hh', tr, kd, litR_sound hK⟩
  case app args ats t t2 e e2 s b zs x0 y0 x y h1 h2 h3 h4 h5 h6 h7 h8 h9 h10 =>
    obtain ⟨vx, hg1, hx⟩ := get_sound h8 h
    clear h
    obtain ⟨vy, hg2, hy⟩ := get_sound h9 hg1
    clear hg1
    have dx := hx M w σ a (ok _ (by simp [SOp.xs]))
    have dy := hy M w σ a (ok _ (by simp [SOp.xs]))
    have hats0 : ats[0]? = some t := by rw [← Array.getElem?_toList, h2]; rfl
    have hats1 : ats[1]? = some t2 := by rw [← Array.getElem?_toList, h2]; rfl
    have hargs : args.map a.eval = #[a.eval x0, a.eval y0] := by
      apply Array.ext'
      simp [h1]
    have fin : ∀ (u : Value) (w' : World), (Builtin.append_ ats type #[a.eval x0, a.eval y0]).run P w = .ok u w' →
        (execOp a.eval ⟨dst, .call ⟨.builtin .append, args, ats⟩, type, pos, after, guard⟩).run P w = .ok (.value u) w' := by
      intro u w' hu
      show ((pure { target := Target.builtin .append ats type (args.map fun | .const _ => true | _ => false), args := args.map a.eval } : Sem Deferred) >>= fun d => invoke d.target d.args).run P w = _
      rw [Sem.run_bind, hargs]
      exact run_v hu
    obtain ⟨vy1, own1, hg2, hkk, hfz⟩ := vappF_sound hg2
    obtain ⟨M1, hh1, tr1, dy1, hE1⟩ := hfz M w σ _ hh dy
    have dx1 := dx.mono hE1 (Sg.le_refl _)
    clear dx dy hfz
    have kdc : ∀ {σ' : Sg} {o : Own} {k : List Nat}, Kd σ own1 ks σ' o k → Kd σ own ks σ' o k := fun h => ⟨h.1, h.2.1, fun q hq => (h.2.2 q hq).imp (hkk q) id⟩
    obtain ⟨m, fy, hq, hsrc⟩ := vsrc_sound hg2
    clear hg2
    have hS := hsrc M1 w σ _ dy1 hh1.own
    have h := hq
    clear hq
    split at h
    · obtain ⟨l1, l2, h⟩ := h
      obtain ⟨k, ks', rfl, hK⟩ := fresh_sound h
      generalize a.eval x0 = ux at *
      cases dx1
      obtain ⟨u, w', M', σ', r1, r2, r3, r4, r5⟩ := append_empty (ty := type) hats0 hats1 h3 h4 h5 h6 h7 h10 hh1 hS l1 l2 none
      exact wp_value (fin u w' r1) ⟨u, M', σ', _, _, _, rfl, r4, r2, tr1.trans r3, kdc r5, hK⟩
    · obtain ⟨l1, l2, h⟩ := h
      obtain ⟨k, ks', rfl, hK⟩ := fresh_sound h
      generalize a.eval x0 = ux at *
      have : ∃ ad, ux = .slice ad 0 0 := by
        cases dx1 with
        | fz0 _ _ _ _ ad c hf => exact ⟨ad, by rw [hf rfl]⟩
        | fz _ _ _ _ _ b off c u hc hf => exact ⟨_, by rw [hf rfl]⟩
      obtain ⟨ad, rfl⟩ := this
      obtain ⟨u, w', M', σ', r1, r2, r3, r4, r5⟩ := append_empty (ty := type) hats0 hats1 h3 h4 h5 h6 h7 h10 hh1 hS l1 l2 ad
      exact wp_value (fin u w' r1) ⟨u, M', σ', _, _, _, rfl, r4, r2, tr1.trans r3, kdc r5, hK⟩
    · rename_i k s' lo len
      split at h
      · rename_i n s'' f hlook
        split at h
        · rename_i e1 e2
          have e1 := Nat.eq_of_beq_eq_true e1
          have e2 := Nat.eq_of_beq_eq_true e2
          subst e1 e2
          have grow : vappg own1 ks s b k lo len n m f fy K → Oper.wp P ⟨dst, .call ⟨.builtin .append, args, ats⟩, type, pos, after, guard⟩ a w (OP ⟨dst, .call ⟨.builtin .append, args, ats⟩, type, pos, after, guard⟩ a M w σ own ks K) Q := by
            intro h
            obtain ⟨l0, l1, l2, h⟩ := h
            obtain ⟨k', ks', rfl, h⟩ := fresh_sound h
            obtain ⟨own', hK, hnd, hown⟩ := delK_sound _ _ _ h hh1.own.nodup
            obtain ⟨u, w', M', σ', r1, r2, r3, r4, r5⟩ := append_vec (ty := type) hats0 hats1 h3 h4 h5 h6 h7 h10 hh1 hS hlook dx1 l0 l1 l2 hown hnd
            exact wp_value (fin u w' r1) ⟨u, M', σ', _, _, _, rfl, r4, r2, tr1.trans r3, kdc r5, hK⟩
          by_cases heq : Nat.beq (lo + len) n = true
          · exact grow (h.1 heq)
          replace h := h.2 (Bool.eq_false_iff.2 heq)
          by_cases hin : Nat.ble (lo + len + m) n = true
          · obtain ⟨own', hK, hu1, hu2⟩ := updK_sound _ _ _ _ (h.1 hin) hh1.own.nodup ⟨_, look_mem hlook⟩
            obtain ⟨u, w', r1, r2, r3, r4⟩ := append_here (ty := type) hats0 hats1 h3 h4 h5 hh1 hS hlook dx1 (Nat.le_of_ble_eq_true hin) hu2 hu1
            exact wp_value (fin u w' r1) ⟨u, M1, σ, _, _, _, rfl, r4, r2, tr1.trans r3, kdc ⟨fun _ h => h, fun _ h _ => h, fun k hk => .inl (by rw [hu1] at hk; exact hk)⟩, hK⟩
          · exact grow (h.2 (Bool.eq_false_iff.2 hin))
        · exact h.elim
      · exact h.elim
    · exact h.elim
  case clr args ats t e s zs x0 x h1 h2 h3 h4 h5 h6 h7 =>
    obtain ⟨v, hg, hx⟩ := get_sound h6 h
    clear h
    have dx := hx M w σ a (ok _ (by simp [SOp.xs]))
    have hats0 : ats[0]? = some t := by rw [← Array.getElem?_toList, h2]; rfl
    have hargs : args.map a.eval = #[a.eval x0] := by
      apply Array.ext'
      simp [h1]
    have fin : ∀ (u : Value) (w' : World), (Builtin.clear_ ats type #[a.eval x0]).run P w = .ok u w' →
        (execOp a.eval ⟨dst, .call ⟨.builtin .clear, args, ats⟩, type, pos, after, guard⟩).run P w = .ok (.value u) w' := by
      intro u w' hu
      show ((pure { target := Target.builtin .clear ats type (args.map fun | .const _ => true | _ => false), args := args.map a.eval } : Sem Deferred) >>= fun d => invoke d.target d.args).run P w = _
      rw [Sem.run_bind, hargs]
      exact run_v hu
    generalize a.eval x0 = ux at *
    have h := hg
    clear hg
    unfold vclr at h
    split at h
    · cases dx
      exact wp_value (fin (.tuple #[]) w (by simp [Builtin.clear_, hats0, run_underlying h3, go_sem])) ⟨_, M, σ, _, own, ks, rfl, .raw _ _, hh, Tr.refl _ _ _ _, Kd.refl _ _ _, h⟩
    · rename_i k s' lo len
      split at h
      · rename_i n s'' f hlook
        split at h
        · rename_i e1 e2
          have e1 := Nat.eq_of_beq_eq_true e1
          have e2 := Nat.eq_of_beq_eq_true e2
          subst e1 e2
          obtain ⟨l0, h⟩ := h
          obtain ⟨own', hK, hu1, hu2⟩ := updK_sound _ _ _ _ h hh.own.nodup ⟨_, look_mem hlook⟩
          obtain ⟨z, hz, hzs⟩ := clr_cells h4 h5 h7 M w
          obtain ⟨z1, z2, z3⟩ := hzs len
          have dx0 := dx
          cases dx with
          | vec _ _ _ _ _ bo base κ c ad hk hc hl ha =>
            obtain ⟨_, w', hst, hh', tr⟩ := vec_write (P := P) hh hlook dx0 (at_ := 0) (m := len) z1 (by omega) z2 z3 (by simpa using hu2) hu1
            have hrun : (Builtin.clear_ ats type #[.slice ad len c]).run P w = .ok (.tuple #[]) w' := by
              cases ad with
              | none =>
                have : w' = w := by cases hst; rfl
                subst this
                simp [Builtin.clear_, hats0, run_underlying h3, go_sem]
              | some ad =>
                cases len with
                | zero =>
                  have : w' = w := by
                    have hnil : (Builtin.zeroCells z.cells 0).toList = [] := List.eq_nil_of_length_eq_zero (by omega)
                    rw [hnil] at hst
                    cases hst; rfl
                  subst this
                  simp [Builtin.clear_, hats0, run_underlying h3, go_sem]
                | succ len =>
                  simp only [Nat.zero_mul, Addr.add, if_true] at hst
                  simp [Builtin.clear_, hats0, run_underlying h3, go_sem, hz]
                  unfold Value.cells at hst
                  rw [hst]
                  rfl
            exact wp_value (fin _ w' hrun) ⟨_, M, σ, _, _, _, rfl, .raw _ _, hh', tr, ⟨fun _ h => h, fun _ h _ => h, fun k hk => .inl (by rw [hu1] at hk; exact hk)⟩, hK⟩
        · exact h.elim
      · exact h.elim
    · exact h.elim

theorem pure_sound {P : Program} {o : Oper} {so : SOp} (hc : cOp P o.op = some so) (hn : so.isNew = false) (he : so.isEff = false) (hl : ∀ z x, so ≠ .load z x) {env : Env} {own : Own} {ks : List Nat} {K : V → Own → List Nat → Prop}
    (h : vop P so env own ks K) : ∃ v, K v own ks ∧ PFact P o so.xs env v := by
  cases so <;> simp only [SOp.isNew, SOp.isEff, reduceCtorEq] at hn he
  case p po =>
    have : cPure P o.op = some po := by
      have hw := cOp_was hc
      generalize o.op = op at hw
      cases hw with | p _ _ h => exact h
    exact vpure_sound this h
  case build zs ps => exact build_sound (K := fun v => K v own ks) hc h
  case load z x => exact (hl z x rfl).elim

theorem wp_pfact {P : Program} {o : Oper} {xs : List X} {env : Env} {v : V} (h : PFact P o xs env v) {M : Nat → Prop} {w : World} {σ : Sg} {a : Act} (ok : ∀ x, x ∈ xs → XOk M w σ env a x)
    {next : Act → World → Prop} {Q : Exit → Act → World → Prop} (hn : ∀ u, Den M w σ v u → next (a.put o.dst u) w) : o.wp P a w next Q := by
  obtain ⟨u, h1, h2⟩ := h M w σ a ok
  exact wp_value h1 (hn u h2)

theorem vop_sound0 {P : Program} {o : Oper} {so : SOp} (hc : cOp P o.op = some so) (hcv : ∀ x xs, so ≠ .callv x xs) {env : Env} {own : Own} {ks : List Nat} {K : V → Own → List Nat → Prop} (h : vop P so env own ks K)
    {M : Nat → Prop} {w : World} {σ : Sg} {a : Act} (ok : ∀ x, x ∈ so.xs → XOk M w σ env a x) (hh : HSim M w σ own ks) (Q : Exit → Act → World → Prop) : o.wp P a w (OP o a M w σ own ks K) Q := by
  by_cases he : so.isEff = true
  · exact eff_sound0 hc hcv he h ok hh Q
  by_cases hn : so.isNew = true
  · obtain ⟨k, ks', b, v, rfl, hK, hf, _⟩ := new_sound hc hn h
    obtain ⟨u, w', M', σ', r1, r2, r3, r4, _, r5⟩ := hf M w σ a own ks' ok hh
    exact wp_value r1 ⟨u, M', σ', v, _, _, rfl, r4, r2, r3, r5, hK⟩
  by_cases hl : ∃ z x, so = .load z x
  · obtain ⟨z, x, rfl⟩ := hl
    obtain ⟨t, x0, p, v, ho, hz, hK, _, hp, hf, _⟩ := load_sound hc h
    obtain ⟨r, h1, h2⟩ := hf M w σ _ (hp M w σ a (ok _ (by simp [SOp.xs]))) (fun k b _ hk => hh.own.blk k b (look_mem hk))
    have hrun : (execOp a.eval o).run P w = .ok (.value r) w := by
      obtain ⟨dst, op, type, pos, after, guard⟩ := o
      simp only at ho
      subst ho
      exact run_v h1
    exact wp_value hrun ⟨r, M, σ, v, own, ks, rfl, h2, hh, Tr.refl _ _ _ _, Kd.refl _ _ _, hK⟩
  · obtain ⟨v, hK, hf⟩ := pure_sound hc (by simpa using hn) (by simpa using he) (fun z x e => hl ⟨z, x, e⟩) h
    exact wp_pfact hf ok fun u hu => ⟨u, M, σ, v, own, ks, rfl, hu, hh, Tr.refl _ _ _ _, Kd.refl _ _ _, hK⟩

/-! ## operations in a row -/

/-- as vop, but a slice expression may reach as far as what is owned is known -/
def vopO (P : Program) (op : SOp) (env : Env) (own : Own) (ks : List Nat) (K : V → Own → List Nat → Prop) : Prop :=
  match op with
  | .p (.slc s x lo hi mx same) => vslc own s x lo hi mx same env fun v => K v own ks
  | op => vop P op env own ks K

theorem cPure_slc {P : Program} {op : Op} {s : Nat} {x : X} {lo hi mx : Option X} {same : Bool} (h : cPure P op = some (.slc s x lo hi mx same)) :
    ∃ t e x0 low high max, op = .slice t x0 low high max ∧ P.underlying t = some (.slice e) ∧ szOf P e = some s ∧ cX x0 = some x ∧ cXo low = some lo ∧ cXo high = some hi ∧ cXo max = some mx ∧ same = sameB high max := by
  cases op
  case slice t x0 low high max =>
    simp only [cPure] at h
    unfold cSlc at h
    split at h
    · rename_i e x' lo' hi' mx' h1 h2 h3 h4 h5
      simp only [Option.map_eq_some_iff] at h
      obtain ⟨s', hs, he⟩ := h
      cases he
      exact ⟨t, e, x0, low, high, max, rfl, h1, hs, h2, h3, h4, h5, rfl⟩
    · simp at h
    · cases h
  all_goals (simp only [cPure] at h; try (split at h <;> simp at h))
  all_goals (first | (simp at h; done) | (repeat' (split at h <;> first | (simp at h; done) | skip)))
  all_goals (rename_i he; cases he)

theorem vopO_sound0 {P : Program} {o : Oper} {so : SOp} (hc : cOp P o.op = some so) (hcv : ∀ x xs, so ≠ .callv x xs) {env : Env} {own : Own} {ks : List Nat} {K : V → Own → List Nat → Prop} (h : vopO P so env own ks K)
    {M : Nat → Prop} {w : World} {σ : Sg} {a : Act} (ok : ∀ x, x ∈ so.xs → XOk M w σ env a x) (hh : HSim M w σ own ks) (Q : Exit → Act → World → Prop) : o.wp P a w (OP o a M w σ own ks K) Q := by
  unfold vopO at h
  split at h
  · rename_i s x lo hi mx same
    have hp : cPure P o.op = some (.slc s x lo hi mx same) := by
      have hw := cOp_was hc
      generalize o.op = op at hw
      cases hw with | p _ _ h => exact h
    obtain ⟨t, e, x0, low, high, max, ho, h1, h2, h3, h4, h5, h6, rfl⟩ := cPure_slc hp
    obtain ⟨v, hK, hr⟩ := vslc_sound h1 h2 h3 h4 h5 h6 h
    obtain ⟨u, u1, u2⟩ := hr M w σ a ok (fun k b hb => hh.own.blk k b (look_mem hb))
    have hrun : (execOp a.eval o).run P w = .ok (.value u) w := by
      obtain ⟨dst, op, type, pos, after, guard⟩ := o
      simp only at ho
      subst ho
      exact run_v u1
    exact wp_value hrun ⟨u, M, σ, v, own, ks, rfl, u2, hh, Tr.refl _ _ _ _, Kd.refl _ _ _, hK⟩
  · exact vop_sound0 hc hcv h ok hh Q

/-! ## in a round, too -/

theorem cOp_nodefer {P : Program} {op : Op} {so : SOp} (h : cOp P op = some so) : ∀ c, op ≠ .defer c := by
  intro c e
  subst e
  have hw := cOp_was h
  cases hw with
  | p _ o h => cases h
  | xt _ o h => cases h

theorem rows_in {P : Program} {row : String} {args : Array Value} {w : World} {R : Value → World → Prop} (r : Option Nat) (h : Rows P row args w R) : RowsIn (FR r) 0 P row args w R :=
  fun c cs _ => let ⟨v, w', h1, h2⟩ := h c cs; ⟨v, w', h1, stepsIn_wide.2 h2⟩

theorem calls_in {P : Program} {f : FuncId} {args : Array Value} {w : World} {R : Ending → World → Prop} (r : Option Nat) (h : Calls P f args w R) : CallsIn (FR r) 0 P f args w R :=
  (callsIn_wide (n := 0)).2 h

theorem FR_depth (r : Option Nat) : (FR r).depth.isSome = true → 1 ≤ 0 := fun h => by cases h

theorem wpIn_of_wp {P : Program} {o : Oper} (r : Option Nat) (hnd : ∀ c, o.op ≠ .defer c) {a : Act} {w : World} {next : Act → World → Prop} {Q : Exit → Act → World → Prop} (h : o.wp P a w next Q) : o.wpIn (FR r) 0 P a w next Q := by
  refine ⟨fun _ _ => trivial, ?_⟩
  rw [Oper.semAt_eq _ _ _ hnd]
  unfold Oper.wp at h
  generalize (execOp a.eval o).run P w = res at *
  cases res with
  | ok x w' =>
    cases x <;> simp only [Oper.upon, Oper.uponIn] at h ⊢ <;>
      first
        | exact h
        | exact h.elim
        | exact ⟨FR_depth r, calls_in r h⟩
        | exact ⟨FR_depth r, rows_in r h⟩
  | halt x w' => cases x <;> simp only [Oper.upon, Oper.uponIn] at h ⊢ <;> exact h

theorem callv_sound {P : Program} {o : Oper} {x : X} {xs : List X} (hc : cOp P o.op = some (.callv x xs)) {env : Env} {own : Own} {ks : List Nat} {K : V → Own → List Nat → Prop} (h : vop P (.callv x xs) env own ks K)
    {M : Nat → Prop} {w : World} {σ : Sg} {a : Act} (ok : ∀ y, y ∈ SOp.xs (.callv x xs) → XOk M w σ env a y) (hh : HSim M w σ own ks) (Q : Exit → Act → World → Prop) (r : Option Nat) : o.wpIn (FR r) 0 P a w (OP o a M w σ own ks K) Q := by
  have hnd := cOp_nodefer hc
  obtain ⟨dst, op, type, pos, after, guard⟩ := o
  have hw := cOp_was hc
  simp only at hw
  cases hw
  rename_i t args ats h2
  simp only [vop] at h
  obtain ⟨fv, hg1, hf⟩ := get_sound (o := .tmp t) rfl h
  clear h
  obtain ⟨vs, h, hl, hvs⟩ := gets_sound h2 hg1
  clear hg1
  have df := hf M w σ a (ok _ (by simp [SOp.xs]))
  have dvs := hvs M w σ a (fun y hy => ok y (by simp [SOp.xs, hy]))
  have hargs : args.map a.eval = (args.toList.map a.eval).toArray := by
    apply Array.ext'
    simp
  refine ⟨fun _ _ => trivial, ?_⟩
  rw [Oper.semAt_eq _ _ _ hnd]
  unfold vcall at h
  split at h
  · rename_i g b cap
    obtain ⟨hcal, h⟩ := h
    generalize hfe : a.eval (.tmp t) = fu at df
    obtain ⟨all, ul, h, h1, h2, hrun⟩ : ∃ (all : List V) (ul : List Value), CallF P g all own ks (fun v own ks => litR v fun v => K v own ks) ∧ all.length = ul.length ∧ (∀ (i : Nat) (v : V) (u : Value), all[i]? = some v → ul[i]? = some u → Den M w σ v u) ∧
        (execOp a.eval ⟨dst, .call ⟨.value (.tmp t), args, ats⟩, type, pos, after, guard⟩).run P w = .ok (.enter g ul.toArray) w := by
      cases df with
      | fn _ _ _ _ us hcl hcd =>
        cases b with
        | false =>
          refine ⟨vs ++ cap, args.toList.map a.eval ++ us, h, by simp [hl, hcl], ?_, ?_⟩
          · intro i v u hv hu
            by_cases hi : i < vs.length
            · rw [List.getElem?_append_left hi] at hv
              rw [List.getElem?_append_left (by simpa [← hl] using hi)] at hu
              exact dvs i v u hv hu
            · rw [List.getElem?_append_right (by omega)] at hv
              rw [List.getElem?_append_right (by simp [← hl]; omega)] at hu
              refine hcd (i - vs.length) v u hv ?_
              simpa [← hl] using hu
          · have e : (args.toList.map a.eval ++ us).toArray = args.map a.eval ++ us.toArray := by
              apply Array.ext'
              simp
            rw [e]
            show ((resolve a.eval ⟨.value (.tmp t), args, ats⟩ type) >>= fun d => invoke d.target d.args).run P w = _
            simp only [resolve, hfe, fnB, fnC]
            simp [go_sem, Deferred.ofValue, invoke, run_callFunc hcal]
        | true =>
          refine ⟨cap ++ vs, us ++ args.toList.map a.eval, h, by simp [hl, hcl], ?_, ?_⟩
          · intro i v u hv hu
            by_cases hi : i < cap.length
            · rw [List.getElem?_append_left hi] at hv
              rw [List.getElem?_append_left (by omega)] at hu
              exact hcd i v u hv hu
            · rw [List.getElem?_append_right (by omega)] at hv
              rw [List.getElem?_append_right (by omega)] at hu
              rw [← hcl] at hu
              exact dvs (i - cap.length) v u hv hu
          · have e : (us ++ args.toList.map a.eval).toArray = us.toArray ++ args.map a.eval := by
              apply Array.ext'
              simp
            rw [e]
            show ((resolve a.eval ⟨.value (.tmp t), args, ats⟩ type) >>= fun d => invoke d.target d.args).run P w = _
            simp only [resolve, hfe, fnB, fnC]
            simp [go_sem, Deferred.ofValue, invoke, run_callFunc hcal]
    rw [hrun]
    refine ⟨FR_depth r, calls_in r ?_⟩
    refine (h.out M w σ ul h1 h2 hh).mono ?_
    rintro e w' ⟨M', σ', v, own', ks', u, rfl, d, hh', tr, kd, hK⟩
    exact ⟨u, M', σ', v, own', ks', rfl, d, hh', tr, kd, litR_sound hK⟩
  · rename_i k
    generalize hfe : a.eval (.tmp t) = fu at df
    cases df with
    | yld _ _ l base κ hk =>
      obtain ⟨fn, tmps, assign, body, hy, hround⟩ := h.out M w σ (args.toList.map a.eval) l base κ (by simpa using hl) dvs hh hk
      have hrun : (execOp a.eval ⟨dst, .call ⟨.value (.tmp t), args, ats⟩, type, pos, after, guard⟩).run P w = .ok (.round l fn tmps assign body) w := by
        show ((resolve a.eval ⟨.value (.tmp t), args, ats⟩ type) >>= fun d => invoke d.target d.args).run P w = _
        simp only [resolve, hfe]
        rw [← hargs] at hy
        simp [go_sem, Deferred.ofValue, invoke, hy]
      rw [hrun]
      refine ⟨FR_depth r, RoundIn.mono (F := Fence.wide) hround ?_⟩
      rintro e w' ⟨M', σ', v, own', ks', u, rfl, d, hh', tr, kd, hK⟩
      exact ⟨u, M', σ', v, own', ks', rfl, d, hh', tr, kd, litR_sound hK⟩
  · exact h.elim

theorem eff_sound {P : Program} {o : Oper} {so : SOp} (hc : cOp P o.op = some so) (he : so.isEff = true) {env : Env} {own : Own} {ks : List Nat} {K : V → Own → List Nat → Prop} (h : vop P so env own ks K)
    {M : Nat → Prop} {w : World} {σ : Sg} {a : Act} (ok : ∀ x, x ∈ so.xs → XOk M w σ env a x) (hh : HSim M w σ own ks) (Q : Exit → Act → World → Prop) (r : Option Nat) : o.wpIn (FR r) 0 P a w (OP o a M w σ own ks K) Q := by
  by_cases hcv : ∀ x xs, so ≠ .callv x xs
  · exact wpIn_of_wp r (cOp_nodefer hc) (eff_sound0 hc hcv he h ok hh Q)
  · obtain ⟨x, xs, rfl⟩ : ∃ x xs, so = .callv x xs := by
      cases so <;> first | exact ⟨_, _, rfl⟩ | (exfalso; apply hcv; intro x xs e; cases e)
    exact callv_sound hc h ok hh Q r

theorem vopO_sound {P : Program} {o : Oper} {so : SOp} (hc : cOp P o.op = some so) {env : Env} {own : Own} {ks : List Nat} {K : V → Own → List Nat → Prop} (h : vopO P so env own ks K)
    {M : Nat → Prop} {w : World} {σ : Sg} {a : Act} (ok : ∀ x, x ∈ so.xs → XOk M w σ env a x) (hh : HSim M w σ own ks) (Q : Exit → Act → World → Prop) (r : Option Nat) : o.wpIn (FR r) 0 P a w (OP o a M w σ own ks K) Q := by
  by_cases hcv : ∀ x xs, so ≠ .callv x xs
  · exact wpIn_of_wp r (cOp_nodefer hc) (vopO_sound0 hc hcv h ok hh Q)
  · obtain ⟨x, xs, rfl⟩ : ∃ x xs, so = .callv x xs := by
      cases so <;> first | exact ⟨_, _, rfl⟩ | (exfalso; apply hcv; intro x xs e; cases e)
    exact callv_sound hc h ok hh Q r

def vops (P : Program) : List SI → Env → Own → List Nat → (Env → Own → List Nat → Prop) → Prop
  | [], env, own, ks, K => K env own ks
  | ⟨d, op, g⟩ :: r, env, own, ks, K =>
    match g with
    | none => vopO P op env own ks fun v own ks => match d with
      | some t => vops P r ((t, v) :: env) own ks K
      | none => vops P r env own ks K
    | some (t, want) => match look env t with
      | some (.bool b) => match Bool.xor b want with
        | false => vopO P op env own ks fun v own ks => match d with
          | some t => vops P r ((t, v) :: env) own ks K
          | none => vops P r env own ks K
        | true => match d with
          | some t => vops P r ((t, .raw (.tuple #[])) :: env) own ks K
          | none => vops P r env own ks K
      | some (.raw (.tuple _)) => match d with
        | some t => vops P r ((t, .raw (.tuple #[])) :: env) own ks K
        | none => vops P r env own ks K
      | _ => False

def cSI (P : Program) (N : Nat) (ops : Array Oper) (o : Oper) : Option SI :=
  match cOp P o.op with
  | some op =>
    match (match o.dst with | some d => Nat.ble (d + 1) N | none => true) with
    | true => match o.guard with
      | none => some ⟨o.dst, op, none⟩
      | some (j, b) => match (ops[j]?).bind (·.dst) with
        | some t => some ⟨o.dst, op, some (t, b)⟩
        | none => none
    | false => none
  | none => none

def cSIs (P : Program) (N : Nat) (ops : Array Oper) : List Oper → Option (List SI)
  | [] => some []
  | o :: r => match cSI P N ops o, cSIs P N ops r with
    | some i, some l => some (i :: l)
    | _, _ => none


theorem wanted_of {ops : Array Oper} {o : Oper} {j t : Nat} {want b : Bool} {a : Act} (hg : o.guard = some (j, want)) (hj : (ops[j]?).bind (·.dst) = some t) (hb : a.tmps.getD t undef = .bool b) :
    Region.wanted o (yielded ops a.tmps) = (b == want) := by
  have ht : a.tmps[t]? = some (.bool b) := by
    rw [Array.getD_eq_getD_getElem?] at hb
    cases h : a.tmps[t]? with
    | none => rw [h] at hb; cases hb
    | some x => rw [h] at hb; simpa using hb
  unfold Region.wanted
  rw [hg]
  simp only [yielded, hj, Option.bind_some, ht]
  cases b <;> cases want <;> rfl

theorem wanted_off {ops : Array Oper} {o : Oper} {j t : Nat} {want : Bool} {a : Act} {us : Array Value} (hg : o.guard = some (j, want)) (hj : (ops[j]?).bind (·.dst) = some t) (hb : a.tmps.getD t undef = .tuple us) :
    Region.wanted o (yielded ops a.tmps) = false := by
  have : yielded ops a.tmps j = none := by
    unfold yielded
    rw [hj]
    simp only [Option.bind_some]
    cases h : a.tmps[t]? with
    | none => rfl
    | some x =>
      rw [Array.getD_eq_getD_getElem?, h] at hb
      simp at hb
      subst hb
      rfl
  unfold Region.wanted
  rw [hg]
  simp [this]

theorem cSI_some {P : Program} {N : Nat} {ops : Array Oper} {o : Oper} {i : SI} (h : cSI P N ops o = some i) :
    ∃ op, cOp P o.op = some op ∧ (∀ d, o.dst = some d → d < N) ∧
      ((o.guard = none ∧ i = ⟨o.dst, op, none⟩) ∨ ∃ j b t, o.guard = some (j, b) ∧ (ops[j]?).bind (·.dst) = some t ∧ i = ⟨o.dst, op, some (t, b)⟩) := by
  unfold cSI at h
  split at h
  · rename_i op hop
    split at h
    · rename_i hd
      refine ⟨op, hop, ?_, ?_⟩
      · intro d e
        rw [e] at hd
        exact Nat.le_of_ble_eq_true hd
      · split at h
        · rename_i hg
          cases h
          exact .inl ⟨hg, rfl⟩
        · rename_i j b hg
          split at h
          · rename_i t ht
            cases h
            exact .inr ⟨j, b, t, hg, ht, rfl⟩
          · cases h
    · cases h
  · cases h

def putE (env : Env) (d : Option Nat) (v : V) : Env := match d with | some t => (t, v) :: env | none => env

theorem Sim.put {N B : Nat} {M M' : Nat → Prop} {w w' : World} {σ σ' : Sg} {env : Env} {own own' : Own} {ks ks' : List Nat} {a : Act} (h : Sim N B M w σ ⟨env, own, ks⟩ a) {d : Option Nat} {v : V} {u : Value} (hd : ∀ t, d = some t → t < N)
    (hv : Den M' w' σ' v u) (hh : HSim M' w' σ' own' ks') (tr : Tr M w σ own M' w' σ' own') :
    Sim N B M' w' σ' ⟨putE env d v, own', ks'⟩ (a.put d u) := by
  have hE := tr.ext h.heap.own
  cases d with
  | none => exact ⟨h.env.mono hE tr.le, hh, h.size, h.defers.tr tr⟩
  | some t => exact ⟨(h.env.mono hE tr.le).put (by rw [h.size]; exact hd t rfl) hv, hh, by simp [Act.put, h.size], h.defers.tr tr⟩

theorem vops_sound {P : Program} (r : Option Nat) {N B : Nat} {ops : Array Oper} {Q : Exit → Act → World → Prop} : ∀ (l : List Oper) (sl : List SI) (env : Env) (own : Own) (ks : List Nat) (K : Env → Own → List Nat → Prop)
    (M : Nat → Prop) (w : World) (σ : Sg) (a : Act), cSIs P N ops l = some sl → vops P sl env own ks K → Sim N B M w σ ⟨env, own, ks⟩ a →
    (∀ env' own' ks' M' w' σ' a', Sim N B M' w' σ' ⟨env', own', ks'⟩ a' → Tr M w σ own M' w' σ' own' → Kd σ own ks σ' own' ks' → K env' own' ks' → Q .normal a' w') → wpListIn (FR r) 0 P ops Q l a w
  | [], sl, env, own, ks, K, M, w, σ, a, hc, h, sim, hq => by
    simp [cSIs] at hc
    subst hc
    exact hq env own ks M w σ a sim (Tr.refl _ _ _ _) (Kd.refl _ _ _) h
  | o :: l, sl, env, own, ks, K, M, w, σ, a, hc, h, sim, hq => by
    unfold cSIs at hc
    split at hc <;> simp only [Option.some.injEq, reduceCtorEq] at hc
    rename_i i sl' h1 h2
    subst hc
    obtain ⟨op, hop, hdst, hg⟩ := cSI_some h1
    have xok : ∀ x, x ∈ op.xs → XOk M w σ env a x := fun x _ n _ v hv => sim.env n v hv
    have go : ∀ (h : vopO P op env own ks fun v own ks => match o.dst with | some t => vops P sl' ((t, v) :: env) own ks K | none => vops P sl' env own ks K), o.wpIn (FR r) 0 P a w (wpListIn (FR r) 0 P ops Q l) Q := by
      intro h
      refine Oper.wpIn_mono ?_ (vopO_sound hop h xok sim.heap Q r)
      rintro a' w' ⟨u, M', σ', v, own', ks', rfl, hv, hh, tr, kd, hK⟩
      have sim' := sim.put hdst hv hh tr
      have hK' : vops P sl' (putE env o.dst v) own' ks' K := by
        unfold putE
        cases hd : o.dst <;> simp only [hd] at hK ⊢ <;> exact hK
      exact vops_sound r l sl' _ own' ks' K M' w' σ' _ h2 hK' sim' fun env' own'' ks'' M'' w'' σ'' a'' s t q k => hq env' own'' ks'' M'' w'' σ'' a'' s (tr.trans t) (kd.trans q) k
    unfold wpListIn
    rcases hg with ⟨hg, rfl⟩ | ⟨j, b, t, hg, hj, rfl⟩
    · rw [if_pos (by simp [Region.wanted, hg])]
      exact go h
    · simp only [vops] at h
      split at h
      · rename_i bb hlook
        have hden := sim.env t _ hlook
        have hb : a.tmps.getD t undef = .bool bb := by
          generalize a.tmps.getD t undef = q at hden
          cases hden; rfl
        have hw := wanted_of hg hj hb
        cases hx : Bool.xor bb b
        · have e : bb = b := by revert hx; cases bb <;> cases b <;> decide
          rw [hx] at h
          rw [if_pos (by rw [hw, e]; simp)]
          exact go h
        · have e : (bb == b) = false := by revert hx; cases bb <;> cases b <;> decide
          rw [hx] at h
          rw [if_neg (by rw [hw, e]; simp)]
          have sim' := sim.put (v := .raw (.tuple #[])) (u := undef) hdst (.raw _ _) sim.heap (Tr.refl _ _ _ _)
          have hK' : vops P sl' (putE env o.dst (.raw (.tuple #[]))) own ks K := by
            unfold putE
            cases hd : o.dst <;> simp only [hd] at h ⊢ <;> exact h
          exact ⟨fun _ _ => trivial, vops_sound r l sl' _ own ks K M w σ _ h2 hK' sim' hq⟩
      · rename_i us hlook
        have hden := sim.env t _ hlook
        have hb : a.tmps.getD t undef = .tuple us := by
          generalize a.tmps.getD t undef = q at hden
          cases hden; rfl
        rw [if_neg (by rw [wanted_off hg hj hb]; simp)]
        have sim' := sim.put (v := .raw (.tuple #[])) (u := undef) hdst (.raw _ _) sim.heap (Tr.refl _ _ _ _)
        have hK' : vops P sl' (putE env o.dst (.raw (.tuple #[]))) own ks K := by
          unfold putE
          cases hd : o.dst <;> simp only [hd] at h ⊢ <;> exact h
        exact ⟨fun _ _ => trivial, vops_sound r l sl' _ own ks K M w σ _ h2 hK' sim' hq⟩
      · exact h.elim

end Go.Eng
