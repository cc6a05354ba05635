/-
  The engine, part J3: regions that draw their order: effects, and the whole.
-/
import Derived.Test.YtcnpplcfabdoaaaGreatEngJ2
namespace Go.Eng

theorem nodup_uniq {α : Type} : ∀ {l : List (Nat × α)} {k : Nat} {a b : α}, (l.map (·.1)).Nodup → (k, a) ∈ l → (k, b) ∈ l → a = b
  | [], _, _, _, _, h, _ => by simp at h
  | p :: l, k, a, b, hn, ha, hb => by
    simp only [List.map_cons, List.nodup_cons] at hn
    rcases List.mem_cons.1 ha with e | ha
    · rcases List.mem_cons.1 hb with e' | hb
      · rw [← e] at e'; cases e'; rfl
      · exact (hn.1 (by rw [← e]; exact List.mem_map.2 ⟨_, hb, rfl⟩)).elim
    · rcases List.mem_cons.1 hb with e' | hb
      · exact (hn.1 (by rw [← e']; exact List.mem_map.2 ⟨_, ha, rfl⟩)).elim
      · exact nodup_uniq hn.2 ha hb

theorem look_append {α : Type} : ∀ {l m : List (Nat × α)} {k : Nat}, (∀ b, (k, b) ∉ l) → look (l ++ m) k = look m k
  | [], _, _, _ => rfl
  | (q, b) :: l, m, k, h => by
    have hne : q ≠ k := fun e => h b (by simp [e])
    have hb : Nat.beq q k = false := by
      rw [← Bool.not_eq_true]
      exact fun hh => hne (Nat.eq_of_beq_eq_true hh)
    show (match Nat.beq q k with | true => some b | false => look (l ++ m) k) = _
    rw [hb]
    exact look_append fun b hb => h b (by simp [hb])

theorem splitK_sound {env : Env} : ∀ (pend : List Nat) (own acc : Own) (K : Own → Own → Prop), splitK env pend own acc K → (own.map (·.1)).Nodup → (acc.map (·.1)).Nodup → (∀ k, k ∈ own.map (·.1) → k ∉ acc.map (·.1)) →
    ∃ A C, K A C ∧ (A.map (·.1)).Nodup ∧ (C.map (·.1)).Nodup ∧ (∀ k, k ∈ A.map (·.1) → k ∉ C.map (·.1)) ∧ (∀ k b, ((k, b) ∈ own ∨ (k, b) ∈ acc) ↔ ((k, b) ∈ A ∨ (k, b) ∈ C)) ∧ (∀ k b, (k, b) ∈ A → (k, b) ∈ own) ∧
      ∀ t, t ∈ pend → ∀ v k, look env t = some v → keyOfV v = some k → ∀ b, (k, b) ∉ A
  | [], own, acc, K, h, n1, n2, n3 => ⟨own, acc, h, n1, n2, n3, fun _ _ => Iff.rfl, fun _ _ h => h, by simp⟩
  | t :: r, own, acc, K, h, n1, n2, n3 => by
    unfold splitK at h
    split at h
    · rename_i v hv
      split at h
      · rename_i k hk
        split at h
        · rename_i b hb
          obtain ⟨own', h, m1, m2⟩ := delK_sound _ _ _ h n1
          have hmem := look_mem hb
          have hnot : k ∉ acc.map (·.1) := n3 k (List.mem_map.2 ⟨_, hmem, rfl⟩)
          have hkey : ∀ q, q ∈ own'.map (·.1) → q ∈ own.map (·.1) ∧ q ≠ k := by
            intro q hq
            obtain ⟨⟨q', c⟩, hm, e⟩ := List.mem_map.1 hq
            simp only at e
            subst e
            obtain ⟨z1, z2⟩ := (m2 q' c).1 hm
            exact ⟨List.mem_map.2 ⟨_, z2, rfl⟩, z1⟩
          obtain ⟨A, C, hK, a1, a2, a3, a4, a5, a6⟩ := splitK_sound r own' ((k, b) :: acc) K h m1 (by simp only [List.map_cons, List.nodup_cons]; exact ⟨hnot, n2⟩) (fun q hq => by
            obtain ⟨z1, z2⟩ := hkey q hq
            simp only [List.map_cons, List.mem_cons, not_or]
            exact ⟨z2, n3 q z1⟩)
          have uniq : ∀ c, (k, c) ∈ own → c = b := fun c hc => nodup_uniq n1 hc hmem
          refine ⟨A, C, hK, a1, a2, a3, ?_, ?_, ?_⟩
          · intro q c
            rw [← a4]
            simp only [List.mem_cons, Prod.mk.injEq, m2]
            constructor
            · rintro (x | x)
              · by_cases e : q = k
                · subst e; exact .inr (.inl ⟨rfl, uniq c x⟩)
                · exact .inl ⟨e, x⟩
              · exact .inr (.inr x)
            · rintro (⟨_, x⟩ | ⟨e1, e2⟩ | x)
              · exact .inl x
              · subst e1 e2; exact .inl hmem
              · exact .inr x
          · intro q c hq
            exact ((m2 q c).1 (a5 q c hq)).2
          · intro t' ht' v' k' hv' hk' c hc
            rcases List.mem_cons.1 ht' with e | ht'
            · subst e
              rw [hv] at hv'
              cases hv'
              rw [hk] at hk'
              cases hk'
              exact ((m2 k c).1 (a5 k c hc)).1 rfl
            · exact a6 t' ht' v' k' hv' hk' c hc
        · exact h.elim
      · rename_i hk
        obtain ⟨A, C, hK, a1, a2, a3, a4, a5, a6⟩ := splitK_sound r own acc K h n1 n2 n3
        refine ⟨A, C, hK, a1, a2, a3, a4, a5, ?_⟩
        intro t' ht' v' k' hv' hk' c hc
        rcases List.mem_cons.1 ht' with e | ht'
        · subst e
          rw [hv] at hv'
          cases hv'
          rw [hk] at hk'
          cases hk'
        · exact a6 t' ht' v' k' hv' hk' c hc
    · exact h.elim

theorem appK_sound {α : Type} : ∀ (l m : List α) (K : List α → Prop), appK l m K → K (l ++ m)
  | [], _, _, h => h
  | x :: l, m, K, h => appK_sound l m (fun l' => K (x :: l')) h

theorem heldK_sound {env : Env} {own : Own} {G : Prop} : ∀ (l : List (Option Nat × Nat × Nat)), heldK env own G l → G ∧ ∀ z n t, (z, n, t) ∈ l → ∀ p v, look env n = some p → look env t = some v → (∃ u, v = .raw u) ∨ vloadR own z p (fun v' => v' = v)
  | [], h => ⟨h, by simp⟩
  | (z, n, t) :: r, h => by
    unfold heldK at h
    split at h
    · rename_i u hu
      obtain ⟨g, hr⟩ := heldK_sound r h
      refine ⟨g, fun z' n' t' hm p v hp hv => ?_⟩
      rcases List.mem_cons.1 hm with e | hm
      · cases e; rw [hu] at hv; cases hv; exact .inl ⟨_, rfl⟩
      · exact hr z' n' t' hm p v hp hv
    · rename_i v0 _ hv0
      split at h
      · rename_i p0 hp0
        obtain ⟨h1, h⟩ := h
        obtain ⟨g, hr⟩ := heldK_sound r h
        refine ⟨g, fun z' n' t' hm p v hp hv => ?_⟩
        rcases List.mem_cons.1 hm with e | hm
        · cases e; rw [hv0] at hv; rw [hp0] at hp; cases hv; cases hp; exact .inr h1
        · exact hr z' n' t' hm p v hp hv
      · exact h.elim
    · exact h.elim

/-- what was set aside comes back -/
theorem hsim_union {M M' : Nat → Prop} {w w' : World} {σ σ' : Sg} {B A A' C : Own} {ks ks' : List Nat} (hB : HSim M w σ B ks) (hA : ∀ k b, (k, b) ∈ A → (k, b) ∈ B) (hC : ∀ k b, (k, b) ∈ C → (k, b) ∈ B)
    (hAC : ∀ k, k ∈ A.map (·.1) → k ∉ C.map (·.1)) (hCn : (C.map (·.1)).Nodup) (h' : HSim M' w' σ' A' ks') (tr : Tr M w σ A M' w' σ' A') (kd : Kd σ A ks σ' A' ks') :
    HSim M' w' σ' (A' ++ C) ks' ∧ Tr M w σ B M' w' σ' (A' ++ C) := by
  have ownA : ∀ n, owned w σ A n → owned w σ B n := fun n ⟨k, b, hm, e⟩ => ⟨k, b, hA k b hm, e⟩
  have ownC : ∀ n, owned w σ C n → owned w σ B n ∧ ¬ owned w σ A n := by
    rintro n ⟨k, b, hm, e⟩
    refine ⟨⟨k, b, hC k b hm, e⟩, ?_⟩
    rintro ⟨q, c, hq, e'⟩
    have hne : q ≠ k := fun ee => by
      subst ee
      exact hAC q (List.mem_map.2 ⟨_, hq, rfl⟩) (List.mem_map.2 ⟨_, hm, rfl⟩)
    exact hB.own.apart q c k b n (hA q c hq) (hC k b hm) hne e' e
  have keyC : ∀ k b, (k, b) ∈ C → ∃ x, σ k = some x := fun k b hm => hB.own.key (hC k b hm)
  have eC : ∀ k b n, (k, b) ∈ C → (holds w' σ' k b n ↔ holds w σ k b n) := fun k b n hm => holds_same tr.le (keyC k b hm) fun ob hob => by
    obtain ⟨z1, z2⟩ := ownC ob ⟨k, b, hm, .inl hob⟩
    exact tr.adv.same ob (owned_M hB.own z1).2 z2
  have hE : Ext M w M' w' := tr.adv.ext fun n hn => (owned_M hB.own (ownA n hn)).1
  have notA' : ∀ k, k ∈ A'.map (·.1) → k ∉ C.map (·.1) := by
    intro k hk hc
    obtain ⟨⟨q, c⟩, hm, e⟩ := List.mem_map.1 hc
    simp only at e
    subst e
    rcases kd.2.2 q hk with x | x
    · exact hAC q x hc
    · obtain ⟨y, hy⟩ := keyC q c hm
      rw [hB.fresh q x] at hy; cases hy
  refine ⟨⟨⟨?_, ?_, ?_⟩, h'.fresh, h'.knodup⟩, ⟨⟨tr.adv.os, tr.adv.tape, tr.adv.output, tr.adv.size, ?_, ?_⟩, ?_, tr.le⟩⟩
  · intro k b hm
    rcases List.mem_append.1 hm with hm | hm
    · exact h'.own.blk k b hm
    · refine (hB.own.blk k b (hC k b hm)).mono hE tr.le fun n hn => ?_
      obtain ⟨z1, z2⟩ := ownC n ⟨k, b, hm, hn⟩
      obtain ⟨m1, m2⟩ := owned_M hB.own z1
      exact ⟨(tr.adv.muts n m2 z2).2 m1, tr.adv.same n m2 z2⟩
  · rw [List.map_append, List.nodup_append]
    refine ⟨h'.own.nodup, hCn, fun k hk q hq e => ?_⟩
    subst e
    exact notA' k hk hq
  · intro k b k' b' n h1 h2 hne e1 e2
    have cross : ∀ q c q' c', (q, c) ∈ A' → (q', c') ∈ C → holds w' σ' q c n → holds w' σ' q' c' n → False := by
      intro q c q' c' hq hq' x x'
      rw [eC q' c' n hq'] at x'
      obtain ⟨z1, z2⟩ := ownC n ⟨q', c', hq', x'⟩
      have hlt := (owned_M hB.own z1).2
      rcases tr.new n ⟨q, c, hq, x⟩ with y | y
      · exact z2 y
      · omega
    rcases List.mem_append.1 h1 with h1 | h1
    · rcases List.mem_append.1 h2 with h2 | h2
      · exact h'.own.apart k b k' b' n h1 h2 hne e1 e2
      · exact cross k b k' b' h1 h2 e1 e2
    · rcases List.mem_append.1 h2 with h2 | h2
      · exact cross k' b' k b h2 h1 e2 e1
      · rw [eC k b n h1] at e1
        rw [eC k' b' n h2] at e2
        exact hB.own.apart k b k' b' n (hC k b h1) (hC k' b' h2) hne e1 e2
  · intro n hn hno
    exact tr.adv.same n hn fun x => hno (ownA n x)
  · intro n hn hno
    exact tr.adv.muts n hn fun x => hno (ownA n x)
  · rintro n ⟨k, b, hm, e⟩
    rcases List.mem_append.1 hm with hm | hm
    · rcases tr.new n ⟨k, b, hm, e⟩ with x | x
      · exact .inl (ownA n x)
      · exact .inr x
    · rw [eC k b n hm] at e
      exact .inl ⟨k, b, hC k b hm, e⟩


section
variable {P : Program} {N Bd : Nat} {ops : Array Oper} {anc : Nat → List Nat} {σ0 : Sg} {ks0 Z : List Nat} {pre post : List DI} {late : List LT} {env : Env} {own : Own} {ks : List Nat} {B : Own} {M : Nat → Prop} {w : World} {σ : Sg} {a : Act} {listed : Array Bool}

/-- the effect has run, or was passed over -/
theorem Inv.eff_done {e : DI} (hec : e.isEff = true) (hc : Cond anc pre e post) (hix : e.ix ∉ post.map DI.ix) {o : Oper} (ho : ops[e.ix]? = some o) (hdst : o.dst = e.si.dst)
    (h : Inv P N Bd ops anc σ0 ks0 Z pre (e :: post) late env own ks B M w σ a listed) (hr : ∀ j, j ∈ edgesOf o → listed.getD j false = true) (hN : ∀ t, e.si.dst = some t → t < N)
    (hfree : ∀ l, l ∈ late → l.d.ix ∉ anc e.ix)
    {M' : Nat → Prop} {w' : World} {σ' : Sg} {B' own' : Own} {ks' : List Nat} {u : Value} {v : V} (hv : Den M' w' σ' v u) (hh : HSim M' w' σ' B' ks') (tr : Tr M w σ B M' w' σ' B')
    (hks : ∀ q, q ∈ ks' → q ∈ ks) (hσ : ∀ q, σ q = none → q ∉ ks → σ' q = none)
    (hoc : ∀ k b, (k, b) ∈ own' ↔ ((k, b) ∈ B' ∨ ∃ l, l ∈ late ∧ l.k.newk = some (k, b))) (hond : (own'.map (·.1)).Nodup) (hoz : ∀ k, k ∈ own'.map (·.1) → k ∈ own.map (·.1) ∨ k ∈ ks)
    (hlf : ∀ l, l ∈ late → ∀ t n z p v, l.k = .load t n z p v → look env n = some p → szAgg P t = some z → LFact P t p v own → LFact P t p v own') :
    Inv P N Bd ops anc σ0 ks0 Z (pre ++ [e]) post late (putE env e.si.dst v) own' ks' B' M' w' σ' (a.put o.dst u) (listed.setIfInBounds e.ix true) := by
  have hE := tr.ext h.heap.own
  have hlt : e.ix < ops.size := (Array.getElem?_eq_some_iff.1 ho).1
  have hls : e.ix < listed.size := by rw [h.lsize]; exact hlt
  have hlook : ∀ t, e.si.dst ≠ some t → look (putE env e.si.dst v) t = look env t := by
    intro t ht
    unfold putE
    split
    · rename_i t' e'
      exact look_cons_ne (fun e'' => ht (by rw [e', e'']))
    · rfl
  have hnl : ∀ l, l ∈ late → ∀ t, e.si.dst = some t → l.d.si.dst ≠ some t ∧ t ∉ l.d.si.uses := by
    intro l hl t ht
    refine ⟨hc.dst t ht l.d (h.sub l hl).1, fun hu => ?_⟩
    exact hfree l hl (hc.reads t ht l.d (h.sub l hl).1 hu).2
  refine ⟨?_, ?_, ?_, ?_, h.nd, ?_, ?_, ?_, hh, hoc, hond, ?_, h.unb2, ?_, ?_, ?_, h.kd2, ?_, ?_, h.kd5, ?_, ?_⟩
  · cases o.dst <;> simp [Act.put, h.size]
  · have hd := h.defers.tr tr
    cases o.dst <;> exact hd
  · simp [h.lsize]
  · intro l hl; exact ⟨List.mem_append_left _ (h.sub l hl).1, (h.sub l hl).2⟩
  · intro i hi
    rw [getD_set hls]
    by_cases ee : e.ix = i
    · subst ee
      rw [if_pos rfl]
      constructor
      · intro hh; cases hh
      · intro hh
        exfalso
        rcases hh with hh | hh
        · obtain ⟨x, hx, e'⟩ := List.mem_map.1 hh
          exact h.disj x hx (by rw [e']; simp)
        · exact hix hh
    · rw [if_neg ee, h.part i hi]
      simp only [List.map_cons, List.mem_cons]
      constructor
      · rintro (x | x | x)
        · exact .inl x
        · exact (ee x.symm).elim
        · exact .inr x
      · rintro (x | x)
        · exact .inl x
        · exact .inr (.inr x)
  · intro i o' ho' hi j hj
    rw [getD_set hls] at hi ⊢
    by_cases ej : e.ix = j
    · rw [if_pos ej]
    · rw [if_neg ej]
      by_cases ee : e.ix = i
      · subst ee
        rw [ho] at ho'
        cases ho'
        exact hr j hj
      · rw [if_neg ee] at hi
        exact h.closed i o' ho' hi j hj
  · intro t x hx hn
    by_cases ed : e.si.dst = some t
    · have : look (putE env e.si.dst v) t = some v := by rw [ed]; exact look_cons_eq
      rw [this] at hx
      cases hx
      rw [hdst, ed]
      have ht : t < a.tmps.size := by rw [h.size]; exact hN t ed
      simpa [Act.put, Array.getD, ht] using hv
    · rw [hlook t ed] at hx
      have hold := h.envd t x hx hn
      have he : (a.put o.dst u).tmps.getD t undef = a.tmps.getD t undef := by
        rw [hdst]
        cases hd : e.si.dst with
        | none => rfl
        | some t' =>
          have hne : t' ≠ t := fun e' => ed (by rw [hd, e'])
          simp only [Act.put, Array.getD_eq_getD_getElem?, Array.getElem?_setIfInBounds, if_neg hne]
      rw [he]
      exact hold.mono hE tr.le
  · intro l hl k b hk
    obtain ⟨q1, q2⟩ := h.unborn l hl k b hk
    exact ⟨hσ k q1 q2, fun x => q2 (hks k x)⟩
  · intro l hl
    refine (h.facts l hl).ext ?_ ?_ (hlf l hl)
    · intro n hn
      exact hlook n fun ee => (hnl l hl n ee).2 hn
    · intro t ht
      exact hlook t fun ee => (hnl l hl t ee).1 ht
  · intro l hl x
    exact h.disj l hl (by simp only [List.map_cons, List.mem_cons]; exact .inr x)
  · intro k hk; exact h.kd1 k (hks k hk)
  · intro q h1 h2
    exact hσ q (h.kd3 q h1 h2) fun x => h2 (h.kd1 q x)
  · intro k hk
    rcases hoz k hk with x | x
    · exact h.kd4 k x
    · exact h.kd5 k (h.kd1 k x)
  · intro d d' hd hd' he t ht hu
    rcases List.mem_append.1 hd with g1 | g1
    · rcases List.mem_append.1 hd' with g2 | g2
      · exact h.u1 d d' g1 g2 he t ht hu
      · simp only [List.mem_singleton] at g2
        rw [g2] at hu ⊢
        exact hc.uses d g1 he t ht hu
    · simp only [List.mem_singleton] at g1
      rw [g1, hec] at he
      cases he
  · intro d d' hd hd' hne t ht ht'
    rcases List.mem_append.1 hd with g1 | g1
    · rcases List.mem_append.1 hd' with g2 | g2
      · exact h.dd d d' g1 g2 hne t ht ht'
      · simp only [List.mem_singleton] at g2
        rw [g2] at ht'
        exact hc.dst t ht' d g1 ht
    · simp only [List.mem_singleton] at g1
      rcases List.mem_append.1 hd' with g2 | g2
      · rw [g1] at ht
        exact hc.dst t ht d' g2 ht'
      · simp only [List.mem_singleton] at g2
        exact hne (by rw [g1, g2])

theorem Inv.eff_step (r : Option Nat) (st : Static ops anc) {ix : Nat} {pend : List Nat} {held : List (Option Nat × Nat × Nat)} {si : SI} {o : Oper} (ho : ops[ix]? = some o) (hsi : cSI P N ops o = some si)
    (hc : Cond anc pre (.eff ix pend held si) post) (hix : ix ∉ post.map DI.ix) (h : Inv P N Bd ops anc σ0 ks0 Z pre (.eff ix pend held si :: post) late env own ks B M w σ a listed)
    (hr : ∀ j, j ∈ edgesOf o → listed.getD j false = true) {K0 : Env → Own → List Nat → Prop} (hv : vdraw P (.eff ix pend held si :: post) env own ks K0)
    {Q : Exit → Act → World → Prop} {K : Act → World → Prop}
    (hK : ∀ env' own' ks' B' M' w' σ' a', Inv P N Bd ops anc σ0 ks0 Z (pre ++ [.eff ix pend held si]) post late env' own' ks' B' M' w' σ' a' (listed.setIfInBounds ix true) → vdraw P post env' own' ks' K0 → Tr M w σ B M' w' σ' B' → K a' w') :
    wpOpIn (FR r) 0 P ops Q ix K a w := by
  obtain ⟨d, op, g⟩ := si
  obtain ⟨sop, hsop, hN, hgd⟩ := cSI_some hsi
  have hdst : o.dst = d := by rcases hgd with ⟨_, e⟩ | ⟨_, _, _, _, _, e⟩ <;> (cases e; rfl)
  have hop : sop = op := by rcases hgd with ⟨_, e⟩ | ⟨_, _, _, _, _, e⟩ <;> (cases e; rfl)
  subst hop
  obtain ⟨c1, _, c3⟩ := hc.eff ix pend held _ rfl
  have hunl : ∀ l, l ∈ late → listed.getD l.d.ix false = false := by
    intro l hl
    obtain ⟨o', ho', _⟩ := h.facts l hl
    have hlt := (Array.getElem?_eq_some_iff.1 ho').1
    have h3 := (h.part _ hlt).2 (.inl (List.mem_map.2 ⟨l, hl, rfl⟩))
    have hs := h.lsize
    rw [Array.getD_eq_getD_getElem?, Array.getElem?_eq_getElem (by omega)] at h3 ⊢
    simpa using h3
  have hfree : ∀ l, l ∈ late → l.d.ix ∉ anc ix := by
    intro l hl hm
    have := anc_listed st h.lsize h.closed ix o ho hr _ hm
    rw [hunl l hl] at this
    cases this
  have hden : ∀ t, t ∈ SI.uses ⟨d, sop, g⟩ → ∀ v, look env t = some v → Den M w σ v (a.tmps.getD t undef) := by
    intro t ht v hv
    refine h.envd t v hv fun l hl e => ?_
    exact hfree l hl (hc.uses l.d (h.sub l hl).1 (h.sub l hl).2 t e ht)
  have ok : ∀ x, x ∈ sop.xs → XOk M w σ env a x := fun x hx n e v hv => hden n (by simp only [SI.uses, List.mem_append]; exact .inl (tmpsOf_mem (e ▸ hx))) v hv
  have hN' : ∀ t, d = some t → t < N := fun t ht => hN t (by rw [hdst]; exact ht)
  rcases guardK_sound hv with ⟨gk, hv⟩ | ⟨gk, hv⟩
  · obtain ⟨A, C, hv, a1, a2, a3, a4, a5, a6⟩ := splitK_sound _ _ _ _ hv h.ownnd (by simp) (by simp)
    have a4' : ∀ k b, (k, b) ∈ own ↔ ((k, b) ∈ A ∨ (k, b) ∈ C) := fun k b => by rw [← a4]; simp
    have hAB : ∀ k b, (k, b) ∈ A → (k, b) ∈ B := by
      intro k b hm
      rcases (h.ownc k b).1 (a5 k b hm) with x | ⟨l, hl, hk⟩
      · exact x
      · exfalso
        have hp := c3 l.d (h.sub l hl).1 (h.sub l hl).2 (hfree l hl)
        obtain ⟨o', ho', _, hval, hkk⟩ := h.facts l hl
        cases hlk : l.k with
        | new k' b' v =>
          rw [hlk] at hk hkk hval
          cases hk
          obtain ⟨_, _, hkey, hnew⟩ := hkk
          have : ∃ t, l.d.si.dst = some t ∧ t ∈ pend := by
            unfold pendB at hp
            split at hp
            · rename_i z x e; rw [e] at hnew; cases hnew
            · split at hp
              · split at hp
                · rename_i t e; exact ⟨t, e, memN_iff.1 hp⟩
                · cases hp
              · rename_i hno; rw [hnew] at hno; cases hno
          obtain ⟨t, ht, hpm⟩ := this
          exact a6 t hpm v k (hval t ht) hkey b hm
        | pure v => rw [hlk] at hk; cases hk
        | load _ _ _ _ _ => rw [hlk] at hk; cases hk
        | skip => rw [hlk] at hk; cases hk
    let CB : Own := B.filter fun p => decide (p.1 ∉ A.map (·.1))
    have hCB : ∀ k b, (k, b) ∈ CB ↔ ((k, b) ∈ B ∧ k ∉ A.map (·.1)) := fun k b => by simp [CB]
    have hdrop := hsim_drop (own' := A) h.heap hAB a1
    refine wpOp_run ho (wanted_guard hsi gk hden) (Oper.wpIn_mono ?_ (eff_sound hsop c1 hv ok hdrop.1 Q r))
    rintro a' w' ⟨u, M', σ', v, A', ks', rfl, hvd, hh', tr, kd, hheld⟩
    obtain ⟨hgo, hre⟩ := heldK_sound _ hheld
    have hgo := appK_sound _ _ _ hgo
    have hun := hsim_union (C := CB) h.heap hAB (fun k b hm => ((hCB k b).1 hm).1) (fun k hk hc' => by
      obtain ⟨⟨q, c⟩, hm, e⟩ := List.mem_map.1 hc'
      simp only at e
      subst e
      exact ((hCB q c).1 hm).2 hk) (h.heap.own.nodup.sublist (List.Sublist.map _ List.filter_sublist)) hh' tr kd
    have keyA' : ∀ k, k ∈ A'.map (·.1) → k ∉ C.map (·.1) := by
      intro k hk hcm
      rcases kd.2.2 k hk with x | x
      · exact a3 k x hcm
      · obtain ⟨⟨q, c⟩, hm, e⟩ := List.mem_map.1 hcm
        simp only at e
        subst e
        rcases (h.ownc q c).1 ((a4' q c).2 (.inr hm)) with y | ⟨l, hl, y⟩
        · obtain ⟨z, hz⟩ := h.heap.own.key y
          rw [h.heap.fresh q x] at hz; cases hz
        · exact (h.unborn l hl q c y).2 x
    have hinv := h.eff_done (e := .eff ix pend held ⟨d, sop, g⟩) rfl hc hix ho hdst hr hN' hfree (own' := C ++ A') hvd hun.1 hun.2 kd.1 kd.2.1
      (fun k b => by
        rw [List.mem_append, List.mem_append, hCB]
        constructor
        · rintro (x | x)
          · rcases (h.ownc k b).1 ((a4' k b).2 (.inr x)) with y | y
            · exact .inl (.inr ⟨y, fun z => a3 k z (List.mem_map.2 ⟨_, x, rfl⟩)⟩)
            · exact .inr y
          · exact .inl (.inl x)
        · rintro ((x | ⟨x, y⟩) | x)
          · exact .inr x
          · rcases (a4' k b).1 ((h.ownc k b).2 (.inl x)) with z | z
            · exact (y (List.mem_map.2 ⟨_, z, rfl⟩)).elim
            · exact .inl z
          · rcases (a4' k b).1 ((h.ownc k b).2 (.inr x)) with z | z
            · exfalso
              obtain ⟨l, hl, hk⟩ := x
              obtain ⟨y, hy⟩ := h.heap.own.key (hAB k b z)
              rw [(h.unborn l hl k b hk).1] at hy; cases hy
            · exact .inl z)
      (by
        rw [List.map_append, List.nodup_append]
        exact ⟨a2, hh'.own.nodup, fun k hk q hq e => by subst e; exact keyA' k hq hk⟩)
      (fun k hk => by
        rw [List.map_append, List.mem_append] at hk
        rcases hk with x | x
        · obtain ⟨⟨q, c⟩, hm, e⟩ := List.mem_map.1 x
          exact .inl (List.mem_map.2 ⟨_, (a4' q c).2 (.inr hm), e⟩)
        · rcases kd.2.2 k x with y | y
          · obtain ⟨⟨q, c⟩, hm, e⟩ := List.mem_map.1 y
            exact .inl (List.mem_map.2 ⟨_, (a4' q c).2 (.inl hm), e⟩)
          · exact .inr y)
      (fun l hl t n z p v' hlk hp hz lf => by
        have hpb := c3 l.d (h.sub l hl).1 (h.sub l hl).2 (hfree l hl)
        obtain ⟨o', ho', _, hval, hkk⟩ := h.facts l hl
        rw [hlk] at hval hkk
        obtain ⟨_, e1, _, _, _, _, hnr⟩ := hkk
        unfold pendB at hpb
        rw [e1] at hpb
        simp only at hpb
        split at hpb
        · rename_i n' t' en et
          cases en
          have hin := memH_iff hpb
          rcases hre z n t' hin p v' hp (hval t' et) with ⟨uu, hraw⟩ | hload
          · exact (hnr uu hraw).elim
          · have lf' := lfact_of hz hload
            intro M1 w1 σ1 u1 hd1 hb1
            refine lf' M1 w1 σ1 u1 hd1 fun q c hq hlq => hb1 q c hq ?_
            rw [look_append (fun b hb => keyA' q (List.mem_map.2 ⟨_, look_mem hlq, rfl⟩) (List.mem_map.2 ⟨_, hb, rfl⟩))]
            exact hlq
        · cases hpb)
    exact hK _ _ _ _ M' w' σ' _ hinv (vdraw_next hgo) hun.2
  · refine wpOp_skip ho (wanted_guard hsi gk hden) ?_
    have hinv := h.eff_done (e := .eff ix pend held ⟨d, sop, g⟩) rfl hc hix ho hdst hr hN' hfree (v := .raw (.tuple #[])) (u := undef) (.raw _ _) h.heap (Tr.refl _ _ _ _) (fun _ x => x) (fun _ x _ => x) h.ownc h.ownnd (fun _ x => .inl x)
      (fun _ _ _ _ _ _ _ _ _ _ lf => lf)
    exact hK _ _ _ _ M w σ _ hinv (vdraw_next hv) (Tr.refl _ _ _ _)
end


/-! ## the whole region -/

theorem cSIs_get {P : Program} {N : Nat} {ops : Array Oper} : ∀ {l : List Oper} {sl : List SI}, cSIs P N ops l = some sl → ∀ (i : Nat) (s : SI), sl[i]? = some s → ∃ o, l[i]? = some o ∧ cSI P N ops o = some s
  | [], sl, h, i, s, hs => by simp [cSIs] at h; subst h; simp at hs
  | o :: l, sl, h, i, s, hs => by
    unfold cSIs at h
    split at h <;> simp only [Option.some.injEq, reduceCtorEq] at h
    rename_i s0 sl' h1 h2
    subst h
    cases i with
    | zero => simp at hs; subst hs; exact ⟨o, by simp, h1⟩
    | succ i =>
      obtain ⟨o', h3, h4⟩ := cSIs_get h2 i s (by simpa using hs)
      exact ⟨o', by simpa using h3, h4⟩

theorem mkItems_mem {A : List (List Nat)} {sis : List SI} : ∀ {c done : List Nat} {d : DI}, d ∈ mkItems A sis c done → sis[d.ix]? = some d.si
  | [], _, d, h => by simp [mkItems] at h
  | i :: r, done, d, h => by
    unfold mkItems at h
    split at h
    · rename_i si hsi
      split at h
      · rcases List.mem_cons.1 h with e | h
        · subst e; exact hsi
        · exact mkItems_mem h
      · simp only [List.mem_cons] at h
        rcases h with e | h
        · subst e; exact hsi
        · exact mkItems_mem h
    · simp at h

theorem condsB_cons {A : List (List Nat)} {pre : List DI} {d : DI} {post : List DI} (h : condsB A pre (d :: post) = true) : condB A pre d post = true ∧ condsB A (pre ++ [d]) post = true := by
  simpa [condsB] using h

section
variable {P : Program} {N Bd : Nat} {ops : Array Oper} {A : List (List Nat)} {σ0 : Sg} {ks0 Z : List Nat} {B : Own} {M : Nat → Prop} {w : World} {σ : Sg} {a : Act} {listed : Array Bool} {K : Env → Own → List Nat → Prop}

theorem Inv.norm : ∀ (rest pre : List DI) (late : List LT) (env : Env) (own : Own) (ks : List Nat), Inv P N Bd ops (fun i => A.getD i []) σ0 ks0 Z pre rest late env own ks B M w σ a listed → condsB A pre rest = true →
    (∀ d, d ∈ rest → ∃ o, ops[d.ix]? = some o ∧ cSI P N ops o = some d.si) → (rest.map DI.ix).Nodup → vdraw P rest env own ks K →
    ∃ pre' rest' late' env' own' ks', Inv P N Bd ops (fun i => A.getD i []) σ0 ks0 Z pre' rest' late' env' own' ks' B M w σ a listed ∧ condsB A pre' rest' = true ∧ (∀ d, d ∈ rest' → d ∈ rest) ∧ (rest'.map DI.ix).Nodup ∧
      vdraw P rest' env' own' ks' K ∧ late'.length + rest'.length = late.length + rest.length ∧ (rest' = [] ∨ ∃ ix pend held si post, rest' = .eff ix pend held si :: post)
  | [], pre, late, env, own, ks, h, hc, _, hn, hv => ⟨pre, [], late, env, own, ks, h, hc, fun _ h => h, hn, hv, rfl, .inl rfl⟩
  | .eff ix pend held si :: post, pre, late, env, own, ks, h, hc, _, hn, hv => ⟨pre, _, late, env, own, ks, h, hc, fun _ h => h, hn, hv, rfl, .inr ⟨ix, pend, held, si, post, rfl⟩⟩
  | .op ix si :: post, pre, late, env, own, ks, h, hc, hs, hn, hv => by
    obtain ⟨c1, c2⟩ := condsB_cons hc
    obtain ⟨o, ho, hsi⟩ := hs (.op ix si) (by simp)
    simp only [List.map_cons, List.nodup_cons] at hn
    have hcond := cond_of c1
    obtain ⟨lk, env', own', ks', h', hv'⟩ := h.absorb ho hsi hcond hn.1 hv
    obtain ⟨pre'', rest'', late'', env'', own'', ks'', r1, r2, r3, r4, r5, r6, r7⟩ := Inv.norm post _ _ env' own' ks' h' c2 (fun d hd => hs d (by simp [hd])) hn.2 hv'
    exact ⟨pre'', rest'', late'', env'', own'', ks'', r1, r2, fun d hd => List.mem_cons_of_mem _ (r3 d hd), r4, r5, by simp only [List.length_cons] at r6 ⊢; omega, r7⟩

theorem draw_any (r : Option Nat) (st : Static ops (fun i => A.getD i [])) {Q : Exit → Act → World → Prop} : ∀ (fuel : Nat) (rest pre : List DI) (late : List LT) (env : Env) (own : Own) (ks : List Nat) (B : Own) (M : Nat → Prop) (w : World) (σ : Sg) (a : Act) (listed : Array Bool),
    Inv P N Bd ops (fun i => A.getD i []) σ0 ks0 Z pre rest late env own ks B M w σ a listed → condsB A pre rest = true →
    (∀ d, d ∈ rest → ∃ o, ops[d.ix]? = some o ∧ cSI P N ops o = some d.si) → (rest.map DI.ix).Nodup → vdraw P rest env own ks K → late.length + rest.length ≤ fuel →
    (∀ env' own' ks' B' M' w' σ' a' pre' listed', Inv P N Bd ops (fun i => A.getD i []) σ0 ks0 Z pre' [] [] env' own' ks' B' M' w' σ' a' listed' → Tr M w σ B M' w' σ' B' → K env' own' ks' → Q .normal a' w') →
    wpAnyIn (FR r) 0 P .any ops Q fuel listed a w := by
  intro fuel
  induction fuel with
  | zero =>
    intro rest pre late env own ks B M w σ a listed h hc hs hn hv hf hq
    have e1 : late = [] := List.eq_nil_of_length_eq_zero (by omega)
    have e2 : rest = [] := List.eq_nil_of_length_eq_zero (by omega)
    subst e1 e2
    refine ⟨?_, hq env own ks B M w σ a pre listed h (Tr.refl _ _ _ _) hv⟩
    rw [List.eq_nil_iff_forall_not_mem]
    intro i hi
    obtain ⟨h1, h2, _⟩ := ready_iff.1 hi
    rcases (h.part i h1).1 h2 with x | x <;> simp at x
  | succ fuel ih =>
    intro rest pre late env own ks B M w σ a listed h hc hs hn hv hf hq
    obtain ⟨pre, rest, late, env, own, ks, h, hc, hsub, hn, hv, hlen, hnorm⟩ := Inv.norm rest pre late env own ks h hc hs hn hv
    have hs' : ∀ d, d ∈ rest → ∃ o, ops[d.ix]? = some o ∧ cSI P N ops o = some d.si := fun d hd => hs d (hsub d hd)
    refine ⟨?_, ?_⟩
    · intro hre
      have hall : ∀ i, i < ops.size → listed.getD i true = true := by
        intro i
        induction i using Nat.strongRecOn with
        | _ i ih2 =>
          intro hi
          cases hl : listed.getD i true with
          | true => rfl
          | false =>
            exfalso
            have : i ∈ Region.ready .any ops listed := by
              refine ready_iff.2 ⟨hi, hl, ops[i], by simp [hi], fun j hj => ?_⟩
              have hji := st.edge i ops[i] (by simp [hi]) j hj
              have := ih2 j hji (by omega)
              have hs := h.lsize
              rw [Array.getD_eq_getD_getElem?, Array.getElem?_eq_getElem (by omega)] at this ⊢
              simpa using this
            rw [hre] at this
            simp at this
      have e1 : late = [] := by
        rw [List.eq_nil_iff_forall_not_mem]
        intro l hl
        obtain ⟨o', ho', _⟩ := h.facts l hl
        have hlt := (Array.getElem?_eq_some_iff.1 ho').1
        have := (h.part _ hlt).2 (.inl (List.mem_map.2 ⟨l, hl, rfl⟩))
        rw [hall _ hlt] at this
        cases this
      have e2 : rest = [] := by
        rw [List.eq_nil_iff_forall_not_mem]
        intro d hd
        obtain ⟨o', ho', _⟩ := hs' d hd
        have hlt := (Array.getElem?_eq_some_iff.1 ho').1
        have := (h.part _ hlt).2 (.inr (List.mem_map.2 ⟨d, hd, rfl⟩))
        rw [hall _ hlt] at this
        cases this
      subst e1 e2
      exact hq env own ks B M w σ a pre listed h (Tr.refl _ _ _ _) hv
    · intro i hi
      obtain ⟨h1, h2, o, ho, hr⟩ := ready_iff.1 hi
      rcases (h.part i h1).1 h2 with x | x
      · obtain ⟨l, hl, e⟩ := List.mem_map.1 x
        subst e
        refine h.late_step r st hl ho hr fun B' M' w' σ' a' h' tr => ?_
        refine ih rest pre _ env own ks B' M' w' σ' a' _ h' hc hs' hn hv ?_ fun env' own' ks' B'' M'' w'' σ'' a'' pre' listed' r1 r2 r3 => hq env' own' ks' B'' M'' w'' σ'' a'' pre' listed' r1 (tr.trans r2) r3
        have : (late.filter (fun y => !Nat.beq y.d.ix l.d.ix)).length < late.length := by
          refine List.length_filter_lt_length_iff_exists.2 ⟨l, hl, by simp⟩
        omega
      · rcases hnorm with e | ⟨ix, pend, held, si, post, e⟩
        · subst e; simp at x
        · subst e
          obtain ⟨c1, c2⟩ := condsB_cons hc
          have hcond := cond_of c1
          simp only [List.map_cons, List.nodup_cons] at hn
          have hix : i = ix := by
            simp only [List.map_cons, List.mem_cons, DI.ix] at x
            rcases x with x | x
            · exact x
            · exfalso
              obtain ⟨d', hd', e'⟩ := List.mem_map.1 x
              have hanc := (hcond.eff ix pend held si rfl).2.1 d' hd'
              rw [e'] at hanc
              have hl := anc_listed st h.lsize h.closed i o ho hr ix hanc
              obtain ⟨o2, ho2, _⟩ := hs' (.eff ix pend held si) (by simp)
              have hlt : ix < ops.size := (Array.getElem?_eq_some_iff.1 ho2).1
              have hun := (h.part ix hlt).2 (.inr (by simp [DI.ix]))
              have hs := h.lsize
              rw [Array.getD_eq_getD_getElem?, Array.getElem?_eq_getElem (by omega)] at hl hun
              simp at hl hun
              rw [hl] at hun
              cases hun
          subst hix
          obtain ⟨o2, ho2, hsi⟩ := hs' (.eff i pend held si) (by simp)
          simp only [DI.ix] at ho2
          rw [ho] at ho2
          cases ho2
          refine h.eff_step r st ho hsi hcond hn.1 hr hv fun env' own' ks' B' M' w' σ' a' h' hv' tr => ?_
          refine ih post _ late env' own' ks' B' M' w' σ' a' _ h' c2 (fun d hd => hs' d (by simp [hd])) hn.2 hv' ?_ fun env'' own'' ks'' B'' M'' w'' σ'' a'' pre' listed' r1 r2 r3 => hq env'' own'' ks'' B'' M'' w'' σ'' a'' pre' listed' r1 (tr.trans r2) r3
          simp only [List.length_cons] at hlen
          omega
end


theorem vdraw_sound {P : Program} (hm : P.follows .mixedOrders = true) (r : Option Nat) {N B id : Nat} {ops : Array Oper} {pl : List DI} (hp : planOf P N ops = some pl) {env : Env} {own : Own} {ks : List Nat} {K : Env → Own → List Nat → Prop}
    (h : vdraw P pl env own ks K) {M : Nat → Prop} {w : World} {σ : Sg} {a : Act} (sim : Sim N B M w σ ⟨env, own, ks⟩ a) {Q : Exit → Act → World → Prop}
    (hq : ∀ env' own' ks' M' w' σ' a', Sim N B M' w' σ' ⟨env', own', ks'⟩ a' → Tr M w σ own M' w' σ' own' → Kd σ own ks σ' own' ks' → K env' own' ks' → Q .normal a' w') : (Code.region id ops true).wpIn (FR r) 0 P Q a w := by
  unfold planOf at hp
  split at hp
  · rename_i sis hsis
    simp only at hp
    split at hp
    · rename_i hchk
      cases hp
      simp only [Bool.and_eq_true] at hchk
      obtain ⟨⟨hcond, hanc⟩, hitems⟩ := hchk
      have hst : Static ops (fun i => (ancs ops.toList []).getD i []) := by
        constructor
        · intro i o ho j hj
          have hi : i < ops.size := (Array.getElem?_eq_some_iff.1 ho).1
          have := List.all_eq_true.1 hanc i (List.mem_range.2 hi)
          rw [ho] at this
          simp only [Bool.and_eq_true] at this
          exact Nat.le_of_ble_eq_true (List.all_eq_true.1 this.1 j hj)
        · intro i o ho e he
          have hi : i < ops.size := (Array.getElem?_eq_some_iff.1 ho).1
          have := List.all_eq_true.1 hanc i (List.mem_range.2 hi)
          rw [ho] at this
          simp only [Bool.and_eq_true] at this
          have h2 := List.all_eq_true.1 this.2 e he
          simp only [Bool.or_eq_true] at h2
          rcases h2 with x | x
          · exact .inl (memN_iff.1 x)
          · obtain ⟨j, hj, hm⟩ := List.any_eq_true.1 x
            exact .inr ⟨j, hj, memN_iff.1 hm⟩
      simp only [itemsB, Bool.and_eq_true] at hitems
      obtain ⟨⟨⟨hlen, hcov⟩, _⟩, hnd0⟩ := hitems
      have hlen := Nat.eq_of_beq_eq_true hlen
      generalize hpl : mkItems (ancs ops.toList []) sis (canon (ancs ops.toList []) (fun i => match sis[i]? with | some s => s.op.isEff | none => true) (ops.size + 1) (List.range ops.size) []) [] = pl at *
      have hall : ∀ i, i < ops.size → i ∈ pl.map DI.ix := fun i hi => memN_iff.1 (List.all_eq_true.1 hcov i (List.mem_range.2 hi))
      have hnd : (pl.map DI.ix).Nodup := nodupB_iff hnd0
      have hs : ∀ d, d ∈ pl → ∃ o, ops[d.ix]? = some o ∧ cSI P N ops o = some d.si := by
        intro d hd
        rw [← hpl] at hd
        obtain ⟨o, h1, h2⟩ := cSIs_get hsis d.ix d.si (mkItems_mem hd)
        exact ⟨o, by simpa using h1, h2⟩
      have sim1 := hsim_drew sim.heap
      have hE := sim1.2.ext sim.heap.own
      refine wpIn_region_any hm ?_
      have hinv : Inv P N B ops (fun i => (ancs ops.toList []).getD i []) σ ks (own.map (·.1) ++ ks) [] pl [] env own ks own M w.drew σ a (Array.replicate ops.size false) := by
        refine ⟨sim.size, sim.defers.tr sim1.2, by simp, by simp, by simp, ?_, ?_, ?_, sim1.1, ?_, sim.heap.own.nodup, by simp, by simp, by simp, by simp, fun _ h => h, by simp, fun _ h _ => h, ?_, ?_, by simp, by simp⟩
        · intro i hi
          constructor
          · intro _; exact .inr (hall i hi)
          · intro _; simp [Array.getD, hi]
        · intro i o ho hi
          have hlt : i < ops.size := (Array.getElem?_eq_some_iff.1 ho).1
          simp [Array.getD, hlt] at hi
        · intro t v hv _
          exact (sim.env t v hv).mono hE (Sg.le_refl _)
        · intro k b; simp
        · intro k hk; exact List.mem_append_left _ hk
        · intro k hk; exact List.mem_append_right _ hk
      refine draw_any r hst ops.size pl [] [] env own ks own M w.drew σ a _ hinv hcond hs hnd h (by simp [hlen]) ?_
      intro env' own' ks' B' M' w' σ' a' pre' listed' r1 r2 r3
      have hfin := hsim_drop (own' := own') r1.heap (fun k b hm => by
        rcases (r1.ownc k b).1 hm with x | ⟨l, hl, _⟩
        · exact x
        · simp at hl) r1.ownnd
      refine hq env' own' ks' M' w' σ' a' ⟨fun t v hv => r1.envd t v hv (by simp), hfin.1, r1.size, r1.defers.tr hfin.2⟩ ((sim1.2.trans r2).trans hfin.2) ⟨r1.kd1, r1.kd3, fun k hk => List.mem_append.1 (r1.kd4 k hk)⟩ r3
    · cases hp
  · cases hp

end Go.Eng
