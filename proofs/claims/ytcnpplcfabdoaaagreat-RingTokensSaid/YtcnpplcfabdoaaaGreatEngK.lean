/-
  The engine, part K: code and functions.
-/
import Derived.Test.YtcnpplcfabdoaaaGreatEngJ3
namespace Go.Eng

inductive SC where
  | skip
  | ops (l : List SI)
  | draw (l : List DI)
  | seq (a b : SC)
  | cond (c : X) (a b : SC)
  | block (id : Nat) (b : SC)
  | loop (b : SC)
  | exit (id : Nat)
  | ret
  | rf (g : X) (ps : List Nat) (a b : SC)

/-- no range over a function -/
def noRf : SC → Bool
  | .seq a b | .cond _ a b => noRf a && noRf b
  | .block _ b | .loop b => noRf b
  | .rf _ _ _ _ => false
  | _ => true

def ltAll (N : Nat) : List Nat → Bool
  | [] => true
  | p :: r => match Nat.ble (p + 1) N with | true => ltAll N r | false => false

/-- code that must not be reached -/
def badC : SC := .cond (.k .nilptr) .skip .skip

def cCode (P : Program) (N : Nat) : Code → Option SC
  | .skip => some .skip
  | .region _ ops false => match cSIs P N ops ops.toList with | some l => some (.ops l) | none => some badC
  | .region _ ops true => match planOf P N ops with | some l => some (.draw l) | none => some badC
  | .seq a b => match cCode P N a, cCode P N b with | some a, some b => some (.seq a b) | _, _ => none
  | .cond c a b => match cX c, cCode P N a, cCode P N b with | some c, some a, some b => some (.cond c a b) | _, _, _ => none
  | .block id b => (cCode P N b).map (.block id)
  | .loop b => (cCode P N b).map .loop
  | .exit id => some (.exit id)
  | .ret => some .ret
  | .rangeFunc g ps a b => match cX g, cCode P N a, cCode P N b with
    | some g, some sa, some sb => match noRf sa, noRf sb, ltAll N ps.toList with
      | true, true, true => some (.rf g ps.toList sa sb)
      | _, _, _ => none
    | _, _, _ => none
  | _ => none

/-- A loop, abstractly. bk: the keys that are the function's own. -/
structure LoopI (P : Program) (N : Nat) (bk : List Nat) (b : SC) (env : Env) (own : Own) (ks : List Nat) (K : Out → Prop) : Prop where
  out : ∀ r, (r = none ∨ noRf b = true) → ∀ c, cCode P N c = some b → ∀ B σb M w σ a, (∀ k, k ∈ bk → σb k = none) → σb.le σ → Sim N B M w σ ⟨env, own, ks⟩ a → (Code.loop c).wpIn (FR r) 0 P (XP N B σb M w σ own ks K) a w

/-- A range over a function, abstractly. -/
structure RangeI (P : Program) (N : Nat) (g : X) (ps : List Nat) (sa sb : SC) (env : Env) (own : Own) (ks : List Nat) (K : Out → Prop) : Prop where
  out : ∀ g0 a b, cX g0 = some g → cCode P N a = some sa → cCode P N b = some sb → ∀ B σb M w σ act, σb.le σ → Sim N B M w σ ⟨env, own, ks⟩ act →
    (Code.rangeFunc g0 ps.toArray a b).wpIn (FR none) 0 P (XP N B σb M w σ own ks K) act w

inductive Both (A B : Prop) : Prop where
  | mk (ha : A) (hb : B) : Both A B

def vc (P : Program) (N : Nat) (bk : List Nat) : SC → Env → Own → List Nat → (Out → Prop) → Prop
  | .skip, env, own, ks, K => K (.normal ⟨env, own, ks⟩)
  | .ops l, env, own, ks, K => vops P l env own ks fun env own ks => K (.normal ⟨env, own, ks⟩)
  | .draw l, env, own, ks, K => vdraw P l env own ks fun env own ks => K (.normal ⟨env, own, ks⟩)
  | .seq a b, env, own, ks, K => vc P N bk a env own ks fun o => match o with
    | .normal ⟨env, own, ks⟩ => vc P N bk b env own ks K
    | o => K o
  | .cond c a b, env, own, ks, K => c.get env fun v => match v with
    | .bool x => match x with
      | true => vc P N bk a env own ks K
      | false => vc P N bk b env own ks K
    | .anyb => Both (vc P N bk a env own ks K) (vc P N bk b env own ks K)
    | _ => False
  | .block id b, env, own, ks, K => vc P N bk b env own ks fun o => match o with
    | .exit id' st => match Nat.beq id' id with | true => K (.normal st) | false => K (.exit id' st)
    | o => K o
  | .loop b, env, own, ks, K => LoopI P N bk b env own ks K
  | .exit id, env, own, ks, K => K (.exit id ⟨env, own, ks⟩)
  | .ret, env, own, ks, K => K (.ret ⟨env, own, ks⟩)
  | .rf g ps a b, env, own, ks, K => RangeI P N g ps a b env own ks K


theorem XP.tr {N B : Nat} {σb : Sg} {M M₁ : Nat → Prop} {w w₁ : World} {σ σ₁ : Sg} {own own₁ : Own} {ks ks₁ : List Nat} {K : Out → Prop} (t : Tr0 M w σ own M₁ w₁ σ₁ own₁) (q : Kd σ own ks σ₁ own₁ ks₁) {e : Exit} {a : Act} {w' : World} (h : XP N B σb M₁ w₁ σ₁ own₁ ks₁ K e a w') : XP N B σb M w σ own ks K e a w' := by
  obtain ⟨M', σ', st', h1, h2, h2', hb, h3⟩ := h
  exact ⟨M', σ', st', h1, t.trans h2, q.trans h2', hb, h3⟩

theorem vc_sound {P : Program} (hm : P.follows .mixedOrders = true) {N B : Nat} {bk : List Nat} {σb : Sg} (hbk : ∀ k, k ∈ bk → σb k = none) (r : Option Nat) : ∀ (c : Code) (sc : SC) (K : Out → Prop) (env : Env) (own : Own) (ks : List Nat) (M : Nat → Prop) (w : World) (σ : Sg) (a : Act),
    cCode P N c = some sc → (r = none ∨ noRf sc = true) → vc P N bk sc env own ks K → Sim N B M w σ ⟨env, own, ks⟩ a → σb.le σ → c.wpIn (FR r) 0 P (XP N B σb M w σ own ks K) a w := by
  intro c
  induction c with
  | skip =>
    intro sc K env own ks M w σ a hc hr h sim hle
    simp [cCode] at hc
    subst hc
    exact wpIn_skip ⟨M, σ, _, sim, Tr0.refl _ _ _ _, Kd.refl _ _ _, hle, h⟩
  | region id ops draw =>
    intro sc K env own ks M w σ a hc hr h sim hle
    cases draw with
    | false =>
      simp only [cCode] at hc
      split at hc
      case h_2 => cases hc; exact (show False from h).elim
      rename_i l hl
      cases hc
      exact wpIn_region_list (vops_sound r ops.toList l env own ks _ M w σ a hl h sim fun env' own' ks' M' w' σ' a' s t q k => ⟨M', σ', _, s, t.t0, q, Sg.le_trans hle t.le, k⟩)
    | true =>
      simp only [cCode] at hc
      split at hc
      case h_2 => cases hc; exact (show False from h).elim
      rename_i l hl
      cases hc
      exact vdraw_sound hm r hl h sim fun env' own' ks' M' w' σ' a' s t q k => ⟨M', σ', _, s, t.t0, q, Sg.le_trans hle t.le, k⟩
  | seq x y ihx ihy =>
    intro sc K env own ks M w σ a hc hr h sim hle
    simp only [cCode] at hc
    split at hc <;> simp only [Option.some.injEq, reduceCtorEq] at hc
    rename_i sx sy h1 h2
    subst hc
    have hr1 : r = none ∨ noRf sx = true := hr.imp id fun e => by simp only [noRf, Bool.and_eq_true] at e; exact e.1
    have hr2 : r = none ∨ noRf sy = true := hr.imp id fun e => by simp only [noRf, Bool.and_eq_true] at e; exact e.2
    refine wpIn_seq (wpIn_mono (ihx sx _ env own ks M w σ a h1 hr1 h sim hle) ?_)
    intro e a' w' hx
    obtain ⟨M', σ', st', s1, t1, q1, l1, k1⟩ := hx
    cases e <;> first
      | (obtain ⟨env', own', ks'⟩ := st'
         exact wpIn_mono (ihy sy K env' own' ks' M' w' σ' a' h2 hr2 k1 s1 l1) fun e a w h => XP.tr t1 q1 h)
      | exact ⟨M', σ', st', s1, t1, q1, l1, k1⟩
  | cond c x y ihx ihy =>
    intro sc K env own ks M w σ a hc hr h sim hle
    simp only [cCode] at hc
    split at hc <;> simp only [Option.some.injEq, reduceCtorEq] at hc
    rename_i c' sx sy h1 h2 h3
    subst hc
    have hr1 : r = none ∨ noRf sx = true := hr.imp id fun e => by simp only [noRf, Bool.and_eq_true] at e; exact e.1
    have hr2 : r = none ∨ noRf sy = true := hr.imp id fun e => by simp only [noRf, Bool.and_eq_true] at e; exact e.2
    obtain ⟨v, h, hv⟩ := get_sound h1 h
    have hd := hv M w σ a (fun n _ v hv => sim.env n v hv)
    split at h
    · rename_i b
      have hb : a.eval c = .bool b := by
        generalize a.eval c = q at hd
        cases hd; rfl
      refine wpIn_cond hb ?_
      cases b
      · exact ihy sy K env own ks M w σ a h3 hr2 h sim hle
      · exact ihx sx K env own ks M w σ a h2 hr1 h sim hle
    · obtain ⟨b, hb⟩ : ∃ b, a.eval c = .bool b := by
        generalize a.eval c = q at hd
        cases hd; exact ⟨_, rfl⟩
      refine wpIn_cond hb ?_
      cases b
      · exact ihy sy K env own ks M w σ a h3 hr2 h.2 sim hle
      · exact ihx sx K env own ks M w σ a h2 hr1 h.1 sim hle
    · exact h.elim
  | block id b ih =>
    intro sc K env own ks M w σ a hc hr h sim hle
    simp only [cCode, Option.map_eq_some_iff] at hc
    obtain ⟨sb, hb, rfl⟩ := hc
    refine wpIn_block (wpIn_mono (ih sb _ env own ks M w σ a hb hr h sim hle) ?_)
    intro e a' w' hx
    obtain ⟨M', σ', st', s1, t1, q1, l1, k1⟩ := hx
    cases e with
    | exit id' =>
      simp only at k1
      simp only [Exit.inBlock]
      split
      · rename_i he
        subst he
        simp only [Nat.beq_refl] at k1
        exact ⟨M', σ', st', s1, t1, q1, l1, k1⟩
      · rename_i he
        have : Nat.beq id' id = false := by
          rw [← Bool.not_eq_true]
          intro hh
          exact he (Nat.eq_of_beq_eq_true hh)
        simp only [this] at k1
        exact ⟨M', σ', st', s1, t1, q1, l1, k1⟩
    | _ => exact ⟨M', σ', st', s1, t1, q1, l1, k1⟩
  | loop b ih =>
    intro sc K env own ks M w σ a hc hr h sim hle
    simp only [cCode, Option.map_eq_some_iff] at hc
    obtain ⟨sb, hb, rfl⟩ := hc
    exact h.out r hr b hb B σb M w σ a hbk hle sim
  | exit id =>
    intro sc K env own ks M w σ a hc hr h sim hle
    simp [cCode] at hc
    subst hc
    exact wpIn_exit ⟨M, σ, _, sim, Tr0.refl _ _ _ _, Kd.refl _ _ _, hle, h⟩
  | ret =>
    intro sc K env own ks M w σ a hc hr h sim hle
    simp [cCode] at hc
    subst hc
    exact wpIn_ret ⟨M, σ, _, sim, Tr0.refl _ _ _ _, Kd.refl _ _ _, hle, h⟩
  | rangeFunc g ps x y _ _ =>
    intro sc K env own ks M w σ a hc hr h sim hle
    simp only [cCode] at hc
    split at hc <;> first | (cases hc; done) | skip
    rename_i g' sa sb h1 h2 h3
    split at hc <;> first | (cases hc; done) | skip
    cases hc
    rcases hr with hr | hr
    · subst hr
      have := h.out g x y h1 h2 h3 B σb M w σ a hle sim
      simpa using this
    · cases hr
  | _ => intro sc K env own ks M w σ a hc; simp [cCode] at hc

/-! ## loops -/

/-- st' may be seen as st''; chg: the keys of blocks that get another meaning -/
structure Weak (N : Nat) (chg : List Nat) (st' st'' : St) : Prop where
  out : ∀ B M w σ a, Sim N B M w σ st' a → ∃ M' σ', Sim N B M' w σ' st'' a ∧ Tr0 M w σ st'.own M' w σ' st''.own ∧ ∀ k, k ∉ st''.ks → k ∉ chg → σ' k = σ k

/-- The states at a loop's head: always the same keys. -/
structure Head (okeys : List Nat) (ks : List Nat) (st : St) : Prop where
  ks : st.ks = ks
  own : ∀ k, k ∈ st.own.map (·.1) → k ∈ okeys

theorem loop_rule {P : Program} (hm : P.follows .mixedOrders = true) {N : Nat} {bk : List Nat} {b : SC} {env : Env} {own : Own} {ks : List Nat} {K : Out → Prop} (chg okeys ks0 : List Nat)
    (hchg : ∀ k, k ∈ chg → k ∈ bk ∧ (k ∈ own.map (·.1) ∨ k ∈ ks)) (hks0 : ∀ k, k ∈ ks0 → k ∈ ks) (hok : ∀ k, k ∈ okeys → k ∈ own.map (·.1) ∨ k ∈ ks)
    (I : Nat → St → Prop) (n : Nat) (st0 : St) (hw0 : Weak N chg ⟨env, own, ks⟩ st0) (h0 : I n st0)
    (hh : ∀ n st, I n st → Head okeys ks0 st)
    (step : ∀ n env own ks, I n ⟨env, own, ks⟩ → vc P N bk b env own ks fun o => match o with
      | .normal st => ∃ m st', m < n ∧ Weak N chg st st' ∧ I m st'
      | o => K o) : LoopI P N bk b env own ks K := by
  constructor
  intro r hr c hc B σb M w σ a hbk hle0 sim b k cs hro hbf hroom
  have hcn : ∀ q, q ∈ chg → σ q = none → q ∈ ks := by
    intro q hq h1
    rcases (hchg q hq).2 with h | h
    · obtain ⟨⟨q', b'⟩, hm', e⟩ := List.mem_map.1 h
      simp only at e
      subst e
      obtain ⟨x, hx⟩ := sim.heap.own.key hm'
      rw [h1] at hx
      cases hx
    · exact h
  have key : ∀ (n : Nat) (st : St) (M₁ : Nat → Prop) (w₁ : World) (σ₁ : Sg) (a₁ : Act), I n st → Sim N B M₁ w₁ σ₁ st a₁ → Kd σ own ks σ₁ st.own ks0 → σb.le σ₁ →
      ∃ e a' w', (∃ M' σ' st', Sim N B M' w' σ' st' a' ∧ Tr0 M₁ w₁ σ₁ st.own M' w' σ' st'.own ∧ Kd σ own ks σ' st'.own st'.ks ∧ σb.le σ' ∧ (match e with
        | .normal => K (.normal st')
        | .exit id => K (.exit id st')
        | .ret => K (.ret st')
        | _ => False)) ∧ ArrivesIn (Machine.fenced P (FR r)) P (lone (b.atR a₁ (.code c :: .inLoop c :: k)) cs w₁) b k cs e a' w' := by
    intro n
    induction n using Nat.strongRecOn with
    | _ n ih =>
      intro st M₁ w₁ σ₁ a₁ hI hs hkd hle
      obtain ⟨env₁, own₁, ks₁⟩ := st
      have hd := hh n _ hI
      have hks : ks₁ = ks0 := hd.ks
      subst hks
      have hb := vc_sound hm hbk r c _ _ env₁ own₁ ks₁ M₁ w₁ σ₁ a₁ hc hr (step n env₁ own₁ ks₁ hI) hs hle
      obtain ⟨e, a₂, w₂, hq, harr⟩ := hb b (.inLoop c :: k) cs hro hbf hroom
      obtain ⟨M₂, σ₂, st₂, s2, t2, q2, l2, k2⟩ := hq
      cases e with
      | normal =>
        obtain ⟨m, st₃, hlt, hweak, hI3⟩ := k2
        obtain ⟨M₃, σ₃, s3, t3, z3⟩ := hweak.out B M₂ w₂ σ₂ a₂ s2
        have hd3 := hh m _ hI3
        have hkd3 : Kd σ own ks σ₃ st₃.own ks₁ := by
          refine ⟨hks0, fun q h1 h2 => ?_, fun q hq => hok q (hd3.own q hq)⟩
          rw [z3 q (by rw [hd3.ks]; exact fun h => h2 (hks0 q h)) (fun hc => h2 (hcn q hc h1))]
          exact (hkd.trans q2).2.1 q h1 h2
        have hle3 : σb.le σ₃ := by
          intro q x hq
          rw [z3 q ?_ ?_]
          · exact l2 q x hq
          · rw [hd3.ks]
            intro hin
            have := hle0 q x hq
            rw [sim.heap.fresh q (hks0 q hin)] at this
            cases this
          · intro hin
            rw [hbk q (hchg q hin).1] at hq; cases hq
        obtain ⟨e', a', w', ⟨M', σ', st', r1, r2, r3, r3', r4⟩, harr'⟩ := ih m hlt st₃ M₃ w₂ σ₃ a₂ hI3 s3 hkd3 hle3
        exact ⟨e', a', w', ⟨M', σ', st', r1, (t2.trans t3).trans r2, r3, r3', r4⟩, .of_steps (StepsIn.trans harr (.one (fenced_calm hbf hroom rfl) stepR_inLoop)) harr'⟩
      | exit id => exact ⟨_, a₂, w₂, ⟨M₂, σ₂, st₂, s2, t2, hkd.trans q2, l2, k2⟩, .pass (x := .inLoop c) rfl (fun _ _ => .inl (by simp)) harr⟩
      | goto l => exact k2.elim
      | ret => exact ⟨_, a₂, w₂, ⟨M₂, σ₂, st₂, s2, t2, hkd.trans q2, l2, k2⟩, .pass (x := .inLoop c) rfl (fun _ _ => .inl (by simp)) harr⟩
      | panic ch => exact k2.elim
      | outgrown => exact k2.elim
  obtain ⟨M₀, σ₀, s0, t0, z0⟩ := hw0.out B M w σ a sim
  have hd0 := hh n _ h0
  have hkd0 : Kd σ own ks σ₀ st0.own ks0 := by
    refine ⟨hks0, fun q h1 h2 => ?_, fun q hq => hok q (hd0.own q hq)⟩
    rw [z0 q (by rw [hd0.ks]; exact fun h => h2 (hks0 q h)) (fun hc => h2 (hcn q hc h1))]
    exact h1
  have hle00 : σb.le σ₀ := by
    intro q x hq
    rw [z0 q ?_ ?_]
    · exact hle0 q x hq
    · rw [hd0.ks]
      intro hin
      have := hle0 q x hq
      rw [sim.heap.fresh q (hks0 q hin)] at this
      cases this
    · intro hin
      rw [hbk q (hchg q hin).1] at hq; cases hq
  obtain ⟨e, a', w', ⟨M', σ', st', r1, r2, r3, r3', r4⟩, harr⟩ := key n st0 M₀ w σ₀ a h0 s0 hkd0 hle00
  exact ⟨e, a', w', ⟨M', σ', st', r1, t0.trans r2, r3, r3', r4⟩, .of_steps (.one (fenced_calm hbf hroom rfl) stepR_loop) harr⟩

/-! ## a function -/

def envOf : Nat → List V → Env
  | _, [] => []
  | i, v :: r => (i, v) :: envOf (i + 1) r

theorem look_envOf : ∀ (vs : List V) (i t : Nat) (v : V), look (envOf i vs) t = some v → i ≤ t ∧ vs[t - i]? = some v
  | [], i, t, v, h => by simp [envOf, look] at h
  | x :: r, i, t, v, h => by
    unfold envOf look at h
    split at h
    · rename_i hb
      have := Nat.eq_of_beq_eq_true hb
      subst this
      simp at h; subst h
      simp
    · rename_i hb
      have hne : i ≠ t := fun e => by subst e; simp at hb
      obtain ⟨h1, h2⟩ := look_envOf r (i + 1) t v h
      refine ⟨by omega, ?_⟩
      rw [show t - i = (t - (i + 1)) + 1 by omega]
      simpa using h2

/-- the results of a function -/
inductive RV where
  | tmp (t : Nat)
  | cell (a : Nat) (sz : Option Nat)

def cRes (P : Program) : List ResultVar → Option (List RV)
  | [] => some []
  | .tmp t :: r => (cRes P r).map (.tmp t :: ·)
  | .cell a T :: r => match szAgg P T, cRes P r with
    | some z, some l => some (.cell a z :: l)
    | _, _ => none

def resK (env : Env) (own : Own) : List RV → (List V → Prop) → Prop
  | [], K => K []
  | .tmp t :: r, K => match look env t with
    | some v => resK env own r fun vs => K (v :: vs)
    | none => False
  | .cell a z :: r, K => match look env a with
    | some p => vloadR own z p fun v => resK env own r fun vs => K (v :: vs)
    | none => False

def tupK (vs : List V) (K : V → Prop) : Prop :=
  match vs with
  | [v] => K v
  | vs => K (.tup vs)

theorem loadAt_asAddr {P : Program} {T : TypeId} {q r : Value} {w : World} (h : (Instr.loadAt T q).run P w = .ok r w) : (do loadVar T (← asAddr q) : Sem Value).run P w = .ok r w := by
  cases q with
  | pointer a =>
    cases a with
    | none => cases h
    | some a => exact h
  | _ => cases h

def resFn (tmps : Array Value) : ResultVar → Sem Value
  | .tmp t => pure (tmps.getD t undef)
  | .cell a t => do loadVar t (← asAddr (tmps.getD a undef))

theorem results_eq (fn : Func) (tmps : Array Value) : results fn tmps = (do let vs ← fn.results.mapM (resFn tmps); pure (if h : vs.size = 1 then vs[0] else .tuple vs)) := by
  have : (fun r : ResultVar => match r with | .tmp t => (pure (tmps.getD t undef) : Sem Value) | .cell a t => do loadVar t (← asAddr (tmps.getD a undef))) = resFn tmps := by
    funext r; cases r <;> rfl
  unfold results
  rw [← this]
  rfl

theorem resK_sound {P : Program} {env : Env} {own : Own} : ∀ (rs : List ResultVar) (l : List RV) (K : List V → Prop), cRes P rs = some l → resK env own l K →
    ∃ vs, K vs ∧ ∀ M w σ (a : Act), EnvSim M w σ env a → OwnSim M w σ own →
      ∃ us : List Value, vs.length = us.length ∧ us.length = rs.length ∧ (∀ (i : Nat) (v : V) (u : Value), vs[i]? = some v → us[i]? = some u → Den M w σ v u) ∧
        (rs.mapM (resFn a.tmps)).run P w = .ok us w
  | [], l, K, hc, h => by
    simp [cRes] at hc
    subst hc
    exact ⟨[], h, fun M w σ a _ _ => ⟨[], rfl, rfl, by simp, rfl⟩⟩
  | .tmp t :: rs, l, K, hc, h => by
    simp only [cRes, Option.map_eq_some_iff] at hc
    obtain ⟨l', h1, rfl⟩ := hc
    simp only [resK] at h
    split at h
    · rename_i v hv
      obtain ⟨vs, hK, hvs⟩ := resK_sound rs l' _ h1 h
      refine ⟨_, hK, fun M w σ a he ho => ?_⟩
      obtain ⟨us, u1, u1', u2, u3⟩ := hvs M w σ a he ho
      refine ⟨a.tmps.getD t undef :: us, by simp [u1], by simp [u1'], ?_, ?_⟩
      · intro i v' u' hv' hu'
        cases i with
        | zero => simp at hv' hu'; subst hv' hu'; simpa using he t v hv
        | succ i => exact u2 i v' u' (by simpa using hv') (by simpa using hu')
      · rw [List.mapM_cons]
        simp only [Sem.run_bind, resFn, Sem.run_pure, Result.andThen_ok, u3]
    · exact h.elim
  | .cell x T :: rs, l, K, hc, h => by
    simp only [cRes] at hc
    split at hc <;> simp only [Option.some.injEq, reduceCtorEq] at hc
    rename_i z l' hz h1
    subst hc
    simp only [resK] at h
    split at h
    · rename_i p hp
      obtain ⟨v, h, hf⟩ := vloadR_sound hz h
      obtain ⟨vs, hK, hvs⟩ := resK_sound rs l' _ h1 h
      refine ⟨_, hK, fun M w σ a he ho => ?_⟩
      obtain ⟨us, u1, u1', u2, u3⟩ := hvs M w σ a he ho
      have hd := he x p hp
      obtain ⟨r, r1, r2⟩ := hf M w σ _ hd (fun k b _ hk => ho.blk k b (look_mem hk))
      have hr : (resFn a.tmps (.cell x T)).run P w = .ok r w := loadAt_asAddr r1
      refine ⟨r :: us, by simp [u1], by simp [u1'], ?_, ?_⟩
      · intro i v' u' hv' hu'
        cases i with
        | zero => simp at hv' hu'; subst hv' hu'; exact r2
        | succ i => exact u2 i v' u' (by simpa using hv') (by simpa using hu')
      · rw [List.mapM_cons]
        simp only [Sem.run_bind, hr, Sem.run_pure, Result.andThen_ok, u3]
    · exact h.elim

/-- the marks are taken up: no call waits behind them -/
theorem leave_marks {P : Program} {fn : Func} {tmps : Array Value} {R : Ending → World → Prop} {B : Nat} {σ : Sg} {own : Own} {ks : List Nat} {M : Nat → Prop} : ∀ (ds : List Deferred) (w : World), Good B M w σ own ds → HSim M w σ own ks →
    (∀ w', HSim M w' σ own ks → Ext M w M w' → w'.os = w.os → w'.tape = w.tape → w'.output = w.output → w'.heap.size = w.heap.size → (∀ b, b < B → w'.heap[b]? = w.heap[b]?) → (∀ b, owned w σ own b → w'.heap[b]? = w.heap[b]?) → ∃ v, (results fn tmps).run P w' = .ok v w' ∧ R (.returned v) w') →
    LeavesInM (FR none) 0 P fn tmps R ds .returning w
  | [], w, _, hh, h => h w hh ⟨fun _ _ h => ⟨h, rfl⟩, Nat.le_refl _⟩ rfl rfl rfl rfl (fun _ _ => rfl) (fun _ _ => rfl)
  | d :: ds, w, hg, hh, h => by
    obtain ⟨D, rfl, h1, h2, h3, h4⟩ := hg.mark d (by simp)
    refine ⟨by simp, .inl ⟨D, _, rfl, run_takeDeferred h2, ?_⟩⟩
    have hnd := List.nodup_cons.1 hg.nodup
    have hE : Ext M w M (w.putObj D (.deferred none)) := ⟨fun b hb hM => ⟨hM, World.putObj_heap_other fun e => hM (e ▸ h4)⟩, by simp⟩
    have hsame : ∀ b, owned w σ own b → (w.putObj D (.deferred none)).heap[b]? = w.heap[b]? := fun b hb => World.putObj_heap_other fun e => h3 (e ▸ hb)
    have keep : ∀ k b n, (k, b) ∈ own → (holds (w.putObj D (.deferred none)) σ k b n ↔ holds w σ k b n) := fun k b n hm => holds_same (Sg.le_refl _) (hh.own.key hm) fun ob hob => hsame ob ⟨k, b, hm, .inl hob⟩
    have hown : ∀ n, owned (w.putObj D (.deferred none)) σ own n ↔ owned w σ own n := fun n => owned_le hh.own (Sg.le_refl _) hsame
    have hh' : HSim M (w.putObj D (.deferred none)) σ own ks :=
      ⟨⟨fun k b hm => (hh.own.blk k b hm).mono hE (Sg.le_refl _) fun n hn => ⟨(owned_M hh.own ⟨k, b, hm, hn⟩).1, World.putObj_heap_other fun e => h3 (e ▸ ⟨k, b, hm, hn⟩)⟩, hh.own.nodup, fun k b k' b' n m1 m2 hne e1 e2 => hh.own.apart k b k' b' n m1 m2 hne ((keep k b n m1).1 e1) ((keep k' b' n m2).1 e2)⟩, hh.fresh, hh.knodup⟩
    refine leave_marks ds _ ⟨by simpa using hg.base, fun d' hd' => ?_, hnd.2⟩ hh' fun w' a1 a2 a3 a4 a5 a6 a7 a8 => ?_
    · obtain ⟨D', e, q1, q2, q3, q4⟩ := hg.mark d' (by simp [hd'])
      refine ⟨D', e, q1, ?_, fun x => q3 ((hown D').1 x), q4⟩
      rw [World.putObj_heap_other fun e' => hnd.1 (by rw [e, e'] at hd'; exact hd')]
      exact q2
    · refine h w' a1 ⟨fun b hb hM => ?_, by have := a2.size; simp at this; exact this⟩ a3 a4 a5 (by simpa using a6) (fun b hb => ?_) (fun b hb => (a8 b ((hown b).2 hb)).trans (hsame b hb))
      · obtain ⟨x1, x2⟩ := a2.keep b (by simpa using hb) hM
        exact ⟨x1, x2.trans (hE.keep b hb hM).2⟩
      · rw [a7 b hb]
        exact World.putObj_heap_other (by omega)

theorem call_rule {P : Program} (hm : P.follows .mixedOrders = true) {f : FuncId} {fn : Func} {c : Code} {sc : SC} {rs : List RV} (hf : P.funcs[f]? = some fn) (hb : fn.body = some c) (hc : cCode P fn.ntmps c = some sc)
    (hr : cRes P fn.results.toList = some rs) {args : List V} {own : Own} {ks : List Nat} {K : V → Own → List Nat → Prop} (hl : args.length ≤ fn.ntmps)
    (h : vc P fn.ntmps ks sc (envOf 0 args) own ks fun o => match o with
      | .normal ⟨env, own, ks⟩ => resK env own rs fun vs => tupK vs fun v => K v own ks
      | .ret ⟨env, own, ks⟩ => resK env own rs fun vs => tupK vs fun v => K v own ks
      | .exit _ _ => False) : CallF P f args own ks K := by
  constructor
  intro M w σ us hlen hd hh
  refine callsIn_wide.1 (callsIn_of_wp_marks (F := Fence.wide) (n := 0) hf hb trivial ?_)
  have sim : Sim fn.ntmps w.heap.size M w σ ⟨envOf 0 args, own, ks⟩ { tmps := us.toArray ++ Array.replicate (fn.ntmps - us.toArray.size) undef, defers := [] } := by
    refine ⟨?_, hh, by simp; omega, .nil (Nat.le_refl _)⟩
    intro t v hv
    obtain ⟨_, h2⟩ := look_envOf args 0 t v hv
    simp only [Nat.sub_zero] at h2
    have hlt : t < us.length := by rw [← hlen]; exact (List.getElem?_eq_some_iff.1 h2).1
    have hg : (us.toArray ++ Array.replicate (fn.ntmps - us.toArray.size) undef).getD t undef = us[t] := by
      rw [Array.getD_eq_getD_getElem?, Array.getElem?_append_left (by simpa using hlt)]
      simp [hlt]
    rw [hg]
    exact hd t v _ h2 (by simp [hlt])
  refine wpIn_mono (vc_sound hm (σb := σ) hh.fresh none c sc _ _ own ks M w σ _ hc (.inl rfl) h sim (Sg.le_refl _)) ?_
  intro e a' w' hx
  obtain ⟨M', σ', ⟨env', own', ks'⟩, s1, t1, q1, l1, k1⟩ := hx
  have fin : (resK env' own' rs fun vs => tupK vs fun v => K v own' ks') → LeavesInM (FR none) 0 P fn a'.tmps (fun e w' => ∃ M' σ' v' own' ks' u, e = Ending.returned u ∧ Den M' w' σ' v' u ∧ HSim M' w' σ' own' ks' ∧ Tr M w σ own M' w' σ' own' ∧ Kd σ own ks σ' own' ks' ∧ K v' own' ks') a'.defers .returning w' := by
    intro hk
    refine leave_marks a'.defers w' s1.defers s1.heap fun w'' hh'' hE os tape output hsz hlow hkeep => ?_
    have henv : EnvSim M' w'' σ' env' a' := s1.env.mono hE (Sg.le_refl _)
    obtain ⟨vs, hK, hvs⟩ := resK_sound _ _ _ hr hk
    obtain ⟨us', u1, u1', u2, u3⟩ := hvs M' w'' σ' a' henv hh''.own
    have hres : (results fn a'.tmps).run P w'' = .ok (if h : us'.toArray.size = 1 then us'.toArray[0] else .tuple us'.toArray) w'' := by
      rw [results_eq, Array.mapM_eq_mapM_toList, map_eq_pure_bind]
      simp only [Sem.run_bind, u3, Result.andThen_ok, Sem.run_pure]
    have tr : Tr M w σ own M' w'' σ' own' := ⟨⟨os.trans t1.adv.os, tape.trans t1.adv.tape, output.trans t1.adv.output, by have := t1.adv.size; omega, fun b hb hn => (hlow b hb).trans (t1.adv.same b hb hn), fun b hb hn => t1.adv.muts b hb hn⟩, fun b hb => t1.new b ((owned_le s1.heap.own (Sg.le_refl _) hkeep).1 hb), l1⟩
    refine ⟨_, hres, M', σ', ?_⟩
    match vs, us', u1, u2, hK with
    | [v], [u], _, u2, hK => exact ⟨v, own', ks', u, by simp, u2 0 v u (by simp) (by simp), hh'', tr, q1, hK⟩
    | [], [], _, u2, hK => exact ⟨.tup [], own', ks', .tuple #[], by simp, .tup _ [] [] rfl (by simp), hh'', tr, q1, hK⟩
    | v1 :: v2 :: vr, u1 :: u2' :: ur, hl, u2, hK => exact ⟨.tup (v1 :: v2 :: vr), own', ks', .tuple (u1 :: u2' :: ur).toArray, by simp, .tup _ _ _ hl u2, hh'', tr, q1, hK⟩
  cases e with
  | normal => exact fin k1
  | ret => exact fin k1
  | _ => exact k1.elim

end Go.Eng
