/-
  Closed states are run, part D: operations.
-/
import Derived.Test.YtcnpplcfabdoaaaGreatEvC
namespace Go.Eng

noncomputable def mkR (c : Option C) (own : COwn) (ks : Nat) : Option R := match c with
  | some v => some ⟨v, own, ks⟩
  | none => none
theorem mkR_ok {c : Option C} {own : COwn} {ks : Nat} {r : R} (h : mkR c own ks = some r) : c = some r.v ∧ r.o = own ∧ r.k = ks := by
  unfold mkR at h
  split at h
  · cases h; exact ⟨rfl, rfl, rfl⟩
  · cases h

noncomputable def cfill (env : CEnv) : List (Nat × Nat × X) → List C → Option (List C)
  | [], zs => some zs
  | (off, size, x) :: r, zs => match gx x env with
    | some v => match cellsN size v with
      | some vs => match Nat.ble (off + size) (ln zs) with
        | true => stC zs off vs fun zs' => cfill env r zs'
        | false => none
      | none => none
    | none => none
theorem cfill_ok {env : CEnv} : ∀ {ps : List (Nat × Nat × X)} {zs out : List C} {K : List V → Prop}, cfill env ps zs = some out → K (C.vs out) → fillK (envV env) ps (C.vs zs) K
  | [], zs, out, K, h, hK => by simp only [cfill, Option.some.injEq] at h; subst h; simpa [fillK] using hK
  | (off, size, x) :: r, zs, out, K, h, hK => by
    simp only [cfill] at h
    split at h
    · rename_i v hv
      split at h
      · rename_i vs hvs
        split at h
        · rename_i hle
          obtain ⟨a1, a2, a3, a4⟩ := cellsN_ok hvs
          obtain ⟨zs', b1, b2, b3, b4, b5⟩ := stC_ok _ _ _ _ _ h
          simp only [fillK]
          refine gx_ok hv (cellsC_ok a1 ?_)
          rw [ln_eq] at hle
          have hle' : Nat.ble (off + size) (C.vs zs).length = true := by rw [C.vs_length]; exact hle
          simp only [a3, a4, hle']
          rw [C.vs_map, C.vs_map]
          refine b5 C.v _ ?_
          have := cfill_ok b1 hK
          rwa [C.vs_map] at this
        · cases h
      · cases h
    · cases h

noncomputable def crows (s : Nat) : List C → Option (List (List C))
  | [] => some []
  | v :: r => match cellsN s v with
    | some vs => match allC kf1C vs with
      | true => match crows s r with
        | some l => some (vs :: l)
        | none => none
      | false => none
    | none => none
theorem crows_ok {s : Nat} : ∀ {l : List C} {rs : List (List C)} {K : List (List V) → Prop}, crows s l = some rs → K (C.vss rs) → rowsK s (C.vs l) K
  | [], rs, K, h, hK => by simp only [crows, Option.some.injEq] at h; subst h; simpa [rowsK, C.vs, C.vss] using hK
  | v :: r, rs, K, h, hK => by
    simp only [crows] at h
    split at h
    · rename_i vs hvs
      split at h
      · rename_i hkf
        split at h
        · rename_i l hl
          cases h
          obtain ⟨a1, a2, a3, a4⟩ := cellsN_ok hvs
          simp only [C.vs, rowsK]
          refine cellsC_ok a1 ?_
          have hkf' : allB V.kf1 (C.vs vs) = true := by rw [allB_vs kf1C_eq]; exact hkf
          simp only [a3, a4, hkf']
          exact crows_ok hl (by simpa [C.vss] using hK)
        · cases h
      · cases h
    · cases h
noncomputable def cflat (s : Nat) : List C → Option (List C)
  | [] => some []
  | v :: r => match cellsN s v with
    | some vs => match cflat s r with
      | some l => apK s vs l some
      | none => none
    | none => none
theorem cflat_ok {s : Nat} : ∀ {l rs : List C} {K : List V → Prop}, cflat s l = some rs → K (C.vs rs) → flatK s (C.vs l) K
  | [], rs, K, h, hK => by simp only [cflat, Option.some.injEq] at h; subst h; simpa [flatK, C.vs] using hK
  | v :: r, rs, K, h, hK => by
    simp only [cflat] at h
    split at h
    · rename_i vs hvs
      split at h
      · rename_i l hl
        obtain ⟨a1, a2, a3, a4⟩ := cellsN_ok hvs
        rw [apK_eq, if_pos (by omega), ← a2, List.take_length] at h
        cases h
        simp only [C.vs, flatK]
        refine cellsC_ok a1 ?_
        simp only [a3, a4]
        refine cflat_ok hl ?_
        simpa [C.vs_map] using hK
      · cases h
    · cases h

/-- many times the same -/
noncomputable def repl {α : Type} (n : Nat) (x : α) : List α := @Nat.rec (fun _ => List α) [] (fun _ ih => x :: ih) n
theorem repl_eq {α : Type} (n : Nat) (x : α) : repl n x = List.replicate n x := by
  induction n with
  | zero => rfl
  | succ n ih => show x :: repl n x = _; rw [ih]; rfl
/-- a list, laid out -/
noncomputable def fL {α β : Type} (l : List α) : (List α → β) → β := @List.rec α (fun _ => (List α → β) → β) (fun K => K []) (fun x _ ih K => ih fun r => K (x :: r)) l
theorem fL_eq {α β : Type} : ∀ (l : List α) (K : List α → β), fL l K = K l
  | [], _ => rfl
  | x :: r, K => fL_eq r fun r => K (x :: r)

noncomputable def mfI (es : List (Int × C)) (a : Int) : Option C := @List.rec (Int × C) (fun _ => Option C) none (fun p _ ih => match ieq p.1 a with | true => some p.2 | false => ih) es
theorem mfI_ok {ik : IntKind} : ∀ (es : List (Int × C)) (a : Int), mfind (α := KyT (.one ik)) (es.map fun p => (p.1, p.2.v)) a = (mfI es a).map C.v
  | [], a => rfl
  | (q, c) :: r, a => by
    have ih := mfI_ok (ik := ik) r a
    have e : mfI ((q, c) :: r) a = match ieq q a with | true => some c | false => mfI r a := rfl
    rw [e]
    simp only [List.map_cons, mfind, ih]
    have := ieq_eq q a
    by_cases h : q = a
    · rw [if_pos h]; subst h; simp [this]
    · rw [if_neg h]
      have : ieq q a = false := by rw [this]; simpa using h
      rw [this]
noncomputable def mpI (es : List (Int × C)) (a : Int) (v : C) : List (Int × C) := @List.rec (Int × C) (fun _ => List (Int × C)) [(a, v)] (fun p r ih => match ieq p.1 a with | true => (p.1, v) :: r | false => p :: ih) es
theorem mpI_ok {ik : IntKind} : ∀ (es : List (Int × C)) (a : Int) (v : C), mput (α := KyT (.one ik)) (es.map fun p => (p.1, p.2.v)) a v.v = (mpI es a v).map fun p => (p.1, p.2.v)
  | [], a, v => rfl
  | (q, c) :: r, a, v => by
    have ih := mpI_ok (ik := ik) r a v
    have e : mpI ((q, c) :: r) a v = match ieq q a with | true => (q, v) :: r | false => (q, c) :: mpI r a v := rfl
    rw [e]
    simp only [List.map_cons, mput, ih]
    have := ieq_eq q a
    by_cases h : q = a
    · rw [if_pos h]; subst h; simp [this]
    · rw [if_neg h]
      have : ieq q a = false := by rw [this]; simpa using h
      rw [this]; simp
noncomputable def mfS (es : List ((Nat × Nat) × C)) (l d : Nat) : Option C := @List.rec ((Nat × Nat) × C) (fun _ => Option C) none (fun p _ ih => match eqS p.1.1 p.1.2 l d with | true => some p.2 | false => ih) es
theorem eqS_iff {l c l' c' : Nat} : eqS l c l' c' = true ↔ bytesOf l c = bytesOf l' c' := by rw [eqS_eq]; exact Go.MapKept.bytes_beq _ _
theorem mfS_ok : ∀ (es : List ((Nat × Nat) × C)) (l d : Nat), mfind (α := KyT .str) (es.map fun p => (bytesOf p.1.1 p.1.2, p.2.v)) (bytesOf l d) = (mfS es l d).map C.v
  | [], l, d => rfl
  | ((q1, q2), c) :: r, l, d => by
    have ih := mfS_ok r l d
    have e : mfS (((q1, q2), c) :: r) l d = match eqS q1 q2 l d with | true => some c | false => mfS r l d := rfl
    rw [e]
    simp only [List.map_cons, mfind, ih]
    by_cases h : bytesOf q1 q2 = bytesOf l d
    · rw [if_pos h, eqS_iff.2 h]; rfl
    · rw [if_neg h]
      have : eqS q1 q2 l d = false := by rw [← Bool.not_eq_true]; exact fun e => h (eqS_iff.1 e)
      rw [this]
noncomputable def mpS (es : List ((Nat × Nat) × C)) (l d : Nat) (v : C) : List ((Nat × Nat) × C) := @List.rec ((Nat × Nat) × C) (fun _ => List ((Nat × Nat) × C)) [((l, d), v)] (fun p r ih => match eqS p.1.1 p.1.2 l d with | true => (p.1, v) :: r | false => p :: ih) es
theorem mpS_ok : ∀ (es : List ((Nat × Nat) × C)) (l d : Nat) (v : C), mput (α := KyT .str) (es.map fun p => (bytesOf p.1.1 p.1.2, p.2.v)) (bytesOf l d) v.v = (mpS es l d v).map fun p => (bytesOf p.1.1 p.1.2, p.2.v)
  | [], l, d, v => rfl
  | ((q1, q2), c) :: r, l, d, v => by
    have ih := mpS_ok r l d v
    have e : mpS (((q1, q2), c) :: r) l d v = match eqS q1 q2 l d with | true => ((q1, q2), v) :: r | false => ((q1, q2), c) :: mpS r l d v := rfl
    rw [e]
    simp only [List.map_cons, mput, ih]
    by_cases h : bytesOf q1 q2 = bytesOf l d
    · rw [if_pos h, eqS_iff.2 h]; rfl
    · rw [if_neg h]
      have : eqS q1 q2 l d = false := by rw [← Bool.not_eq_true]; exact fun e => h (eqS_iff.1 e)
      rw [this]; rfl

/-- what is read of a map -/
noncomputable def getC (z : V) (comma : Bool) (own : COwn) (ks : Nat) (o : Option C) : Option R :=
  match o with
  | some v => match comma with | true => some ⟨.tup [v, .bool true], own, ks⟩ | false => some ⟨v, own, ks⟩
  | none => match ofV z with
    | some c => match comma with | true => some ⟨.tup [c, .bool false], own, ks⟩ | false => some ⟨c, own, ks⟩
    | none => none
def getA (comma : Bool) (b : Bool) (K : V → Prop) (v : V) : Prop := match comma with | true => K (.tup [v, .bool b]) | false => K v
theorem getC_ok {z : V} {comma : Bool} {own : COwn} {ks : Nat} {o : Option C} {r : R} {K : V → Own → List Nat → Prop} (h : getC z comma own ks o = some r) (hK : K r.v.v (ownV r.o) (ksV r.k)) {o' : Option V} (ho : o' = o.map C.v) :
    MGet o' (getA comma true fun v => K v (ownV own) (ksV ks)) (getA comma false (fun v => K v (ownV own) (ksV ks)) z) := by
  subst ho
  cases o with
  | some v =>
    refine ⟨fun v' hv => ?_, fun e => (by cases e)⟩
    cases hv
    cases comma <;> (simp only [getC, Option.some.injEq] at h; subst h; simpa [C.v, C.vs, getA] using hK)
  | none =>
    refine ⟨fun v' hv => (by cases hv), fun _ => ?_⟩
    simp only [getC] at h
    split at h
    · rename_i c hc
      have := ofV_ok z hc
      subst this
      cases comma <;> (simp only [Option.some.injEq] at h; subst h; simpa [C.v, C.vs, getA] using hK)
    · cases h

noncomputable def cxop (o : XOp) (env : CEnv) (own : COwn) (ks : Nat) : Option R :=
  match o with
  | .mks s bytes zs x => match gx x env with
    | some (.int _ (.ofNat m)) => match Nat.ble m 4611686018427387904 with
      | true => match Nat.ble (m * bytes) 140737488355328 with
        | true => match ofVs zs with
          | some zc => frC ks fun k ks => match s with
            | 1 => match zc with
              | [.nilslice] => fL (repl m C.nilslice) fun l => some ⟨.vec k 1 0 m, (k, .cells l) :: own, ks⟩
              | zc => fL (repl m zc) fun l => fL (List.append zc [.bool false]) fun z => some ⟨.vec k 1 0 m, (k, .vec m 1 z l) :: own, ks⟩
            | s => fL (repl m zc) fun l => fL (List.append zc [.bool false]) fun z => some ⟨.vec k s 0 m, (k, .vec m s z l) :: own, ks⟩
          | none => none
        | false => none
      | false => none
    | _ => none
  | .mkmap ik => match ik with
    | .one ik => frC ks fun k ks => some ⟨.map k, (k, .map ik []) :: own, ks⟩
    | .str => frC ks fun k ks => some ⟨.map k, (k, .mapS []) :: own, ks⟩
    | .pair _ => none
  | .mget ik z comma m x => match gx m env with
    | some (.map k) => match gx x env with
      | some x => match lk own k with
        | some (.map ik' es) => match ik with
          | .one i => match kEq ik' i with
            | true => match x with
              | .int i' a => match kEq i' ik' with
                | true => getC z comma own ks (mfI es a)
                | false => none
              | _ => none
            | false => none
          | _ => none
        | some (.mapS es) => match ik with
          | .str => match x with
            | .str l d => getC z comma own ks (mfS es l d)
            | _ => none
          | _ => none
        | _ => none
      | none => none
    | _ => none
  | .mput ik m x y => match gx m env with
    | some (.map k) => match gx x env with
      | some x => match gx y env with
        | some y => match kf2C y with
          | true => match lk own k with
            | some (.map ik' es) => match ik with
              | .one i => match kEq ik' i with
                | true => match x with
                  | .int i' a => match kEq i' ik' with
                    | true => fL (mpI es a y) fun es' => upC k (.map ik' es') own fun own' => some ⟨.unit, own', ks⟩
                    | false => none
                  | _ => none
                | false => none
              | _ => none
            | some (.mapS es) => match ik with
              | .str => match x with
                | .str l d => fL (mpS es l d y) fun es' => upC k (.mapS es') own fun own' => some ⟨.unit, own', ks⟩
                | _ => none
              | _ => none
            | _ => none
          | false => none
        | none => none
      | none => none
    | _ => none
  | .asl n s x hi => match gx x env with
    | some (.oel k s' i j) => match i with
      | 0 => match j with
        | 0 => match lk own k with
          | some (.vec n' s'' z rows) => match Nat.beq s s' with
            | true => match Nat.beq s s'' with
              | true => match Nat.ble n n' with
                | true => match cbd hi env n n with
                  | some h => fOwn (dropC [k] own) fun own' => some ⟨.fz h s false z rows, own', ks⟩
                  | none => none
                | false => none
              | false => none
            | false => none
          | _ => none
        | _ => none
      | _ => none
    | _ => none
  | _ => none

theorem lastV_app (l : List V) (v : V) : lastV (l ++ [v]) = v := by
  induction l with
  | nil => rfl
  | cons x r ih =>
    cases r with
    | nil => rfl
    | cons y r => simpa [lastV] using ih
theorem mks_tabz (z : List C) (m : Nat) : (fun (_ : Nat) j => (C.vs z).getD j default) = tabz (C.vs (z.append [.bool false])) (C.vss (List.replicate m z)) := by
  funext i j
  have e : C.vs (z.append [.bool false]) = C.vs z ++ [default] := by rw [C.vs_map, C.vs_map]; simp [C.v]; rfl
  simp only [tabz, e, lastV_app]
  simp only [List.getD_eq_getElem?_getD, C.vss_get, List.getElem?_replicate]
  by_cases h : i < m
  · simp [h]
  · simp only [h, if_false, Option.map_none, Option.getD_none]
    by_cases h2 : j < (C.vs z).length
    · rw [List.getElem?_append_left h2]
    · rw [List.getElem?_append_right (by omega), List.getElem?_eq_none (by omega)]
      cases j - (C.vs z).length <;> simp

theorem cxop_ok {o : XOp} {env : CEnv} {own : COwn} {ks : Nat} {r : R} {K : V → Own → List Nat → Prop} (h : cxop o env own ks = some r) (hK : K r.v.v (ownV r.o) (ksV r.k)) : vxop o (envV env) (ownV own) (ksV ks) K := by
  cases o with
  | mks s bytes zs x =>
    simp only [cxop] at h
    split at h
    case h_2 => cases h
    rename_i k m hx
    split at h
    case h_2 => cases h
    rename_i h1
    split at h
    case h_2 => cases h
    rename_i h2
    split at h
    case h_2 => cases h
    rename_i zc hz
    have hzs := ofVs_ok zs hz
    subst hzs
    simp only [vxop]
    refine gx_ok hx ?_
    simp only [C.v]
    refine ⟨m, rfl, Nat.le_of_ble_eq_true h1, Nat.le_of_ble_eq_true h2, ?_⟩
    obtain ⟨h, b1⟩ := frC_ok h
    refine b1 _ ?_
    unfold mksK
    split
    · split at h
      · split at h
        · rename_i hs _ _
          rw [fL_eq, repl_eq] at h
          cases h
          refine .cells ?_
          have e1 : (C.vs [C.nilslice]).getD 0 default = .nilslice := by simp [C.vs, C.v]
          rw [e1]
          have e2 : C.vs (List.replicate m C.nilslice) = List.replicate m .nilslice := by rw [C.vs_map, List.map_replicate]; simp [C.v]
          simp only [C.v, ownV, List.map_cons, CB.b, e2] at hK
          exact hK
        · rw [fL_eq, repl_eq, fL_eq] at h
          cases h
          refine .vec ?_
          rw [mks_tabz zc m]
          simpa [C.v, ownV, CB.b] using hK
      · rename_i hne
        exact (hne rfl).elim
    · rename_i hne
      split at h
      · exact (hne rfl).elim
      · rw [fL_eq, repl_eq, fL_eq] at h
        cases h
        rw [mks_tabz zc m]
        simpa [C.v, ownV, CB.b] using hK
  | mkmap ik =>
    simp only [cxop] at h
    split at h
    · obtain ⟨h, b1⟩ := frC_ok h
      cases h
      simp only [vxop]
      exact b1 _ (by simpa [C.v, ownV, CB.b] using hK)
    · obtain ⟨h, b1⟩ := frC_ok h
      cases h
      simp only [vxop]
      exact b1 _ (by simpa [C.v, ownV, CB.b] using hK)
    · cases h
  | mget ik z comma m x =>
    simp only [cxop] at h
    split at h
    case h_2 => cases h
    rename_i k hm
    split at h
    case h_2 => cases h
    rename_i x' hx
    simp only [vxop]
    refine gx_ok hm (gx_ok hx ?_)
    split at h
    · rename_i ik' es hl
      split at h
      · rename_i i
        split at h
        · rename_i hk
          have := kEq_ok hk
          subst this
          split at h
          · rename_i i' a
            split at h
            · rename_i hk2
              have := kEq_ok hk2
              subst this
              simp only [C.v, mapK, look_ownV hl, CB.b, decide_true, pairK]
              have := getC_ok h hK (mfI_ok (ik := i') es a)
              cases comma <;> exact this
            · cases h
          · cases h
        · cases h
      · cases h
    · rename_i es hl
      split at h
      · split at h
        · rename_i l d
          simp only [C.v, mapK, look_ownV hl, CB.b, decide_true, pairK]
          have := getC_ok h hK (mfS_ok es l d)
          cases comma <;> exact this
        · cases h
      · cases h
    · cases h
  | mput ik m x y =>
    simp only [cxop] at h
    split at h
    case h_2 => cases h
    rename_i k hm
    split at h
    case h_2 => cases h
    rename_i x' hx
    split at h
    case h_2 => cases h
    rename_i y' hy
    split at h
    case h_2 => cases h
    rename_i hkf
    have hkf' : y'.v.kf2 = true := by rw [kf2C_eq]; exact hkf
    simp only [vxop]
    refine gx_ok hm (gx_ok hx (gx_ok hy ?_))
    split at h
    · rename_i ik' es hl
      split at h
      · rename_i i
        split at h
        · rename_i hk
          have := kEq_ok hk
          subst this
          split at h
          · rename_i i' a
            split at h
            · rename_i hk2
              have := kEq_ok hk2
              subst this
              rw [fL_eq] at h
              obtain ⟨o', c1, c2⟩ := upC_ok h
              cases c1
              simp only [C.v, mapK, look_ownV hl, CB.b, decide_true, pairK, hkf']
              have := c2 (fun own => K (.raw (.tuple #[])) own (ksV ks)) (by simpa [C.v] using hK)
              simp only [CB.b] at this
              have e := mpI_ok (ik := i') es a y'
              rw [e]
              exact this
            · cases h
          · cases h
        · cases h
      · cases h
    · rename_i es hl
      split at h
      · split at h
        · rename_i l d
          rw [fL_eq] at h
          obtain ⟨o', c1, c2⟩ := upC_ok h
          cases c1
          simp only [C.v, mapK, look_ownV hl, CB.b, decide_true, pairK, hkf']
          have := c2 (fun own => K (.raw (.tuple #[])) own (ksV ks)) (by simpa [C.v] using hK)
          simp only [CB.b] at this
          have e := mpS_ok es l d y'
          rw [e]
          exact this
        · cases h
      · cases h
    · cases h
  | mrng x => cases h
  | mnxt x => cases h
  | ment x => cases h
  | gix g n s x => cases h
  | asl n s x hi =>
    simp only [cxop] at h
    split at h
    case h_2 => cases h
    rename_i k s' i j hx
    split at h
    case h_2 => cases h
    split at h
    case h_2 => cases h
    split at h
    case h_2 => cases h
    rename_i n' s'' z rows hl
    split at h
    case h_2 => cases h
    rename_i h1
    split at h
    case h_2 => cases h
    rename_i h2
    split at h
    case h_2 => cases h
    rename_i h3
    split at h
    case h_2 => cases h
    rename_i m hm
    rw [fOwn_eq] at h
    cases h
    simp only [vxop]
    refine gx_ok hx ?_
    simp only [C.v, look_ownV hl, CB.b, h1, h2, h3]
    refine cbd_ok hm ?_
    rw [dropC_eq]
    simpa [C.v] using hK

/-! ## an operation -/

def unitC : C → Bool
  | .unit => false
  | _ => true
noncomputable def litRC : C → Bool
  | .tup vs => allC unitC vs
  | v => unitC v
theorem litK_ok {c : C} {K : V → Prop} (h : unitC c = true) (hK : K c.v) : litK c.v K := by
  cases c <;> simp only [unitC, reduceCtorEq] at h <;> simp only [C.v] at hK <;> simp only [C.v, litK] <;> first | exact hK | exact cmp_ok hK
theorem litL_ok : ∀ {l : List C} {K : List V → Prop}, allC unitC l = true → K (C.vs l) → litL (C.vs l) K
  | [], K, _, hK => by simpa [litL, C.vs] using hK
  | c :: r, K, h, hK => by
    rw [allC_cons, Bool.and_eq_true] at h
    simp only [C.vs, litL]
    exact litK_ok h.1 (litL_ok h.2 (by simpa [C.vs] using hK))
theorem litR_ok {c : C} {K : V → Prop} (h : litRC c = true) (hK : K c.v) : litR c.v K := by
  by_cases ht : ∃ vs, c = .tup vs
  · obtain ⟨vs, rfl⟩ := ht
    simp only [C.v, litR]; exact litL_ok h (by simpa [C.v] using hK)
  · have hu : unitC c = true := by
      cases c <;> first | exact h | exact (ht ⟨_, rfl⟩).elim
    have := litK_ok hu hK
    cases c <;> first | exact (ht ⟨_, rfl⟩).elim | (simp only [C.v] at this ⊢; simp only [litR]; exact this)

abbrev CallT := FuncId → List C → COwn → Nat → Option R
structure CallOk (P : Program) (call : CallT) : Prop where
  out : ∀ f args own ks r, call f args own ks = some r → callable P f = true ∧ ∀ K : V → Own → List Nat → Prop, K r.v.v (ownV r.o) (ksV r.k) → CallF P f (C.vs args) (ownV own) (ksV ks) K

noncomputable def docall (call : CallT) (f : FuncId) (args : List C) (own : COwn) (ks : Nat) : Option R := match call f args own ks with
  | some r => match litRC r.v with | true => some r | false => none
  | none => none

noncomputable def o_p (b : Bool) (o : POp) (env : CEnv) (own : COwn) (ks : Nat) : Option R := match o with
    | .slc s x lo hi mx same => match mx with
      | none => mkR (cslc (match b with | true => own | false => []) s x lo hi env) own ks
      | some mx => match hi with
        | some hi => mkR (cslc3 s x lo hi mx same env) own ks
        | none => none
    | o => mkR (cpure o env) own ks
noncomputable def o_load (sz : Option Nat) (x : X) (env : CEnv) (own : COwn) (ks : Nat) : Option R := match gx x env with
    | some p => mkR (cload own sz p) own ks
    | none => none
noncomputable def o_store (sz : Nat) (a : X) (x : X) (env : CEnv) (own : COwn) (ks : Nat) : Option R := match gx a env with
    | some p => match gx x env with
      | some v => cstoreF own sz p v fun own' => some ⟨.unit, own', ks⟩
      | none => none
    | none => none
noncomputable def o_asg (x : X) (env : CEnv) (own : COwn) (ks : Nat) : Option R := mkR (gx x env) own ks
noncomputable def o_call (call : CallT) (f : FuncId) (args : List X) (env : CEnv) (own : COwn) (ks : Nat) : Option R := match gxs env args with
    | some vs => docall call f vs own ks
    | none => none
noncomputable def o_callv (call : CallT) (x : X) (args : List X) (env : CEnv) (own : COwn) (ks : Nat) : Option R := match gx x env with
    | some (.fn (.func g) bd cap) => match gxs env args with
      | some vs => match bd with
        | true => fL (List.append cap vs) fun l => docall call g l own ks
        | false => fL (List.append vs cap) fun l => docall call g l own ks
      | none => none
    | _ => none
noncomputable def o_build (zs : List V) (ps : List (Nat × Nat × X)) (env : CEnv) (own : COwn) (ks : Nat) : Option R := match ofVs zs with
    | some zc => match cfill env ps zc with
      | some cs => some ⟨.agg cs, own, ks⟩
      | none => none
    | none => none
noncomputable def o_alloc (zs : List V) (env : CEnv) (own : COwn) (ks : Nat) : Option R := match ofVs zs with
    | some zc => frC ks fun k ks => some ⟨.loc k 0, (k, .cells zc) :: own, ks⟩
    | none => none
noncomputable def o_box (x : X) (env : CEnv) (own : COwn) (ks : Nat) : Option R := match gx x env with
    | some v => match cellsC v with
      | some cs => frC ks fun k ks => some ⟨.loc k 0, (k, .cells cs) :: own, ks⟩
      | none => none
    | none => none
noncomputable def o_bslice (s : Nat) (n : Nat) (xs : List X) (env : CEnv) (own : COwn) (ks : Nat) : Option R := match gxs env xs with
    | some vs => match allC kf2C vs with
      | true => match crows s vs with
        | some rs => frC ks fun k ks => some ⟨.vec k s 0 n, (k, .vec n s [] rs) :: own, ks⟩
        | none => none
      | false => match cflat s vs with
        | some cs => frC ks fun k ks => some ⟨.vec k s 0 n, (k, .cells cs) :: own, ks⟩
        | none => none
    | none => none
noncomputable def o_app (s : Nat) (bytes : Nat) (x : X) (y : X) (env : CEnv) (own : COwn) (ks : Nat) : Option R := match gx x env with
    | some a => match gx y env with
      | some c => cappF own ks s bytes a c
      | none => none
    | none => none
noncomputable def o_xt (o : XOp) (env : CEnv) (own : COwn) (ks : Nat) : Option R := cxop o env own ks
noncomputable def o_alloca (n : Nat) (z : V) (_ : CEnv) (own : COwn) (ks : Nat) : Option R := match ofV0 z with
  | some c => frC ks fun k ks => fL (repl n [c]) fun l => some ⟨.oel k 1 0 0, (k, .vec n 1 [c] l) :: own, ks⟩
  | none => none
theorem alloca_tabz (z : C) (m : Nat) : (fun (_ _ : Nat) => z.v) = tabz (C.vs [z]) (C.vss (List.replicate m [z])) := by
  funext i j
  simp only [tabz, C.vs, lastV]
  simp only [List.getD_eq_getElem?_getD, C.vss_get, List.getElem?_replicate]
  by_cases h : i < m
  · cases j <;> simp [h, C.vs]
  · cases j <;> simp [h]
noncomputable def cop (call : CallT) (b : Bool) (op : SOp) (env : CEnv) (own : COwn) (ks : Nat) : Option R :=
  match op with
  | .p o => o_p b o env own ks
  | .load sz x => o_load sz x env own ks
  | .store sz a x => o_store sz a x env own ks
  | .asg x => o_asg x env own ks
  | .call f args => o_call call f args env own ks
  | .callv x args => o_callv call x args env own ks
  | .build zs ps => o_build zs ps env own ks
  | .alloc zs => o_alloc zs env own ks
  | .box x => o_box x env own ks
  | .bslice s n xs => o_bslice s n xs env own ks
  | .app s bytes x y => o_app s bytes x y env own ks
  | .xt o => o_xt o env own ks
  | .clr _ _ _ => none
  | .alloca n z => o_alloca n z env own ks

/-- as the engine has it, in or out of a region that draws -/
def vopB (b : Bool) (P : Program) (op : SOp) (env : Env) (own : Own) (ks : List Nat) (K : V → Own → List Nat → Prop) : Prop :=
  match b with
  | true => vopO P op env own ks K
  | false => vop P op env own ks K
theorem vopB_of {b : Bool} {P : Program} {op : SOp} {env : Env} {own : Own} {ks : List Nat} {K : V → Own → List Nat → Prop} (hne : ∀ s x lo hi mx same, op ≠ .p (.slc s x lo hi mx same)) (h : vop P op env own ks K) : vopB b P op env own ks K := by
  cases b with
  | false => exact h
  | true =>
    show vopO P op env own ks K
    unfold vopO
    split
    · exact (hne _ _ _ _ _ _ rfl).elim
    · exact h

theorem docall_ok {P : Program} {call : CallT} (hcall : CallOk P call) {f : FuncId} {args : List C} {own : COwn} {ks : Nat} {r : R} {K : V → Own → List Nat → Prop} (h : docall call f args own ks = some r) (hK : K r.v.v (ownV r.o) (ksV r.k)) :
    callable P f = true ∧ CallF P f (C.vs args) (ownV own) (ksV ks) fun v own ks => litR v fun v => K v own ks := by
  unfold docall at h
  split at h
  · rename_i r' hr
    split at h
    · rename_i hl
      cases h
      obtain ⟨a, b⟩ := hcall.out _ _ _ _ _ hr
      exact ⟨a, b _ (litR_ok hl hK)⟩
    · cases h
  · cases h

theorem cop_ok {P : Program} {call : CallT} (hcall : CallOk P call) {b : Bool} {op : SOp} {env : CEnv} {own : COwn} {ks : Nat} {r : R} {K : V → Own → List Nat → Prop} (h : cop call b op env own ks = some r) (hK : K r.v.v (ownV r.o) (ksV r.k)) :
    vopB b P op (envV env) (ownV own) (ksV ks) K := by
  cases op with
  | p o =>
    simp only [cop, o_p] at h
    split at h
    · split at h
      · rename_i s x lo hi mx same _
        obtain ⟨h1, h2, h3⟩ := mkR_ok h
        rw [h2, h3] at hK
        cases b with
        | true =>
          simp only [vopB, vopO]
          exact cslc_ok h1 hK
        | false =>
          simp only [vopB, vop, vpure]
          exact cslc_ok (own := []) h1 hK
      · split at h
        · obtain ⟨h1, h2, h3⟩ := mkR_ok h
          rw [h2, h3] at hK
          cases b with
          | true => simp only [vopB, vopO]; exact cslc3_ok h1 hK
          | false => simp only [vopB, vop, vpure]; exact cslc3_ok h1 hK
        · cases h
    · rename_i hne
      obtain ⟨h1, h2, h3⟩ := mkR_ok h
      rw [h2, h3] at hK
      refine vopB_of (fun s x lo hi mx same e => ?_) ?_
      · cases e; exact hne _ _ _ _ _ _ rfl
      · simp only [vop]; exact cpure_ok h1 hK
  | load sz x =>
    refine vopB_of (fun _ _ _ _ _ _ e => by cases e) ?_
    simp only [cop, o_load] at h
    split at h
    · rename_i p hp
      obtain ⟨h1, h2, h3⟩ := mkR_ok h
      rw [h2, h3] at hK
      simp only [vop]
      exact gx_ok hp (cload_ok h1 hK)
    · cases h
  | store sz a x =>
    refine vopB_of (fun _ _ _ _ _ _ e => by cases e) ?_
    simp only [cop, o_store] at h
    split at h
    · rename_i p hp
      split at h
      · rename_i v hv
        obtain ⟨o', c1, c2⟩ := cstoreF_ok h
        cases c1
        simp only [vop]
        exact gx_ok hp (gx_ok hv (c2 _ (by simpa [C.v] using hK)))
      · cases h
    · cases h
  | asg x =>
    refine vopB_of (fun _ _ _ _ _ _ e => by cases e) ?_
    simp only [cop, o_asg] at h
    obtain ⟨h1, h2, h3⟩ := mkR_ok h
    rw [h2, h3] at hK
    simp only [vop]
    exact gx_ok h1 hK
  | call f args =>
    refine vopB_of (fun _ _ _ _ _ _ e => by cases e) ?_
    simp only [cop, o_call] at h
    split at h
    · rename_i vs hvs
      simp only [vop]
      exact gxs_ok hvs (docall_ok hcall h hK).2
    · cases h
  | callv x args =>
    refine vopB_of (fun _ _ _ _ _ _ e => by cases e) ?_
    simp only [cop, o_callv] at h
    split at h
    · rename_i g bd cap hx
      split at h
      · rename_i vs hvs
        simp only [vop]
        refine gx_ok hx (gxs_ok hvs ?_)
        simp only [C.v, vcall]
        cases bd with
        | true =>
          simp only at h
          rw [fL_eq] at h
          obtain ⟨a1, a2⟩ := docall_ok hcall h hK
          refine ⟨a1, ?_⟩
          have e : C.vs (cap.append vs) = C.vs cap ++ C.vs vs := by rw [C.vs_map, C.vs_map, C.vs_map]; simp
          rw [e] at a2
          exact a2
        | false =>
          simp only at h
          rw [fL_eq] at h
          obtain ⟨a1, a2⟩ := docall_ok hcall h hK
          refine ⟨a1, ?_⟩
          have e : C.vs (vs.append cap) = C.vs vs ++ C.vs cap := by rw [C.vs_map, C.vs_map, C.vs_map]; simp
          rw [e] at a2
          exact a2
      · cases h
    · cases h
  | build zs ps =>
    refine vopB_of (fun _ _ _ _ _ _ e => by cases e) ?_
    simp only [cop, o_build] at h
    split at h
    · rename_i zc hz
      have := ofVs_ok zs hz
      subst this
      split at h
      · rename_i cs hcs
        cases h
        simp only [vop]
        exact cfill_ok hcs (by simpa [C.v] using hK)
      · cases h
    · cases h
  | alloc zs =>
    refine vopB_of (fun _ _ _ _ _ _ e => by cases e) ?_
    simp only [cop, o_alloc] at h
    split at h
    · rename_i zc hz
      have := ofVs_ok zs hz
      subst this
      obtain ⟨h, b1⟩ := frC_ok h
      cases h
      simp only [vop]
      exact b1 _ (by simpa [C.v, ownV, CB.b] using hK)
    · cases h
  | box x =>
    refine vopB_of (fun _ _ _ _ _ _ e => by cases e) ?_
    simp only [cop, o_box] at h
    split at h
    · rename_i v hv
      split at h
      · rename_i cs hcs
        obtain ⟨h, b1⟩ := frC_ok h
        cases h
        simp only [vop]
        exact gx_ok hv (cellsC_ok hcs (b1 _ (by simpa [C.v, ownV, CB.b] using hK)))
      · cases h
    · cases h
  | bslice s n xs =>
    refine vopB_of (fun _ _ _ _ _ _ e => by cases e) ?_
    simp only [cop, o_bslice] at h
    split at h
    · rename_i vs hvs
      simp only [vop]
      refine gxs_ok hvs ?_
      rw [allB_vs kf2C_eq]
      split at h
      · rename_i hk
        simp only [hk]
        split at h
        · rename_i rs hrs
          obtain ⟨h, b1⟩ := frC_ok h
          cases h
          refine crows_ok hrs (b1 _ ?_)
          simpa [C.v, ownV, CB.b, C.vs, tab_tabz] using hK
        · cases h
      · rename_i hk
        simp only [hk]
        split at h
        · rename_i cs hcs
          obtain ⟨h, b1⟩ := frC_ok h
          cases h
          refine cflat_ok hcs (b1 _ ?_)
          simpa [C.v, ownV, CB.b] using hK
        · cases h
    · cases h
  | app s bytes x y =>
    refine vopB_of (fun _ _ _ _ _ _ e => by cases e) ?_
    simp only [cop, o_app] at h
    split at h
    · rename_i a ha
      split at h
      · rename_i c hc
        simp only [vop]
        exact gx_ok ha (gx_ok hc (cappF_ok h hK))
      · cases h
    · cases h
  | xt o =>
    refine vopB_of (fun _ _ _ _ _ _ e => by cases e) ?_
    simp only [cop, o_xt] at h
    simp only [vop]
    exact cxop_ok h hK
  | clr s zs x => cases h
  | alloca n z =>
    refine vopB_of (fun _ _ _ _ _ _ e => by cases e) ?_
    simp only [cop, o_alloca] at h
    split at h
    · rename_i c hc
      have := ofV0_ok hc
      subst this
      obtain ⟨h, b1⟩ := frC_ok h
      rw [fL_eq, repl_eq] at h
      cases h
      simp only [vop]
      refine b1 _ ?_
      rw [alloca_tabz c n]
      simpa [C.v, ownV, CB.b] using hK
    · cases h

end Go.Eng
