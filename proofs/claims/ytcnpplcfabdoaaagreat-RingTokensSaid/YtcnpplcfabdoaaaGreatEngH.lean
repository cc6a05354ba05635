/-
  The engine, part H: one operation; operations in a row.
-/
import Derived.Test.YtcnpplcfabdoaaaGreatEngG2
namespace Go.Eng

inductive SOp where
  | p (o : POp)
  | build (zs : List V) (parts : List (Nat × Nat × X))
  | load (sz : Option Nat) (x : X)
  | alloc (zs : List V)
  | box (x : X)
  | bslice (s n : Nat) (xs : List X)
  | asg (x : X)
  | store (sz : Nat) (a x : X)
  | app (s bytes : Nat) (x y : X)
  | clr (s : Nat) (zs : List V) (x : X)
  | call (f : FuncId) (args : List X)
  | callv (x : X) (args : List X)
  | alloca (n : Nat) (z : V)
  | xt (o : XOp)

def SOp.xs : SOp → List X
  | .p o => o.xs
  | .build _ ps => ps.map (·.2.2)
  | .load _ x | .box x | .asg x | .clr _ _ x => [x]
  | .alloc _ => []
  | .bslice _ _ xs => xs
  | .store _ a x | .app _ _ a x => [a, x]
  | .call _ xs => xs
  | .callv x xs => x :: xs
  | .alloca _ _ => []
  | .xt o => o.xs

structure SI where
  dst : Option Nat
  op : SOp
  guard : Option (Nat × Bool)

/-- A call of a function, abstractly. -/
structure CallF (P : Program) (f : FuncId) (args : List V) (own : Own) (ks : List Nat) (K : V → Own → List Nat → Prop) : Prop where
  out : ∀ (M : Nat → Prop) (w : World) (σ : Sg) (us : List Value), args.length = us.length →
    (∀ (i : Nat) (v : V) (u : Value), args[i]? = some v → us[i]? = some u → Den M w σ v u) → HSim M w σ own ks →
    Calls P f us.toArray w fun e w' => ∃ M' σ' v own' ks' u, e = .returned u ∧ Den M' w' σ' v u ∧ HSim M' w' σ' own' ks' ∧ Tr M w σ own M' w' σ' own' ∧ Kd σ own ks σ' own' ks' ∧ K v own' ks'

theorem CallF.mono {P : Program} {f : FuncId} {args : List V} {own : Own} {ks : List Nat} {K K' : V → Own → List Nat → Prop} (h : CallF P f args own ks K) (hK : ∀ v o k, K v o k → K' v o k) :
    CallF P f args own ks K' :=
  ⟨fun M w σ us h1 h2 h3 => (h.out M w σ us h1 h2 h3).mono fun _ _ ⟨M', σ', v, o, k, u, a, b, c, d, d', e⟩ => ⟨M', σ', v, o, k, u, a, b, c, d, d', hK _ _ _ e⟩⟩

/-- A call of yield, abstractly. -/
structure YieldF (P : Program) (k : Nat) (args : List V) (own : Own) (ks : List Nat) (K : V → Own → List Nat → Prop) : Prop where
  out : ∀ (M : Nat → Prop) (w : World) (σ : Sg) (us : List Value) (l base κ : Nat), args.length = us.length →
    (∀ (i : Nat) (v : V) (u : Value), args[i]? = some v → us[i]? = some u → Den M w σ v u) → HSim M w σ own ks → σ k = some (some l, base, κ) →
    ∃ fn tmps assign body, (Instr.yield l us.toArray).run P w = .ok (.round l fn tmps assign body) w ∧
      RoundIn Fence.wide 0 P l fn tmps assign body w fun e w' => ∃ M' σ' v own' ks' u, e = .returned u ∧ Den M' w' σ' v u ∧ HSim M' w' σ' own' ks' ∧ Tr M w σ own M' w' σ' own' ∧ Kd σ own ks σ' own' ks' ∧ K v own' ks'

/-- a value that a call has returned: a bool is decided, also in a tuple -/
def litL : List V → (List V → Prop) → Prop
  | [], K => K []
  | v :: r, K => litK v fun v => litL r fun r => K (v :: r)

def litR (v : V) (K : V → Prop) : Prop :=
  match v with
  | .tup vs => litL vs fun vs => K (.tup vs)
  | v => litK v K

theorem litL_sound : ∀ {l : List V} {K : List V → Prop}, litL l K → K l
  | [], _, h => h
  | v :: _, K, h => litL_sound (K := fun r => K (v :: r)) (litK_sound h).1

theorem litR_sound {v : V} {K : V → Prop} (h : litR v K) : K v := by
  unfold litR at h
  split at h
  · exact litL_sound h
  · exact (litK_sound h).1

def vclr (own : Own) (s : Nat) (zs : List V) (v : V) (K : Own → Prop) : Prop :=
  match v with
  | .nilslice => K own
  | .vec k s' lo len => match look own k with
    | some (.vec n s'' f) => match Nat.beq s s', Nat.beq s s'' with
      | true, true => Len (lo + len) n (updK k (.vec n s (fput f lo len fun _ j => zs.getD j default)) own K)
      | _, _ => False
    | _ => False
  | _ => False

def callable (P : Program) (f : FuncId) : Bool := match P.funcs[f]? with
  | some fn => match fn.body with
    | some _ => match fn.name == "runtime.NumGoroutine" with | true => false | false => true
    | none => false
  | none => false

/-- a call of a function value -/
def vcall (P : Program) (vs : List V) (own : Own) (ks : List Nat) (K : V → Own → List Nat → Prop) (fv : V) : Prop :=
  match fv with
  | .fn (.func g) b cap => Chk (callable P g) (CallF P g (match b with | true => cap ++ vs | false => vs ++ cap) own ks K)
  | .yld k => YieldF P k vs own ks K
  | _ => False

def vop (P : Program) (op : SOp) (env : Env) (own : Own) (ks : List Nat) (K : V → Own → List Nat → Prop) : Prop :=
  match op with
  | .p o => vpure o env fun v => K v own ks
  | .build zs ps => fillK env ps zs fun cs => K (.agg cs) own ks
  | .load sz x => x.get env fun p => vload own sz p fun v => K v own ks
  | .alloc zs => fresh ks fun k ks => K (.loc k 0) ((k, .cells zs) :: own) ks
  | .box x => x.get env fun v => v.cellsK fun cs => fresh ks fun k ks => K (.loc k 0) ((k, .cells cs) :: own) ks
  | .bslice s n xs => X.gets env xs fun vs => match allB V.kf2 vs with
    | true => rowsK s vs fun rs => fresh ks fun k ks => K (.vec k s 0 n) ((k, .vec n s (tab rs)) :: own) ks
    | false => flatK s vs fun cs => fresh ks fun k ks => K (.vec k s 0 n) ((k, .cells cs) :: own) ks
  | .alloca n z => fresh ks fun k ks => K (.oel k 1 0 0) ((k, .vec n 1 (fun _ _ => z)) :: own) ks
  | .xt o => vxop o env own ks K
  | .asg x => x.get env fun v => K v own ks
  | .store sz a x => a.get env fun p => x.get env fun v => vstoreF own sz p v fun own => K (.raw (.tuple #[])) own ks
  | .app s bytes x y => x.get env fun a => y.get env fun b => vappF own ks s bytes a b K
  | .clr s zs x => x.get env fun v => vclr own s zs v fun own => K (.raw (.tuple #[])) own ks
  | .call f args => X.gets env args fun vs => CallF P f vs own ks fun v own ks => litR v fun v => K v own ks
  | .callv x args => x.get env fun fv => X.gets env args fun vs => vcall P vs own ks (fun v own ks => litR v fun v => K v own ks) fv

/-! ## compiling -/

def placesOf (P : Program) (t : TypeId) : Option (Nat → Option (Nat × Nat)) :=
  match P.underlying t with
  | some (.struct fs) => match fs.toList.mapM (fun f => (P.info? f.type).map fun i => (f.offset, i.size)) with
    | some places => some (fun i => places.toArray[i]?)
    | none => none
  | some (.array _ e) => match P.info? e with
    | some ie => some (fun i => some (i * ie.size, ie.size))
    | none => none
  | _ => none

theorem built_of {P : Program} {t : TypeId} {place : Nat → Option (Nat × Nat)} {i : TypeInfo} {z : Value} (hp : placesOf P t = some place) (hi : P.info? t = some i) (hz : i.zero = some z) (parts : List (Nat × Value)) :
    P.built t parts = Instr.fill place z.cells parts := by
  unfold placesOf at hp
  unfold Program.built
  split at hp
  · rename_i fs hu
    split at hp
    · rename_i places hm
      cases hp
      simp only [hi, hu, hz, hm]
    · cases hp
  · rename_i n e hu
    split at hp
    · rename_i ie he
      cases hp
      simp only [hi, hu, hz, he]
    · cases hp
  · cases hp

def cAsg (x : Operand) : Option SOp := (cX x).map .asg
def cBuild (P : Program) (t : TypeId) (parts : Array (Nat × Operand)) : Option SOp :=
  match placesOf P t, zeroOf P t with
  | some place, some zs => (cParts place parts.toList).map (.build zs)
  | _, _ => none
def cLoad (P : Program) (t : TypeId) (x : Operand) : Option SOp :=
  match szAgg P t, cX x with
  | some z, some x => some (.load z x)
  | _, _ => none
def allFalse : List V → Bool
  | [] => true
  | .bool false :: r => allFalse r
  | _ => false
def allZero (k : IntKind) : List V → Bool
  | [] => true
  | .int k' n :: r => match decide (k' = k), decide (n = 0) with | true, true => allZero k r | _, _ => false
  | _ => false
def sameZ (zs : List V) : Option V := match zs with
  | .bool _ :: _ => match allFalse zs with | true => some (.bool false) | false => none
  | .int k _ :: _ => match allZero k zs with | true => some (.int k 0) | false => none
  | _ => none

theorem allFalse_mem : ∀ {zs : List V}, allFalse zs = true → ∀ v ∈ zs, v = .bool false
  | [], _, v, h => by simp at h
  | .bool false :: r, h, v, hv => by
    rcases List.mem_cons.1 hv with e | e
    · exact e
    · exact allFalse_mem (by simpa [allFalse] using h) v e
theorem allZero_mem {k : IntKind} : ∀ {zs : List V}, allZero k zs = true → ∀ v ∈ zs, v = .int k 0
  | [], _, v, h => by simp at h
  | .int k' n :: r, h, v, hv => by
    unfold allZero at h
    split at h
    · rename_i e1 e2
      have e1 := of_decide_eq_true e1
      have e2 := of_decide_eq_true e2
      subst e1 e2
      rcases List.mem_cons.1 hv with e | e
      · exact e
      · exact allZero_mem h v e
    · cases h
theorem sameZ_spec {zs : List V} {z : V} (h : sameZ zs = some z) : (∀ v ∈ zs, v = z) ∧ z.kf1 = true ∧ z.cellB = true := by
  unfold sameZ at h
  split at h
  · split at h
    · rename_i h1
      cases h
      exact ⟨allFalse_mem h1, rfl, rfl⟩
    · cases h
  · split at h
    · rename_i h1
      cases h
      exact ⟨allZero_mem h1, rfl, rfl⟩
    · cases h
  · cases h

/-- an array that is looked at by numbers -/
def bigArr (P : Program) (t : TypeId) : Option (Nat × V) :=
  match P.underlying t, zeroOf P t with
  | some (.array n _), some zs => match Nat.ble 8 n, Nat.beq zs.length n, sameZ zs with
    | true, true, some z => some (n, z)
    | _, _, _ => none
  | _, _ => none
def cAlloc (P : Program) (t : TypeId) : Option SOp := match bigArr P t with
  | some (n, z) => some (.alloca n z)
  | none => (zeroOf P t).map .alloc
def cBox (x : Operand) : Option SOp := (cX x).map .box
def cBSlice (P : Program) (t : TypeId) (len : Nat) (parts : Array (Nat × Operand)) : Option SOp :=
  match P.underlying t with
  | some (.slice e) => match szOf P e, zeroOf P e, cXs (parts.toList.map (·.2)), idxs 0 parts.toList, Nat.beq parts.toList.length len, Nat.ble (len * (szOf P e).getD 0) 16777216 with
    | some s, some _, some xs, true, true, true => some (.bslice s len xs)
    | _, _, _, _, _, _ => none
  | _ => none
def cStore (P : Program) (t : TypeId) (a x : Operand) : Option SOp :=
  match szOf P t, cX a, cX x with
  | some (n + 1), some a, some x => some (.store (n + 1) a x)
  | _, _, _ => none
def cCallF (P : Program) (f : FuncId) (args : Array Operand) : Option SOp :=
  match callable P f with
  | true => (cXs args.toList).map (.call f)
  | false => none
def cApp (P : Program) (args : Array Operand) (argTypes : Array TypeId) : Option SOp :=
  match args.toList, argTypes.toList with
  | [x, y], [t, t2] => match P.underlying t, P.underlying t2 with
    | some (.slice e), some (.slice _) => match szOf P e, (P.info? e).map (·.bytes), zeroOf P e, cX x, cX y with
      | some s, some b, some zs, some x, some y => match Nat.beq zs.length s with
        | true => some (.app s b x y)
        | false => none
      | _, _, _, _, _ => none
    | _, _ => none
  | _, _ => none
def cClr (P : Program) (args : Array Operand) (argTypes : Array TypeId) : Option SOp :=
  match args.toList, argTypes.toList with
  | [x], [t] => match P.underlying t with
    | some (.slice e) => match szOf P e, zeroOf P e, cX x with
      | some s, some zs, some x => match Nat.beq zs.length s with
        | true => some (.clr s zs x)
        | false => none
      | _, _, _ => none
    | _ => none
  | _, _ => none
def cP (P : Program) (op : Op) : Option SOp := (cPure P op).map .p
def cCall (P : Program) (c : Call) : Option SOp :=
  match c.callee with
  | .value (.func f) => cCallF P f c.args
  | .value (.tmp t) => (cXs c.args.toList).map (.callv (.t t))
  | .builtin .append => cApp P c.args c.argTypes
  | .builtin .clear => cClr P c.args c.argTypes
  | _ => cP P (.call c)

def cOp (P : Program) (op : Op) : Option SOp :=
  match op with
  | .assign x => cAsg x
  | .build t parts => cBuild P t parts
  | .load t x => cLoad P t x
  | .alloc t => cAlloc P t
  | .box _ x => cBox x
  | .buildSlice t len parts => cBSlice P t len parts
  | .store t a x => cStore P t a x
  | .call c => cCall P c
  | op => match cXop P op with | some o => some (.xt o) | none => cP P op

/-! ## which operation it was -/

inductive Was (P : Program) : Op → SOp → Prop
  | asg (x0 : Operand) (x : X) (h : cX x0 = some x) : Was P (.assign x0) (.asg x)
  | build (t : TypeId) (parts : Array (Nat × Operand)) (place : Nat → Option (Nat × Nat)) (zs : List V) (ps : List (Nat × Nat × X)) (h1 : placesOf P t = some place) (h2 : zeroOf P t = some zs) (h3 : cParts place parts.toList = some ps) :
      Was P (.build t parts) (.build zs ps)
  | load (t : TypeId) (x0 : Operand) (z : Option Nat) (x : X) (h1 : szAgg P t = some z) (h2 : cX x0 = some x) : Was P (.load t x0) (.load z x)
  | alloc (t : TypeId) (zs : List V) (h : zeroOf P t = some zs) : Was P (.alloc t) (.alloc zs)
  | box (t : TypeId) (x0 : Operand) (x : X) (h : cX x0 = some x) : Was P (.box t x0) (.box x)
  | bslice (t : TypeId) (len : Nat) (parts : Array (Nat × Operand)) (e : TypeId) (s : Nat) (zs : List V) (xs : List X) (h1 : P.underlying t = some (.slice e)) (h2 : szOf P e = some s) (h3 : zeroOf P e = some zs)
      (h4 : cXs (parts.toList.map (·.2)) = some xs) (h5 : idxs 0 parts.toList = true) (h6 : parts.toList.length = len) (h7 : len * s ≤ 16777216) : Was P (.buildSlice t len parts) (.bslice s len xs)
  | store (t : TypeId) (a0 x0 : Operand) (n : Nat) (a x : X) (h1 : szOf P t = some n) (h2 : 0 < n) (h3 : cX a0 = some a) (h4 : cX x0 = some x) : Was P (.store t a0 x0) (.store n a x)
  | call (f : FuncId) (args : Array Operand) (ats : Array TypeId) (xs : List X) (h1 : callable P f = true) (h2 : cXs args.toList = some xs) : Was P (.call ⟨.value (.func f), args, ats⟩) (.call f xs)
  | callv (t : Nat) (args : Array Operand) (ats : Array TypeId) (xs : List X) (h2 : cXs args.toList = some xs) : Was P (.call ⟨.value (.tmp t), args, ats⟩) (.callv (.t t) xs)
  | app (args : Array Operand) (ats : Array TypeId) (t t2 e e2 : TypeId) (s b : Nat) (zs : List V) (x0 y0 : Operand) (x y : X) (h1 : args.toList = [x0, y0]) (h2 : ats.toList = [t, t2]) (h3 : P.underlying t = some (.slice e))
      (h4 : P.underlying t2 = some (.slice e2)) (h5 : szOf P e = some s) (h6 : (P.info? e).map (·.bytes) = some b) (h7 : zeroOf P e = some zs) (h8 : cX x0 = some x) (h9 : cX y0 = some y) (h10 : zs.length = s) :
      Was P (.call ⟨.builtin .append, args, ats⟩) (.app s b x y)
  | clr (args : Array Operand) (ats : Array TypeId) (t e : TypeId) (s : Nat) (zs : List V) (x0 : Operand) (x : X) (h1 : args.toList = [x0]) (h2 : ats.toList = [t]) (h3 : P.underlying t = some (.slice e))
      (h4 : szOf P e = some s) (h5 : zeroOf P e = some zs) (h6 : cX x0 = some x) (h7 : zs.length = s) : Was P (.call ⟨.builtin .clear, args, ats⟩) (.clr s zs x)
  | p (op : Op) (o : POp) (h : cPure P op = some o) : Was P op (.p o)
  | alloca (t : TypeId) (n : Nat) (z : V) (h : bigArr P t = some (n, z)) : Was P (.alloc t) (.alloca n z)
  | xt (op : Op) (o : XOp) (h : cXop P op = some o) : Was P op (.xt o)

theorem cP_was {P : Program} {op : Op} {so : SOp} (h : cP P op = some so) : Was P op so := by
  simp only [cP, Option.map_eq_some_iff] at h
  obtain ⟨o, h1, rfl⟩ := h
  exact .p _ _ h1

theorem cApp_was {P : Program} {args : Array Operand} {ats : Array TypeId} {so : SOp} (h : cApp P args ats = some so) : Was P (.call ⟨.builtin .append, args, ats⟩) so := by
  unfold cApp at h
  split at h
  · rename_i x0 y0 t t2 h1 h2
    split at h
    · rename_i e e2 h3 h4
      split at h
      · rename_i s b zs x y h5 h6 h7 h8 h9
        split at h
        · rename_i h10
          cases h
          exact .app args ats t t2 e e2 s b zs x0 y0 x y h1 h2 h3 h4 h5 h6 h7 h8 h9 (Nat.eq_of_beq_eq_true h10)
        · cases h
      · cases h
    · cases h
  · cases h

theorem cClr_was {P : Program} {args : Array Operand} {ats : Array TypeId} {so : SOp} (h : cClr P args ats = some so) : Was P (.call ⟨.builtin .clear, args, ats⟩) so := by
  unfold cClr at h
  split at h
  · rename_i x0 t h1 h2
    split at h
    · rename_i e h3
      split at h
      · rename_i s zs x h4 h5 h6
        split at h
        · rename_i h7
          cases h
          exact .clr args ats t e s zs x0 x h1 h2 h3 h4 h5 h6 (Nat.eq_of_beq_eq_true h7)
        · cases h
      · cases h
    · cases h
  · cases h

theorem cCall_was {P : Program} {c : Call} {so : SOp} (h : cCall P c = some so) : Was P (.call c) so := by
  obtain ⟨callee, args, ats⟩ := c
  unfold cCall at h
  split at h
  · rename_i f hf
    simp only at hf
    subst hf
    unfold cCallF at h
    split at h
    · rename_i hcal
      simp only [Option.map_eq_some_iff] at h
      obtain ⟨xs, h1, rfl⟩ := h
      exact .call f args ats xs hcal h1
    · cases h
  · rename_i t hf
    simp only at hf
    subst hf
    simp only [Option.map_eq_some_iff] at h
    obtain ⟨xs, h1, rfl⟩ := h
    exact .callv t args ats xs h1
  · rename_i hf
    simp only at hf
    subst hf
    exact cApp_was h
  · rename_i hf
    simp only at hf
    subst hf
    exact cClr_was h
  · exact cP_was h

theorem cOp_was {P : Program} {op : Op} {so : SOp} (h : cOp P op = some so) : Was P op so := by
  unfold cOp at h
  split at h
  · simp only [cAsg, Option.map_eq_some_iff] at h
    obtain ⟨x, h1, rfl⟩ := h
    exact .asg _ _ h1
  · unfold cBuild at h
    split at h
    · simp only [Option.map_eq_some_iff] at h
      obtain ⟨ps, h1, rfl⟩ := h
      exact .build _ _ _ _ _ ‹_› ‹_› h1
    · cases h
  · unfold cLoad at h
    split at h
    · cases h; exact .load _ _ _ _ ‹_› ‹_›
    · cases h
  · unfold cAlloc at h
    split at h
    · cases h; exact .alloca _ _ _ ‹_›
    · simp only [Option.map_eq_some_iff] at h
      obtain ⟨zs, h1, rfl⟩ := h
      exact .alloc _ _ h1
  · simp only [cBox, Option.map_eq_some_iff] at h
    obtain ⟨x, h1, rfl⟩ := h
    exact .box _ _ _ h1
  · unfold cBSlice at h
    split at h
    · rename_i he
      split at h
      · rename_i h1 h2 h3 h4 h5 h6
        cases h
        have := Nat.le_of_ble_eq_true h6
        rw [h1] at this
        exact .bslice _ _ _ _ _ _ _ he h1 h2 h3 h4 (Nat.eq_of_beq_eq_true h5) this
      · cases h
    · cases h
  · unfold cStore at h
    split at h
    · cases h; exact .store _ _ _ _ _ _ ‹_› (by omega) ‹_› ‹_›
    · cases h
  · exact cCall_was h
  · split at h
    · cases h; exact .xt _ _ ‹_›
    · exact cP_was h

theorem gets_sound {env : Env} : ∀ {os : List Operand} {xs : List X} {K : List V → Prop}, cXs os = some xs → X.gets env xs K →
    ∃ vs, K vs ∧ vs.length = os.length ∧ ∀ M w σ (a : Act), (∀ x, x ∈ xs → XOk M w σ env a x) → ∀ (i : Nat) (v : V) (u : Value), vs[i]? = some v → (os.map a.eval)[i]? = some u → Den M w σ v u
  | [], xs, K, hc, h => by
    simp [cXs] at hc
    subst hc
    exact ⟨[], h, rfl, fun _ _ _ _ _ => by simp⟩
  | o :: os, xs, K, hc, h => by
    unfold cXs at hc
    split at hc <;> simp only [Option.some.injEq, reduceCtorEq] at hc
    rename_i x xs' h1 h2
    subst hc
    obtain ⟨v, h, hv⟩ := get_sound h1 h
    obtain ⟨vs, hK, hl, hvs⟩ := gets_sound h2 h
    refine ⟨_, hK, by simp [hl], ?_⟩
    intro M w σ a hx i v' u' hv' hu'
    cases i with
    | zero => simp at hv' hu'; subst hv' hu'; exact hv M w σ a (hx x (by simp))
    | succ i => exact hvs M w σ a (fun y hy => hx y (by simp [hy])) i v' u' (by simpa using hv') (by simpa using hu')

theorem cXs_length : ∀ {os : List Operand} {xs : List X}, cXs os = some xs → xs.length = os.length
  | [], xs, h => by simp [cXs] at h; subst h; rfl
  | o :: os, xs, h => by
    unfold cXs at h
    split at h <;> simp only [Option.some.injEq, reduceCtorEq] at h
    rename_i x xs' h1 h2
    subst h
    simp [cXs_length h2]

/-! ## soundness of one operation -/

/-- what holds behind an operation -/
def OP (o : Oper) (a : Act) (M : Nat → Prop) (w : World) (σ : Sg) (own : Own) (ks : List Nat) (K : V → Own → List Nat → Prop) : Act → World → Prop := fun a' w' =>
  ∃ u M' σ' v own' ks', a' = a.put o.dst u ∧ Den M' w' σ' v u ∧ HSim M' w' σ' own' ks' ∧ Tr M w σ own M' w' σ' own' ∧ Kd σ own ks σ' own' ks' ∧ K v own' ks'

theorem wp_value {P : Program} {o : Oper} {a : Act} {w w' : World} {u : Value} {next : Act → World → Prop} {Q : Exit → Act → World → Prop} (h : (execOp a.eval o).run P w = .ok (.value u) w') (hn : next (a.put o.dst u) w') : o.wp P a w next Q := by
  unfold Oper.wp
  rw [h]
  exact hn

theorem build_sound {P : Program} {o : Oper} {zs : List V} {ps : List (Nat × Nat × X)} (hc : cOp P o.op = some (.build zs ps)) {env : Env} {K : V → Prop}
    (h : fillK env ps zs fun cs => K (.agg cs)) : ∃ v, K v ∧ PFact P o (SOp.xs (.build zs ps)) env v := by
  obtain ⟨dst, op, type, pos, after, guard⟩ := o
  have hw := cOp_was hc
  simp only at hw
  cases hw with
  | build t parts place _ _ h1 h2 hp =>
    obtain ⟨r, hK, hl, _, hr⟩ := fillK_sound env _ _ _ _ _ hp h
    refine ⟨_, hK, fun M w σ a ok => ?_⟩
    obtain ⟨i, z, hi, hz, hzc⟩ := zeroOf_info h2
    obtain ⟨l1, l2⟩ := den_ofCells (M := M) (w := w) σ hzc
    obtain ⟨us', f1, f2, f3⟩ := hr M w σ a z.cells.toList ok l1 l2
    refine ⟨.agg us'.toArray, ?_, .agg _ _ _ (by omega) f3⟩
    refine run_v (s := Instr.build t (parts.map fun (i, x) => (i, a.eval x))) (run_build w t _ _ ?_)
    rw [built_of h1 hi hz, Array.toList_map]
    simpa using f1

theorem get_val {x : X} {env : Env} {K : V → Prop} (h : x.get env K) : ∃ v, K v ∧ x.get env (· = v) := by
  cases x with
  | t n =>
    simp only [X.get] at h ⊢
    split at h
    · rename_i v hv; exact ⟨v, h, rfl⟩
    · exact h.elim
  | k v => exact ⟨v, h, rfl⟩

theorem load_sound {P : Program} {o : Oper} {sz : Option Nat} {x : X} (hc : cOp P o.op = some (.load sz x)) {env : Env} {own : Own} {ks : List Nat} {K : V → Own → List Nat → Prop}
    (h : vop P (.load sz x) env own ks K) : ∃ t x0 p v, o.op = .load t x0 ∧ szAgg P t = some sz ∧ K v own ks ∧ x.get env (· = p) ∧ (∀ M w σ a, XOk M w σ env a x → Den M w σ p (a.eval x0)) ∧ LFact P t p v own ∧ (∀ u, v ≠ .raw u) := by
  obtain ⟨dst, op, type, pos, after, guard⟩ := o
  have hw := cOp_was hc
  simp only at hw
  cases hw with
  | load t x0 _ _ h1 h2 =>
    obtain ⟨p, h, hg⟩ := get_val h
    obtain ⟨p', rfl, hp⟩ := get_sound h2 hg
    obtain ⟨v, hK, hf, hnr⟩ := vload_sound h1 h
    exact ⟨t, x0, p', v, rfl, h1, hK, hg, hp, hf, hnr⟩

theorem ofCells_cellB : ∀ {us : List Value} {vs : List V}, ofCells us = some vs → ∀ v ∈ vs, v.cellB = true
  | [], vs, h => by simp [ofCells] at h; subst h; simp
  | u :: r, vs, h => by
    unfold ofCells at h
    split at h <;> simp at h
    rename_i x xs h1 h2
    subst h
    intro v hv
    rcases List.mem_cons.1 hv with e | e
    · subst e
      unfold ofCell at h1
      split at h1 <;> simp at h1 <;> subst h1 <;> rfl
    · exact ofCells_cellB h2 v e


/-! ## the three operations that make a block -/

def SOp.isNew : SOp → Bool
  | .alloc _ | .box _ | .bslice _ _ _ | .alloca _ _ => true
  | _ => false

def AFact (P : Program) (o : Oper) (xs : List X) (env : Env) (k : Nat) (b : Blk) (v : V) : Prop :=
  ∀ M w σ a own ks, (∀ x, x ∈ xs → XOk M w σ env a x) → HSim M w σ own (k :: ks) →
    ∃ u w' M' σ', (execOp a.eval o).run P w = .ok (.value u) w' ∧ HSim M' w' σ' ((k, b) :: own) ks ∧ Tr M w σ own M' w' σ' ((k, b) :: own) ∧ Den M' w' σ' v u ∧ blkOf σ' k ≠ none ∧ Kd σ own (k :: ks) σ' ((k, b) :: own) ks

theorem blkOf_loc {M : Nat → Prop} {w : World} {σ : Sg} {k off : Nat} {u : Value} (h : Den M w σ (.loc k off) u) : blkOf σ k ≠ none := by
  cases h with
  | loc _ _ _ b base κ hk => simp [blkOf, hk]

theorem run_buildSlice_any {P : Program} (w : World) (t e : TypeId) (len : Nat) (parts : Array (Nat × Value)) (cells : Array Value) (s : Nat) (ie : TypeInfo) (z : Value)
    (hu : P.underlying t = some (.slice e)) (hie : P.info? e = some ie) (hz : ie.zero = some z) (hs : ie.size = s) (hsmall : len * s ≤ 16777216)
    (h : Instr.fill (fun i => some (i * s, s)) ((Array.range (len * s)).map (fun j => (if len * s = 0 then #[] else z.cells)[j % (if len * s = 0 then #[] else z.cells).size]!)) parts.toList = some cells) :
    (Instr.buildSlice t len parts).run P w = .ok (.slice (some ⟨w.heap.size, 0, none⟩) len len) (w.alloc (.cells cells e)) := by
  subst hs
  have hb : ¬ (len * ie.size > 2 ^ 24) := Nat.not_lt.2 hsmall
  by_cases h0 : len * ie.size = 0
  · simp only [h0, if_true] at h
    simp [Instr.buildSlice, run_underlying hu, sizeOf, typeInfo, zeroValue, hie, hz, h0, newRow] 
    have h' : Instr.fill (fun i => some (i * ie.size, ie.size)) #[] parts.toList = some cells := by
      rw [show Array.range 0 = #[] from by simp [Array.range]] at h
      simpa using h
    simp [show Array.range 0 = #[] from by simp [Array.range], h']
  · simp only [h0, if_false] at h
    simp [Instr.buildSlice, run_underlying hu, sizeOf, typeInfo, zeroValue, hie, hz, hb, h0, h, newRow]

theorem new_sound {P : Program} {o : Oper} {so : SOp} (hc : cOp P o.op = some so) (hn : so.isNew = true) {env : Env} {own : Own} {ks : List Nat} {K : V → Own → List Nat → Prop} (h : vop P so env own ks K) :
    ∃ k ks' b v, ks = k :: ks' ∧ K v ((k, b) :: own) ks' ∧ AFact P o so.xs env k b v ∧ (v = .loc k 0 ∨ (∃ s n, v = .vec k s 0 n) ∨ v = .oel k 1 0 0) := by
  obtain ⟨dst, op, type, pos, after, guard⟩ := o
  simp only at hc
  cases so <;> simp only [SOp.isNew, reduceCtorEq] at hn
  case alloc zs =>
    obtain ⟨k, ks', rfl, hK⟩ := fresh_sound h
    refine ⟨k, ks', _, _, rfl, hK, ?_, .inl rfl⟩
    intro M w σ a own0 ks0 _ hh
    obtain ⟨t, rfl, hz⟩ : ∃ t, op = .alloc t ∧ zeroOf P t = some zs := by cases cOp_was hc with | alloc t _ h => exact ⟨t, rfl, h⟩
    obtain ⟨i, z, hi, hzz, hzc⟩ := zeroOf_info hz
    obtain ⟨l1, l2⟩ := den_ofCells (M := M) (w := w) σ hzc
    obtain ⟨M', σ', n1, n2, n3, n4⟩ := new_cells hh zs z.cells t (by simpa using l1.symm) (fun i x y hx hy => l2 i x y hx (by simpa using hy))
    refine ⟨_, _, M', σ', ?_, n1, n2, n3, blkOf_loc n3, n4⟩
    refine run_v (s := Instr.alloc t true (.tuple #[])) ?_
    simp [Instr.alloc, zeroValue, typeInfo, Sem.run_bind, hi, hzz, newVar, newRow, go_sem]
  case alloca n z =>
    obtain ⟨k, ks', rfl, hK⟩ := fresh_sound h
    refine ⟨k, ks', _, _, rfl, hK, ?_, .inr (.inr rfl)⟩
    intro M w σ a own0 ks0 _ hh
    obtain ⟨t, rfl, hb⟩ : ∃ t, op = .alloc t ∧ bigArr P t = some (n, z) := by cases cOp_was hc with | alloca t _ _ h => exact ⟨t, rfl, h⟩
    unfold bigArr at hb
    split at hb
    case h_2 => cases hb
    rename_i n0 e zs hu hz
    split at hb
    case h_2 => cases hb
    rename_i z0 hb1 hb2 hsz
    cases hb
    have hlen := Nat.eq_of_beq_eq_true hb2
    obtain ⟨zall, zk, zc⟩ := sameZ_spec hsz
    obtain ⟨i, zz, hi, hzz, hzc⟩ := zeroOf_info hz
    obtain ⟨l1, l2⟩ := den_ofCells (M := M) (w := w) Sg.none hzc
    obtain ⟨M', σ', n1, n2, n3, n4, n5⟩ := new_vec' (w' := w.alloc (.cells zz.cells t)) hh n 1 n (fun _ _ => z) zz.cells t (.inl rfl) (Nat.le_refl _) (by simp at l1; omega) (fun i j hi hj => by
      have hj0 : j = 0 := by omega
      subst hj0
      have h1 : i < zs.length := by omega
      have h2 : i < zz.cells.size := by simp at l1; omega
      have hd := l2 i zs[i] zz.cells[i] (by simp [h1]) (by simp [h2])
      rw [zall _ (List.getElem_mem h1)] at hd
      exact ⟨zz.cells[i], by simp [h2], hd.oneCell zc, hd⟩)
    have n3' := n3 n (Nat.le_refl _)
    refine ⟨.pointer (some ⟨w.heap.size, 0, none⟩), _, M', σ', ?_, n1, n2, ?_, by rw [n4]; simp, n5⟩
    · refine run_v (s := Instr.alloc t true (.tuple #[])) ?_
      simp [Instr.alloc, zeroValue, typeInfo, Sem.run_bind, hi, hzz, newVar, newRow, go_sem]
    · have hb8 := Nat.le_of_ble_eq_true hb1
      cases n3' with
      | vec _ _ _ _ _ bo base κ c ad hk hc hl ha =>
        obtain ⟨b, e1, e2⟩ := ha (by omega)
        simp only [Option.some.injEq, Addr.mk.injEq] at e2
        obtain ⟨e3, e4, _⟩ := e2
        subst e1 e3
        have hb0 : base = 0 := by omega
        subst hb0
        exact .oel _ k 1 0 0 _ 0 _ hk
  case box x =>
    obtain ⟨t, x0, rfl, hx⟩ : ∃ t x0, op = .box t x0 ∧ cX x0 = some x := by cases cOp_was hc with | box t x0 _ h => exact ⟨t, x0, rfl, h⟩
    obtain ⟨v, h, hv⟩ := get_sound hx h
    obtain ⟨cs, h, hcs⟩ := cellsK_sound h
    obtain ⟨k, ks', rfl, hK⟩ := fresh_sound h
    refine ⟨k, ks', _, _, rfl, hK, ?_, .inl rfl⟩
    intro M w σ a own0 ks0 ok hh
    obtain ⟨l1, l2⟩ := hcs M w σ _ (hv M w σ a (ok _ (by simp [SOp.xs])))
    obtain ⟨M', σ', n1, n2, n3, n4⟩ := new_cells hh cs (a.eval x0).cells t l1.symm l2
    refine ⟨_, _, M', σ', ?_, n1, n2, n3, blkOf_loc n3, n4⟩
    exact run_v (s := Instr.box t (a.eval x0)) rfl
  case bslice s len xs =>
    obtain ⟨t, parts, e, zs, rfl, ht, hs, hz, hxs, hidx, hlen, hbig⟩ : ∃ t parts e zs, op = .buildSlice t len parts ∧ P.underlying t = some (.slice e) ∧ szOf P e = some s ∧ zeroOf P e = some zs ∧
        cXs (parts.toList.map (·.2)) = some xs ∧ idxs 0 parts.toList = true ∧ parts.toList.length = len ∧ len * s ≤ 16777216 := by
      cases cOp_was hc with | bslice t _ parts e _ zs _ h1 h2 h3 h4 h5 h6 h7 => exact ⟨t, parts, e, zs, rfl, h1, h2, h3, h4, h5, h6, h7⟩
    obtain ⟨vs, h, hvl, hvs⟩ := gets_sound hxs h
    cases hkf : allB V.kf2 vs with
    | false =>
      rw [hkf] at h
      simp only at h
      obtain ⟨cs, h, hcl, hcs⟩ := flatK_sound s vs _ h
      obtain ⟨k, ks', rfl, hK⟩ := fresh_sound h
      refine ⟨k, ks', _, _, rfl, hK, ?_, .inr (.inl ⟨_, _, rfl⟩)⟩
      intro M w σ a own0 ks0 ok hh
      obtain ⟨q1, q2⟩ := hcs M w σ ((parts.toList.map (·.2)).map a.eval) (by simpa using hvl) (hvs M w σ a ok)
      obtain ⟨i, z, hi, hzz, hzc⟩ := zeroOf_info hz
      have hisz : i.size = s := by simpa [szOf, hi] using hs
      have hps : idxs 0 (parts.toList.map fun p => (p.1, a.eval p.2)) = true := by
        have : ∀ (l : List (Nat × Operand)) (n : Nat), idxs n l = true → idxs n (l.map fun p => (p.1, a.eval p.2)) = true := by
          intro l
          induction l with
          | nil => intro n _; rfl
          | cons p l ih =>
            intro n hn
            obtain ⟨k, x⟩ := p
            simp only [idxs, List.map_cons] at hn ⊢
            split at hn
            · exact ih _ hn
            · cases hn
        exact this _ _ hidx
      have zsz : ∀ q, ((Array.range q).map (fun j => (if len * s = 0 then #[] else z.cells)[j % (if len * s = 0 then #[] else z.cells).size]!) : Array Value).size = q := by intro q; simp
      obtain ⟨cells', f1, f2, f3, f4⟩ := fill_rows s (parts.toList.map fun p => (p.1, a.eval p.2)) 0
        ((Array.range (len * s)).map (fun j => (if len * s = 0 then #[] else z.cells)[j % (if len * s = 0 then #[] else z.cells).size]!)) hps
        (fun p hp => by
          obtain ⟨p0, hp0, rfl⟩ := List.mem_map.1 hp
          exact q1 _ (by simp only [List.map_map, List.mem_map, Function.comp]; exact ⟨p0, hp0, rfl⟩))
        (by rw [zsz]; simp at hlen ⊢; rw [hlen]; exact Nat.le_refl _)
      rw [zsz] at f2
      have hvl' : vs.length = len := by rw [hvl]; simpa using hlen
      obtain ⟨M', σ', n1, n2, n3, n4, n5⟩ := new_cellsv (k := k) (ks := ks0) hh s len cs cells' e (by rw [f2, hcl, hvl']) (fun q x y hx hy => by
        have hq : q < len * s := by rw [← f2]; exact (Array.getElem?_eq_some_iff.1 hy).1
        have hs0 : 0 < s := by
          rcases Nat.eq_zero_or_pos s with h | h
          · subst h; simp at hq
          · exact h
        have hqs : q / s < len := Nat.div_lt_of_lt_mul (by rw [Nat.mul_comm]; exact hq)
        have hqm : q % s < s := Nat.mod_lt _ hs0
        have hqe : q / s * s + q % s = q := by rw [Nat.mul_comm]; exact Nat.div_add_mod q s
        have hlt : q / s < parts.toList.length := by omega
        obtain ⟨x', y', x1, x2, x3, x4⟩ := q2 (q / s) (a.eval (parts.toList[q / s]).2) (by simp [List.getElem?_eq_getElem hlt]) (q % s) hqm
        have := f4 (q / s) ((parts.toList[q / s]).1, a.eval (parts.toList[q / s]).2) (by simp [List.getElem?_eq_getElem hlt]) (q % s) hqm
        simp only [Nat.zero_add] at this
        rw [hqe] at this x3
        rw [this, x1] at hy
        rw [x3] at hx
        cases hy
        cases hx
        exact x4)
      have hrun := run_buildSlice_any (P := P) w t e len (parts.map fun (i, x) => (i, a.eval x)) cells' s i z ht hi hzz hisz hbig (by rw [Array.toList_map]; exact f1)
      exact ⟨_, _, M', σ', run_v hrun, n1, n2, n3, n4, n5⟩
    | true =>
    rw [hkf] at h
    simp only at h
    obtain ⟨rs, h, hrl, hrs⟩ := rowsK_sound s vs _ h
    obtain ⟨k, ks', rfl, hK⟩ := fresh_sound h
    refine ⟨k, ks', _, _, rfl, hK, ?_, .inr (.inl ⟨_, _, rfl⟩)⟩
    intro M w σ a own0 ks0 ok hh
    have hxl : xs.length = len := by rw [cXs_length hxs]; simpa using hlen
    obtain ⟨q1, q2⟩ := hrs M w σ ((parts.toList.map (·.2)).map a.eval) (by simpa using hvl) (hvs M w σ a ok)
    obtain ⟨i, z, hi, hzz, hzc⟩ := zeroOf_info hz
    have hisz : i.size = s := by simpa [szOf, hi] using hs
    have hps : idxs 0 (parts.toList.map fun p => (p.1, a.eval p.2)) = true := by
      have : ∀ (l : List (Nat × Operand)) (n : Nat), idxs n l = true → idxs n (l.map fun p => (p.1, a.eval p.2)) = true := by
        intro l
        induction l with
        | nil => intro n _; rfl
        | cons p l ih =>
          intro n hn
          obtain ⟨k, x⟩ := p
          simp only [idxs, List.map_cons] at hn ⊢
          split at hn
          · exact ih _ hn
          · cases hn
      exact this _ _ hidx
    have zsz : ∀ q, ((Array.range q).map (fun j => (if len * s = 0 then #[] else z.cells)[j % (if len * s = 0 then #[] else z.cells).size]!) : Array Value).size = q := by intro q; simp
    obtain ⟨cells', f1, f2, f3, f4⟩ := fill_rows s (parts.toList.map fun p => (p.1, a.eval p.2)) 0
      ((Array.range (len * s)).map (fun j => (if len * s = 0 then #[] else z.cells)[j % (if len * s = 0 then #[] else z.cells).size]!)) hps
      (fun p hp => by
        obtain ⟨p0, hp0, rfl⟩ := List.mem_map.1 hp
        exact q1 _ (by simp only [List.map_map, List.mem_map, Function.comp]; exact ⟨p0, hp0, rfl⟩))
      (by rw [zsz]; simp at hlen ⊢; rw [hlen]; exact Nat.le_refl _)
    rw [zsz] at f2
    obtain ⟨M', σ', n1, n2, n3, n4, n5⟩ := new_vec' (w' := w.alloc (.cells cells' e)) hh len s len (tab rs) cells' e (.inl rfl) (Nat.le_refl _) (by omega) (fun i j hi hj => by
      have hlt : i < parts.toList.length := by omega
      obtain ⟨x, x1, x2, x3⟩ := q2 i (a.eval (parts.toList[i]).2) (by simp [List.getElem?_eq_getElem hlt]) j hj
      refine ⟨x, ?_, x2, x3⟩
      have := f4 i ((parts.toList[i]).1, a.eval (parts.toList[i]).2) (by simp [List.getElem?_eq_getElem hlt]) j hj
      simp only [Nat.zero_add] at this
      rw [this]; exact x1)
    have n3' := n3 len (Nat.le_refl _)
    have hrun := run_buildSlice_any (P := P) w t e len (parts.map fun (i, x) => (i, a.eval x)) cells' s i z ht hi hzz hisz hbig (by rw [Array.toList_map]; exact f1)
    exact ⟨_, _, M', σ', run_v hrun, n1, n2, n3', by rw [n4]; simp, n5⟩

end Go.Eng
