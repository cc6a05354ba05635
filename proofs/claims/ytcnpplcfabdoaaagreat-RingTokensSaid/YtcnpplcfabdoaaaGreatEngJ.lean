/-
  The engine, part J: regions that draw their order: the abstract side.
-/
import Derived.Test.YtcnpplcfabdoaaaGreatEngI
namespace Go.Eng

inductive DI where
  | op (ix : Nat) (si : SI)
  | eff (ix : Nat) (pend : List Nat) (held : List (Option Nat × Nat × Nat)) (si : SI)

def DI.ix : DI → Nat
  | .op i _ => i
  | .eff i _ _ _ => i
def DI.si : DI → SI
  | .op _ s => s
  | .eff _ _ _ s => s

def keyOfV : V → Option Nat
  | .loc k _ => some k
  | .vec k _ _ _ => some k
  | .oel k _ _ _ => some k
  | _ => none

/-- own blocks that need not be born yet are set aside -/
def splitK (env : Env) : List Nat → Own → Own → (Own → Own → Prop) → Prop
  | [], own, acc, K => K own acc
  | t :: r, own, acc, K => match look env t with
    | some v => match keyOfV v with
      | some k => match look own k with
        | some b => delK k own fun own' => splitK env r own' ((k, b) :: acc) K
        | none => False
      | none => splitK env r own acc K
    | none => False

/-- loads that may run behind the effect read the same -/
def heldK (env : Env) (own : Own) (G : Prop) : List (Option Nat × Nat × Nat) → Prop
  | [] => G
  | (sz, n, t) :: r => match look env t with
    | some (.raw _) => heldK env own G r
    | some v => match look env n with
      | some p => vloadR own sz p (fun v' => v' = v) ∧ heldK env own G r
      | none => False
    | none => False

def appK {α : Type} : List α → List α → (List α → Prop) → Prop
  | [], l, K => K l
  | x :: r, l, K => appK r l fun l' => K (x :: l')

def guardK (env : Env) (g : Option (Nat × Bool)) (A B : Prop) : Prop :=
  match g with
  | none => A
  | some (t, want) => match look env t with
    | some (.bool b) => match Bool.xor b want with
      | false => A
      | true => B
    | some (.raw (.tuple _)) => B
    | _ => False

def vdraw (P : Program) : List DI → Env → Own → List Nat → (Env → Own → List Nat → Prop) → Prop
  | [], env, own, ks, K => K env own ks
  | .op _ ⟨d, op, g⟩ :: r, env, own, ks, K => guardK env g
      (vop P op env own ks fun v own ks => match d with
        | some t => vdraw P r ((t, v) :: env) own ks K
        | none => vdraw P r env own ks K)
      (match d with
        | some t => vdraw P r ((t, .raw (.tuple #[])) :: env) own ks K
        | none => vdraw P r env own ks K)
  | .eff _ pend held ⟨d, op, g⟩ :: r, env, own, ks, K => guardK env g
      (splitK env pend own [] fun ownA ownB => vop P op env ownA ks fun v ownA' ks => heldK env ownA' (appK ownB ownA' fun own => match d with
        | some t => vdraw P r ((t, v) :: env) own ks K
        | none => vdraw P r env own ks K) held)
      (match d with
        | some t => vdraw P r ((t, .raw (.tuple #[])) :: env) own ks K
        | none => vdraw P r env own ks K)

/-! ## the plan of a region -/

def edgesOf (o : Oper) : List Nat := (o.after.toList.filter (Region.binds .any)).map (·.on)


def unionN : List Nat → List Nat → List Nat
  | [], l => l
  | x :: r, l => match memN x l with | true => unionN r l | false => unionN r (x :: l)

/-- ancestors, an entry an operation, the operations in the text's order -/
def ancs : List Oper → List (List Nat) → List (List Nat)
  | [], acc => acc
  | o :: r, acc => ancs r (acc ++ [(edgesOf o).foldl (fun l j => unionN (j :: (acc.getD j [])) l) []])

def tmpsOf : List X → List Nat
  | [] => []
  | .t n :: r => n :: tmpsOf r
  | .k _ :: r => tmpsOf r

def SI.uses (s : SI) : List Nat := tmpsOf s.op.xs ++ (match s.guard with | some (t, _) => [t] | none => [])

/-- the ready operations without effects, then one effect, and so on -/
def canon (A : List (List Nat)) (eff : Nat → Bool) : Nat → List Nat → List Nat → List Nat
  | 0, _, done => done
  | fuel + 1, rest, done =>
    let step := rest.foldl (fun (p : List Nat × List Nat) i =>
      if !eff i && (A.getD i []).all (fun j => memN j p.1) then (p.1 ++ [i], p.2) else (p.1, p.2 ++ [i])) (done, [])
    match step.2 with
    | [] => step.1
    | i :: _ => canon A eff fuel (step.2.filter (fun j => !Nat.beq j i)) (step.1 ++ [i])

def mkItems (A : List (List Nat)) (sis : List SI) : List Nat → List Nat → List DI
  | [], _ => []
  | i :: r, done => match sis[i]? with
    | some si => match si.op.isEff with
      | false => .op i si :: mkItems A sis r (done ++ [i])
      | true =>
        let free := done.filter fun j => !memN j (A.getD i [])
        let pend := free.filterMap fun j => match sis[j]? with | some s => (match s.op.isNew with | true => s.dst | false => none) | none => none
        let held := free.filterMap fun j => match sis[j]? with
          | some s => (match s.op, s.dst with | .load z (.t n), some t => some (z, n, t) | _, _ => none)
          | none => none
        .eff i pend held si :: mkItems A sis r (done ++ [i])
    | none => []

def DI.isEff : DI → Bool
  | .op _ _ => false
  | .eff _ _ _ _ => true

def memH (z : Option Nat) (n t : Nat) : List (Option Nat × Nat × Nat) → Bool
  | [] => false
  | (z', n', t') :: r => (decide (z' = z) && Nat.beq n' n && Nat.beq t' t) || memH z n t r

def pendB (pend : List Nat) (held : List (Option Nat × Nat × Nat)) (s : SI) : Bool :=
  match s.op with
  | .load z x => match x, s.dst with
    | .t n, some t => memH z n t held
    | _, _ => false
  | op => match op.isNew with
    | true => match s.dst with | some t => memN t pend | none => false
    | false => true

/-- what is asked of an item, with those ahead of it and those behind it -/
def condB (A : List (List Nat)) (pre : List DI) (d : DI) (post : List DI) : Bool :=
  pre.all (fun d' => !memN d.ix (A.getD d'.ix [])) &&
  (match d.si.dst with
    | some t => pre.all (fun d' => decide (d'.si.dst ≠ some t)) && pre.all (fun d' => !memN t d'.si.uses || (d.isEff && memN d'.ix (A.getD d.ix []))) && (d.isEff || !memN t d.si.uses)
    | none => true) &&
  pre.all (fun d' => d'.isEff || (match d'.si.dst with | some t => !memN t d.si.uses || memN d'.ix (A.getD d.ix []) | none => true)) &&
  (match d with
    | .op _ si => !si.op.isEff && (!si.op.isNew || si.dst.isSome) && (match si.op with | .load _ (.k _) => false | _ => true)
    | .eff ix pend held si => si.op.isEff && post.all (fun d' => memN ix (A.getD d'.ix [])) && pre.all (fun d' => d'.isEff || memN d'.ix (A.getD ix []) || pendB pend held d'.si))

def condsB (A : List (List Nat)) : List DI → List DI → Bool
  | _, [] => true
  | pre, d :: post => condB A pre d post && condsB A (pre ++ [d]) post

def ancB (A : List (List Nat)) (ops : Array Oper) : Bool :=
  (List.range ops.size).all fun i => match ops[i]? with
    | some o => (edgesOf o).all (fun j => Nat.ble (j + 1) i) && (A.getD i []).all (fun e => memN e (edgesOf o) || (edgesOf o).any (fun j => memN e (A.getD j [])))
    | none => false

def nodupB : List Nat → Bool
  | [] => true
  | x :: r => !memN x r && nodupB r

def itemsB (n : Nat) (l : List DI) : Bool :=
  Nat.beq l.length n && (List.range n).all (fun i => memN i (l.map DI.ix)) && (l.map DI.ix).all (fun i => Nat.ble (i + 1) n) && nodupB (l.map DI.ix)

def planOf (P : Program) (N : Nat) (ops : Array Oper) : Option (List DI) :=
  match cSIs P N ops ops.toList with
  | some sis =>
    let A := ancs ops.toList []
    let c := canon A (fun i => match sis[i]? with | some s => s.op.isEff | none => true) (ops.size + 1) (List.range ops.size) []
    let l := mkItems A sis c []
    match condsB A [] l && ancB A ops && itemsB ops.size l with
    | true => some l
    | false => none
  | none => none


theorem nodupB_iff : ∀ {l : List Nat}, nodupB l = true → l.Nodup
  | [], _ => by simp
  | x :: r, h => by
    simp only [nodupB, Bool.and_eq_true, Bool.not_eq_true'] at h
    refine List.nodup_cons.2 ⟨fun hm => ?_, nodupB_iff h.2⟩
    rw [memN_iff.2 hm] at h
    cases h.1

theorem memH_iff {z : Option Nat} {n t : Nat} : ∀ {l : List (Option Nat × Nat × Nat)}, memH z n t l = true → (z, n, t) ∈ l
  | [], h => by simp [memH] at h
  | (z', n', t') :: r, h => by
    simp only [memH, Bool.or_eq_true, Bool.and_eq_true, decide_eq_true_eq] at h
    rcases h with ⟨⟨rfl, h1⟩, h2⟩ | h
    · have h1 := Nat.eq_of_beq_eq_true h1
      have h2 := Nat.eq_of_beq_eq_true h2
      subst h1 h2
      simp
    · exact List.mem_cons_of_mem _ (memH_iff h)

/-! ## what the plan says -/

structure Cond (anc : Nat → List Nat) (pre : List DI) (d : DI) (post : List DI) : Prop where
  order : ∀ d', d' ∈ pre → d.ix ∉ anc d'.ix
  dst : ∀ t, d.si.dst = some t → ∀ d', d' ∈ pre → d'.si.dst ≠ some t
  reads : ∀ t, d.si.dst = some t → ∀ d', d' ∈ pre → t ∈ d'.si.uses → d.isEff = true ∧ d'.ix ∈ anc d.ix
  self : ∀ t, d.si.dst = some t → d.isEff = false → t ∉ d.si.uses
  uses : ∀ d', d' ∈ pre → d'.isEff = false → ∀ t, d'.si.dst = some t → t ∈ d.si.uses → d'.ix ∈ anc d.ix
  op : d.isEff = false → d.si.op.isEff = false ∧ (d.si.op.isNew = true → d.si.dst ≠ none) ∧ (∀ z x, d.si.op = .load z x → ∃ n, x = .t n)
  eff : ∀ ix pend held si, d = .eff ix pend held si → si.op.isEff = true ∧ (∀ d', d' ∈ post → ix ∈ anc d'.ix) ∧ (∀ d', d' ∈ pre → d'.isEff = false → d'.ix ∉ anc ix → pendB pend held d'.si = true)

theorem cond_of {A : List (List Nat)} {pre : List DI} {d : DI} {post : List DI} (h : condB A pre d post = true) : Cond (fun i => A.getD i []) pre d post := by
  simp only [condB, Bool.and_eq_true] at h
  obtain ⟨⟨⟨h1, h2⟩, h3⟩, h4⟩ := h
  refine ⟨?_, ?_, ?_, ?_, ?_, ?_, ?_⟩
  · intro d' hd' hm
    have := List.all_eq_true.1 h1 d' hd'
    rw [memN_iff.2 hm] at this
    cases this
  · intro t ht d' hd'
    rw [ht] at h2
    simp only [Bool.and_eq_true] at h2
    have := List.all_eq_true.1 h2.1.1 d' hd'
    simpa using this
  · intro t ht d' hd' hm
    rw [ht] at h2
    simp only [Bool.and_eq_true] at h2
    have := List.all_eq_true.1 h2.1.2 d' hd'
    simp only [Bool.or_eq_true, Bool.and_eq_true, Bool.not_eq_true'] at this
    rcases this with h | h
    · rw [memN_iff.2 hm] at h; cases h
    · exact ⟨h.1, memN_iff.1 h.2⟩
  · intro t ht he hm
    rw [ht] at h2
    simp only [Bool.and_eq_true, Bool.or_eq_true, Bool.not_eq_true'] at h2
    rcases h2.2 with h | h
    · rw [he] at h; cases h
    · rw [memN_iff.2 hm] at h; cases h
  · intro d' hd' he t ht hm
    have := List.all_eq_true.1 h3 d' hd'
    rw [he, ht] at this
    simp only [Bool.false_or, Bool.or_eq_true, Bool.not_eq_true'] at this
    rcases this with h | h
    · rw [memN_iff.2 hm] at h; cases h
    · exact memN_iff.1 h
  · intro he
    cases d with
    | op ix si =>
      simp only [Bool.and_eq_true, Bool.not_eq_true', Bool.or_eq_true] at h4
      refine ⟨h4.1.1, fun hn => ?_, fun z x e => ?_⟩
      · rcases h4.1.2 with h | h
        · simp only [DI.si] at hn; rw [h] at hn; cases hn
        · intro e; simp only [DI.si] at e; rw [e] at h; cases h
      · simp only [DI.si] at e
        rw [e] at h4
        cases x with
        | t n => exact ⟨n, rfl⟩
        | k v => simp at h4
    | eff => cases he
  · intro ix pend held si e
    subst e
    simp only [Bool.and_eq_true] at h4
    refine ⟨h4.1.1, fun d' hd' => memN_iff.1 (List.all_eq_true.1 h4.1.2 d' hd'), fun d' hd' he hn => ?_⟩
    have := List.all_eq_true.1 h4.2 d' hd'
    simp only [Bool.or_eq_true] at this
    rcases this with (h | h) | h
    · rw [he] at h; cases h
    · exact (hn (memN_iff.1 h)).elim
    · exact h

end Go.Eng
