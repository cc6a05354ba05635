/-
  The engine, part G2: new slices of zeros, maps with pairs of numbers as keys, ranges over such maps.
-/
import Derived.Test.YtcnpplcfabdoaaaGreatEngG
import Derived.Laws.MakeOwn
import Derived.Maps.RangeRun
namespace Go.Eng
open Go.MapKept (bytes_beq)

inductive XOp where
  | mks (s bytes : Nat) (zs : List V) (x : X)
  | mkmap (ik : MKd)
  | mget (ik : MKd) (z : V) (comma : Bool) (m x : X)
  | mput (ik : MKd) (m x y : X)
  | mrng (x : X)
  | mnxt (x : X)
  | ment (x : X)
  | gix (g n s : Nat) (x : X)
  | asl (n s : Nat) (x : X) (hi : Option X)

def XOp.xs : XOp → List X
  | .mks _ _ _ x | .mrng x | .mnxt x | .ment x | .gix _ _ _ x => [x]
  | .mkmap _ => []
  | .mget _ _ _ m x => [m, x]
  | .mput _ m x y => [m, x, y]
  | .asl _ _ x hi => x :: Xo hi

def mfind {α : Type} [DecidableEq α] : List (α × V) → α → Option V
  | [], _ => none
  | (q, v) :: r, p => if q = p then some v else mfind r p

def mput {α : Type} [DecidableEq α] : List (α × V) → α → V → List (α × V)
  | [], p, v => [(p, v)]
  | (q, u) :: r, p, v => if q = p then (q, v) :: r else (q, u) :: mput r p v

/-- a key -/
def pairK (ik : MKd) (v : V) (K : KyT ik → Prop) : Prop :=
  match ik with
  | .pair ik => match v with
    | .agg [.int k a, .int k' b] => match decide (k = ik), decide (k' = ik) with
      | true, true => K (a, b)
      | _, _ => False
    | _ => False
  | .one ik => match v with
    | .int k a => match decide (k = ik) with
      | true => K a
      | false => False
    | _ => False
  | .str => match v with
    | .str s => K s
    | _ => False
def keyV : (ik : MKd) → KyT ik → V
  | .pair k, p => .agg [.int k p.1, .int k p.2]
  | .one k, p => .int k p
  | .str, p => .str p

structure MGet (o : Option V) (A : V → Prop) (B : Prop) : Prop where
  hit : ∀ v, o = some v → A v
  miss : o = none → B

structure MNext {α : Type} (n : Nat) (idxs : List Nat) (es : List α) (A : Nat → α → Prop) (B : Prop) : Prop where
  one : ∀ i p, i < n → i ∉ idxs → es[i]? = some p → A i p
  over : (∀ i, i < n → i ∈ idxs) → B

def mapK (own : Own) (m : V) (K : Nat → (ik : MKd) → List (KyT ik × V) → Prop) : Prop :=
  match m with
  | .map k => match look own k with
    | some (.map ik es) => K k ik es
    | _ => False
  | _ => False

def iterK (own : Own) (m : V) (K : Nat → Nat → Nat → List Nat → (ik : MKd) → List (KyT ik × V) → Prop) : Prop :=
  match m with
  | .loc k 0 => match look own k with
    | some (.iter km n idxs) => match look own km with
      | some (.map ik es) => Chk (Nat.beq es.length n) (K k km n idxs ik es)
      | _ => False
    | _ => False
  | _ => False

/-- the last of some numbers -/
def lastK (l : List Nat) (K : Nat → Prop) : Prop := ∃ i, l.getLast? = some i ∧ K i

/-- the name of the package's table -/
def GK : Nat := 999
def globK (own : Own) (g : Nat) (K : Nat → (Nat → Nat → V) → Prop) : Prop :=
  match look own 999 with
  | some (.glob g' m f) => match Nat.beq g g' with
    | true => K m f
    | false => False
  | _ => False

/-- a new slice as a row of plain elements, or cell by cell -/
inductive MkS (A B : Prop) : Prop where
  | vec (h : A) : MkS A B
  | cells (h : B) : MkS A B

def mksK (s m : Nat) (zs : List V) (own : Own) (k : Nat) (ks : List Nat) (K : V → Own → List Nat → Prop) : Prop :=
  match s with
  | 1 => MkS (K (.vec k 1 0 m) ((k, .vec m 1 (fun _ j => zs.getD j default)) :: own) ks) (K (.vec k 1 0 m) ((k, .cells (List.replicate m (zs.getD 0 default))) :: own) ks)
  | s => K (.vec k s 0 m) ((k, .vec m s (fun _ j => zs.getD j default)) :: own) ks
theorem mksK_out {s m : Nat} {zs : List V} {own : Own} {k : Nat} {ks : List Nat} {K : V → Own → List Nat → Prop} (h : mksK s m zs own k ks K) :
    K (.vec k s 0 m) ((k, .vec m s (fun _ j => zs.getD j default)) :: own) ks ∨ (s = 1 ∧ K (.vec k 1 0 m) ((k, .cells (List.replicate m (zs.getD 0 default))) :: own) ks) := by
  unfold mksK at h
  split at h
  · cases h with
    | vec h => exact .inl h
    | cells h => exact .inr ⟨rfl, h⟩
  · exact .inl h

def vxop (o : XOp) (env : Env) (own : Own) (ks : List Nat) (K : V → Own → List Nat → Prop) : Prop :=
  match o with
  | .mks s bytes zs x => x.get env fun v => match v with
    | .int _ n => Bd n 4611686018427387904 fun m => Len (m * bytes) 140737488355328 (fresh ks fun k ks => mksK s m zs own k ks K)
    | _ => False
  | .mkmap ik => fresh ks fun k ks => K (.map k) ((k, .map ik []) :: own) ks
  | .mget ik z comma m x => m.get env fun m => x.get env fun x => mapK own m fun _ ik' es => match decide (ik' = ik) with
    | true => pairK ik' x fun p => MGet (mfind es p) (fun v => match comma with | true => K (.tup [v, .bool true]) own ks | false => K v own ks) (match comma with | true => K (.tup [z, .bool false]) own ks | false => K z own ks)
    | false => False
  | .mput ik m x y => m.get env fun m => x.get env fun x => y.get env fun y => mapK own m fun k ik' es => match decide (ik' = ik), y.kf2 with
    | true, true => pairK ik' x fun p => updK k (.map ik' (mput es p y)) own fun own => K (.raw (.tuple #[])) own ks
    | _, _ => False
  | .mrng x => x.get env fun m => mapK own m fun km _ es => fresh ks fun k ks => K (.loc k 0) ((k, .iter km es.length []) :: own) ks
  | .mnxt x => x.get env fun m => iterK own m fun k km n idxs ik es =>
      MNext n idxs es (fun i p => updK k (.iter km n (idxs ++ [i])) own fun own => K (.tup [.bool true, keyV ik p.1, p.2]) own ks) (K (.tup [.bool false]) own ks)
  | .ment x => x.get env fun m => iterK own m fun _ _ _ idxs ik es => lastK idxs fun i => ∃ p, es[i]? = some p ∧ K (.tup [keyV ik p.1, p.2]) own ks
  | .asl n s x hi => x.get env fun p => match p with
    | .oel k s' 0 0 => match look own k with
      | some (.vec n' s'' f) => match Nat.beq s s', Nat.beq s s'', Nat.ble n n' with
        | true, true, true => bdK hi env n n fun h => K (.fz h s false f) (dropK [k] own) ks
        | _, _, _ => False
      | _ => False
    | _ => False
  | .gix g n s x => x.get env fun v => match v with
    | .int _ i => globK own g fun m f => match Nat.beq s 1, Nat.beq n m with
      | true, true => Ix i n fun j => K (.fe m 1 f j 0) own ks
      | _, _ => False
    | _ => False

/-- a map type whose keys are numbers, pairs of numbers, or strings -/
def isM2 (P : Program) (t : TypeId) : Option (MKd × TypeId × TypeId × TypeId) :=
  match P.underlying t with
  | some (.map kt et) => match P.underlying kt with
    | some (.array 2 e) => match P.underlying e, szOf P e with
      | some (.int k), some 1 => some (.pair k, kt, et, e)
      | _, _ => none
    | some (.int k) => some (.one k, kt, et, kt)
    | some .string => some (.str, kt, et, kt)
    | _ => none
  | _ => none

def zero1 (P : Program) (t : TypeId) : Option V := match P.info? t with
  | some i => match i.zero with
    | some z => ofCell z
    | none => none
  | none => none

def cXop (P : Program) (op : Op) : Option XOp :=
  match op with
  | .makeSlice t l c => match P.underlying t with
    | some (.slice e) => match szOf P e, (P.info? e).map (·.bytes), zeroOf P e, cX l, sameB (some l) (some c) with
      | some s, some b, some zs, some x, true => match Nat.beq zs.length s, allB V.kf1 zs with
        | true, true => some (.mks s b zs x)
        | _, _ => none
      | _, _, _, _, _ => none
    | _ => none
  | .makeMap t none => (isM2 P t).map fun p => .mkmap p.1
  | .lookup t m x comma => match isM2 P t, cX m, cX x with
    | some (ik, _, et, _), some m, some x => (zero1 P et).map fun z => .mget ik z comma m x
    | _, _, _ => none
  | .mapUpdate t m x y => match isM2 P t, cX m, cX x, cX y with
    | some (ik, _, _, _), some m, some x, some y => some (.mput ik m x y)
    | _, _, _, _ => none
  | .range t x => match isM2 P t with
    | some _ => (cX x).map .mrng
    | none => none
  | .next x false => (cX x).map .mnxt
  | .entry x => (cX x).map .ment
  | .indexAddr t (.global g) i => match P.underlying t, cX i with
    | some (.array n e), some i => (szOf P e).map fun s => .gix g n s i
    | _, _ => none
  | .slice t x none hi none => match P.underlying t with
    | some (.array n e) => match szOf P e, cX x, cXo hi with
      | some s, some x, some hi => some (.asl n s x hi)
      | _, _, _ => none
    | _ => none
  | _ => none

/-! ## how keys are looked for -/

section
variable {P : Program} {t kt et e : TypeId} {ik : MKd}

/-- the type of keys -/
def KeyTy (P : Program) (ik : MKd) (kt e : TypeId) : Prop :=
  match ik with
  | .pair k => P.underlying kt = some (.array 2 e) ∧ P.underlying e = some (.int k) ∧ szOf P e = some 1
  | .one k => P.underlying kt = some (.int k)
  | .str => P.underlying kt = some .string

theorem isM2_spec (h : isM2 P t = some (ik, kt, et, e)) : P.underlying t = some (.map kt et) ∧ KeyTy P ik kt e := by
  unfold isM2 at h
  split at h
  · rename_i kt' et' h1
    split at h
    · rename_i e' h2
      split at h
      · rename_i k h3 h4
        cases h
        exact ⟨h1, h2, h3, h4⟩
      · cases h
    · rename_i k h2
      cases h
      exact ⟨h1, h2⟩
    · rename_i h2
      cases h
      exact ⟨h1, h2⟩
    · cases h
  · cases h

theorem run_isAgg2 {k : IntKind} (he : P.underlying e = some (.int k)) (w : World) : (isAgg e).run P w = .ok false w := run_isAggB (show isAggB P e = some false by simp [isAggB, he]) w

theorem run_checkPair (hk : KeyTy P ik kt e) (b : Bool) (p : KyT ik) (w : World) : (Instr.checkKey b 10000 kt (keyP ik p)).run P w = .ok () w := by
  cases ik with
  | pair k =>
    obtain ⟨hk, he, hs⟩ := hk
    have h1 : ∀ (v : Int), (Instr.checkKey b 9999 e (.int k v)).run P w = .ok () w := by
      intro v
      rw [show (9999 : Nat) = 9998 + 1 from rfl, Instr.checkKey]
      simp [Sem.run_bind, run_underlying he, go_sem]
    have hag := run_isAgg2 he w
    rw [Instr.checkKey]
    simp only [keyP, Sem.run_bind, run_underlying hk, Result.andThen_ok]
    simp [Sem.run_bind, run_szOf hs, hag, h1, show List.range' 0 2 = [0, 1] from rfl, List.forIn_cons, List.forIn_nil, go_sem]
  | one k =>
    have hk : P.underlying kt = some (.int k) := hk
    rw [Instr.checkKey]
    simp [keyP, Sem.run_bind, run_underlying hk, go_sem]
  | str =>
    have hk : P.underlying kt = some .string := hk
    rw [Instr.checkKey]
    simp [keyP, Sem.run_bind, run_underlying hk, go_sem]

theorem run_eqPair (hk : KeyTy P ik kt e) (p q : KyT ik) (w : World) : (Op.equal kt (keyP ik p) (keyP ik q)).run P w = .ok (decide (q = p)) w := by
  cases ik with
  | pair k =>
    obtain ⟨hk, he, hs⟩ := hk
    have h1 : ∀ (a b : Int), (Op.equalIn 9999 e (.int k a) (.int k b)).run P w = .ok (a == b) w := by
      intro a b
      rw [show (9999 : Nat) = 9998 + 1 from rfl, Op.equalIn]
      simp [Sem.run_bind, run_underlying he, go_sem]
    have hag := run_isAgg2 he w
    unfold Op.equal Op.maxDepth
    rw [Op.equalIn]
    simp only [keyP, Sem.run_bind, run_underlying hk, Result.andThen_ok]
    obtain ⟨p1, p2⟩ := p
    obtain ⟨q1, q2⟩ := q
    simp only
    have hd : decide ((q1, q2) = (p1, p2)) = ((p1 == q1) && (p2 == q2)) := by
      rw [Bool.eq_iff_iff]
      simp only [decide_eq_true_eq, Prod.mk.injEq, Bool.and_eq_true, beq_iff_eq]
      constructor <;> rintro ⟨a, b⟩ <;> exact ⟨a.symm, b.symm⟩
    have hd' : @decide (((q1, q2) : KyT (.pair k)) = (p1, p2)) (instDecidableEqKyT (.pair k) (q1, q2) (p1, p2)) = ((p1 == q1) && (p2 == q2)) := hd
    rw [hd']
    by_cases e1 : p1 = q1
    · by_cases e2 : p2 = q2
      · simp [Sem.run_bind, run_szOf hs, hag, h1, show List.range' 0 2 = [0, 1] from rfl, List.forIn_cons, List.forIn_nil, go_sem, e1, e2]
      · simp [Sem.run_bind, run_szOf hs, hag, h1, show List.range' 0 2 = [0, 1] from rfl, List.forIn_cons, List.forIn_nil, go_sem, e1, e2]
    · simp [Sem.run_bind, run_szOf hs, hag, h1, show List.range' 0 2 = [0, 1] from rfl, List.forIn_cons, List.forIn_nil, go_sem, e1]
  | one k =>
    have hk : P.underlying kt = some (.int k) := hk
    unfold Op.equal Op.maxDepth
    rw [Op.equalIn]
    have hd : @decide (q = p) (instDecidableEqKyT (.one k) q p) = ((p : Int) == q) := by
      rw [Bool.eq_iff_iff]
      simp only [decide_eq_true_eq, beq_iff_eq]
      exact ⟨Eq.symm, Eq.symm⟩
    rw [hd]
    simp [keyP, Sem.run_bind, run_underlying hk, go_sem]
  | str =>
    have hk : P.underlying kt = some .string := hk
    unfold Op.equal Op.maxDepth
    rw [Op.equalIn]
    have hd : ∀ (p q : ByteArray), @decide (q = p) (instDecidableEqKyT .str q p) = (p == q) := by
      intro p q
      rw [Bool.eq_iff_iff, decide_eq_true_eq, bytes_beq]
      exact ⟨Eq.symm, Eq.symm⟩
    rw [hd]
    simp [keyP, Sem.run_bind, run_underlying hk, go_sem]

theorem ERel.get {M : Nat → Prop} {w : World} : ∀ {l : List MapEntry} {es : List (KyT ik × V)} {i : Nat}, ERel M w ik l es i → ∀ (j : Nat) (x : MapEntry), l[j]? = some x → ∃ p, es[j]? = some p ∧ x.key = keyP ik p.1 ∧ x.born = i + j ∧ Den M w Sg.none p.2 x.val
  | [], [], _, _, j, x, hx => by simp at hx
  | y :: r, p :: q, i, h, j, x, hx => by
    cases j with
    | zero => simp at hx; subst hx; exact ⟨p, rfl, h.1.1, h.1.2.1, h.1.2.2⟩
    | succ j =>
      obtain ⟨p', a, b, c, d⟩ := h.2.get j x (by simpa using hx)
      exact ⟨p', by simpa using a, b, by omega, d⟩
  | [], _ :: _, _, h, _, _, _ => h.elim
  | _ :: _, [], _, h, _, _, _ => h.elim

theorem ERel.length {M : Nat → Prop} {w : World} : ∀ {l : List MapEntry} {es : List (KyT ik × V)} {i : Nat}, ERel M w ik l es i → l.length = es.length
  | [], [], _, _ => rfl
  | _ :: _, _ :: _, _, h => by simp [h.2.length]
  | [], _ :: _, _, h => h.elim
  | _ :: _, [], _, h => h.elim

/-- looking for a key -/
theorem find_pair (hk : KeyTy P ik kt e) {M : Nat → Prop} {w : World} (p : KyT ik) : ∀ (l : List MapEntry) (es : List (KyT ik × V)) (i : Nat), ERel M w ik l es i → ∀ j,
    (∃ n x v, (Instr.findAsking kt (keyP ik p) l j).run P w = .ok (some (j + n, x.val)) w ∧ l[n]? = some x ∧ x.key = keyP ik p ∧ mfind es p = some v ∧ Den M w Sg.none v x.val ∧
        ∀ y, (∀ u' : Value, Den M w Sg.none y u' → ERel M w ik (l.modify n fun z => { z with key := keyP ik p, val := u' }) (mput es p y) i)) ∨
    ((Instr.findAsking kt (keyP ik p) l j).run P w = .ok none w ∧ mfind es p = none ∧ ∀ y, ∀ u' : Value, Den M w Sg.none y u' → ERel M w ik (l ++ [{ key := keyP ik p, val := u', born := i + l.length }]) (mput es p y) i)
  | [], [], i, _, j => .inr ⟨rfl, rfl, fun y u' hu => ⟨⟨rfl, rfl, hu⟩, True.intro⟩⟩
  | x :: r, (q, v) :: es, i, h, j => by
    have hx := h.1.1
    have hrun := run_eqPair hk p q w
    by_cases hqp : q = p
    · subst hqp
      refine .inl ⟨0, x, v, ?_, rfl, hx, by simp [mfind], h.1.2.2, fun y u' hu => ?_⟩
      · simp only [Instr.findAsking, hx, Sem.run_bind, hrun, Result.andThen_ok, decide_true, if_true]
        rfl
      · simp only [mput, if_true]
        exact ⟨⟨rfl, h.1.2.1, hu⟩, h.2⟩
    · have hstep : (Instr.findAsking kt (keyP ik p) (x :: r) j).run P w = (Instr.findAsking kt (keyP ik p) r (j + 1)).run P w := by
        simp only [Instr.findAsking, hx, Sem.run_bind, hrun, Result.andThen_ok, decide_eq_false hqp, Bool.false_eq_true, if_false]
      rcases find_pair hk p r es (i + 1) h.2 (j + 1) with ⟨n, x', v', a1, a2, a3, a4, a5, a6⟩ | ⟨a1, a2, a3⟩
      · refine .inl ⟨n + 1, x', v', by rw [hstep, a1, show j + 1 + n = j + (n + 1) by omega], by simpa using a2, a3, by simp [mfind, hqp, a4], a5, fun y u' hu => ?_⟩
        simp only [mput, if_neg hqp]
        exact ⟨h.1, a6 y u' hu⟩
      · refine .inr ⟨by rw [hstep, a1], by simp [mfind, hqp, a2], fun y u' hu => ?_⟩
        simp only [mput, if_neg hqp]
        have := a3 y u' hu
        rw [show i + 1 + r.length = i + (x :: r).length by simp; omega] at this
        exact ⟨h.1, this⟩
  | [], _ :: _, _, h, _ => h.elim
  | _ :: _, [], _, h, _ => h.elim

theorem findKey_pair (hk : KeyTy P ik kt e) (p : KyT ik) (l : List MapEntry) (w : World) : (Instr.findKey kt (keyP ik p) l).run P w = (Instr.findAsking kt (keyP ik p) l).run P w := by
  have key : ∀ d, P.underlying kt = some d → (∀ x : Value, ∀ b, Instr.sameNow d (keyP ik p) x = some b → ∃ q : KyT ik, x = keyP ik q ∧ b = decide (q = p)) →
      ∀ (l : List MapEntry) (j : Nat) (r : Option (Nat × Value)), Instr.findNow d (keyP ik p) l j = some r → (Instr.findAsking kt (keyP ik p) l j).run P w = .ok r w := by
    intro d hd hs l
    induction l with
    | nil => intro j r h; simp only [Instr.findNow, Option.some.injEq] at h; subst h; rfl
    | cons x l ih =>
      intro j r h
      simp only [Instr.findNow] at h
      cases hx : Instr.sameNow d (keyP ik p) x.key with
      | none => rw [hx] at h; cases h
      | some b =>
        obtain ⟨q, e1, e2⟩ := hs x.key b hx
        have hrun := run_eqPair hk p q w
        rw [← e2] at hrun
        rw [hx] at h
        cases b with
        | true =>
          simp only [Option.some.injEq] at h
          subst h
          simp only [Instr.findAsking, e1, Sem.run_bind, hrun, Result.andThen_ok, if_true]
          rfl
        | false =>
          simp only at h
          simp only [Instr.findAsking, e1, Sem.run_bind, hrun, Result.andThen_ok, Bool.false_eq_true, if_false]
          exact ih (j + 1) r h
  unfold Instr.findKey
  have fin : ∀ d, P.underlying kt = some d → (∀ x : Value, ∀ b, Instr.sameNow d (keyP ik p) x = some b → ∃ q : KyT ik, x = keyP ik q ∧ b = decide (q = p)) → 
      ((do match Instr.findNow (← underlying kt) (keyP ik p) l 0 with
        | some r => pure r
        | none => Instr.findAsking kt (keyP ik p) l : Sem (Option (Nat × Value)))).run P w = (Instr.findAsking kt (keyP ik p) l).run P w := by
    intro d hd hs
    simp only [Sem.run_bind, run_underlying hd, Result.andThen_ok]
    cases hf : Instr.findNow d (keyP ik p) l 0 with
    | none => rfl
    | some r => rw [key d hd hs l 0 r hf]; rfl
  cases ik with
  | pair k => exact fin _ hk.1 (fun x b h => by cases x <;> simp [keyP, Instr.sameNow] at h)
  | one k => exact fin _ hk (fun x b h => by
      cases x <;> simp [keyP, Instr.sameNow] at h
      obtain ⟨rfl, rfl⟩ := h
      refine ⟨_, rfl, ?_⟩
      rw [Bool.eq_iff_iff, decide_eq_true_eq, beq_iff_eq]
      exact ⟨Eq.symm, Eq.symm⟩)
  | str => exact fin _ hk (fun x b h => by
      cases x <;> simp [keyP, Instr.sameNow] at h
      subst h
      refine ⟨_, rfl, ?_⟩
      rw [Bool.eq_iff_iff, decide_eq_true_eq, bytes_beq]
      exact ⟨Eq.symm, Eq.symm⟩)

end
end Go.Eng
