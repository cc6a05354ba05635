/-
  Closed states are run, part A: closed values, and what they stand for.
-/
import Derived.Test.YtcnpplcfabdoaaaGreatEngZ
import Derived.IntWalk
namespace Go.Eng
open Go.MapKept (bytes_beq)

/-! ## numbers, bools: computed before they are put away -/

noncomputable def fN {β : Type} (n : Nat) (K : Nat → β) : β := @Nat.rec (fun _ => β) (K 0) (fun m _ => K (Nat.succ m)) n
theorem fN_eq {β : Type} (n : Nat) (K : Nat → β) : fN n K = K n := by cases n <;> rfl
noncomputable def fI {β : Type} (n : Int) (K : Int → β) : β := @Int.rec (fun _ => β) (fun a => fN a fun a => K (.ofNat a)) (fun a => fN a fun a => K (.negSucc a)) n
theorem fI_eq {β : Type} (n : Int) (K : Int → β) : fI n K = K n := by cases n <;> simp [fI, fN_eq]
noncomputable def fB {β : Type} (b : Bool) (K : Bool → β) : β := @Bool.rec (fun _ => β) (K false) (K true) b
theorem fB_eq {β : Type} (b : Bool) (K : Bool → β) : fB b K = K b := by cases b <;> rfl

noncomputable def lk {α : Type} (l : List (Nat × α)) (t : Nat) : Option α :=
  @List.rec (Nat × α) (fun _ => Option α) none (fun p _ ih => @Prod.rec Nat α (fun _ => Option α) (fun k v => @Bool.rec (fun _ => Option α) ih (some v) (Nat.beq k t)) p) l
theorem lk_eq {α : Type} (l : List (Nat × α)) (t : Nat) : lk l t = look l t := by
  induction l with
  | nil => rfl
  | cons p r ih =>
    obtain ⟨k, v⟩ := p
    unfold look
    show @Bool.rec (fun _ => Option α) (lk r t) (some v) (Nat.beq k t) = _
    cases Nat.beq k t <;> simp [ih]

noncomputable def nt {α : Type} (l : List α) (n : Nat) : Option α :=
  @List.rec α (fun _ => Nat → Option α) (fun _ => none) (fun x _ ih n => @Nat.rec (fun _ => Option α) (some x) (fun m _ => ih m) n) l n
theorem nt_eq {α : Type} (l : List α) (n : Nat) : nt l n = nth l n := by
  induction l generalizing n with
  | nil => rfl
  | cons x r ih => cases n with
    | zero => rfl
    | succ n => exact ih n
theorem nth_get {α : Type} : ∀ (l : List α) (n : Nat), nth l n = l[n]?
  | [], n => by simp [nth]
  | x :: r, 0 => by simp [nth]
  | x :: r, n + 1 => by simp [nth, nth_get r n]

noncomputable def dr {α : Type} (l : List α) (n : Nat) : List α :=
  @List.rec α (fun _ => Nat → List α) (fun _ => []) (fun x r ih n => @Nat.rec (fun _ => List α) (x :: r) (fun m _ => ih m) n) l n
theorem dr_eq {α : Type} (l : List α) (n : Nat) : dr l n = l.drop n := by
  induction l generalizing n with
  | nil => simp [dr]
  | cons x r ih => cases n with
    | zero => rfl
    | succ n => exact ih n
/-- a list whose head is laid out -/
noncomputable def fH {α β : Type} (l : List α) (K : List α → β) : β := @List.rec α (fun _ => β) (K []) (fun x r _ => K (x :: r)) l
theorem fH_eq {α β : Type} (l : List α) (K : List α → β) : fH l K = K l := by cases l <;> rfl
/-- the first n, if there are so many -/
noncomputable def tk {α β : Type} (n : Nat) : List α → (List α → Option β) → Option β :=
  @Nat.rec (fun _ => List α → (List α → Option β) → Option β) (fun _ K => K []) (fun _ ih l K => @List.rec α (fun _ => Option β) none (fun x r _ => ih r fun q => K (x :: q)) l) n
theorem tk_eq {α β : Type} (n : Nat) (l : List α) (K : List α → Option β) : tk n l K = if n ≤ l.length then K (l.take n) else none := by
  induction n generalizing l K with
  | zero => simp only [Nat.zero_le, if_true, List.take_zero]; rfl
  | succ n ih => cases l with
    | nil => rfl
    | cons x r =>
      show tk n r (fun q => K (x :: q)) = _
      rw [ih]
      simp

/-! ## strings as numbers -/

def bl : Nat → Nat → List UInt8
  | 0, _ => []
  | l + 1, c => UInt8.ofNat (c % 256) :: bl l (c / 256)
def bytesOf (l c : Nat) : ByteArray := ⟨⟨bl l c⟩⟩
def encL : List UInt8 → Nat
  | [] => 0
  | b :: r => b.toNat + 256 * encL r

theorem bl_length : ∀ (l c : Nat), (bl l c).length = l
  | 0, _ => rfl
  | l + 1, c => by simp [bl, bl_length]
theorem bl_enc : ∀ (l : List UInt8), bl l.length (encL l) = l
  | [] => rfl
  | b :: r => by
    have hb := b.toNat_lt
    simp only [List.length_cons, bl, encL]
    rw [show (b.toNat + 256 * encL r) % 256 = b.toNat by omega, show (b.toNat + 256 * encL r) / 256 = encL r by omega, bl_enc r]
    simp
theorem bl_get : ∀ (l c m : Nat), m < l → (bl l c)[m]? = some (UInt8.ofNat (c / 256 ^ m % 256))
  | 0, c, m, h => by omega
  | l + 1, c, 0, h => by simp [bl]
  | l + 1, c, m + 1, h => by
    simp only [bl, List.getElem?_cons_succ]
    rw [bl_get l _ m (by omega), Nat.div_div_eq_div_mul, Nat.pow_succ, Nat.mul_comm 256]
theorem bl_drop : ∀ (l c m : Nat), (bl l c).drop m = bl (l - m) (c / 256 ^ m)
  | 0, c, m => by simp [bl]
  | l + 1, c, 0 => by simp
  | l + 1, c, m + 1 => by
    simp only [bl, List.drop_succ_cons]
    rw [bl_drop l _ m, Nat.div_div_eq_div_mul, Nat.pow_succ, Nat.mul_comm 256, show l + 1 - (m + 1) = l - m by omega]
theorem bl_take : ∀ (l c m : Nat), m ≤ l → (bl l c).take m = bl m c
  | l, c, 0, h => by simp [bl]
  | 0, c, m + 1, h => by omega
  | l + 1, c, m + 1, h => by simp [bl, bl_take l _ m (by omega)]
theorem bl_mod : ∀ (l c : Nat), bl l (c % 256 ^ l) = bl l c
  | 0, c => rfl
  | l + 1, c => by
    simp only [bl]
    have h1 : c % 256 ^ (l + 1) % 256 = c % 256 := by
      rw [Nat.pow_succ, Nat.mul_comm]; exact Nat.mod_mul_right_mod _ _ _
    have h2 : c % 256 ^ (l + 1) / 256 = c / 256 % 256 ^ l := by
      rw [Nat.pow_succ, Nat.mul_comm, Nat.mod_mul_right_div_self]
    rw [h1, h2, bl_mod]
theorem bl_inj : ∀ (l c d : Nat), bl l c = bl l d → c % 256 ^ l = d % 256 ^ l
  | 0, c, d, _ => by simp [Nat.mod_one]
  | l + 1, c, d, h => by
    simp only [bl, List.cons.injEq] at h
    have h1 : c % 256 = d % 256 := by
      have := congrArg UInt8.toNat h.1
      simpa using this
    have h2 := bl_inj l _ _ h.2
    rw [Nat.pow_succ, Nat.mul_comm, Nat.mod_mul, Nat.mod_mul, h1, h2]
theorem bl_app : ∀ (l c l' c' : Nat), bl l c ++ bl l' c' = bl (l + l') (c % 256 ^ l + 256 ^ l * c')
  | 0, c, l', c' => by simp [bl, Nat.mod_one]
  | l + 1, c, l', c' => by
    rw [show l + 1 + l' = (l + l') + 1 by omega]
    simp only [bl, List.cons_append]
    rw [bl_app l _ l' c']
    have e : c % 256 ^ (l + 1) = c % 256 + 256 * (c / 256 % 256 ^ l) := by
      rw [Nat.pow_succ, Nat.mul_comm (256 ^ l), Nat.mod_mul]
    have e2 : 256 ^ (l + 1) * c' = 256 * (256 ^ l * c') := by rw [Nat.pow_succ, Nat.mul_comm (256 ^ l), Nat.mul_assoc]
    rw [e, e2]
    have hlt : c % 256 < 256 := Nat.mod_lt _ (by omega)
    rw [show (c % 256 + 256 * (c / 256 % 256 ^ l) + 256 * (256 ^ l * c')) % 256 = c % 256 by omega, show (c % 256 + 256 * (c / 256 % 256 ^ l) + 256 * (256 ^ l * c')) / 256 = c / 256 % 256 ^ l + 256 ^ l * c' by omega]

theorem bytesOf_size (l c : Nat) : (bytesOf l c).size = l := by
  show (bl l c).length = l
  exact bl_length l c
theorem bytesOf_enc (b : ByteArray) : bytesOf b.size (encL b.data.toList) = b := by
  obtain ⟨⟨l⟩⟩ := b
  show ByteArray.mk ⟨bl l.length (encL l)⟩ = _
  rw [bl_enc]
theorem bytesOf_get (l c m : Nat) (h : m < l) : ((bytesOf l c).get! m).toNat = c / 256 ^ m % 256 := by
  have h1 := bl_get l c m h
  show ((bytesOf l c).data[m]!).toNat = _
  have : (bytesOf l c).data[m]! = UInt8.ofNat (c / 256 ^ m % 256) := by
    rw [getElem!_def, show (bytesOf l c).data[m]? = some (UInt8.ofNat (c / 256 ^ m % 256)) from by simpa [bytesOf] using h1]
  rw [this]
  simp
theorem bytesOf_extract (l c lo hi : Nat) (h : hi ≤ l) : (bytesOf l c).extract lo hi = bytesOf (hi - lo) (c / 256 ^ lo) := by
  apply ByteArray.ext
  rw [ByteArray.data_extract]
  show (Array.mk (bl l c)).extract lo hi = Array.mk (bl (hi - lo) (c / 256 ^ lo))
  apply Array.ext'
  simp only [Array.toList_extract, List.extract_eq_take_drop]
  rw [bl_drop, bl_take _ _ _ (by omega)]
theorem bytesOf_mod (l c : Nat) : bytesOf l (c % 256 ^ l) = bytesOf l c := by unfold bytesOf; rw [bl_mod]
theorem bytesOf_app (l c l' c' : Nat) : bytesOf l c ++ bytesOf l' c' = bytesOf (l + l') (c % 256 ^ l + 256 ^ l * c') := by
  apply ByteArray.ext
  rw [ByteArray.data_append]
  show Array.mk (bl l c) ++ Array.mk (bl l' c') = Array.mk _
  simp [bl_app]
def eqS (l c l' c' : Nat) : Bool := match Nat.beq l l' with
  | true => Nat.beq (Nat.mod c (Nat.pow 256 l)) (Nat.mod c' (Nat.pow 256 l))
  | false => false
theorem eqS_eq (l c l' c' : Nat) : eqS l c l' c' = (bytesOf l c == bytesOf l' c') := by
  unfold eqS
  have hb : (bytesOf l c == bytesOf l' c') = decide (bytesOf l c = bytesOf l' c') := by
    rw [Bool.eq_iff_iff, bytes_beq]; simp
  rw [hb]
  split
  · rename_i h
    have h := Nat.eq_of_beq_eq_true h
    subst h
    rw [Bool.eq_iff_iff, Nat.beq_eq, decide_eq_true_eq]
    constructor
    · intro h
      have h : c % 256 ^ l = c' % 256 ^ l := h
      rw [← bytesOf_mod l c, h, bytesOf_mod]
    · intro h
      exact bl_inj l c c' (by simpa [bytesOf] using h)
  · rename_i h
    symm
    rw [decide_eq_false_iff_not]
    intro e
    have := congrArg ByteArray.size e
    rw [bytesOf_size, bytesOf_size] at this
    subst this
    simp at h

/-! ## closed values -/

inductive C where
  | nilptr | nilmap | nilfunc | niliface
  | unit
  | map (k : Nat)
  | fn (f : Fn) (b : Bool) (cap : List C)
  | iface (t : TypeId) (v : C)
  | fe (n s : Nat) (z : List C) (rows : List (List C)) (i j : Nat)
  | oel (k s i j : Nat)
  | fz (n s : Nat) (full : Bool) (z : List C) (rows : List (List C))
  | tup (vs : List C)
  | agg (cs : List C)
  | nilslice
  | vec (k s lo len : Nat)
  | loc (k off : Nat)
  | str (l c : Nat)
  | bool (b : Bool)
  | int (k : IntKind) (n : Int)
  deriving Inhabited

/-- elements in rows; z: what lies behind them, and beside them -/
def lastV : List V → V
  | [] => default
  | [v] => v
  | _ :: r => lastV r
def tabz (z : List V) (rows : List (List V)) : Nat → Nat → V := fun i j => (rows.getD i z).getD j (lastV z)

mutual
def C.v : C → V
  | .bool b => .bool b
  | .int k n => .int k n
  | .str l c => .str (bytesOf l c)
  | .nilptr => .nilptr | .nilslice => .nilslice | .nilmap => .nilmap | .nilfunc => .nilfunc | .niliface => .niliface
  | .loc k off => .loc k off
  | .oel k s i j => .oel k s i j
  | .vec k s lo len => .vec k s lo len
  | .fz n s full z rows => .fz n s full (tabz (C.vs z) (C.vss rows))
  | .fe n s z rows i j => .fe n s (tabz (C.vs z) (C.vss rows)) i j
  | .map k => .map k
  | .fn f b cap => .fn f b (C.vs cap)
  | .iface t v => .iface t v.v
  | .agg cs => .agg (C.vs cs)
  | .tup cs => .tup (C.vs cs)
  | .unit => .raw (.tuple #[])
def C.vs : List C → List V
  | [] => []
  | c :: r => c.v :: C.vs r
def C.vss : List (List C) → List (List V)
  | [] => []
  | c :: r => C.vs c :: C.vss r
end

theorem C.vs_map : ∀ (l : List C), C.vs l = l.map C.v
  | [] => by simp [C.vs]
  | c :: r => by simp [C.vs, C.vs_map r]
theorem C.vss_map : ∀ (l : List (List C)), C.vss l = l.map C.vs
  | [] => by simp [C.vss]
  | c :: r => by simp [C.vss, C.vss_map r]
theorem C.vs_length (l : List C) : (C.vs l).length = l.length := by simp [C.vs_map]
theorem C.vs_get (l : List C) (i : Nat) : (C.vs l)[i]? = (l[i]?).map C.v := by simp [C.vs_map]
theorem C.vss_get (l : List (List C)) (i : Nat) : (C.vss l)[i]? = (l[i]?).map C.vs := by simp [C.vss_map]

abbrev CEnv := List (Nat × C)
inductive CB where
  | cells (cs : List C)
  | vec (n s : Nat) (z : List C) (rows : List (List C))
  | map (ik : IntKind) (es : List (Int × C))
  | mapS (es : List ((Nat × Nat) × C))
  deriving Inhabited
abbrev COwn := List (Nat × CB)

def CB.b : CB → Blk
  | .cells cs => .cells (C.vs cs)
  | .vec n s z rows => .vec n s (tabz (C.vs z) (C.vss rows))
  | .map ik es => .map (.one ik) (es.map fun p => (p.1, p.2.v))
  | .mapS es => .map .str (es.map fun p => (bytesOf p.1.1 p.1.2, p.2.v))
def envV (e : CEnv) : Env := e.map fun p => (p.1, p.2.v)
def ownV (o : COwn) : Own := o.map fun p => (p.1, p.2.b)

theorem look_map {α β : Type} (f : α → β) (l : List (Nat × α)) (t : Nat) : look (l.map fun p => (p.1, f p.2)) t = (look l t).map f := by
  induction l with
  | nil => rfl
  | cons p r ih =>
    simp only [List.map_cons, look]
    cases Nat.beq p.1 t <;> simp [ih]
theorem look_envV {e : CEnv} {t : Nat} {c : C} (h : lk e t = some c) : look (envV e) t = some c.v := by
  rw [lk_eq] at h
  rw [envV, look_map, h]; rfl
theorem look_ownV {o : COwn} {t : Nat} {c : CB} (h : lk o t = some c) : look (ownV o) t = some c.b := by
  rw [lk_eq] at h
  rw [ownV, look_map, h]; rfl
def ofV0 (v : V) : Option C := match v with
  | .bool b => some (.bool b)
  | .int k n => some (.int k n)
  | .str s => some (.str s.size (encL s.data.toList))
  | .nilptr => some .nilptr | .nilslice => some .nilslice | .nilmap => some .nilmap | .nilfunc => some .nilfunc | .niliface => some .niliface
  | .fn f b [] => some (.fn f b [])
  | _ => none
theorem ofV0_ok {v : V} {c : C} (h : ofV0 v = some c) : c.v = v := by
  unfold ofV0 at h
  split at h <;> first
    | (cases h; done)
    | (cases h; simp [C.v, C.vs, bytesOf_enc])
noncomputable def ofVs (l : List V) : Option (List C) := @List.rec V (fun _ => Option (List C)) (some []) (fun v _ ih => match ofV0 v with
  | some c => match ih with
    | some l => some (c :: l)
    | none => none
  | none => none) l
theorem ofVs_ok : ∀ (l : List V) {cs : List C}, ofVs l = some cs → C.vs cs = l
  | [], cs, h => by have h : some [] = some cs := h; cases h; simp [C.vs]
  | v :: r, cs, h => by
    have h : (match ofV0 v with
      | some c => match ofVs r with
        | some l => some (c :: l)
        | none => none
      | none => none) = some cs := h
    split at h
    · rename_i c hc
      split at h
      · rename_i l hl
        cases h
        simp [C.vs, ofV0_ok hc, ofVs_ok r hl]
      · cases h
    · cases h
noncomputable def ofV (v : V) : Option C := match v with
  | .agg cs => match ofVs cs with | some l => some (.agg l) | none => none
  | v => ofV0 v
theorem ofV_ok (v : V) {c : C} (h : ofV v = some c) : c.v = v := by
  unfold ofV at h
  split at h
  · split at h
    · rename_i l hl
      cases h
      simp [C.v, ofVs_ok _ hl]
    · cases h
  · exact ofV0_ok h

end Go.Eng
