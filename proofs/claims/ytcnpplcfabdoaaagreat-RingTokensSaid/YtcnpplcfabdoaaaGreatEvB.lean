/-
  Closed states are run, part B: operations that neither read nor write memory.
-/
import Derived.Test.YtcnpplcfabdoaaaGreatEvA
namespace Go.Eng
open Go.IntWalk

noncomputable def gx (x : X) (env : CEnv) : Option C := match x with | .t n => lk env n | .k v => ofV v
theorem gx_ok {x : X} {env : CEnv} {c : C} {K : V → Prop} (h : gx x env = some c) (hK : K c.v) : x.get (envV env) K := by
  cases x with
  | t n => simp only [gx] at h; simp only [X.get, look_envV h]; exact hK
  | k v => simp only [gx] at h; rw [ofV_ok v h] at hK; exact hK

noncomputable def gxs (env : CEnv) (l : List X) : Option (List C) := @List.rec X (fun _ => Option (List C)) (some []) (fun x _ ih => match gx x env with
  | some c => match ih with | some l => some (c :: l) | none => none
  | none => none) l
theorem gxs_cons (env : CEnv) (x : X) (r : List X) : gxs env (x :: r) = match gx x env with
  | some c => match gxs env r with | some l => some (c :: l) | none => none
  | none => none := rfl
theorem gxs_ok {env : CEnv} : ∀ {xs : List X} {cs : List C} {K : List V → Prop}, gxs env xs = some cs → K (C.vs cs) → X.gets (envV env) xs K
  | [], cs, K, h, hK => by have h : some [] = some cs := h; cases h; simpa [C.vs, X.gets] using hK
  | x :: r, cs, K, h, hK => by
    rw [gxs_cons] at h
    split at h
    · rename_i c hc
      split at h
      · rename_i l hl
        cases h
        exact gx_ok hc (gxs_ok hl (by simpa [C.vs] using hK))
      · cases h
    · cases h

theorem cmp_ok {b : Bool} {K : V → Prop} (hK : K (.bool b)) : cmpK b K := by
  cases b
  · exact ⟨fun h => (by cases h), fun _ => hK⟩
  · exact ⟨fun _ => hK, fun h => (by cases h)⟩

noncomputable def cmpC (b : Bool) : Option C := fB b fun b => some (.bool b)
theorem cmpC_ok {b : Bool} {c : C} {K : V → Prop} (h : cmpC b = some c) (hK : K c.v) : cmpK b K := by
  simp only [cmpC, fB_eq, Option.some.injEq] at h
  subst h
  exact cmp_ok (by simpa [C.v] using hK)

def kEq (a b : IntKind) : Bool := Nat.beq a.ctorIdx b.ctorIdx
theorem kEq_ok {a b : IntKind} (h : kEq a b = true) : a = b := by cases a <;> cases b <;> first | rfl | (exact absurd h (by decide))

def mxN : IntKind → Nat
  | .i8 => 127 | .i16 => 32767 | .i32 => 2147483647 | .i64 => 9223372036854775807
  | .u8 => 255 | .u16 => 65535 | .u32 => 4294967295 | .u64 => 18446744073709551615
def wrC (k : IntKind) (n : Int) : Int := match n with
  | .ofNat m => match Nat.ble m (mxN k) with | true => .ofNat m | false => k.wrap (.ofNat m)
  | .negSucc m => k.wrap (.negSucc m)
theorem wrC_eq (k : IntKind) (n : Int) : wrC k n = k.wrap n := by
  unfold wrC
  split
  · split
    · rename_i h
      have h := Nat.le_of_ble_eq_true h
      symm
      rw [Int.ofNat_eq_natCast]
      cases k <;> simp only [mxN] at h
      · exact i8_in _ (by omega)
      · exact i16_in _ (by omega)
      · exact i32_in _ (by omega)
      · exact i64_in _ (by omega)
      · exact u8_in _ (by omega)
      · exact u16_in _ (by omega)
      · exact u32_in _ (by omega)
      · exact u64_in _ (by omega)
    · rfl
  · rfl
noncomputable def arC (k : IntKind) (n : Int) : Option C := fI (wrC k n) fun m => some (.int k m)
theorem arC_ok {k : IntKind} {n : Int} {c : C} {K : V → Prop} (h : arC k n = some c) (hK : K c.v) : Ar k n fun m => K (.int k m) := by
  simp only [arC, fI_eq, wrC_eq, Option.some.injEq] at h
  subst h
  exact ⟨_, rfl, by simpa [C.v] using hK⟩
noncomputable def svC (k : IntKind) (n : Int) : Option C := fI n fun m => some (.int k m)
theorem svC_ok {k : IntKind} {n : Int} {c : C} {K : V → Prop} (h : svC k n = some c) (hK : K c.v) : Sv n fun m => K (.int k m) := by
  simp only [svC, fI_eq, Option.some.injEq] at h
  subst h
  exact ⟨_, rfl, by simpa [C.v] using hK⟩

def ieq : Int → Int → Bool
  | .ofNat a, .ofNat b => Nat.beq a b
  | .negSucc a, .negSucc b => Nat.beq a b
  | _, _ => false
theorem ieq_eq (a b : Int) : ieq a b = (a == b) := by
  rw [Bool.eq_iff_iff, beq_iff_eq]
  cases a <;> cases b <;> simp [ieq] <;> omega
def ile : Int → Int → Bool
  | .ofNat a, .ofNat b => Nat.ble a b
  | .negSucc a, .negSucc b => Nat.ble b a
  | .negSucc _, .ofNat _ => true
  | .ofNat _, .negSucc _ => false
theorem ile_eq (a b : Int) : ile a b = decide (a ≤ b) := by
  rw [Bool.eq_iff_iff, decide_eq_true_eq]
  cases a <;> cases b <;> simp [ile] <;> omega

noncomputable def cint (op : BinOp) (k : IntKind) (a b : Int) : Option C :=
  match op with
  | .add => arC k (Int.add a b)
  | .sub => arC k (Int.sub a b)
  | .mul => arC k (Int.mul a b)
  | .quo => match ieq b 0 with | true => none | false => arC k (a.tdiv b)
  | .rem => match ieq b 0 with | true => none | false => svC k (a.tmod b)
  | .and => svC k (bitI .and k a b)
  | .or => svC k (bitI .or k a b)
  | .xor => svC k (bitI .xor k a b)
  | .andNot => svC k (bitI .andNot k a b)
  | .eql => cmpC (ieq a b)
  | .neq => cmpC (!(ieq a b))
  | .lss => cmpC (!(ile b a))
  | .leq => cmpC (ile a b)
  | .gtr => cmpC (!(ile a b))
  | .geq => cmpC (ile b a)
  | _ => none

theorem cint_ok {bt : BT} {op : BinOp} {k : IntKind} {a b : Int} {c : C} {K : V → Prop} (h : cint op k a b = some c) (hK : K c.v) : vbin bt op (.int k a) (.int k b) K := by
  unfold cint at h
  cases op <;> simp only [vbin, decide_true] <;> simp only at h
  case add => exact arC_ok h hK
  case sub => exact arC_ok h hK
  case mul => exact arC_ok h hK
  case quo =>
    split at h
    · cases h
    · rename_i hb
      rw [ieq_eq] at hb
      exact ⟨by simpa using hb, arC_ok h hK⟩
  case rem =>
    split at h
    · cases h
    · rename_i hb
      rw [ieq_eq] at hb
      exact ⟨by simpa using hb, svC_ok h hK⟩
  case and => exact svC_ok h hK
  case or => exact svC_ok h hK
  case xor => exact svC_ok h hK
  case andNot => exact svC_ok h hK
  case eql => rw [ieq_eq] at h; exact cmpC_ok h hK
  case neq => rw [ieq_eq] at h; exact cmpC_ok h hK
  case lss =>
    rw [ile_eq] at h
    rw [show decide (a < b) = !decide (b ≤ a) by rw [Bool.eq_iff_iff]; simp]
    exact cmpC_ok h hK
  case leq => rw [ile_eq] at h; exact cmpC_ok h hK
  case gtr =>
    rw [ile_eq] at h
    rw [show decide (a > b) = !decide (a ≤ b) by rw [Bool.eq_iff_iff]; simp]
    exact cmpC_ok h hK
  case geq =>
    rw [ile_eq] at h
    exact cmpC_ok h hK
  case shl => cases h
  case shr => cases h

noncomputable def strC (l c : Nat) : Option C := fN l fun l => fN c fun c => some (.str l c)
theorem strC_ok {l d : Nat} {c : C} (h : strC l d = some c) : c.v = .str (bytesOf l d) := by
  simp only [strC, fN_eq, Option.some.injEq] at h
  subst h; simp [C.v]

noncomputable def b_int2 (op : BinOp) (k : IntKind) (a : Int) (k' : IntKind) (b : Int) : Option C := match op with
  | .shl => match b with | .ofNat n => arC k (a * 2 ^ (min n k.bits)) | .negSucc _ => none
  | .shr => match b with | .ofNat n => svC k (a.fdiv (2 ^ (min n k.bits))) | .negSucc _ => none
  | op => match kEq k k' with | true => cint op k a b | false => none
noncomputable def b_int (op : BinOp) (k : IntKind) (a : Int) (y : C) : Option C := match y with
  | .int k' b => b_int2 op k a k' b
  | _ => none
noncomputable def b_str2 (op : BinOp) (l c l' c' : Nat) : Option C := match op with
  | .eql => cmpC (eqS l c l' c')
  | .neq => cmpC (!(eqS l c l' c'))
  | .add => match Nat.ble (l + l') 9223372036854775807 with
    | true => strC (l + l') (Nat.add (Nat.mod c (Nat.pow 256 l)) (Nat.mul (Nat.pow 256 l) c'))
    | false => none
  | _ => none
noncomputable def b_str (op : BinOp) (l c : Nat) (y : C) : Option C := match y with
  | .str l' c' => b_str2 op l c l' c'
  | _ => none
noncomputable def b_bool (bt : BT) (op : BinOp) (a : Bool) (y : C) : Option C := match y with
  | .bool b => match bt with
    | .bool => match op with
      | .eql => cmpC (a == b)
      | .neq => cmpC (!(a == b))
      | _ => none
    | _ => none
  | _ => none
def b_slc (bt : BT) (op : BinOp) (n : Nat) (y : C) : Option C := match n with
  | 0 => none
  | _ + 1 => match y with
    | .nilslice => match bt with
      | .slc => match op with
        | .eql => some (.bool false)
        | .neq => some (.bool true)
        | _ => none
      | _ => none
    | _ => none
def b_nil (bt : BT) (op : BinOp) (y : C) : Option C := match y with
  | .nilslice => match bt with
    | .slc => match op with
      | .eql => some (.bool true)
      | .neq => some (.bool false)
      | _ => none
    | _ => none
  | _ => none
noncomputable def cbin (bt : BT) (op : BinOp) (x y : C) : Option C :=
  match x with
  | .int k a => b_int op k a y
  | .str l c => b_str op l c y
  | .bool a => b_bool bt op a y
  | .fz n _ _ _ _ => b_slc bt op n y
  | .vec _ _ _ n => b_slc bt op n y
  | .nilslice => b_nil bt op y
  | _ => none

theorem cbin_ok {bt : BT} {op : BinOp} {x y c : C} {K : V → Prop} (h : cbin bt op x y = some c) (hK : K c.v) : vbin bt op x.v y.v K := by
  unfold cbin at h
  split at h
  · unfold b_int at h
    split at h
    · rename_i k a _ k' b
      unfold b_int2 at h
      simp only [C.v]
      split at h
      · split at h
        · rename_i n
          simp only [vbin]
          refine ⟨by simp, ?_⟩
          have e : (Int.ofNat n).toNat = n := rfl
          rw [e]
          exact arC_ok h hK
        · cases h
      · split at h
        · rename_i n
          simp only [vbin]
          refine ⟨by simp, ?_⟩
          have e : (Int.ofNat n).toNat = n := rfl
          rw [e]
          exact svC_ok h hK
        · cases h
      · split at h
        · rename_i hk
          have := kEq_ok hk
          subst this
          exact cint_ok h hK
        · cases h
    · cases h
  · unfold b_str at h
    split at h
    · unfold b_str2 at h
      simp only [C.v, vbin]
      split at h
      · rw [eqS_eq] at h; exact cmpC_ok h hK
      · rw [eqS_eq] at h; exact cmpC_ok h hK
      · split at h
        · rename_i l c _ l' c' hle
          rw [bytesOf_size, bytesOf_size]
          refine ⟨fun _ => ?_, fun hf => ?_⟩
          · rw [bytesOf_app]
            rw [strC_ok h] at hK
            exact hK
          · have := Nat.le_of_ble_eq_true hle
            simp [this] at hf
        · cases h
      · cases h
    · cases h
  · unfold b_bool at h
    split at h
    · split at h
      · split at h
        · simp only [C.v, vbin]; exact cmpC_ok h hK
        · simp only [C.v, vbin]; exact cmpC_ok h hK
        · cases h
      · cases h
    · cases h
  · unfold b_slc at h
    split at h
    · cases h
    · split at h
      · split at h
        · split at h
          · cases h; simp only [C.v, vbin]; exact ⟨fun e => (by cases e), fun _ => (by simpa [C.v] using hK)⟩
          · cases h; simp only [C.v, vbin]; exact ⟨fun e => (by cases e), fun _ => (by simpa [C.v] using hK)⟩
          · cases h
        · cases h
      · cases h
  · unfold b_slc at h
    split at h
    · cases h
    · split at h
      · split at h
        · split at h
          · cases h; simp only [C.v, vbin]; exact ⟨fun e => (by cases e), fun _ => (by simpa [C.v] using hK)⟩
          · cases h; simp only [C.v, vbin]; exact ⟨fun e => (by cases e), fun _ => (by simpa [C.v] using hK)⟩
          · cases h
        · cases h
      · cases h
  · unfold b_nil at h
    split at h
    · split at h
      · split at h
        · cases h; simp only [C.v, vbin]; simpa [C.v] using hK
        · cases h; simp only [C.v, vbin]; simpa [C.v] using hK
        · cases h
      · cases h
    · cases h
  · cases h

/-! ## places, bounds -/

noncomputable def cbd (x : Option X) (env : CEnv) (d n : Nat) : Option Nat := match x with
  | none => some d
  | some x => match gx x env with
    | some (.int _ (.ofNat m)) => match Nat.ble m n with | true => some m | false => none
    | _ => none
theorem cbd_ok {x : Option X} {env : CEnv} {d n m : Nat} {K : Nat → Prop} (h : cbd x env d n = some m) (hK : K m) : bdK x (envV env) d n K := by
  unfold cbd at h
  split at h
  · cases h; exact hK
  · split at h
    · rename_i hx
      split at h
      · rename_i hb
        cases h
        refine gx_ok hx ?_
        simp only [C.v]
        exact ⟨_, rfl, Nat.le_of_ble_eq_true hb, hK⟩
      · cases h
    · cases h

theorem shiftF_tabz (l : Nat) (z : List V) (rows : List (List V)) : shiftF l (tabz z rows) = tabz z (rows.drop l) := by
  funext i j
  rw [shiftF_eq]
  simp [tabz, List.getD_eq_getElem?_getD]
theorem shiftF_tabzC (l : Nat) (z : List C) (rows : List (List C)) : shiftF l (tabz (C.vs z) (C.vss rows)) = tabz (C.vs z) (C.vss (rows.drop l)) := by
  rw [shiftF_tabz, C.vss_map, C.vss_map, List.map_drop]

noncomputable def cslc (own : COwn) (s : Nat) (x : X) (lo hi : Option X) (env : CEnv) : Option C :=
  match gx x env with
  | some (.fz n s' full z rows) => match Nat.beq s s' with
    | true => match cbd hi env n n with
      | some h => match cbd lo env 0 h with
        | some l => fN (h - l) fun m => fH (dr rows l) fun q => some (.fz m s (match hi with | none => full | some _ => false) z q)
        | none => none
      | none => none
    | false => none
  | some .nilslice => match cbd hi env 0 0 with
    | some h => match cbd lo env 0 h with
      | some _ => some .nilslice
      | none => none
    | none => none
  | some (.vec k s' lo0 len) => match Nat.beq s s' with
    | true => match lk own k with
      | some (.vec n _ _ _) => match Nat.ble (lo0 + len) n with
        | true => match cbd hi env len (n - lo0) with
          | some h => match cbd lo env 0 h with
            | some l => fN (lo0 + l) fun a => fN (h - l) fun b => some (.vec k s a b)
            | none => none
          | none => none
        | false => none
      | _ => match cbd hi env len len with
          | some h => match cbd lo env 0 h with
            | some l => fN (lo0 + l) fun a => fN (h - l) fun b => some (.vec k s a b)
            | none => none
          | none => none
    | false => none
  | _ => none

theorem cslc_ok {own : COwn} {s : Nat} {x : X} {lo hi : Option X} {same : Bool} {env : CEnv} {c : C} {K : V → Prop} (h : cslc own s x lo hi env = some c) (hK : K c.v) : vslc (ownV own) s x lo hi none same (envV env) K := by
  unfold cslc at h
  unfold vslc
  split at h
  · rename_i n s' full z rows hx
    refine gx_ok hx ?_
    simp only [C.v]
    split at h
    · rename_i hs
      simp only [hs]
      split at h
      · rename_i hh e1
        split at h
        · rename_i ll e2
          refine cbd_ok e1 (cbd_ok e2 ?_)
          simp only [fN_eq, fH_eq, dr_eq, Option.some.injEq] at h
          subst h
          rw [shiftF_tabzC]
          simp only [C.v] at hK
          exact hK
        · cases h
      · cases h
    · cases h
  · rename_i hx
    refine gx_ok hx ?_
    simp only [C.v]
    split at h
    · rename_i hh e1
      split at h
      · rename_i ll e2
        cases h
        exact cbd_ok e1 (cbd_ok e2 (by simpa [C.v] using hK))
      · cases h
    · cases h
  · rename_i k s' lo0 len hx
    refine gx_ok hx ?_
    simp only [C.v]
    split at h
    · rename_i hs
      simp only [hs]
      split at h
      · rename_i n s'' z rows hl
        rw [look_ownV hl]
        simp only [CB.b]
        split at h
        · rename_i hle
          refine ⟨fun _ => ?_, fun hf => by rw [hle] at hf; cases hf⟩
          split at h
          · rename_i hh e1
            split at h
            · rename_i ll e2
              refine cbd_ok e1 (cbd_ok e2 ?_)
              simp only [fN_eq, Option.some.injEq] at h
              subst h
              simpa [C.v] using hK
            · cases h
          · cases h
        · cases h
      · rename_i hne
        have key : ∀ {A : Nat → Nat → (Nat → Nat → V) → Prop} {B : Prop}, B → (match look (ownV own) k with | some (.vec n s f) => A n s f | _ => B) := by
          intro A B hB
          rw [ownV, look_map, ← lk_eq]
          cases hl : lk own k with
          | none => exact hB
          | some b => cases b with
            | vec n s z rows => exact (hne n s z rows hl).elim
            | _ => exact hB
        refine key ?_
        split at h
        · rename_i hh e1
          split at h
          · rename_i ll e2
            refine cbd_ok e1 (cbd_ok e2 ?_)
            simp only [fN_eq, Option.some.injEq] at h
            subst h
            simpa [C.v] using hK
          · cases h
        · cases h
    · cases h
  · cases h

/-- a slice expression with three indexes -/
noncomputable def cslc3 (s : Nat) (x : X) (lo : Option X) (hi mx : X) (same : Bool) (env : CEnv) : Option C :=
  match gx x env with
  | some (.fz n s' _ z rows) => match Nat.beq s s' with
    | true => match cbd (some mx) env n n with
      | some m => match cbd (some hi) env n m with
        | some h => match cbd lo env 0 h with
          | some l => fN (h - l) fun m => fH (dr rows l) fun q => some (.fz m s same z q)
          | none => none
        | none => none
      | none => none
    | false => none
  | _ => none
theorem cslc3_ok {own : Own} {s : Nat} {x : X} {lo : Option X} {hi mx : X} {same : Bool} {env : CEnv} {c : C} {K : V → Prop} (h : cslc3 s x lo hi mx same env = some c) (hK : K c.v) : vslc own s x lo (some hi) (some mx) same (envV env) K := by
  unfold cslc3 at h
  unfold vslc
  split at h
  · rename_i n s' full z rows hx
    refine gx_ok hx ?_
    simp only [C.v]
    split at h
    · rename_i hs
      simp only [hs]
      split at h
      · rename_i m e0
        split at h
        · rename_i hh e1
          split at h
          · rename_i ll e2
            refine cbd_ok e0 (cbd_ok e1 (cbd_ok e2 ?_))
            simp only [fN_eq, fH_eq, dr_eq, Option.some.injEq] at h
            subst h
            rw [shiftF_tabzC]
            simp only [C.v] at hK
            exact hK
          · cases h
        · cases h
      · cases h
    · cases h
  · cases h

def cix (i : Int) (n : Nat) : Option Nat := match i with
  | .ofNat m => match Nat.blt m n with | true => some m | false => none
  | .negSucc _ => none
theorem cix_ok {i : Int} {n m : Nat} {K : Nat → Prop} (h : cix i n = some m) (hK : K m) : Ix i n K := by
  unfold cix at h
  split at h
  · split at h
    · rename_i hb
      cases h
      exact ⟨m, rfl, Nat.le_of_ble_eq_true hb, hK⟩
    · cases h
  · cases h

theorem takeK_ok {α : Type} : ∀ (l : List α) (o n : Nat) (K : List α → Prop), n ≤ (l.drop o).length → K ((l.drop o).take n) → takeK l o n K
  | l, o, 0, K, _, h => by cases l <;> cases o <;> simpa [takeK] using h
  | [], o, n + 1, K, hl, h => by simp at hl
  | x :: r, 0, n + 1, K, hl, h => by
    simp only [takeK]
    exact takeK_ok r 0 n _ (by simpa using hl) (by simpa using h)
  | x :: r, o + 1, n + 1, K, hl, h => by
    simp only [takeK]
    exact takeK_ok r o (n + 1) _ (by simpa using hl) (by simpa using h)

/-- some cells as an aggregate -/
noncomputable def aggC (l : List C) (o n : Nat) : Option C := tk n (dr l o) fun q => some (.agg q)
theorem aggC_ok {l : List C} {o n : Nat} {c : C} {K : V → Prop} (h : aggC l o n = some c) (hK : K c.v) : takeK (C.vs l) o n fun l => K (.agg l) := by
  unfold aggC at h
  rw [tk_eq, dr_eq] at h
  split at h
  · rename_i hl
    cases h
    refine takeK_ok _ _ _ _ (by simpa [C.vs_map] using hl) ?_
    simp only [C.v, C.vs_map] at hK
    simpa [C.vs_map] using hK
  · cases h

theorem nth_vs {l : List C} {i : Nat} {c : C} (h : nt l i = some c) : nth (C.vs l) i = some c.v := by
  rw [nt_eq, nth_get] at h
  rw [nth_get, C.vs_get, h]; rfl

noncomputable def p_mv (x : X) (env : CEnv) : Option C := gx x env
noncomputable def p_fld (off : Nat) (x : X) (env : CEnv) : Option C := match gx x env with
    | some (.loc k o) => fN (o + off) fun m => some (.loc k m)
    | some (.oel k s i j) => fN (j + off) fun m => some (.oel k s i m)
    | some (.fe n s z rows i j) => fN (j + off) fun m => some (.fe n s z rows i m)
    | _ => none
noncomputable def p_nilchk (x : X) (env : CEnv) : Option C := match gx x env with
    | some (.loc k o) => some (.loc k o)
    | some (.oel k s i j) => some (.oel k s i j)
    | some (.fe n s z rows i j) => some (.fe n s z rows i j)
    | some (.iface t v) => some (.iface t v)
    | _ => none
noncomputable def p_bin (bt : BT) (op : BinOp) (x : X) (y : X) (env : CEnv) : Option C := match gx x env with
    | some a => match gx y env with
      | some b => cbin bt op a b
      | none => none
    | none => none
noncomputable def p_pick (c : X) (a : X) (b : X) (env : CEnv) : Option C := match gx c env with
    | some (.bool true) => gx a env
    | some (.bool false) => gx b env
    | _ => none
noncomputable def p_slcs (x : X) (lo : Option X) (hi : Option X) (env : CEnv) : Option C := match gx x env with
    | some (.str l c) => match cbd hi env l l with
      | some h => match cbd lo env 0 h with
        | some a => strC (h - a) (Nat.mod (Nat.div c (Nat.pow 256 a)) (Nat.pow 256 (h - a)))
        | none => none
      | none => none
    | _ => none
noncomputable def p_ixstr (x : X) (i : X) (env : CEnv) : Option C := match gx x env with
    | some (.str l c) => match gx i env with
      | some (.int _ i) => match cix i l with
        | some m => fN (Nat.mod (Nat.div c (Nat.pow 256 m)) 256) fun b => some (.int .u8 (.ofNat b))
        | none => none
      | _ => none
    | _ => none
noncomputable def p_mkfn (f : Fn) (b : Bool) (cap : List X) (env : CEnv) : Option C := match gxs env cap with
    | some l => some (.fn f b l)
    | none => none
noncomputable def p_un (op : UnOp) (x : X) (env : CEnv) : Option C := match gx x env with
    | some (.bool b) => match op with
      | .not => match b with | true => some (.bool false) | false => some (.bool true)
      | _ => none
    | some (.int k n) => match op with
      | .neg => arC k (0 - n)
      | .xor => svC k (bitI .xor k (if k.signed then -1 else k.max) n)
      | _ => none
    | _ => none
noncomputable def p_toint (k : IntKind) (x : X) (env : CEnv) : Option C := match gx x env with
    | some (.int _ n) => arC k n
    | _ => none
noncomputable def p_sel (off : Nat) (sz : Option Nat) (x : X) (env : CEnv) : Option C := match gx x env with
    | some (.agg cs) => match sz with
      | none => nt cs off
      | some n => aggC cs off n
    | _ => none
noncomputable def p_ixs (s : Nat) (x : X) (i : X) (env : CEnv) : Option C := match gx x env with
    | some (.fz n s' _ z rows) => match Nat.beq s s' with
      | true => match gx i env with
        | some (.int _ i) => match cix i n with
          | some m => some (.fe n s z rows m 0)
          | none => none
        | _ => none
      | false => none
    | some (.vec k s' lo len) => match Nat.beq s s' with
      | true => match gx i env with
        | some (.int _ i) => match cix i len with
          | some m => fN (lo + m) fun m => some (.oel k s m 0)
          | none => none
        | _ => none
      | false => none
    | _ => none
noncomputable def p_ixa (n : Nat) (s : Nat) (x : X) (i : X) (env : CEnv) : Option C := match gx x env with
    | some (.loc k o) => match gx i env with
      | some (.int _ i) => match cix i n with
        | some m => fN (o + m * s) fun m => some (.loc k m)
        | none => none
      | _ => none
    | some (.fe n' s' z rows i0 j0) => match gx i env with
      | some (.int _ i) => match cix i n with
        | some m => fN (j0 + m * s) fun m => some (.fe n' s' z rows i0 m)
        | none => none
      | _ => none
    | some (.oel k s' i0 j0) => match Nat.beq s s', i0, j0 with
      | true, 0, 0 => match gx i env with
        | some (.int _ i) => match cix i n with
          | some m => some (.oel k s m 0)
          | none => none
        | _ => none
      | _, _, _ => match gx i env with
        | some (.int _ i) => match cix i n with
          | some m => fN (j0 + m * s) fun j => some (.oel k s' i0 j)
          | none => none
        | _ => none
    | _ => none
noncomputable def p_ext (x : X) (i : Nat) (env : CEnv) : Option C := match gx x env with
    | some (.tup vs) => nt vs i
    | _ => none
noncomputable def p_len (x : X) (env : CEnv) : Option C := match gx x env with
    | some (.fz n _ _ _ _) => some (.int .i64 (.ofNat n))
    | some (.vec _ _ _ n) => some (.int .i64 (.ofNat n))
    | some .nilslice => some (.int .i64 0)
    | _ => none
noncomputable def p_lens (x : X) (env : CEnv) : Option C := match gx x env with
    | some (.str l _) => some (.int .i64 (.ofNat l))
    | _ => none
noncomputable def p_mn (x : X) (y : X) (env : CEnv) : Option C := match gx x env with
    | some (.int k a) => match gx y env with
      | some (.int _ b) => match ile a b with
        | true => some (.int k a)
        | false => some (.int k b)
      | _ => none
    | _ => none
noncomputable def p_mx (x : X) (y : X) (env : CEnv) : Option C := match gx x env with
    | some (.int k a) => match gx y env with
      | some (.int _ b) => match ile b a with
        | true => some (.int k a)
        | false => some (.int k b)
      | _ => none
    | _ => none
noncomputable def cpure (o : POp) (env : CEnv) : Option C :=
  match o with
  | .slc _ _ _ _ _ _ => none
  | .mv x => p_mv x env
  | .fld off x => p_fld off x env
  | .nilchk x => p_nilchk x env
  | .bin bt op x y => p_bin bt op x y env
  | .pick c a b => p_pick c a b env
  | .slcs x lo hi => p_slcs x lo hi env
  | .ixstr x i => p_ixstr x i env
  | .mkfn f b cap => p_mkfn f b cap env
  | .un op x => p_un op x env
  | .toint k x => p_toint k x env
  | .sel off sz x => p_sel off sz x env
  | .ixs s x i => p_ixs s x i env
  | .ixa n s x i => p_ixa n s x i env
  | .ext x i => p_ext x i env
  | .len x => p_len x env
  | .lens x => p_lens x env
  | .mn x y => p_mn x y env
  | .mx x y => p_mx x y env

theorem cpure_ok {o : POp} {env : CEnv} {c : C} {K : V → Prop} (h : cpure o env = some c) (hK : K c.v) : vpure o (envV env) K := by
  cases o with
  | slc => cases h
  | mv x => simp only [cpure, p_mv] at h; exact gx_ok h hK
  | fld off x =>
    simp only [cpure, p_fld] at h
    simp only [vpure]
    split at h <;> first
      | (cases h; done)
      | (rename_i hx
         refine gx_ok hx ?_
         simp only [C.v]
         simp only [fN_eq, Option.some.injEq] at h
         subst h
         simpa only [C.v] using hK)
  | nilchk x =>
    simp only [cpure, p_nilchk] at h
    simp only [vpure]
    split at h <;> first
      | (cases h; done)
      | (rename_i hx
         refine gx_ok hx ?_
         cases h
         simpa only [C.v] using hK)
  | bin bt op x y =>
    simp only [cpure, p_bin] at h
    simp only [vpure]
    split at h
    · rename_i a ha
      split at h
      · rename_i b hb
        exact gx_ok ha (gx_ok hb (cbin_ok h hK))
      · cases h
    · cases h
  | pick c a b =>
    simp only [cpure, p_pick] at h
    simp only [vpure]
    split at h
    · rename_i hc; refine gx_ok hc ?_; simp only [C.v]; exact gx_ok h hK
    · rename_i hc; refine gx_ok hc ?_; simp only [C.v]; exact gx_ok h hK
    · cases h
  | slcs x lo hi =>
    simp only [cpure, p_slcs] at h
    simp only [vpure]
    split at h
    · rename_i l d hx
      refine gx_ok hx ?_
      simp only [C.v, bytesOf_size]
      split at h
      · rename_i hh e1
        split at h
        · rename_i a e2
          have hle : hh ≤ l := by
            unfold cbd at e1
            split at e1
            · cases e1; exact Nat.le_refl _
            · split at e1
              · split at e1
                · rename_i hb; cases e1; exact Nat.le_of_ble_eq_true hb
                · cases e1
              · cases e1
          refine cbd_ok e1 (cbd_ok e2 ?_)
          rw [bytesOf_extract _ _ _ _ hle, ← bytesOf_mod]
          rw [strC_ok h] at hK
          exact hK
        · cases h
      · cases h
    · cases h
  | ixstr x i =>
    simp only [cpure, p_ixstr] at h
    simp only [vpure]
    split at h
    · rename_i l d hx
      split at h
      · rename_i k n hi
        refine gx_ok hx (gx_ok hi ?_)
        simp only [C.v, bytesOf_size]
        split at h
        · rename_i m hm
          refine cix_ok hm ?_
          have hlt : m < l := by
            unfold cix at hm
            split at hm
            · split at hm
              · rename_i hb; cases hm; exact Nat.le_of_ble_eq_true hb
              · cases hm
            · cases hm
          simp only [fN_eq, Option.some.injEq] at h
          subst h
          rw [bytesOf_get _ _ _ hlt]
          simp only [C.v] at hK
          exact hK
        · cases h
      · cases h
    · cases h
  | mkfn f b cap =>
    simp only [cpure, p_mkfn] at h
    simp only [vpure]
    split at h
    · rename_i l hl
      cases h
      exact gxs_ok hl (by simpa only [C.v] using hK)
    · cases h
  | un op x =>
    simp only [cpure, p_un] at h
    simp only [vpure]
    split at h
    · rename_i b hx
      refine gx_ok hx ?_
      simp only [C.v]
      split at h
      · split at h
        · cases h; simpa only [C.v] using hK
        · cases h; simpa only [C.v] using hK
      · cases h
    · rename_i k n hx
      refine gx_ok hx ?_
      simp only [C.v]
      split at h
      · exact arC_ok h hK
      · exact svC_ok h hK
      · cases h
    · cases h
  | toint k x =>
    simp only [cpure, p_toint] at h
    simp only [vpure]
    split at h
    · rename_i hx; refine gx_ok hx ?_; simp only [C.v]; exact arC_ok h hK
    · cases h
  | sel off sz x =>
    simp only [cpure, p_sel] at h
    simp only [vpure]
    split at h
    · rename_i cs hx
      refine gx_ok hx ?_
      simp only [C.v]
      split at h
      · rw [nth_vs h]; exact hK
      · exact aggC_ok h hK
    · cases h
  | ixs s x i =>
    simp only [cpure, p_ixs] at h
    simp only [vpure]
    split at h
    · rename_i n s' full z rows hx
      split at h
      · rename_i hs
        split at h
        · rename_i hi
          refine gx_ok hx (gx_ok hi ?_)
          simp only [C.v, hs]
          split at h
          · rename_i hm; cases h; exact cix_ok hm (by simpa only [C.v] using hK)
          · cases h
        · cases h
      · cases h
    · rename_i k s' lo len hx
      split at h
      · rename_i hs
        split at h
        · rename_i hi
          refine gx_ok hx (gx_ok hi ?_)
          simp only [C.v, hs]
          split at h
          · rename_i hm
            simp only [fN_eq, Option.some.injEq] at h
            subst h
            exact cix_ok hm (by simpa only [C.v] using hK)
          · cases h
        · cases h
      · cases h
    · cases h
  | ixa n s x i =>
    simp only [cpure, p_ixa] at h
    simp only [vpure]
    split at h
    · rename_i k o hx
      split at h
      · rename_i hi
        refine gx_ok hx (gx_ok hi ?_)
        simp only [C.v]
        split at h
        · rename_i hm
          simp only [fN_eq, Option.some.injEq] at h
          subst h
          exact cix_ok hm (by simpa only [C.v] using hK)
        · cases h
      · cases h
    · rename_i hx
      split at h
      · rename_i hi
        refine gx_ok hx (gx_ok hi ?_)
        simp only [C.v]
        split at h
        · rename_i hm
          simp only [fN_eq, Option.some.injEq] at h
          subst h
          exact cix_ok hm (by simpa only [C.v] using hK)
        · cases h
      · cases h
    · rename_i hx
      split at h
      · rename_i hs
        split at h
        · rename_i hi
          refine gx_ok hx (gx_ok hi ?_)
          simp only [C.v, hs]
          split at h
          · rename_i hm; cases h; exact cix_ok hm (by simpa only [C.v] using hK)
          · cases h
        · cases h
      · rename_i hne
        split at h
        · rename_i hi
          refine gx_ok hx (gx_ok hi ?_)
          simp only [C.v]
          split at h
          · rename_i hm
            simp only [fN_eq, Option.some.injEq] at h
            subst h
            exact cix_ok hm (by simpa only [C.v] using hK)
          · cases h
        · cases h
    · cases h
  | ext x i =>
    simp only [cpure, p_ext] at h
    simp only [vpure]
    split at h
    · rename_i hx
      refine gx_ok hx ?_
      simp only [C.v]
      rw [nth_vs h]; exact hK
    · cases h
  | len x =>
    simp only [cpure, p_len] at h
    simp only [vpure]
    split at h <;> first
      | (cases h; done)
      | (rename_i hx
         refine gx_ok hx ?_
         cases h
         simp only [C.v] at hK
         simp only [C.v]
         exact hK)
  | lens x =>
    simp only [cpure, p_lens] at h
    simp only [vpure]
    split at h
    · rename_i hx
      refine gx_ok hx ?_
      cases h
      simp only [C.v] at hK
      simp only [C.v, bytesOf_size]
      exact hK
    · cases h
  | mn x y =>
    simp only [cpure, p_mn] at h
    simp only [vpure]
    split at h
    · rename_i hx
      split at h
      · rename_i hy
        refine gx_ok hx (gx_ok hy ?_)
        simp only [C.v]
        refine ⟨_, rfl, ?_⟩
        split at h
        · rename_i hc
          rw [ile_eq] at hc
          cases h
          have hc := of_decide_eq_true hc
          rw [if_neg (by omega)]
          simpa only [C.v] using hK
        · rename_i hc
          rw [ile_eq] at hc
          cases h
          have hc := of_decide_eq_false hc
          rw [if_pos (by omega)]
          simpa only [C.v] using hK
      · cases h
    · cases h
  | mx x y =>
    simp only [cpure, p_mx] at h
    simp only [vpure]
    split at h
    · rename_i hx
      split at h
      · rename_i hy
        refine gx_ok hx (gx_ok hy ?_)
        simp only [C.v]
        refine ⟨_, rfl, ?_⟩
        split at h
        · rename_i hc
          rw [ile_eq] at hc
          cases h
          have hc := of_decide_eq_true hc
          rw [if_neg (by omega)]
          simpa only [C.v] using hK
        · rename_i hc
          rw [ile_eq] at hc
          cases h
          have hc := of_decide_eq_false hc
          rw [if_pos (by omega)]
          simpa only [C.v] using hK
      · cases h
    · cases h

end Go.Eng
