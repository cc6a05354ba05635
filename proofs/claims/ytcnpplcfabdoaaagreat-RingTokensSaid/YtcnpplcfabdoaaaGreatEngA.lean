/-
  The engine, part A: abstract values, the compiled form of code, the relation between abstract and concrete states.
-/
import Derived.Calls
import Derived.Laws.Cells
import Derived.Laws.AppendOwn
import Derived.OrdersIn
import Derived.RangeFuncRecord
namespace Go.Eng

/-- Abstract values. Keys name blocks that the running function owns; frozen slices hold what they read as. -/
inductive V where
  | bool (b : Bool)
  | int (k : IntKind) (n : Int)
  | str (s : ByteArray)
  | nilptr | nilslice | nilmap | nilfunc | niliface
  | loc (k off : Nat)
  | oel (k s i j : Nat)
  | vec (k s lo len : Nat)
  | fz (n s : Nat) (full : Bool) (f : Nat → Nat → V)
  | fe (n s : Nat) (f : Nat → Nat → V) (i j : Nat)
  | map (k : Nat)
  | yld (k : Nat)
  | fn (f : Fn) (b : Bool) (cap : List V)
  | iface (t : TypeId) (v : V)
  | agg (cs : List V)
  | tup (vs : List V)
  | raw (v : Value)
  | anyb
  | top
  deriving Inhabited

inductive X where
  | t (n : Nat)
  | k (v : V)

def ofCell : Value → Option V
  | .int k n => some (.int k n)
  | .bool b => some (.bool b)
  | .string s => some (.str s)
  | .pointer none => some .nilptr
  | .slice none 0 0 => some .nilslice
  | .map none => some .nilmap
  | .nilFunc => some .nilfunc
  | .nilIface => some .niliface
  | _ => none

def ofCells : List Value → Option (List V)
  | [] => some []
  | v :: r => match ofCell v, ofCells r with
    | some x, some xs => some (x :: xs)
    | _, _ => none

def ofValue : Value → Option V
  | .agg cs => (ofCells cs.toList).map .agg
  | v => ofCell v

def cX : Operand → Option X
  | .tmp t => some (.t t)
  | .const v => (ofValue v).map .k
  | .func f => some (.k (.fn (.func f) false []))
  | .global _ => none

def cXs : List Operand → Option (List X)
  | [] => some []
  | o :: r => match cX o, cXs r with
    | some x, some xs => some (x :: xs)
    | _, _ => none

def cXo : Option Operand → Option (Option X)
  | none => some none
  | some o => (cX o).map some

def isAggB (P : Program) (t : TypeId) : Option Bool := match P.underlying t with
  | some (.struct _) | some (.array ..) => some true
  | some _ => some false
  | none => none
def szOf (P : Program) (t : TypeId) : Option Nat := (P.info? t).map (·.size)
def szAgg (P : Program) (t : TypeId) : Option (Option Nat) := match isAggB P t with
  | some true => (szOf P t).map some
  | some false => some none
  | none => none
def zeroOf (P : Program) (t : TypeId) : Option (List V) := match P.info? t with
  | some i => match i.zero with
    | some z => ofCells z.cells.toList
    | none => none
  | none => none

/-! ## owned blocks, states -/

abbrev Env := List (Nat × V)

/-- the kinds of keys of a map -/
inductive MKd where
  | pair (k : IntKind)
  | one (k : IntKind)
  | str
  deriving DecidableEq
@[reducible] def KyT : MKd → Type
  | .pair _ => Int × Int
  | .one _ => Int
  | .str => ByteArray
instance : (m : MKd) → DecidableEq (KyT m)
  | .pair _ => inferInstanceAs (DecidableEq (Int × Int))
  | .one _ => inferInstanceAs (DecidableEq Int)
  | .str => inferInstanceAs (DecidableEq ByteArray)

/-- loop: the record of a range over a function, with what its temporaries stand for -/
inductive Blk where
  | cells (cs : List V)
  | vec (n s : Nat) (f : Nat → Nat → V)
  | loop (st : LoopState) (pe : Option (Option Nat)) (env : Env) (N : Nat) (ps : List Nat) (C : Code → Code → Prop)
  | map (ik : MKd) (es : List (KyT ik × V))
  | iter (km n : Nat) (idxs : List Nat)
  | glob (g n : Nat) (f : Nat → Nat → V)
  | fam (n s : Nat) (len : Nat → Nat) (f : Nat → Nat → Nat → V) (op : List (Nat × Nat))

instance : Inhabited Blk := ⟨.cells []⟩

abbrev Own := List (Nat × Blk)

structure St where
  env : Env
  own : Own
  ks : List Nat

/-- a fact that the kernel computes -/
inductive Chk (b : Bool) (K : Prop) : Prop where
  | mk (h : b = true) (hK : K) : Chk b K

inductive Out where
  | normal (st : St)
  | exit (id : Nat) (st : St)
  | ret (st : St)

def look {α : Type} : List (Nat × α) → Nat → Option α
  | [], _ => none
  | (k, v) :: r, t => match Nat.beq k t with | true => some v | false => look r t

/-! ## what an abstract value stands for -/

abbrev Sg := Nat → Option (Option Nat × Nat × Nat)
def Sg.none : Sg := fun _ => Option.none
def Sg.le (σ τ : Sg) : Prop := ∀ k x, σ k = some x → τ k = some x

/-- what is bound to a function value; what it has captured -/
def fnB (b : Bool) (us : List Value) : Array Value := match b with | true => us.toArray | false => #[]
def fnC (b : Bool) (us : List Value) : Array Value := match b with | true => #[] | false => us.toArray

inductive Den (M : Nat → Prop) (w : World) : Sg → V → Value → Prop
  | bool (σ : Sg) (b : Bool) : Den M w σ (.bool b) (.bool b)
  | int (σ : Sg) (k : IntKind) (n : Int) : Den M w σ (.int k n) (.int k n)
  | str (σ : Sg) (s : ByteArray) : Den M w σ (.str s) (.string s)
  | nilptr (σ : Sg) : Den M w σ .nilptr (.pointer Option.none)
  | nilslice (σ : Sg) : Den M w σ .nilslice (.slice Option.none 0 0)
  | nilmap (σ : Sg) : Den M w σ .nilmap (.map Option.none)
  | nilfunc (σ : Sg) : Den M w σ .nilfunc .nilFunc
  | niliface (σ : Sg) : Den M w σ .niliface .nilIface
  | loc (σ : Sg) (k off b : Nat) (base κ : Nat) (h : σ k = some (some b, base, κ)) : Den M w σ (.loc k off) (.pointer (some ⟨b, base + off, Option.none⟩))
  | oel (σ : Sg) (k s i j b base κ : Nat) (h : σ k = some (some b, base, κ)) : Den M w σ (.oel k s i j) (.pointer (some ⟨b, base + (i * s + j), Option.none⟩))
  | vec (σ : Sg) (k s lo len : Nat) (bo : Option Nat) (base κ c : Nat) (a : Option Addr) (h : σ k = some (bo, base, κ)) (hc : c + lo = κ) (hl : len ≤ c)
      (ha : 0 < c → ∃ b, bo = some b ∧ a = some ⟨b, base + lo * s, Option.none⟩) : Den M w σ (.vec k s lo len) (.slice a len c)
  | fz0 (σ : Sg) (s : Nat) (full : Bool) (f : Nat → Nat → V) (a : Option Addr) (c : Nat) (hf : full = true → c = 0) : Den M w σ (.fz 0 s full f) (.slice a 0 c)
  | fz (σ : Sg) (n s : Nat) (full : Bool) (f : Nat → Nat → V) (b off c : Nat) (u : Nat → Nat → Value) (hc : n ≤ c) (hf : full = true → c = n)
      (hM : ¬ M b) (hb : b < w.heap.size) (hcell : ∀ i j, i < n → j < s → w.cell? ⟨b, off + (i * s + j), Option.none⟩ = some (u i j))
      (h1 : ∀ i j, i < n → j < s → (u i j).oneCell' = true)
      (hd : ∀ i j, i < n → j < s → Den M w Sg.none (f i j) (u i j)) : Den M w σ (.fz n s full f) (.slice (some ⟨b, off, Option.none⟩) n c)
  | fe (σ : Sg) (n s : Nat) (f : Nat → Nat → V) (i j b off : Nat) (u : Nat → Nat → Value) (hi : i < n)
      (hM : ¬ M b) (hb : b < w.heap.size) (hcell : ∀ i j, i < n → j < s → w.cell? ⟨b, off + (i * s + j), Option.none⟩ = some (u i j))
      (h1 : ∀ i j, i < n → j < s → (u i j).oneCell' = true)
      (hd : ∀ i j, i < n → j < s → Den M w Sg.none (f i j) (u i j)) : Den M w σ (.fe n s f i j) (.pointer (some ⟨b, off + (i * s + j), Option.none⟩))
  | map (σ : Sg) (k b base κ : Nat) (h : σ k = some (some b, base, κ)) : Den M w σ (.map k) (.map (some b))
  | yld (σ : Sg) (k b base κ : Nat) (h : σ k = some (some b, base, κ)) : Den M w σ (.yld k) (.func (.yield b) #[] #[])
  | fn (σ : Sg) (f : Fn) (b : Bool) (cap : List V) (us : List Value) (hl : cap.length = us.length) (hd : ∀ (i : Nat) (v : V) (u : Value), cap[i]? = some v → us[i]? = some u → Den M w σ v u) :
      Den M w σ (.fn f b cap) (.func f (fnB b us) (fnC b us))
  | iface (σ : Sg) (t : TypeId) (v : V) (u : Value) (hd : Den M w σ v u) : Den M w σ (.iface t v) (.iface t u)
  | agg (σ : Sg) (cs : List V) (us : List Value) (hl : cs.length = us.length) (hd : ∀ (i : Nat) (v : V) (u : Value), cs[i]? = some v → us[i]? = some u → Den M w σ v u) :
      Den M w σ (.agg cs) (.agg us.toArray)
  | tup (σ : Sg) (cs : List V) (us : List Value) (hl : cs.length = us.length) (hd : ∀ (i : Nat) (v : V) (u : Value), cs[i]? = some v → us[i]? = some u → Den M w σ v u) :
      Den M w σ (.tup cs) (.tuple us.toArray)
  | raw (σ : Sg) (v : Value) : Den M w σ (.raw v) v
  | anyb (σ : Sg) (b : Bool) : Den M w σ .anyb (.bool b)
  | top (σ : Sg) (v : Value) : Den M w σ .top v

/-- What is not written by anybody stays. -/
structure Ext (M : Nat → Prop) (w : World) (M' : Nat → Prop) (w' : World) : Prop where
  keep : ∀ b, b < w.heap.size → ¬ M b → ¬ M' b ∧ w'.heap[b]? = w.heap[b]?
  size : w.heap.size ≤ w'.heap.size

theorem Sg.le_refl (σ : Sg) : σ.le σ := fun _ _ h => h
theorem Sg.le_trans {a b c : Sg} (h : a.le b) (h' : b.le c) : a.le c := fun k x e => h' k x (h k x e)

theorem cell_same {w w' : World} {b off : Nat} (h : w'.heap[b]? = w.heap[b]?) : w'.cell? ⟨b, off, none⟩ = w.cell? ⟨b, off, none⟩ := by
  simp [World.cell?, h]

theorem Den.mono {M M' : Nat → Prop} {w w' : World} (hE : Ext M w M' w') {σ : Sg} {v : V} {u : Value} (h : Den M w σ v u) :
    ∀ {τ : Sg}, σ.le τ → Den M' w' τ v u := by
  induction h with
  | bool σ b => intro τ _; exact .bool _ _
  | int σ k n => intro τ _; exact .int _ _ _
  | str σ s => intro τ _; exact .str _ _
  | nilptr => intro τ _; exact .nilptr _
  | nilslice => intro τ _; exact .nilslice _
  | nilmap => intro τ _; exact .nilmap _
  | nilfunc => intro τ _; exact .nilfunc _
  | niliface => intro τ _; exact .niliface _
  | loc σ k off b base κ h => intro τ hτ; exact .loc _ _ _ _ _ _ (hτ _ _ h)
  | oel σ k s i j b base κ h => intro τ hτ; exact .oel _ _ _ _ _ _ _ _ (hτ _ _ h)
  | vec σ k s lo len bo base κ c a h hc hl ha => intro τ hτ; exact .vec _ _ _ _ _ _ _ _ _ _ (hτ _ _ h) hc hl ha
  | fz0 σ s full f a c hf => intro τ _; exact .fz0 _ _ _ _ _ _ hf
  | fz σ n s full f b off c u hc hf hM hb hcell h1 hd ih =>
    intro τ _
    obtain ⟨k1, k2⟩ := hE.keep b hb hM
    exact .fz _ _ _ _ _ _ _ _ u hc hf k1 (Nat.lt_of_lt_of_le hb hE.size) (fun i j hi hj => by rw [cell_same k2]; exact hcell i j hi hj) h1 (fun i j hi hj => ih i j hi hj (Sg.le_refl _))
  | fe σ n s f i j b off u hi hM hb hcell h1 hd ih =>
    intro τ _
    obtain ⟨k1, k2⟩ := hE.keep b hb hM
    exact .fe _ _ _ _ _ _ _ _ u hi k1 (Nat.lt_of_lt_of_le hb hE.size) (fun i j hi hj => by rw [cell_same k2]; exact hcell i j hi hj) h1 (fun i j hi hj => ih i j hi hj (Sg.le_refl _))
  | map σ k b base κ h => intro τ hτ; exact .map _ _ _ _ _ (hτ _ _ h)
  | yld σ k b base κ h => intro τ hτ; exact .yld _ _ _ _ _ (hτ _ _ h)
  | fn σ f b cap us hl hd ih => intro τ hτ; exact .fn _ _ _ _ _ hl (fun i v u hv hu => ih i v u hv hu hτ)
  | iface σ t v u hd ih => intro τ hτ; exact .iface _ _ _ _ (ih hτ)
  | agg σ cs us hl hd ih => intro τ hτ; exact .agg _ _ _ hl (fun i v u hv hu => ih i v u hv hu hτ)
  | tup σ cs us hl hd ih => intro τ hτ; exact .tup _ _ _ hl (fun i v u hv hu => ih i v u hv hu hτ)
  | raw σ v => intro τ _; exact .raw _ _
  | anyb σ b => intro τ _; exact .anyb _ _
  | top σ v => intro τ _; exact .top _ _

theorem den_ofCell {M : Nat → Prop} {w : World} {u : Value} {v : V} (h : ofCell u = some v) (σ : Sg) : Den M w σ v u := by
  unfold ofCell at h
  split at h <;> simp at h <;> subst h <;> constructor

theorem den_ofCells {M : Nat → Prop} {w : World} (σ : Sg) : ∀ {us : List Value} {vs : List V}, ofCells us = some vs →
    vs.length = us.length ∧ ∀ (i : Nat) (v : V) (u : Value), vs[i]? = some v → us[i]? = some u → Den M w σ v u
  | [], vs, h => by simp [ofCells] at h; subst h; simp
  | u :: r, vs, h => by
    unfold ofCells at h
    split at h <;> simp at h
    rename_i x xs h1 h2
    subst h
    obtain ⟨l, d⟩ := den_ofCells σ h2
    refine ⟨by simp [l], ?_⟩
    intro i v u' hv hu
    cases i with
    | zero => simp at hv hu; subst hv hu; exact den_ofCell h1 σ
    | succ i => simp at hv hu; exact d i v u' hv hu

theorem den_ofValue {M : Nat → Prop} {w : World} {u : Value} {v : V} (h : ofValue u = some v) (σ : Sg) : Den M w σ v u := by
  unfold ofValue at h
  split at h
  · rename_i cs
    simp at h
    obtain ⟨vs, h1, h2⟩ := h
    subst h2
    obtain ⟨l, d⟩ := den_ofCells (M := M) (w := w) σ h1
    have := Den.agg (M := M) (w := w) σ vs cs.toList l d
    simpa using this
  · exact den_ofCell h σ

/-! ## what is owned -/

def blkOf (σ : Sg) (k : Nat) : Option Nat := match σ k with | some (bo, _, _) => bo | none => none

/-- how a round was left -/
def jumpOf : Option Nat → Code
  | none => .ret
  | some id => .exit id

/-- a key -/
def keyP : (ik : MKd) → KyT ik → Value
  | .pair k, p => .agg #[.int k p.1, .int k p.2]
  | .one k, p => .int k p
  | .str, p => .string p

/-- the entries of a map from which nothing was taken away -/
def ERel (M : Nat → Prop) (w : World) (ik : MKd) : List MapEntry → List (KyT ik × V) → Nat → Prop
  | [], [], _ => True
  | e :: r, p :: q, i => (e.key = keyP ik p.1 ∧ e.born = i ∧ Den M w Sg.none p.2 e.val) ∧ ERel M w ik r q (i + 1)
  | _, _, _ => False

theorem ERel.mono {M M' : Nat → Prop} {w w' : World} (hE : Ext M w M' w') {ik : MKd} : ∀ {l : List MapEntry} {es : List (KyT ik × V)} {i : Nat}, ERel M w ik l es i → ERel M' w' ik l es i
  | [], [], _, _ => True.intro
  | _ :: _, _ :: _, _, h => ⟨⟨h.1.1, h.1.2.1, h.1.2.2.mono hE (Sg.le_refl _)⟩, h.2.mono hE⟩
  | [], _ :: _, _, h => h.elim
  | _ :: _, [], _, h => h.elim

/-- a row of a family: a slice whose block belongs to the family, unless it is open under a name of its own -/
def RowSim (M : Nat → Prop) (w : World) (σ : Sg) (s len : Nat) (f : Nat → Nat → V) (q : Option Nat) (u : Value) : Prop :=
  ∃ a c, u = .slice a len c ∧ len ≤ c ∧ (∀ k, q = some k → Den M w σ (.vec k s 0 len) u) ∧
    (q = none → 0 < c → ∃ r off ty us, a = some ⟨r, off, none⟩ ∧ M r ∧ w.heap[r]? = some (.cells us ty (0, 0)) ∧ off + c * s ≤ us.size ∧
      ∀ j t, j < len → t < s → ∃ x, us[off + (j * s + t)]? = some x ∧ x.oneCell' = true ∧ Den M w Sg.none (f j t) x)
def RowAt (us : Array Value) (base : Nat) (i r : Nat) : Prop := ∃ off l c, us[base + i]? = some (.slice (some ⟨r, off, none⟩) l c) ∧ 0 < c

def BlkSim (M : Nat → Prop) (w : World) (σ : Sg) (k : Nat) : Blk → Prop
  | .cells cs => ∃ b κ ty us, σ k = some (some b, 0, κ) ∧ M b ∧ w.heap[b]? = some (.cells us ty (0, 0)) ∧ us.size = cs.length ∧
      ∀ (i : Nat) (v : V) (u : Value), cs[i]? = some v → us[i]? = some u → Den M w σ v u
  | .vec n s f => ∃ bo base κ, σ k = some (bo, base, κ) ∧ n ≤ κ ∧ ((κ = 0 ∧ bo = none) ∨
      ∃ b ty us, bo = some b ∧ M b ∧ w.heap[b]? = some (.cells us ty (0, 0)) ∧ base + κ * s ≤ us.size ∧
        ∀ i j, i < n → j < s → ∃ u, us[base + (i * s + j)]? = some u ∧ u.oneCell' = true ∧ Den M w Sg.none (f i j) u)
  | .loop st pe env N ps C => ∃ l κ r, σ k = some (some l, 0, κ) ∧ M l ∧ w.heap[l]? = some (.loop r) ∧ r.state = st ∧ r.pending = pe.map jumpOf ∧ r.params = ps.toArray ∧ C r.assign r.body ∧ r.tmps.size = N ∧
      ∀ t v, look env t = some v → Den M w σ v (r.tmps.getD t undef)
  | .map ik es => ∃ b κ arr, σ k = some (some b, 0, κ) ∧ M b ∧ w.heap[b]? = some (.map arr arr.size) ∧ ERel M w ik arr.toList es 0
  | .iter km n idxs => ∃ r κ b base κ', σ k = some (some r, 0, κ) ∧ M r ∧ σ km = some (some b, base, κ') ∧ w.heap[r]? = some (.mapIter (some b) n idxs.toArray n)
  | .glob g n f => (∃ base κ, σ k = some (none, base, κ)) ∧ Den M w Sg.none (.fe n 1 f 0 0) (.pointer (some ⟨g, 0, none⟩))
  | .fam n s len f op => ∃ bo base κ, σ k = some (bo, base, κ) ∧ n ≤ κ ∧ ((κ = 0 ∧ bo = none) ∨
      ∃ b ty us, bo = some b ∧ M b ∧ w.heap[b]? = some (.cells us ty (0, 0)) ∧ base + κ ≤ us.size ∧
        (∀ i, i < n → ∃ u, us[base + i]? = some u ∧ RowSim M w σ s (len i) (f i) (look op i) u) ∧
        (∀ i i' r, i < n → i' < n → look op i = none → look op i' = none → RowAt us base i r → RowAt us base i' r → i = i') ∧
        (∀ i, i < n → look op i = none → ¬ RowAt us base i b))

/-- the blocks of a family's rows -/
def rowOf (w : World) (σ : Sg) (k : Nat) (b : Blk) (r : Nat) : Prop :=
  match b with
  | .fam n _ _ _ op => ∃ ob base κ us ty i, σ k = some (some ob, base, κ) ∧ w.heap[ob]? = some (.cells us ty (0, 0)) ∧ i < n ∧ look op i = none ∧ RowAt us base i r
  | _ => False
def holds (w : World) (σ : Sg) (k : Nat) (b : Blk) (r : Nat) : Prop := blkOf σ k = some r ∨ rowOf w σ k b r

structure OwnSim (M : Nat → Prop) (w : World) (σ : Sg) (own : Own) : Prop where
  blk : ∀ k b, (k, b) ∈ own → BlkSim M w σ k b
  nodup : (own.map (·.1)).Nodup
  apart : ∀ k b k' b' n, (k, b) ∈ own → (k', b') ∈ own → k ≠ k' → holds w σ k b n → ¬ holds w σ k' b' n

def owned (w : World) (σ : Sg) (own : Own) (n : Nat) : Prop := ∃ k b, (k, b) ∈ own ∧ holds w σ k b n

structure Adv (S : Nat → Prop) (M : Nat → Prop) (w : World) (M' : Nat → Prop) (w' : World) : Prop where
  os : w'.os = w.os
  tape : w'.tape = w.tape
  output : w'.output = w.output
  size : w.heap.size ≤ w'.heap.size
  same : ∀ b, b < w.heap.size → ¬ S b → w'.heap[b]? = w.heap[b]?
  muts : ∀ b, b < w.heap.size → ¬ S b → (M' b ↔ M b)

/-- The heap's part of a state. -/
structure HSim (M : Nat → Prop) (w : World) (σ : Sg) (own : Own) (ks : List Nat) : Prop where
  own : OwnSim M w σ own
  fresh : ∀ k, k ∈ ks → σ k = none
  knodup : ks.Nodup

def EnvSim (M : Nat → Prop) (w : World) (σ : Sg) (env : Env) (a : Act) : Prop :=
  ∀ t v, look env t = some v → Den M w σ v (a.tmps.getD t undef)

/-- The marks of ranges over functions that a frame has been through: blocks that nobody owns, laid since the frame began. -/
structure Good (B : Nat) (M : Nat → Prop) (w : World) (σ : Sg) (own : Own) (ds : List Deferred) : Prop where
  base : B ≤ w.heap.size
  mark : ∀ d, d ∈ ds → ∃ D, d = { target := .collected D, args := #[] } ∧ B ≤ D ∧ w.heap[D]? = some (.deferred (some [])) ∧ ¬ owned w σ own D ∧ M D
  nodup : ds.Nodup

structure Sim (N B : Nat) (M : Nat → Prop) (w : World) (σ : Sg) (st : St) (a : Act) : Prop where
  env : EnvSim M w σ st.env a
  heap : HSim M w σ st.own st.ks
  size : a.tmps.size = N
  defers : Good B M w σ st.own a.defers

structure Tr (M : Nat → Prop) (w : World) (σ : Sg) (own : Own) (M' : Nat → Prop) (w' : World) (σ' : Sg) (own' : Own) : Prop where
  adv : Adv (owned w σ own) M w M' w'
  new : ∀ b, owned w' σ' own' b → owned w σ own b ∨ w.heap.size ≤ b
  le : σ.le σ'

theorem owned_M {M : Nat → Prop} {w : World} {σ : Sg} {own : Own} (h : OwnSim M w σ own) {b : Nat} (hb : owned w σ own b) : M b ∧ b < w.heap.size := by
  obtain ⟨k, blk, hm, hk⟩ := hb
  have hs := h.blk k blk hm
  have lt : ∀ {q : Nat} {o : Obj}, w.heap[q]? = some o → q < w.heap.size := fun {q o} h3 => by
    rcases Nat.lt_or_ge q w.heap.size with h | h
    · exact h
    · simp [Array.getElem?_eq_none h] at h3
  cases blk with
  | cells cs =>
    obtain ⟨b', κ, ty, us, h1, h2, h3, _⟩ := hs
    simp [holds, rowOf, blkOf, h1] at hk
    subst hk
    exact ⟨h2, lt h3⟩
  | vec n s f =>
    obtain ⟨bo, base, κ, h1, _, h2⟩ := hs
    simp [holds, rowOf, blkOf, h1] at hk
    subst hk
    rcases h2 with ⟨_, h⟩ | ⟨b', ty, us, he, hM, h3, _⟩
    · cases h
    · cases he
      exact ⟨hM, lt h3⟩
  | loop st pe env N ps C =>
    obtain ⟨l, κ, r, h1, h2, h3, _⟩ := hs
    simp [holds, rowOf, blkOf, h1] at hk
    subst hk
    exact ⟨h2, lt h3⟩
  | glob g n f =>
    obtain ⟨⟨base, κ, h1⟩, _⟩ := hs
    simp [holds, rowOf, blkOf, h1] at hk
  | map ik es =>
    obtain ⟨l, κ, r, h1, h2, h3, _⟩ := hs
    simp [holds, rowOf, blkOf, h1] at hk
    subst hk
    exact ⟨h2, lt h3⟩
  | iter km n idxs =>
    obtain ⟨l, κ, _, _, _, h1, h2, _, h3⟩ := hs
    simp [holds, rowOf, blkOf, h1] at hk
    subst hk
    exact ⟨h2, lt h3⟩
  | fam n s len f op =>
    obtain ⟨bo, base, κ, h1, _, h2⟩ := hs
    rcases h2 with ⟨_, h⟩ | ⟨b', ty, us, he, hM, h3, _, hr, _⟩
    · subst h
      rcases hk with hk | ⟨ob, base', κ', us, ty, i, e1, _⟩
      · simp [blkOf, h1] at hk
      · rw [h1] at e1; simp at e1
    · subst he
      rcases hk with hk | ⟨ob, base', κ', us', ty', i, e1, e2, e3, e4, off, l, c, e5, e6⟩
      · simp [blkOf, h1] at hk
        subst hk
        exact ⟨hM, lt h3⟩
      · rw [h1] at e1
        simp only [Option.some.injEq, Prod.mk.injEq] at e1
        obtain ⟨rfl, rfl, rfl⟩ := e1
        rw [h3] at e2
        simp only [Option.some.injEq, Obj.cells.injEq] at e2
        obtain ⟨rfl, _⟩ := e2
        obtain ⟨u, u1, a, c', u2, _, _, u3⟩ := hr i e3
        rw [e5] at u1
        cases u1
        cases u2
        obtain ⟨r, off', ty2, us2, q1, q2, q3, _⟩ := u3 e4 e6
        cases q1
        exact ⟨q2, lt q3⟩

theorem Adv.ext {S M M' : Nat → Prop} {w w' : World} (h : Adv S M w M' w') (hS : ∀ b, S b → M b) : Ext M w M' w' :=
  ⟨fun b hb hM => by
    have hn : ¬ S b := fun hs => hM (hS b hs)
    exact ⟨fun hm => hM ((h.muts b hb hn).1 hm), h.same b hb hn⟩, h.size⟩

theorem Adv.refl (S M : Nat → Prop) (w : World) : Adv S M w M w := ⟨rfl, rfl, rfl, Nat.le_refl _, fun _ _ _ => rfl, fun _ _ _ => Iff.rfl⟩

theorem Tr.refl (M : Nat → Prop) (w : World) (σ : Sg) (own : Own) : Tr M w σ own M w σ own := ⟨.refl _ _ _, fun _ h => .inl h, Sg.le_refl _⟩

theorem Tr.trans {M M₁ M₂ : Nat → Prop} {w w₁ w₂ : World} {σ σ₁ σ₂ : Sg} {o o₁ o₂ : Own} (h : Tr M w σ o M₁ w₁ σ₁ o₁) (h' : Tr M₁ w₁ σ₁ o₁ M₂ w₂ σ₂ o₂) :
    Tr M w σ o M₂ w₂ σ₂ o₂ := by
  have key : ∀ b, b < w.heap.size → ¬ owned w σ o b → ¬ owned w₁ σ₁ o₁ b := fun b hb hn hs => by
    rcases h.new b hs with h1 | h1
    · exact hn h1
    · omega
  have hs1 := h.adv.size
  have hs2 := h'.adv.size
  refine ⟨⟨h'.adv.os.trans h.adv.os, h'.adv.tape.trans h.adv.tape, h'.adv.output.trans h.adv.output, by omega, ?_, ?_⟩, ?_, Sg.le_trans h.le h'.le⟩
  · intro b hb hn
    rw [h'.adv.same b (by omega) (key b hb hn), h.adv.same b hb hn]
  · intro b hb hn
    exact (h'.adv.muts b (by omega) (key b hb hn)).trans (h.adv.muts b hb hn)
  · intro b hb
    rcases h'.new b hb with h1 | h1
    · exact h.new b h1
    · right; omega

/-- Keys: nothing is named but by the supply; the supply does not grow. -/
def Kd (σ : Sg) (own : Own) (ks : List Nat) (σ' : Sg) (own' : Own) (ks' : List Nat) : Prop :=
  (∀ k, k ∈ ks' → k ∈ ks) ∧ (∀ k, σ k = none → k ∉ ks → σ' k = none) ∧ ∀ k, k ∈ own'.map (·.1) → k ∈ own.map (·.1) ∨ k ∈ ks

theorem Kd.refl (σ : Sg) (own : Own) (ks : List Nat) : Kd σ own ks σ own ks := ⟨fun _ h => h, fun _ h _ => h, fun _ h => .inl h⟩
theorem Kd.trans {a b c : Sg} {o p q : Own} {x y z : List Nat} (h : Kd a o x b p y) (h' : Kd b p y c q z) : Kd a o x c q z :=
  ⟨fun k hk => h.1 k (h'.1 k hk), fun k h1 h2 => h'.2.1 k (h.2.1 k h1 h2) fun hk => h2 (h.1 k hk), fun k hk => by
    rcases h'.2.2 k hk with e | e
    · exact h.2.2 k e
    · exact .inr (h.1 k e)⟩

/-- As Tr, but for the names of blocks. -/
structure Tr0 (M : Nat → Prop) (w : World) (σ : Sg) (own : Own) (M' : Nat → Prop) (w' : World) (σ' : Sg) (own' : Own) : Prop where
  adv : Adv (owned w σ own) M w M' w'
  new : ∀ b, owned w' σ' own' b → owned w σ own b ∨ w.heap.size ≤ b

theorem Tr.t0 {M M' : Nat → Prop} {w w' : World} {σ σ' : Sg} {own own' : Own} (h : Tr M w σ own M' w' σ' own') : Tr0 M w σ own M' w' σ' own' := ⟨h.adv, h.new⟩

theorem Tr0.refl (M : Nat → Prop) (w : World) (σ : Sg) (own : Own) : Tr0 M w σ own M w σ own := ⟨.refl _ _ _, fun _ h => .inl h⟩

theorem Tr0.trans {M M₁ M₂ : Nat → Prop} {w w₁ w₂ : World} {σ σ₁ σ₂ : Sg} {o o₁ o₂ : Own} (h : Tr0 M w σ o M₁ w₁ σ₁ o₁) (h' : Tr0 M₁ w₁ σ₁ o₁ M₂ w₂ σ₂ o₂) :
    Tr0 M w σ o M₂ w₂ σ₂ o₂ := by
  have key : ∀ b, b < w.heap.size → ¬ owned w σ o b → ¬ owned w₁ σ₁ o₁ b := fun b hb hn hs => by
    rcases h.new b hs with h1 | h1
    · exact hn h1
    · omega
  have hs1 := h.adv.size
  have hs2 := h'.adv.size
  refine ⟨⟨h'.adv.os.trans h.adv.os, h'.adv.tape.trans h.adv.tape, h'.adv.output.trans h.adv.output, by omega, ?_, ?_⟩, ?_⟩
  · intro b hb hn
    rw [h'.adv.same b (by omega) (key b hb hn), h.adv.same b hb hn]
  · intro b hb hn
    exact (h'.adv.muts b (by omega) (key b hb hn)).trans (h.adv.muts b hb hn)
  · intro b hb
    rcases h'.new b hb with h1 | h1
    · exact h.new b h1
    · right; omega

theorem Good.nil {B : Nat} {M : Nat → Prop} {w : World} {σ : Sg} {own : Own} (h : B ≤ w.heap.size) : Good B M w σ own [] := ⟨h, fun d h => by simp at h, by simp⟩
theorem Good.tr0 {B : Nat} {M M' : Nat → Prop} {w w' : World} {σ σ' : Sg} {own own' : Own} {ds : List Deferred} (h : Good B M w σ own ds) (t : Tr0 M w σ own M' w' σ' own') : Good B M' w' σ' own' ds :=
  ⟨Nat.le_trans h.base t.adv.size, fun d hd => by
    obtain ⟨D, e, h1, h2, h3, h4⟩ := h.mark d hd
    have hlt : D < w.heap.size := by
      rcases Nat.lt_or_ge D w.heap.size with h | h
      · exact h
      · simp [Array.getElem?_eq_none h] at h2
    refine ⟨D, e, h1, (t.adv.same D hlt h3).trans h2, fun ho => ?_, (t.adv.muts D hlt h3).2 h4⟩
    rcases t.new D ho with h4 | h4
    · exact h3 h4
    · omega, h.nodup⟩
theorem Good.tr {B : Nat} {M M' : Nat → Prop} {w w' : World} {σ σ' : Sg} {own own' : Own} {ds : List Deferred} (h : Good B M w σ own ds) (t : Tr M w σ own M' w' σ' own') : Good B M' w' σ' own' ds := h.tr0 t.t0

/-- every function may be called; in a round of the loop r -/
def FR (r : Option Nat) : Fence := { Fence.wide with round := r }
theorem FR_none : FR none = Fence.wide := rfl

/-- The post of a piece of code. σb: the names that the caller knows. -/
def XP (N B : Nat) (σb : Sg) (M : Nat → Prop) (w : World) (σ : Sg) (own : Own) (ks : List Nat) (K : Out → Prop) : Exit → Act → World → Prop := fun e a' w' =>
  ∃ M' σ' st', Sim N B M' w' σ' st' a' ∧ Tr0 M w σ own M' w' σ' st'.own ∧ Kd σ own ks σ' st'.own st'.ks ∧ σb.le σ' ∧
    (match e with
      | .normal => K (.normal st')
      | .exit id => K (.exit id st')
      | .ret => K (.ret st')
      | _ => False)

end Go.Eng
