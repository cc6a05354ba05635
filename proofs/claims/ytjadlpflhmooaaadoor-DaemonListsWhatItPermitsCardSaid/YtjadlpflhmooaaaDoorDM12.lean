import Derived.Test.YtjadlpflhmooaaaDoorDM11
namespace Go.Proofs.YtjadlpflhmooaaaDoor
open Go.Eng
set_option maxRecDepth 100000
set_option linter.unusedVariables false

theorem choices_len {g : G} {k : Int} {e : Nat} (he : e < 4294967296) : (g.choices k e).1.length ≤ 5000000000 := by
  rw [G.choices]
  split
  · show ([] : List Nat).length ≤ _; simp
  · split
    · show ([] : List Nat).length ≤ _; simp
    · split
      · show ([] : List Nat).length ≤ _; simp
      · exact chs_len he

set_option maxHeartbeats 8000000 in
theorem lawPermits (g : G) (hs : g.Small) (k k2 : Int) (e c : Nat) (he : e < 4294967296) (hc : c < 4294967296) : RG 8 [g.v, .int .i64 k, .int .i64 k2, .int .u32 e, .int .u32 c] (.bool true) := by
  have h0 := light_ok g hs
  have h1 := dvalid_ok k
  have h2 := rdvalid_ok k
  have h3 := permits_ok g hs k e c he hc
  have h4 := rpermits_ok g hs k e c he hc
  have h5 := dwithin_ok k k2
  have h6 := rdwithin_ok k k2
  have ha := awake_ok
  refine ret_frzG rfl ?_
  refine fn_rule mixed Tryd.func8 rfl hc8 hr8 rfl ?_
  repeat' ((conv => whnf); first
      | (refine Br.self ?_)
      | (refine Br.tt ?_)
      | (refine Br.ff ?_)
      | (refine Br.dec (fun _ => ?_) (fun _ => ?_) <;> first | (exfalso; omega) | skip)
      | (refine Br.beq (fun _ => ?_) (fun _ => ?_) <;> first | (exfalso; omega) | skip)
      | (refine Br.bne (fun _ => ?_) (fun _ => ?_) <;> first | (exfalso; omega) | skip)
      | (refine Br.nbeq (fun _ => ?_) (fun _ => ?_) <;> first | (exfalso; omega) | skip)
      | (refine Br.nble (fun _ => ?_) (fun _ => ?_) <;> first | (exfalso; omega) | skip)
      | (refine Ar.i64 (by omega) (by omega) ?_)
      | (refine Ar.u32 (by omega) (by omega) ?_)
      | (refine Ar.sh1 (by omega) ?_)
      | (refine Ar.u64 (by omega) (by omega) ?_)
      | (refine Sv.mk _ rfl ?_)
      | (refine Nz.mk (by omega) ?_)
      | (refine Nn.mk (by omega) ?_)
      | (refine Ix.nat (by omega) ?_)
      | (refine Ix.ofNat (by omega) ?_)
      | (refine Ix.mk 0 rfl (by omega) ?_)
      | (refine Ix.mk 1 rfl (by omega) ?_)
      | (refine Ix.int (by omega) (by omega) ?_)
      | (refine Bd.nat (by omega) ?_)
      | (refine Bd.mk 0 rfl (by omega) ?_)
      | (refine Bd.mk 1 rfl (by omega) ?_)
      | (refine Bd.int (by omega) (by omega) ?_)
      | (refine Len.mk (by omega) ?_)
      | (refine Len.mk (by simp only [List.length_cons, List.length_nil]; omega) ?_)
      | (refine Ltn.mk (by omega) ?_)
      | (refine Both.mk ?_ ?_)
      | (refine MkS.vec ?_)
      | (refine (h0 _ _).mono ?_; rintro _ _ _ ⟨rfl, rfl, rfl⟩)
      | (refine (ha _ _ rfl).mono ?_; rintro _ _ _ ⟨rfl, rfl, rfl⟩)
      | (refine (h1 _ _).mono ?_; rintro _ _ _ ⟨rfl, rfl, rfl⟩)
      | (refine (h2 _ _).mono ?_; rintro _ _ _ ⟨rfl, rfl, rfl⟩)
      | (refine (h3 _ _ rfl).mono ?_; rintro _ _ _ ⟨rfl, rfl, rfl⟩)
      | (refine (h4 _ _).mono ?_; rintro _ _ _ ⟨rfl, rfl, rfl⟩)
      | (refine (h5 _ _).mono ?_; rintro _ _ _ ⟨rfl, rfl, rfl⟩)
      | (refine (h6 _ _).mono ?_; rintro _ _ _ ⟨rfl, rfl, rfl⟩)
      | (refine And.intro rfl ?_)
      | (refine Br.any (fun _ => ?_) (fun _ => ?_)))
  all_goals (conv => whnf)
  all_goals first | exact VLe.rfl | (exfalso; clear h0 h1 h2 h3 h4 h5 h6 ha; simp_all)

set_option maxHeartbeats 8000000 in
theorem lawChooses (g : G) (hs : g.Small) (k : Int) (e w : Nat) (he : e < 4294967296) (hw : w < 4294967296) : RG 3 [g.v, .int .i64 k, .int .u32 e, .int .u32 w] (.bool true) := by
  have h0 := light_ok g hs
  have h1 := choices_ok g hs k e he
  have h2 := rchoices_ok g hs k e he
  have hl := choices_len (g := g) (k := k) he
  have h3 := same_ok (g.choices k e).1 (g.choices k e).1 hl hl
  rw [decide_eq_true rfl] at h3
  have h4 := resolve_ok g hs k e w he hw
  have h5 := rresolve_ok g hs k e w he hw
  have ha := awake_ok
  refine ret_frzG rfl ?_
  refine fn_rule mixed Tryd.func3 rfl hc3 hr3 rfl ?_
  repeat' ((conv => whnf); first
      | (refine Br.self ?_)
      | (refine Br.tt ?_)
      | (refine Br.ff ?_)
      | (refine Br.dec (fun _ => ?_) (fun _ => ?_) <;> first | (exfalso; omega) | skip)
      | (refine Br.beq (fun _ => ?_) (fun _ => ?_) <;> first | (exfalso; omega) | skip)
      | (refine Br.bne (fun _ => ?_) (fun _ => ?_) <;> first | (exfalso; omega) | skip)
      | (refine Br.nbeq (fun _ => ?_) (fun _ => ?_) <;> first | (exfalso; omega) | skip)
      | (refine Br.nble (fun _ => ?_) (fun _ => ?_) <;> first | (exfalso; omega) | skip)
      | (refine Ar.i64 (by omega) (by omega) ?_)
      | (refine Ar.u32 (by omega) (by omega) ?_)
      | (refine Ar.sh1 (by omega) ?_)
      | (refine Ar.u64 (by omega) (by omega) ?_)
      | (refine Sv.mk _ rfl ?_)
      | (refine Nz.mk (by omega) ?_)
      | (refine Nn.mk (by omega) ?_)
      | (refine Ix.nat (by omega) ?_)
      | (refine Ix.ofNat (by omega) ?_)
      | (refine Ix.mk 0 rfl (by omega) ?_)
      | (refine Ix.mk 1 rfl (by omega) ?_)
      | (refine Ix.int (by omega) (by omega) ?_)
      | (refine Bd.nat (by omega) ?_)
      | (refine Bd.mk 0 rfl (by omega) ?_)
      | (refine Bd.mk 1 rfl (by omega) ?_)
      | (refine Bd.int (by omega) (by omega) ?_)
      | (refine Len.mk (by omega) ?_)
      | (refine Len.mk (by simp only [List.length_cons, List.length_nil]; omega) ?_)
      | (refine Ltn.mk (by omega) ?_)
      | (refine Both.mk ?_ ?_)
      | (refine MkS.vec ?_)
      | (refine (h0 _ _).mono ?_; rintro _ _ _ ⟨rfl, rfl, rfl⟩)
      | (refine (ha _ _ rfl).mono ?_; rintro _ _ _ ⟨rfl, rfl, rfl⟩)
      | (refine (h1 _ _ rfl).mono ?_; rintro _ _ _ ⟨rfl, rfl, rfl⟩)
      | (refine (h2 _ _).mono ?_; rintro _ _ _ ⟨rfl, rfl, rfl⟩)
      | (refine (h3 _ _).mono ?_; rintro _ _ _ ⟨rfl, rfl, rfl⟩)
      | (refine (h4 _ _ rfl).mono ?_; rintro _ _ _ ⟨rfl, rfl, rfl⟩)
      | (refine (h5 _ _).mono ?_; rintro _ _ _ ⟨rfl, rfl, rfl⟩)
      | (refine And.intro rfl ?_)
      | (refine Br.any (fun _ => ?_) (fun _ => ?_)))
  all_goals (conv => whnf)
  all_goals exact VLe.rfl

/-! ## fair graphs -/

theorem md_kind (k : Int) : dk (1 + md4 k) = true := by
  have := md4_range k
  rw [dk_iff]; omega

set_option maxHeartbeats 8000000 in
theorem lawWithin (g : G) (hs : g.Small) (a b d : Int) (e c : Nat) (he : e < 4294967296) (hc : c < 4294967296) : RG 9 [g.v, .int .i64 a, .int .i64 b, .int .i64 d, .int .u32 e, .int .u32 c] (.bool true) := by
  have h0 := fair_ok g hs
  have ma := mod_ok a
  have mb := mod_ok b
  have md := mod_ok d
  have ra := md4_range a
  have rb := md4_range b
  have rd := md4_range d
  have ka := md_kind a
  have kb := md_kind b
  have kd := md_kind d
  generalize md4 a = A at *
  generalize md4 b = B at *
  generalize md4 d = D at *
  have w1 := dwithin_ok (1 + A) (1 + B)
  have w2 := dwithin_ok (1 + B) (1 + D)
  have w3 := dwithin_ok (1 + A) (1 + D)
  have w4 := dwithin_ok (1 + A) (1 + A)
  rw [wi_refl ka] at w4
  have w5 := dwithin_ok 1 2
  rw [show wi 1 2 = true by decide] at w5
  have w6 := dwithin_ok 2 3
  rw [show wi 2 3 = true by decide] at w6
  have w7 := dwithin_ok 4 3
  rw [show wi 4 3 = true by decide] at w7
  have w8 := dwithin_ok 3 2
  rw [show wi 3 2 = false by decide] at w8
  have p1 := permits_ok g hs (1 + A) e c he hc
  have p2 := permits_ok g hs (1 + B) e c he hc
  have ha := awake_ok
  have ht := fun x y => wi_trans (a := 1 + A) (b := 1 + B) (c := 1 + D) x y
  have hp := fun x y => perm_within (g := g) (a := 1 + A) (b := 1 + B) (e := e) hc x y
  refine ret_frzG rfl ?_
  refine fn_rule mixed Tryd.func9 rfl hc9 hr9 rfl ?_
  generalize wi (1 + A) (1 + B) = x1 at *
  generalize wi (1 + B) (1 + D) = x2 at *
  generalize wi (1 + A) (1 + D) = x3 at *
  generalize g.perm (1 + A) e c = x4 at *
  generalize g.perm (1 + B) e c = x5 at *
  cases x1 <;> cases x2 <;> cases x3 <;> cases x4 <;> cases x5
  all_goals try exact Bool.noConfusion (ht rfl rfl)
  all_goals try exact Bool.noConfusion (hp rfl rfl)
  all_goals
    repeat' ((conv => whnf); first
        | (refine Br.tt ?_)
        | (refine Br.ff ?_)
        | (refine Br.dec (fun _ => ?_) (fun _ => ?_) <;> first | (exfalso; omega) | skip)
        | (refine Br.beq (fun _ => ?_) (fun _ => ?_) <;> first | (exfalso; omega) | skip)
        | (refine Br.bne (fun _ => ?_) (fun _ => ?_) <;> first | (exfalso; omega) | skip)
        | (refine Br.nbeq (fun _ => ?_) (fun _ => ?_) <;> first | (exfalso; omega) | skip)
        | (refine Br.nble (fun _ => ?_) (fun _ => ?_) <;> first | (exfalso; omega) | skip)
        | (refine Ar.i64 (by omega) (by omega) ?_)
        | (refine Ar.u32 (by omega) (by omega) ?_)
        | (refine Ar.sh1 (by omega) ?_)
        | (refine Ar.u64 (by omega) (by omega) ?_)
        | (refine Sv.mk _ rfl ?_)
        | (refine Nz.mk (by omega) ?_)
        | (refine Nn.mk (by omega) ?_)
        | (refine Ix.nat (by omega) ?_)
        | (refine Ix.ofNat (by omega) ?_)
        | (refine Ix.mk 0 rfl (by omega) ?_)
        | (refine Ix.mk 1 rfl (by omega) ?_)
        | (refine Ix.int (by omega) (by omega) ?_)
        | (refine Bd.nat (by omega) ?_)
        | (refine Bd.mk 0 rfl (by omega) ?_)
        | (refine Bd.mk 1 rfl (by omega) ?_)
        | (refine Bd.int (by omega) (by omega) ?_)
        | (refine Len.mk (by omega) ?_)
        | (refine Len.mk (by simp only [List.length_cons, List.length_nil]; omega) ?_)
        | (refine Ltn.mk (by omega) ?_)
        | (refine Both.mk ?_ ?_)
        | (refine MkS.vec ?_)
        | (refine (h0 _ _).mono ?_; rintro _ _ _ ⟨rfl, rfl, rfl⟩)
        | (refine (ha _ _ rfl).mono ?_; rintro _ _ _ ⟨rfl, rfl, rfl⟩)
        | (refine (ma _ _).mono ?_; rintro _ _ _ ⟨rfl, rfl, rfl⟩)
        | (refine (mb _ _).mono ?_; rintro _ _ _ ⟨rfl, rfl, rfl⟩)
        | (refine (md _ _).mono ?_; rintro _ _ _ ⟨rfl, rfl, rfl⟩)
        | (refine (w4 _ _).mono ?_; rintro _ _ _ ⟨rfl, rfl, rfl⟩)
        | (refine (w5 _ _).mono ?_; rintro _ _ _ ⟨rfl, rfl, rfl⟩)
        | (refine (w6 _ _).mono ?_; rintro _ _ _ ⟨rfl, rfl, rfl⟩)
        | (refine (w7 _ _).mono ?_; rintro _ _ _ ⟨rfl, rfl, rfl⟩)
        | (refine (w8 _ _).mono ?_; rintro _ _ _ ⟨rfl, rfl, rfl⟩)
        | (refine (w1 _ _).mono ?_; rintro _ _ _ ⟨rfl, rfl, rfl⟩)
        | (refine (w2 _ _).mono ?_; rintro _ _ _ ⟨rfl, rfl, rfl⟩)
        | (refine (w3 _ _).mono ?_; rintro _ _ _ ⟨rfl, rfl, rfl⟩)
        | (refine (p1 _ _ rfl).mono ?_; rintro _ _ _ ⟨rfl, rfl, rfl⟩)
        | (refine (p2 _ _ rfl).mono ?_; rintro _ _ _ ⟨rfl, rfl, rfl⟩)
        | (refine And.intro rfl ?_)
        | (refine Br.any (fun _ => ?_) (fun _ => ?_)))
    all_goals (conv => whnf)
    all_goals exact VLe.rfl

set_option maxHeartbeats 8000000 in
theorem lawParts (g : G) (hs : g.Small) (l : Bool) (e c p : Nat) (he : e < 4294967296) (hc : c < 4294967296) (hp : p < 4294967296) : RG 7 [g.v, .bool l, .int .u32 e, .int .u32 c, .int .u32 p] (.bool true) := by
  have h0 := fair_ok g hs
  have ha := awake_ok
  have hb := bit_and hp hc
  have hq := part_and p c
  have hq2 : p &&& c < 4294967296 := Nat.lt_of_le_of_lt Nat.and_le_right hc
  generalize p &&& c = q at *
  have key : ∀ k : Int, k = 2 ∨ k = 3 → RG 23 [g.v, .int .i64 k, .int .u32 e, .int .u32 (0 : Nat)] (.bool false) := fun k hk => by
    have := permits_ok g hs k e 0 he (by decide)
    rw [perm_none] at this
    exact this
  refine ret_frzG rfl ?_
  refine fn_rule mixed Tryd.func7 rfl hc7 hr7 rfl ?_
  cases l
  · have k0 := key 3 (.inr rfl)
    have p1 := permits_ok g hs 3 e c he hc
    have p2 := permits_ok g hs 3 e q he hq2
    have p3 := permits_ok g hs 3 c q hc hq2
    have hpp := fun x y => perm_part (g := g) (k := 3) (e := e) (c := c) (p := q) he hc (.inr rfl) x hq y
    cases hx : g.perm 3 e c with
    | false =>
      rw [hx] at p1
      repeat' ((conv => whnf); first
          | (refine Sv.mk _ hb.symm ?_)
          | (refine Br.tt ?_)
          | (refine Br.ff ?_)
          | (refine Br.dec (fun _ => ?_) (fun _ => ?_) <;> first | (exfalso; omega) | skip)
          | (refine Br.beq (fun _ => ?_) (fun _ => ?_) <;> first | (exfalso; omega) | skip)
          | (refine Br.bne (fun _ => ?_) (fun _ => ?_) <;> first | (exfalso; omega) | skip)
          | (refine Br.nbeq (fun _ => ?_) (fun _ => ?_) <;> first | (exfalso; omega) | skip)
          | (refine Br.nble (fun _ => ?_) (fun _ => ?_) <;> first | (exfalso; omega) | skip)
          | (refine Ar.i64 (by omega) (by omega) ?_)
          | (refine Ar.u32 (by omega) (by omega) ?_)
          | (refine Ar.sh1 (by omega) ?_)
          | (refine Ar.u64 (by omega) (by omega) ?_)
          | (refine Sv.mk _ rfl ?_)
          | (refine Nz.mk (by omega) ?_)
          | (refine Nn.mk (by omega) ?_)
          | (refine Ix.nat (by omega) ?_)
          | (refine Ix.ofNat (by omega) ?_)
          | (refine Ix.mk 0 rfl (by omega) ?_)
          | (refine Ix.mk 1 rfl (by omega) ?_)
          | (refine Ix.int (by omega) (by omega) ?_)
          | (refine Bd.nat (by omega) ?_)
          | (refine Bd.mk 0 rfl (by omega) ?_)
          | (refine Bd.mk 1 rfl (by omega) ?_)
          | (refine Bd.int (by omega) (by omega) ?_)
          | (refine Len.mk (by omega) ?_)
          | (refine Len.mk (by simp only [List.length_cons, List.length_nil]; omega) ?_)
          | (refine Ltn.mk (by omega) ?_)
          | (refine Both.mk ?_ ?_)
          | (refine MkS.vec ?_)
          | (refine (h0 _ _).mono ?_; rintro _ _ _ ⟨rfl, rfl, rfl⟩)
          | (refine (ha _ _ rfl).mono ?_; rintro _ _ _ ⟨rfl, rfl, rfl⟩)
          | (refine (k0 _ _ rfl).mono ?_; rintro _ _ _ ⟨rfl, rfl, rfl⟩)
          | (refine (p1 _ _ rfl).mono ?_; rintro _ _ _ ⟨rfl, rfl, rfl⟩)
          | (refine And.intro rfl ?_)
          | (refine Br.any (fun _ => ?_) (fun _ => ?_)))
      all_goals (conv => whnf)
      all_goals exact VLe.rfl
    | true =>
      rw [hx] at p1
      by_cases hz : q = 0
      · subst hz
        repeat' ((conv => whnf); first
            | (refine Sv.mk _ hb.symm ?_)
            | (refine Br.tt ?_)
            | (refine Br.ff ?_)
            | (refine Br.dec (fun _ => ?_) (fun _ => ?_) <;> first | (exfalso; omega) | skip)
            | (refine Br.beq (fun _ => ?_) (fun _ => ?_) <;> first | (exfalso; omega) | skip)
            | (refine Br.bne (fun _ => ?_) (fun _ => ?_) <;> first | (exfalso; omega) | skip)
            | (refine Br.nbeq (fun _ => ?_) (fun _ => ?_) <;> first | (exfalso; omega) | skip)
            | (refine Br.nble (fun _ => ?_) (fun _ => ?_) <;> first | (exfalso; omega) | skip)
            | (refine Ar.i64 (by omega) (by omega) ?_)
            | (refine Ar.u32 (by omega) (by omega) ?_)
            | (refine Ar.sh1 (by omega) ?_)
            | (refine Ar.u64 (by omega) (by omega) ?_)
            | (refine Sv.mk _ rfl ?_)
            | (refine Nz.mk (by omega) ?_)
            | (refine Nn.mk (by omega) ?_)
            | (refine Ix.nat (by omega) ?_)
            | (refine Ix.ofNat (by omega) ?_)
            | (refine Ix.mk 0 rfl (by omega) ?_)
            | (refine Ix.mk 1 rfl (by omega) ?_)
            | (refine Ix.int (by omega) (by omega) ?_)
            | (refine Bd.nat (by omega) ?_)
            | (refine Bd.mk 0 rfl (by omega) ?_)
            | (refine Bd.mk 1 rfl (by omega) ?_)
            | (refine Bd.int (by omega) (by omega) ?_)
            | (refine Len.mk (by omega) ?_)
            | (refine Len.mk (by simp only [List.length_cons, List.length_nil]; omega) ?_)
            | (refine Ltn.mk (by omega) ?_)
            | (refine Both.mk ?_ ?_)
            | (refine MkS.vec ?_)
            | (refine (h0 _ _).mono ?_; rintro _ _ _ ⟨rfl, rfl, rfl⟩)
            | (refine (ha _ _ rfl).mono ?_; rintro _ _ _ ⟨rfl, rfl, rfl⟩)
            | (refine (k0 _ _ rfl).mono ?_; rintro _ _ _ ⟨rfl, rfl, rfl⟩)
            | (refine And.intro rfl ?_)
            | (refine Br.any (fun _ => ?_) (fun _ => ?_)))
        all_goals (conv => whnf)
        all_goals exact VLe.rfl
      · obtain ⟨a1, a2⟩ := hpp hx hz
        rw [a1] at p2
        rw [a2] at p3
        repeat' ((conv => whnf); first
            | (refine Sv.mk _ hb.symm ?_)
            | (refine Br.tt ?_)
            | (refine Br.ff ?_)
            | (refine Br.dec (fun _ => ?_) (fun _ => ?_) <;> first | (exfalso; omega) | skip)
            | (refine Br.beq (fun _ => ?_) (fun _ => ?_) <;> first | (exfalso; omega) | skip)
            | (refine Br.bne (fun _ => ?_) (fun _ => ?_) <;> first | (exfalso; omega) | skip)
            | (refine Br.nbeq (fun _ => ?_) (fun _ => ?_) <;> first | (exfalso; omega) | skip)
            | (refine Br.nble (fun _ => ?_) (fun _ => ?_) <;> first | (exfalso; omega) | skip)
            | (refine Ar.i64 (by omega) (by omega) ?_)
            | (refine Ar.u32 (by omega) (by omega) ?_)
            | (refine Ar.sh1 (by omega) ?_)
            | (refine Ar.u64 (by omega) (by omega) ?_)
            | (refine Sv.mk _ rfl ?_)
            | (refine Nz.mk (by omega) ?_)
            | (refine Nn.mk (by omega) ?_)
            | (refine Ix.nat (by omega) ?_)
            | (refine Ix.ofNat (by omega) ?_)
            | (refine Ix.mk 0 rfl (by omega) ?_)
            | (refine Ix.mk 1 rfl (by omega) ?_)
            | (refine Ix.int (by omega) (by omega) ?_)
            | (refine Bd.nat (by omega) ?_)
            | (refine Bd.mk 0 rfl (by omega) ?_)
            | (refine Bd.mk 1 rfl (by omega) ?_)
            | (refine Bd.int (by omega) (by omega) ?_)
            | (refine Len.mk (by omega) ?_)
            | (refine Len.mk (by simp only [List.length_cons, List.length_nil]; omega) ?_)
            | (refine Ltn.mk (by omega) ?_)
            | (refine Both.mk ?_ ?_)
            | (refine MkS.vec ?_)
            | (refine (h0 _ _).mono ?_; rintro _ _ _ ⟨rfl, rfl, rfl⟩)
            | (refine (ha _ _ rfl).mono ?_; rintro _ _ _ ⟨rfl, rfl, rfl⟩)
            | (refine (p1 _ _ rfl).mono ?_; rintro _ _ _ ⟨rfl, rfl, rfl⟩)
            | (refine (p2 _ _ rfl).mono ?_; rintro _ _ _ ⟨rfl, rfl, rfl⟩)
            | (refine (p3 _ _ rfl).mono ?_; rintro _ _ _ ⟨rfl, rfl, rfl⟩)
            | (refine And.intro rfl ?_)
            | (refine Br.any (fun _ => ?_) (fun _ => ?_)))
        all_goals (conv => whnf)
        all_goals exact VLe.rfl
  · have k0 := key 2 (.inl rfl)
    have p1 := permits_ok g hs 2 e c he hc
    have p2 := permits_ok g hs 2 e q he hq2
    have p3 := permits_ok g hs 2 c q hc hq2
    have hpp := fun x y => perm_part (g := g) (k := 2) (e := e) (c := c) (p := q) he hc (.inl rfl) x hq y
    cases hx : g.perm 2 e c with
    | false =>
      rw [hx] at p1
      repeat' ((conv => whnf); first
          | (refine Sv.mk _ hb.symm ?_)
          | (refine Br.tt ?_)
          | (refine Br.ff ?_)
          | (refine Br.dec (fun _ => ?_) (fun _ => ?_) <;> first | (exfalso; omega) | skip)
          | (refine Br.beq (fun _ => ?_) (fun _ => ?_) <;> first | (exfalso; omega) | skip)
          | (refine Br.bne (fun _ => ?_) (fun _ => ?_) <;> first | (exfalso; omega) | skip)
          | (refine Br.nbeq (fun _ => ?_) (fun _ => ?_) <;> first | (exfalso; omega) | skip)
          | (refine Br.nble (fun _ => ?_) (fun _ => ?_) <;> first | (exfalso; omega) | skip)
          | (refine Ar.i64 (by omega) (by omega) ?_)
          | (refine Ar.u32 (by omega) (by omega) ?_)
          | (refine Ar.sh1 (by omega) ?_)
          | (refine Ar.u64 (by omega) (by omega) ?_)
          | (refine Sv.mk _ rfl ?_)
          | (refine Nz.mk (by omega) ?_)
          | (refine Nn.mk (by omega) ?_)
          | (refine Ix.nat (by omega) ?_)
          | (refine Ix.ofNat (by omega) ?_)
          | (refine Ix.mk 0 rfl (by omega) ?_)
          | (refine Ix.mk 1 rfl (by omega) ?_)
          | (refine Ix.int (by omega) (by omega) ?_)
          | (refine Bd.nat (by omega) ?_)
          | (refine Bd.mk 0 rfl (by omega) ?_)
          | (refine Bd.mk 1 rfl (by omega) ?_)
          | (refine Bd.int (by omega) (by omega) ?_)
          | (refine Len.mk (by omega) ?_)
          | (refine Len.mk (by simp only [List.length_cons, List.length_nil]; omega) ?_)
          | (refine Ltn.mk (by omega) ?_)
          | (refine Both.mk ?_ ?_)
          | (refine MkS.vec ?_)
          | (refine (h0 _ _).mono ?_; rintro _ _ _ ⟨rfl, rfl, rfl⟩)
          | (refine (ha _ _ rfl).mono ?_; rintro _ _ _ ⟨rfl, rfl, rfl⟩)
          | (refine (k0 _ _ rfl).mono ?_; rintro _ _ _ ⟨rfl, rfl, rfl⟩)
          | (refine (p1 _ _ rfl).mono ?_; rintro _ _ _ ⟨rfl, rfl, rfl⟩)
          | (refine And.intro rfl ?_)
          | (refine Br.any (fun _ => ?_) (fun _ => ?_)))
      all_goals (conv => whnf)
      all_goals exact VLe.rfl
    | true =>
      rw [hx] at p1
      by_cases hz : q = 0
      · subst hz
        repeat' ((conv => whnf); first
            | (refine Sv.mk _ hb.symm ?_)
            | (refine Br.tt ?_)
            | (refine Br.ff ?_)
            | (refine Br.dec (fun _ => ?_) (fun _ => ?_) <;> first | (exfalso; omega) | skip)
            | (refine Br.beq (fun _ => ?_) (fun _ => ?_) <;> first | (exfalso; omega) | skip)
            | (refine Br.bne (fun _ => ?_) (fun _ => ?_) <;> first | (exfalso; omega) | skip)
            | (refine Br.nbeq (fun _ => ?_) (fun _ => ?_) <;> first | (exfalso; omega) | skip)
            | (refine Br.nble (fun _ => ?_) (fun _ => ?_) <;> first | (exfalso; omega) | skip)
            | (refine Ar.i64 (by omega) (by omega) ?_)
            | (refine Ar.u32 (by omega) (by omega) ?_)
            | (refine Ar.sh1 (by omega) ?_)
            | (refine Ar.u64 (by omega) (by omega) ?_)
            | (refine Sv.mk _ rfl ?_)
            | (refine Nz.mk (by omega) ?_)
            | (refine Nn.mk (by omega) ?_)
            | (refine Ix.nat (by omega) ?_)
            | (refine Ix.ofNat (by omega) ?_)
            | (refine Ix.mk 0 rfl (by omega) ?_)
            | (refine Ix.mk 1 rfl (by omega) ?_)
            | (refine Ix.int (by omega) (by omega) ?_)
            | (refine Bd.nat (by omega) ?_)
            | (refine Bd.mk 0 rfl (by omega) ?_)
            | (refine Bd.mk 1 rfl (by omega) ?_)
            | (refine Bd.int (by omega) (by omega) ?_)
            | (refine Len.mk (by omega) ?_)
            | (refine Len.mk (by simp only [List.length_cons, List.length_nil]; omega) ?_)
            | (refine Ltn.mk (by omega) ?_)
            | (refine Both.mk ?_ ?_)
            | (refine MkS.vec ?_)
            | (refine (h0 _ _).mono ?_; rintro _ _ _ ⟨rfl, rfl, rfl⟩)
            | (refine (ha _ _ rfl).mono ?_; rintro _ _ _ ⟨rfl, rfl, rfl⟩)
            | (refine (k0 _ _ rfl).mono ?_; rintro _ _ _ ⟨rfl, rfl, rfl⟩)
            | (refine And.intro rfl ?_)
            | (refine Br.any (fun _ => ?_) (fun _ => ?_)))
        all_goals (conv => whnf)
        all_goals exact VLe.rfl
      · obtain ⟨a1, a2⟩ := hpp hx hz
        rw [a1] at p2
        rw [a2] at p3
        repeat' ((conv => whnf); first
            | (refine Sv.mk _ hb.symm ?_)
            | (refine Br.tt ?_)
            | (refine Br.ff ?_)
            | (refine Br.dec (fun _ => ?_) (fun _ => ?_) <;> first | (exfalso; omega) | skip)
            | (refine Br.beq (fun _ => ?_) (fun _ => ?_) <;> first | (exfalso; omega) | skip)
            | (refine Br.bne (fun _ => ?_) (fun _ => ?_) <;> first | (exfalso; omega) | skip)
            | (refine Br.nbeq (fun _ => ?_) (fun _ => ?_) <;> first | (exfalso; omega) | skip)
            | (refine Br.nble (fun _ => ?_) (fun _ => ?_) <;> first | (exfalso; omega) | skip)
            | (refine Ar.i64 (by omega) (by omega) ?_)
            | (refine Ar.u32 (by omega) (by omega) ?_)
            | (refine Ar.sh1 (by omega) ?_)
            | (refine Ar.u64 (by omega) (by omega) ?_)
            | (refine Sv.mk _ rfl ?_)
            | (refine Nz.mk (by omega) ?_)
            | (refine Nn.mk (by omega) ?_)
            | (refine Ix.nat (by omega) ?_)
            | (refine Ix.ofNat (by omega) ?_)
            | (refine Ix.mk 0 rfl (by omega) ?_)
            | (refine Ix.mk 1 rfl (by omega) ?_)
            | (refine Ix.int (by omega) (by omega) ?_)
            | (refine Bd.nat (by omega) ?_)
            | (refine Bd.mk 0 rfl (by omega) ?_)
            | (refine Bd.mk 1 rfl (by omega) ?_)
            | (refine Bd.int (by omega) (by omega) ?_)
            | (refine Len.mk (by omega) ?_)
            | (refine Len.mk (by simp only [List.length_cons, List.length_nil]; omega) ?_)
            | (refine Ltn.mk (by omega) ?_)
            | (refine Both.mk ?_ ?_)
            | (refine MkS.vec ?_)
            | (refine (h0 _ _).mono ?_; rintro _ _ _ ⟨rfl, rfl, rfl⟩)
            | (refine (ha _ _ rfl).mono ?_; rintro _ _ _ ⟨rfl, rfl, rfl⟩)
            | (refine (p1 _ _ rfl).mono ?_; rintro _ _ _ ⟨rfl, rfl, rfl⟩)
            | (refine (p2 _ _ rfl).mono ?_; rintro _ _ _ ⟨rfl, rfl, rfl⟩)
            | (refine (p3 _ _ rfl).mono ?_; rintro _ _ _ ⟨rfl, rfl, rfl⟩)
            | (refine And.intro rfl ?_)
            | (refine Br.any (fun _ => ?_) (fun _ => ?_)))
        all_goals (conv => whnf)
        all_goals exact VLe.rfl
end Go.Proofs.YtjadlpflhmooaaaDoor
