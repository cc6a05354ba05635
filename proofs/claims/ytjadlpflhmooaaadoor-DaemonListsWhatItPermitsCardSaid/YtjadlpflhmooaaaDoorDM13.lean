import Derived.Test.YtjadlpflhmooaaaDoorDM12
namespace Go.Proofs.YtjadlpflhmooaaaDoor
open Go.Eng
set_option maxRecDepth 100000
set_option linter.unusedVariables false

set_option maxHeartbeats 8000000 in
theorem lawResolves (g : G) (hs : g.Small) (kd : Int) (en w : Nat) (hen : en < 4294967296) (hw : w < 4294967296) : RG 6 [g.v, .int .i64 kd, .int .u32 en, .int .u32 w] (.bool true) := by
  have h0 := fair_ok g hs
  have ha := awake_ok
  have hm := mod_ok kd
  have hr := md4_range kd
  have hk := md_kind kd
  refine ret_frzG rfl ?_
  refine fn_rule mixed Tryd.func6 rfl hc6 hr6 rfl ?_
  cases hf : (g.light && g.valid) with
  | false =>
    rw [hf] at h0
    repeat' ((conv => whnf); first
        | (refine Br.tt ?_)
        | (refine Br.ff ?_)
        | (refine Br.dec (fun _ => ?_) (fun _ => ?_) <;> first | (exfalso; omega) | skip)
        | (refine Br.beq (fun _ => ?_) (fun _ => ?_) <;> first | (exfalso; omega) | skip)
        | (refine Br.bne (fun _ => ?_) (fun _ => ?_) <;> first | (exfalso; omega) | skip)
        | (refine Br.nbeq (fun _ => ?_) (fun _ => ?_) <;> first | (exfalso; omega) | skip)
        | (refine Br.nble (fun _ => ?_) (fun _ => ?_) <;> first | (exfalso; omega) | skip)
        | (refine Ar.i64 (by omega) (by omega) ?_)
        | (refine Ar.u32 (by omega) (by omega) ?_)
        | (refine Ar.sh1 (by omega) ?_)
        | (refine Ar.u64 (by omega) (by omega) ?_)
        | (refine Sv.mk _ rfl ?_)
        | (refine Nz.mk (by omega) ?_)
        | (refine Nn.mk (by omega) ?_)
        | (refine Ix.nat (by omega) ?_)
        | (refine Ix.ofNat (by omega) ?_)
        | (refine Ix.mk 0 rfl (by omega) ?_)
        | (refine Ix.mk 1 rfl (by omega) ?_)
        | (refine Ix.int (by omega) (by omega) ?_)
        | (refine Bd.nat (by omega) ?_)
        | (refine Bd.mk 0 rfl (by omega) ?_)
        | (refine Bd.mk 1 rfl (by omega) ?_)
        | (refine Bd.int (by omega) (by omega) ?_)
        | (refine Len.mk (by omega) ?_)
        | (refine Len.mk (by simp only [List.length_cons, List.length_nil]; omega) ?_)
        | (refine Ltn.mk (by omega) ?_)
        | (refine Both.mk ?_ ?_)
        | (refine MkS.vec ?_)
        | (refine (h0 _ _).mono ?_; rintro _ _ _ ⟨rfl, rfl, rfl⟩)
        | (refine (ha _ _ rfl).mono ?_; rintro _ _ _ ⟨rfl, rfl, rfl⟩)
        | (refine Br.any (fun _ => ?_) (fun _ => ?_)))
    all_goals (conv => whnf)
    all_goals exact VLe.rfl
  | true =>
    rw [hf] at h0
    rw [Bool.and_eq_true] at hf
    obtain ⟨f1, f2, f3, f4, f5, f6, f7⟩ := val_facts hf.2
    have h3 := rall_ok g.ports.length (by omega)
    have hb : bitI .and .u32 (en : Int) (full g.ports.length : Nat) = ((en &&& full g.ports.length : Nat) : Int) := bit_and hen (nb_lt (fun _ => true) (k := g.ports.length) (by omega))
    have he : en &&& full g.ports.length < 4294967296 := Nat.lt_of_le_of_lt Nat.and_le_left hen
    have hp := part_and en (full g.ports.length)
    generalize en &&& full g.ports.length = e at *
    generalize md4 kd = K at *
    have h4 := resolve_ok g hs (1 + K) e w he hw
    have hposs : g.poss (1 + K) e = true := poss_iff.2 ⟨hf.2, hk, (part_iff he).2 hp⟩
    rw [G.resolve, if_pos hposs] at h4
    by_cases h00 : e = 0
    · subst h00
      rw [rs_zero] at h4
      repeat' ((conv => whnf); first
          | (refine Sv.mk _ hb.symm ?_)
          | (refine Br.tt ?_)
          | (refine Br.ff ?_)
          | (refine Br.dec (fun _ => ?_) (fun _ => ?_) <;> first | (exfalso; omega) | skip)
          | (refine Br.beq (fun _ => ?_) (fun _ => ?_) <;> first | (exfalso; omega) | skip)
          | (refine Br.bne (fun _ => ?_) (fun _ => ?_) <;> first | (exfalso; omega) | skip)
          | (refine Br.nbeq (fun _ => ?_) (fun _ => ?_) <;> first | (exfalso; omega) | skip)
          | (refine Br.nble (fun _ => ?_) (fun _ => ?_) <;> first | (exfalso; omega) | skip)
          | (refine Ar.i64 (by omega) (by omega) ?_)
          | (refine Ar.u32 (by omega) (by omega) ?_)
          | (refine Ar.sh1 (by omega) ?_)
          | (refine Ar.u64 (by omega) (by omega) ?_)
          | (refine Sv.mk _ rfl ?_)
          | (refine Nz.mk (by omega) ?_)
          | (refine Nn.mk (by omega) ?_)
          | (refine Ix.nat (by omega) ?_)
          | (refine Ix.ofNat (by omega) ?_)
          | (refine Ix.mk 0 rfl (by omega) ?_)
          | (refine Ix.mk 1 rfl (by omega) ?_)
          | (refine Ix.int (by omega) (by omega) ?_)
          | (refine Bd.nat (by omega) ?_)
          | (refine Bd.mk 0 rfl (by omega) ?_)
          | (refine Bd.mk 1 rfl (by omega) ?_)
          | (refine Bd.int (by omega) (by omega) ?_)
          | (refine Len.mk (by omega) ?_)
          | (refine Len.mk (by simp only [List.length_cons, List.length_nil]; omega) ?_)
          | (refine Ltn.mk (by omega) ?_)
          | (refine Both.mk ?_ ?_)
          | (refine MkS.vec ?_)
          | (refine (h0 _ _).mono ?_; rintro _ _ _ ⟨rfl, rfl, rfl⟩)
          | (refine (ha _ _ rfl).mono ?_; rintro _ _ _ ⟨rfl, rfl, rfl⟩)
          | (refine (hm _ _).mono ?_; rintro _ _ _ ⟨rfl, rfl, rfl⟩)
          | (refine (h3 _ _).mono ?_; rintro _ _ _ ⟨rfl, rfl, rfl⟩)
          | (refine (h4 _ _ rfl).mono ?_; rintro _ _ _ ⟨rfl, rfl, rfl⟩)
          | (refine And.intro rfl ?_)
          | (refine Br.any (fun _ => ?_) (fun _ => ?_)))
      all_goals (conv => whnf)
      all_goals exact VLe.rfl
    · have hin := rs_inner hf.2 hk he hp h00 (w := w)
      have hkp := fun x => rs_keeps hf.2 hk he hw hp x
      have hlt : rs g (1 + K) e w < 4294967296 := by
        have := ((part_iff (s := rs g (1 + K) e w) (E := e) ?_).1 (inner_iff.1 hin).2.1).le
        · omega
        · by_cases x4 : 1 + K = 4
          · rw [x4, rs, if_neg (by decide), if_neg (by decide), if_pos rfl]; exact he
          · exact Nat.lt_of_le_of_lt (rs_part he x4).le (wsh_lt he)
      have hq : 1 + K = 4 ∨ w &&& e = 0 ∨ ndiff (rs g (1 + K) e w) w = 0 := by
        by_cases x4 : 1 + K = 4
        · exact .inl x4
        · by_cases x5 : w &&& e = 0
          · exact .inr (.inl x5)
          · exact .inr (.inr ((part_iff hlt).2 (part_trans (rs_part he x4) (wsh_wish x5))))
      generalize rs g (1 + K) e w = s at *
      have p1 := permits_ok g hs (1 + K) e s he hlt
      rw [G.perm, hposs, Bool.true_and, hin] at p1
      have p2 := permits_ok g hs (1 + K) e w he hw
      rw [G.perm, hposs, Bool.true_and] at p2
      have b2 := bit_and hw he
      have b3 := bit_andNot hlt hw
      generalize w &&& e = x at *
      generalize ndiff s w = y at *
      cases hx : inner g (1 + K) e w with
      | true =>
        rw [hx] at p2
        have hsw := hkp hx
        repeat' ((conv => whnf); first
            | (refine Sv.mk _ hb.symm ?_)
            | (refine Sv.mk _ b2.symm ?_)
            | (refine Sv.mk _ b3.symm ?_)
            | (refine Br.tt ?_)
            | (refine Br.ff ?_)
            | (refine Br.dec (fun _ => ?_) (fun _ => ?_) <;> first | (exfalso; omega) | skip)
            | (refine Br.beq (fun _ => ?_) (fun _ => ?_) <;> first | (exfalso; omega) | skip)
            | (refine Br.bne (fun _ => ?_) (fun _ => ?_) <;> first | (exfalso; omega) | skip)
            | (refine Br.nbeq (fun _ => ?_) (fun _ => ?_) <;> first | (exfalso; omega) | skip)
            | (refine Br.nble (fun _ => ?_) (fun _ => ?_) <;> first | (exfalso; omega) | skip)
            | (refine Ar.i64 (by omega) (by omega) ?_)
            | (refine Ar.u32 (by omega) (by omega) ?_)
            | (refine Ar.sh1 (by omega) ?_)
            | (refine Ar.u64 (by omega) (by omega) ?_)
            | (refine Sv.mk _ rfl ?_)
            | (refine Nz.mk (by omega) ?_)
            | (refine Nn.mk (by omega) ?_)
            | (refine Ix.nat (by omega) ?_)
            | (refine Ix.ofNat (by omega) ?_)
            | (refine Ix.mk 0 rfl (by omega) ?_)
            | (refine Ix.mk 1 rfl (by omega) ?_)
            | (refine Ix.int (by omega) (by omega) ?_)
            | (refine Bd.nat (by omega) ?_)
            | (refine Bd.mk 0 rfl (by omega) ?_)
            | (refine Bd.mk 1 rfl (by omega) ?_)
            | (refine Bd.int (by omega) (by omega) ?_)
            | (refine Len.mk (by omega) ?_)
            | (refine Len.mk (by simp only [List.length_cons, List.length_nil]; omega) ?_)
            | (refine Ltn.mk (by omega) ?_)
            | (refine Both.mk ?_ ?_)
            | (refine MkS.vec ?_)
            | (refine (h0 _ _).mono ?_; rintro _ _ _ ⟨rfl, rfl, rfl⟩)
            | (refine (ha _ _ rfl).mono ?_; rintro _ _ _ ⟨rfl, rfl, rfl⟩)
            | (refine (hm _ _).mono ?_; rintro _ _ _ ⟨rfl, rfl, rfl⟩)
            | (refine (h3 _ _).mono ?_; rintro _ _ _ ⟨rfl, rfl, rfl⟩)
            | (refine (h4 _ _ rfl).mono ?_; rintro _ _ _ ⟨rfl, rfl, rfl⟩)
            | (refine (p1 _ _ rfl).mono ?_; rintro _ _ _ ⟨rfl, rfl, rfl⟩)
            | (refine (p2 _ _ rfl).mono ?_; rintro _ _ _ ⟨rfl, rfl, rfl⟩)
            | (refine And.intro rfl ?_)
            | (refine Br.any (fun _ => ?_) (fun _ => ?_)))
        all_goals (conv => whnf)
        all_goals exact VLe.rfl
      | false =>
        rw [hx] at p2
        repeat' ((conv => whnf); first
            | (refine Sv.mk _ hb.symm ?_)
            | (refine Sv.mk _ b2.symm ?_)
            | (refine Sv.mk _ b3.symm ?_)
            | (refine Br.tt ?_)
            | (refine Br.ff ?_)
            | (refine Br.dec (fun _ => ?_) (fun _ => ?_) <;> first | (exfalso; omega) | skip)
            | (refine Br.beq (fun _ => ?_) (fun _ => ?_) <;> first | (exfalso; omega) | skip)
            | (refine Br.bne (fun _ => ?_) (fun _ => ?_) <;> first | (exfalso; omega) | skip)
            | (refine Br.nbeq (fun _ => ?_) (fun _ => ?_) <;> first | (exfalso; omega) | skip)
            | (refine Br.nble (fun _ => ?_) (fun _ => ?_) <;> first | (exfalso; omega) | skip)
            | (refine Ar.i64 (by omega) (by omega) ?_)
            | (refine Ar.u32 (by omega) (by omega) ?_)
            | (refine Ar.sh1 (by omega) ?_)
            | (refine Ar.u64 (by omega) (by omega) ?_)
            | (refine Sv.mk _ rfl ?_)
            | (refine Nz.mk (by omega) ?_)
            | (refine Nn.mk (by omega) ?_)
            | (refine Ix.nat (by omega) ?_)
            | (refine Ix.ofNat (by omega) ?_)
            | (refine Ix.mk 0 rfl (by omega) ?_)
            | (refine Ix.mk 1 rfl (by omega) ?_)
            | (refine Ix.int (by omega) (by omega) ?_)
            | (refine Bd.nat (by omega) ?_)
            | (refine Bd.mk 0 rfl (by omega) ?_)
            | (refine Bd.mk 1 rfl (by omega) ?_)
            | (refine Bd.int (by omega) (by omega) ?_)
            | (refine Len.mk (by omega) ?_)
            | (refine Len.mk (by simp only [List.length_cons, List.length_nil]; omega) ?_)
            | (refine Ltn.mk (by omega) ?_)
            | (refine Both.mk ?_ ?_)
            | (refine MkS.vec ?_)
            | (refine (h0 _ _).mono ?_; rintro _ _ _ ⟨rfl, rfl, rfl⟩)
            | (refine (ha _ _ rfl).mono ?_; rintro _ _ _ ⟨rfl, rfl, rfl⟩)
            | (refine (hm _ _).mono ?_; rintro _ _ _ ⟨rfl, rfl, rfl⟩)
            | (refine (h3 _ _).mono ?_; rintro _ _ _ ⟨rfl, rfl, rfl⟩)
            | (refine (h4 _ _ rfl).mono ?_; rintro _ _ _ ⟨rfl, rfl, rfl⟩)
            | (refine (p1 _ _ rfl).mono ?_; rintro _ _ _ ⟨rfl, rfl, rfl⟩)
            | (refine (p2 _ _ rfl).mono ?_; rintro _ _ _ ⟨rfl, rfl, rfl⟩)
            | (refine And.intro rfl ?_)
            | (refine Br.any (fun _ => ?_) (fun _ => ?_)))
        all_goals (conv => whnf)
        all_goals exact VLe.rfl

set_option maxHeartbeats 8000000 in
theorem lawGreedy (g : G) (hs : g.Small) (en w : Nat) (hen : en < 4294967296) (hw : w < 4294967296) : RG 4 [g.v, .int .u32 en, .int .u32 w] (.bool true) := by
  have h0 := fair_ok g hs
  have ha := awake_ok
  have s2 := hs.ports
  refine ret_frzG rfl ?_
  refine fn_rule mixed Tryd.func4 rfl hc4 hr4 rfl ?_
  cases hf : (g.light && g.valid) with
  | false =>
    rw [hf] at h0
    repeat' ((conv => whnf); first
        | (refine Br.tt ?_)
        | (refine Br.ff ?_)
        | (refine Br.dec (fun _ => ?_) (fun _ => ?_) <;> first | (exfalso; omega) | skip)
        | (refine Br.beq (fun _ => ?_) (fun _ => ?_) <;> first | (exfalso; omega) | skip)
        | (refine Br.bne (fun _ => ?_) (fun _ => ?_) <;> first | (exfalso; omega) | skip)
        | (refine Br.nbeq (fun _ => ?_) (fun _ => ?_) <;> first | (exfalso; omega) | skip)
        | (refine Br.nble (fun _ => ?_) (fun _ => ?_) <;> first | (exfalso; omega) | skip)
        | (refine Ar.i64 (by omega) (by omega) ?_)
        | (refine Ar.u32 (by omega) (by omega) ?_)
        | (refine Ar.sh1 (by omega) ?_)
        | (refine Ar.u64 (by omega) (by omega) ?_)
        | (refine Sv.mk _ rfl ?_)
        | (refine Nz.mk (by omega) ?_)
        | (refine Nn.mk (by omega) ?_)
        | (refine Ix.nat (by omega) ?_)
        | (refine Ix.ofNat (by omega) ?_)
        | (refine Ix.mk 0 rfl (by omega) ?_)
        | (refine Ix.mk 1 rfl (by omega) ?_)
        | (refine Ix.int (by omega) (by omega) ?_)
        | (refine Bd.nat (by omega) ?_)
        | (refine Bd.mk 0 rfl (by omega) ?_)
        | (refine Bd.mk 1 rfl (by omega) ?_)
        | (refine Bd.int (by omega) (by omega) ?_)
        | (refine Len.mk (by omega) ?_)
        | (refine Len.mk (by simp only [List.length_cons, List.length_nil]; omega) ?_)
        | (refine Ltn.mk (by omega) ?_)
        | (refine Both.mk ?_ ?_)
        | (refine MkS.vec ?_)
        | (refine (h0 _ _).mono ?_; rintro _ _ _ ⟨rfl, rfl, rfl⟩)
        | (refine (ha _ _ rfl).mono ?_; rintro _ _ _ ⟨rfl, rfl, rfl⟩)
        | (refine Br.any (fun _ => ?_) (fun _ => ?_)))
    all_goals (conv => whnf)
    all_goals exact VLe.rfl
  | true =>
    rw [hf] at h0
    rw [Bool.and_eq_true] at hf
    obtain ⟨f1, f2, f3, f4, f5, f6, f7⟩ := val_facts hf.2
    have h3 := rall_ok g.ports.length (by omega)
    have hb : bitI .and .u32 (en : Int) (full g.ports.length : Nat) = ((en &&& full g.ports.length : Nat) : Int) := bit_and hen (nb_lt (fun _ => true) (k := g.ports.length) (by omega))
    have he : en &&& full g.ports.length < 4294967296 := Nat.lt_of_le_of_lt Nat.and_le_left hen
    have hp := part_and en (full g.ports.length)
    generalize en &&& full g.ports.length = e at *
    have h4 := resolve_ok g hs 2 e w he hw
    have hposs : g.poss 2 e = true := poss_iff.2 ⟨hf.2, by decide, (part_iff he).2 hp⟩
    rw [G.resolve, if_pos hposs] at h4
    have hrs : rs g 2 e w = gr g (wsh e w) 32 := by rw [rs, if_neg (by decide), if_pos rfl]
    have hlt : rs g 2 e w < 4294967296 := by rw [hrs]; exact gr_lt g _ (Nat.le_refl _)
    have hsp : Part (rs g 2 e w) (full g.ports.length) := by
      rw [hrs]; exact part_trans (gr_part g _ 32) (part_trans (wsh_part he) hp)
    have hmax : ∀ v, v < g.ports.length → (w &&& e).testBit v = true → (rs g 2 e w).testBit v = false → g.indep (rs g 2 e w ||| 2 ^ v) = false := by
      intro v hv a1 a2
      have hne : w &&& e ≠ 0 := fun x => by rw [x, Nat.zero_testBit] at a1; cases a1
      have hws : wsh e w = w &&& e := by rw [wsh, if_neg hne]
      have hl2 : rs g 2 e w ||| 2 ^ v < 4294967296 := Nat.or_lt_two_pow (n := 32) hlt (pow_lt32 (by omega))
      rw [indep_ind hf.2 hl2 (fun i hi => by
        rw [Nat.testBit_or, Bool.or_eq_true] at hi
        rcases hi with hi | hi
        · exact hsp i hi
        · rw [← pow_bit hi, full_bit, decide_eq_true hv])]
      rw [hrs, hws] at a2 ⊢
      exact gr_max hv (by omega) a1 a2
    have hne : e = 0 ∨ rs g 2 e w ≠ 0 := by
      by_cases h : e = 0
      · exact .inl h
      · exact .inr (by rw [hrs]; exact gr_ne (wsh_ne h) (wsh_lt he))
    have b2 := bit_and hw he
    have hx : w &&& e < 4294967296 := Nat.lt_of_le_of_lt Nat.and_le_left hw
    generalize w &&& e = x at *
    generalize rs g 2 e w = s at *
    repeat' ((conv => whnf); first
        | (refine Sv.mk _ hb.symm ?_)
        | (refine Br.tt ?_)
        | (refine Br.ff ?_)
        | (refine Br.dec (fun _ => ?_) (fun _ => ?_) <;> first | (exfalso; omega) | skip)
        | (refine Br.beq (fun _ => ?_) (fun _ => ?_) <;> first | (exfalso; omega) | skip)
        | (refine Br.bne (fun _ => ?_) (fun _ => ?_) <;> first | (exfalso; omega) | skip)
        | (refine Br.nbeq (fun _ => ?_) (fun _ => ?_) <;> first | (exfalso; omega) | skip)
        | (refine Br.nble (fun _ => ?_) (fun _ => ?_) <;> first | (exfalso; omega) | skip)
        | (refine Ar.i64 (by omega) (by omega) ?_)
        | (refine Ar.u32 (by omega) (by omega) ?_)
        | (refine Ar.sh1 (by omega) ?_)
        | (refine Ar.u64 (by omega) (by omega) ?_)
        | (refine Sv.mk _ rfl ?_)
        | (refine Nz.mk (by omega) ?_)
        | (refine Nn.mk (by omega) ?_)
        | (refine Ix.nat (by omega) ?_)
        | (refine Ix.ofNat (by omega) ?_)
        | (refine Ix.mk 0 rfl (by omega) ?_)
        | (refine Ix.mk 1 rfl (by omega) ?_)
        | (refine Ix.int (by omega) (by omega) ?_)
        | (refine Bd.nat (by omega) ?_)
        | (refine Bd.mk 0 rfl (by omega) ?_)
        | (refine Bd.mk 1 rfl (by omega) ?_)
        | (refine Bd.int (by omega) (by omega) ?_)
        | (refine Len.mk (by omega) ?_)
        | (refine Len.mk (by simp only [List.length_cons, List.length_nil]; omega) ?_)
        | (refine Ltn.mk (by omega) ?_)
        | (refine Both.mk ?_ ?_)
        | (refine MkS.vec ?_)
        | (refine (h0 _ _).mono ?_; rintro _ _ _ ⟨rfl, rfl, rfl⟩)
        | (refine (ha _ _ rfl).mono ?_; rintro _ _ _ ⟨rfl, rfl, rfl⟩)
        | (refine (h3 _ _).mono ?_; rintro _ _ _ ⟨rfl, rfl, rfl⟩)
        | (refine (h4 _ _ rfl).mono ?_; rintro _ _ _ ⟨rfl, rfl, rfl⟩)
        | (refine And.intro rfl ?_)
        | (refine Br.any (fun _ => ?_) (fun _ => ?_)))
    all_goals (conv => whnf)
    refine loop_r mixed [1, 2, 3, 7] (fun i : Nat => [(8, .int .i64 i)]) (fun m v => m = g.ports.length - v ∧ v ≤ g.ports.length) g.ports.length 0 ⟨rfl, by omega⟩ ?_ ?_
    · refine weak_by (fun _ _ => [(0, some 0), (999, some 999)]) ?_ ?_ rfl
      · repeat' (first | exact True.intro | exact VRen.oel rfl rfl | exact VRen.map rfl | exact VRen.yld rfl | (refine VRen.fn ?_) | exact ⟨rfl, rfl⟩ | exact ⟨rfl, rfl, rfl⟩ | (refine ⟨rfl, rfl, rfl, rfl, rfl, ?_⟩) | (refine ⟨⟨_, rfl, ?_⟩, ?_⟩) | exact VRen.kf rfl | exact VRen.int rfl | exact VRen.int (by omega) | exact VRen.loc rfl | exact VRen.vec rfl rfl rfl | exact VRen.vec rfl (by omega) (by omega) | exact VRen.nil rfl rfl | exact VRen.nil rfl (by omega) | exact VRen.fz rfl (fun h => h) (fun _ _ _ _ => VLe.rfl) | (refine ⟨Nat.le_refl _, rfl, fun i j hi hj => ?_⟩) | (refine ⟨by omega, rfl, fun i j hi hj => ?_⟩) | exact VLe.rfl | (refine ⟨⟨_, _, rfl⟩, ?_⟩) | (refine And.intro ?_ ?_))
      · repeat' (first | exact True.intro | exact VRen.oel rfl rfl | exact VRen.map rfl | exact VRen.yld rfl | (refine VRen.fn ?_) | exact ⟨rfl, rfl⟩ | exact ⟨rfl, rfl, rfl⟩ | (refine ⟨rfl, rfl, rfl, rfl, rfl, ?_⟩) | (refine ⟨⟨_, rfl, ?_⟩, ?_⟩) | exact VRen.kf rfl | exact VRen.int rfl | exact VRen.int (by omega) | exact VRen.loc rfl | exact VRen.vec rfl rfl rfl | exact VRen.vec rfl (by omega) (by omega) | exact VRen.nil rfl rfl | exact VRen.nil rfl (by omega) | exact VRen.fz rfl (fun h => h) (fun _ _ _ _ => VLe.rfl) | (refine ⟨Nat.le_refl _, rfl, fun i j hi hj => ?_⟩) | (refine ⟨by omega, rfl, fun i j hi hj => ?_⟩) | exact VLe.rfl | (refine ⟨⟨_, _, rfl⟩, ?_⟩) | (refine And.intro ?_ ?_))
    rintro m v ⟨hm, hv⟩
    have q1 : v < g.ports.length → hasB x v = x.testBit v := fun h => has_bit (by omega)
    have q2 : v < g.ports.length → hasB s v = s.testBit v := fun h => has_bit (by omega)
    by_cases hvn : v < g.ports.length
    · have r1 := has_ok x hx v
      have r2 := has_ok s hlt v
      rw [q1 hvn] at r1
      rw [q2 hvn] at r2
      have hl2 : s ||| 2 ^ v < 4294967296 := Nat.or_lt_two_pow (n := 32) hlt (pow_lt32 (by omega))
      have b4 := bit_or hlt (pow_lt32 (show v < 32 by omega))
      have r3 := independent_ok g hs (s ||| 2 ^ v) hl2
      have hmv := hmax v hvn
      cases c1 : x.testBit v with
      | false =>
        rw [c1] at r1
        repeat' ((conv => whnf); first
            | (refine Sv.mk _ b2.symm ?_)
            | (refine Br.tt ?_)
            | (refine Br.ff ?_)
            | (refine Br.dec (fun _ => ?_) (fun _ => ?_) <;> first | (exfalso; omega) | skip)
            | (refine Br.beq (fun _ => ?_) (fun _ => ?_) <;> first | (exfalso; omega) | skip)
            | (refine Br.bne (fun _ => ?_) (fun _ => ?_) <;> first | (exfalso; omega) | skip)
            | (refine Br.nbeq (fun _ => ?_) (fun _ => ?_) <;> first | (exfalso; omega) | skip)
            | (refine Br.nble (fun _ => ?_) (fun _ => ?_) <;> first | (exfalso; omega) | skip)
            | (refine Ar.i64 (by omega) (by omega) ?_)
            | (refine Ar.u32 (by omega) (by omega) ?_)
            | (refine Ar.sh1 (by omega) ?_)
            | (refine Ar.u64 (by omega) (by omega) ?_)
            | (refine Sv.mk _ rfl ?_)
            | (refine Nz.mk (by omega) ?_)
            | (refine Nn.mk (by omega) ?_)
            | (refine Ix.nat (by omega) ?_)
            | (refine Ix.ofNat (by omega) ?_)
            | (refine Ix.mk 0 rfl (by omega) ?_)
            | (refine Ix.mk 1 rfl (by omega) ?_)
            | (refine Ix.int (by omega) (by omega) ?_)
            | (refine Bd.nat (by omega) ?_)
            | (refine Bd.mk 0 rfl (by omega) ?_)
            | (refine Bd.mk 1 rfl (by omega) ?_)
            | (refine Bd.int (by omega) (by omega) ?_)
            | (refine Len.mk (by omega) ?_)
            | (refine Len.mk (by simp only [List.length_cons, List.length_nil]; omega) ?_)
            | (refine Ltn.mk (by omega) ?_)
            | (refine Both.mk ?_ ?_)
            | (refine MkS.vec ?_)
            | (refine (r1 _ _).mono ?_; rintro _ _ _ ⟨rfl, rfl, rfl⟩)
            | (refine Br.any (fun _ => ?_) (fun _ => ?_)))
        all_goals (conv => whnf)
        refine ⟨g.ports.length - (v + 1), v + 1, by omega, ⟨rfl, by omega⟩, ?_⟩
        refine weak_by (fun _ _ => [(0, some 0), (999, some 999)]) ?_ ?_ rfl
        · repeat' (first | exact True.intro | exact VRen.oel rfl rfl | exact VRen.map rfl | exact VRen.yld rfl | (refine VRen.fn ?_) | exact ⟨rfl, rfl⟩ | exact ⟨rfl, rfl, rfl⟩ | (refine ⟨rfl, rfl, rfl, rfl, rfl, ?_⟩) | (refine ⟨⟨_, rfl, ?_⟩, ?_⟩) | exact VRen.kf rfl | exact VRen.int rfl | exact VRen.int (by omega) | exact VRen.loc rfl | exact VRen.vec rfl rfl rfl | exact VRen.vec rfl (by omega) (by omega) | exact VRen.nil rfl rfl | exact VRen.nil rfl (by omega) | exact VRen.fz rfl (fun h => h) (fun _ _ _ _ => VLe.rfl) | (refine ⟨Nat.le_refl _, rfl, fun i j hi hj => ?_⟩) | (refine ⟨by omega, rfl, fun i j hi hj => ?_⟩) | exact VLe.rfl | (refine ⟨⟨_, _, rfl⟩, ?_⟩) | (refine And.intro ?_ ?_))
        · repeat' (first | exact True.intro | exact VRen.oel rfl rfl | exact VRen.map rfl | exact VRen.yld rfl | (refine VRen.fn ?_) | exact ⟨rfl, rfl⟩ | exact ⟨rfl, rfl, rfl⟩ | (refine ⟨rfl, rfl, rfl, rfl, rfl, ?_⟩) | (refine ⟨⟨_, rfl, ?_⟩, ?_⟩) | exact VRen.kf rfl | exact VRen.int rfl | exact VRen.int (by omega) | exact VRen.loc rfl | exact VRen.vec rfl rfl rfl | exact VRen.vec rfl (by omega) (by omega) | exact VRen.nil rfl rfl | exact VRen.nil rfl (by omega) | exact VRen.fz rfl (fun h => h) (fun _ _ _ _ => VLe.rfl) | (refine ⟨Nat.le_refl _, rfl, fun i j hi hj => ?_⟩) | (refine ⟨by omega, rfl, fun i j hi hj => ?_⟩) | exact VLe.rfl | (refine ⟨⟨_, _, rfl⟩, ?_⟩) | (refine And.intro ?_ ?_))
      | true =>
        rw [c1] at r1
        cases c2 : s.testBit v with
        | true =>
          rw [c2] at r2
          repeat' ((conv => whnf); first
              | (refine Sv.mk _ b2.symm ?_)
              | (refine Br.tt ?_)
              | (refine Br.ff ?_)
              | (refine Br.dec (fun _ => ?_) (fun _ => ?_) <;> first | (exfalso; omega) | skip)
              | (refine Br.beq (fun _ => ?_) (fun _ => ?_) <;> first | (exfalso; omega) | skip)
              | (refine Br.bne (fun _ => ?_) (fun _ => ?_) <;> first | (exfalso; omega) | skip)
              | (refine Br.nbeq (fun _ => ?_) (fun _ => ?_) <;> first | (exfalso; omega) | skip)
              | (refine Br.nble (fun _ => ?_) (fun _ => ?_) <;> first | (exfalso; omega) | skip)
              | (refine Ar.i64 (by omega) (by omega) ?_)
              | (refine Ar.u32 (by omega) (by omega) ?_)
              | (refine Ar.sh1 (by omega) ?_)
              | (refine Ar.u64 (by omega) (by omega) ?_)
              | (refine Sv.mk _ rfl ?_)
              | (refine Nz.mk (by omega) ?_)
              | (refine Nn.mk (by omega) ?_)
              | (refine Ix.nat (by omega) ?_)
              | (refine Ix.ofNat (by omega) ?_)
              | (refine Ix.mk 0 rfl (by omega) ?_)
              | (refine Ix.mk 1 rfl (by omega) ?_)
              | (refine Ix.int (by omega) (by omega) ?_)
              | (refine Bd.nat (by omega) ?_)
              | (refine Bd.mk 0 rfl (by omega) ?_)
              | (refine Bd.mk 1 rfl (by omega) ?_)
              | (refine Bd.int (by omega) (by omega) ?_)
              | (refine Len.mk (by omega) ?_)
              | (refine Len.mk (by simp only [List.length_cons, List.length_nil]; omega) ?_)
              | (refine Ltn.mk (by omega) ?_)
              | (refine Both.mk ?_ ?_)
              | (refine MkS.vec ?_)
              | (refine (r1 _ _).mono ?_; rintro _ _ _ ⟨rfl, rfl, rfl⟩)
              | (refine (r2 _ _).mono ?_; rintro _ _ _ ⟨rfl, rfl, rfl⟩)
              | (refine Br.any (fun _ => ?_) (fun _ => ?_)))
          all_goals (conv => whnf)
          refine ⟨g.ports.length - (v + 1), v + 1, by omega, ⟨rfl, by omega⟩, ?_⟩
          refine weak_by (fun _ _ => [(0, some 0), (999, some 999)]) ?_ ?_ rfl
          · repeat' (first | exact True.intro | exact VRen.oel rfl rfl | exact VRen.map rfl | exact VRen.yld rfl | (refine VRen.fn ?_) | exact ⟨rfl, rfl⟩ | exact ⟨rfl, rfl, rfl⟩ | (refine ⟨rfl, rfl, rfl, rfl, rfl, ?_⟩) | (refine ⟨⟨_, rfl, ?_⟩, ?_⟩) | exact VRen.kf rfl | exact VRen.int rfl | exact VRen.int (by omega) | exact VRen.loc rfl | exact VRen.vec rfl rfl rfl | exact VRen.vec rfl (by omega) (by omega) | exact VRen.nil rfl rfl | exact VRen.nil rfl (by omega) | exact VRen.fz rfl (fun h => h) (fun _ _ _ _ => VLe.rfl) | (refine ⟨Nat.le_refl _, rfl, fun i j hi hj => ?_⟩) | (refine ⟨by omega, rfl, fun i j hi hj => ?_⟩) | exact VLe.rfl | (refine ⟨⟨_, _, rfl⟩, ?_⟩) | (refine And.intro ?_ ?_))
          · repeat' (first | exact True.intro | exact VRen.oel rfl rfl | exact VRen.map rfl | exact VRen.yld rfl | (refine VRen.fn ?_) | exact ⟨rfl, rfl⟩ | exact ⟨rfl, rfl, rfl⟩ | (refine ⟨rfl, rfl, rfl, rfl, rfl, ?_⟩) | (refine ⟨⟨_, rfl, ?_⟩, ?_⟩) | exact VRen.kf rfl | exact VRen.int rfl | exact VRen.int (by omega) | exact VRen.loc rfl | exact VRen.vec rfl rfl rfl | exact VRen.vec rfl (by omega) (by omega) | exact VRen.nil rfl rfl | exact VRen.nil rfl (by omega) | exact VRen.fz rfl (fun h => h) (fun _ _ _ _ => VLe.rfl) | (refine ⟨Nat.le_refl _, rfl, fun i j hi hj => ?_⟩) | (refine ⟨by omega, rfl, fun i j hi hj => ?_⟩) | exact VLe.rfl | (refine ⟨⟨_, _, rfl⟩, ?_⟩) | (refine And.intro ?_ ?_))
        | false =>
          rw [c2] at r2
          rw [hmv c1 c2] at r3
          repeat' ((conv => whnf); first
              | (refine Sv.mk _ b2.symm ?_)
              | (refine Sv.mk _ b4.symm ?_)
              | (refine Br.tt ?_)
              | (refine Br.ff ?_)
              | (refine Br.dec (fun _ => ?_) (fun _ => ?_) <;> first | (exfalso; omega) | skip)
              | (refine Br.beq (fun _ => ?_) (fun _ => ?_) <;> first | (exfalso; omega) | skip)
              | (refine Br.bne (fun _ => ?_) (fun _ => ?_) <;> first | (exfalso; omega) | skip)
              | (refine Br.nbeq (fun _ => ?_) (fun _ => ?_) <;> first | (exfalso; omega) | skip)
              | (refine Br.nble (fun _ => ?_) (fun _ => ?_) <;> first | (exfalso; omega) | skip)
              | (refine Ar.i64 (by omega) (by omega) ?_)
              | (refine Ar.u32 (by omega) (by omega) ?_)
              | (refine Ar.sh1 (by omega) ?_)
              | (refine Ar.u64 (by omega) (by omega) ?_)
              | (refine Sv.mk _ rfl ?_)
              | (refine Nz.mk (by omega) ?_)
              | (refine Nn.mk (by omega) ?_)
              | (refine Ix.nat (by omega) ?_)
              | (refine Ix.ofNat (by omega) ?_)
              | (refine Ix.mk 0 rfl (by omega) ?_)
              | (refine Ix.mk 1 rfl (by omega) ?_)
              | (refine Ix.int (by omega) (by omega) ?_)
              | (refine Bd.nat (by omega) ?_)
              | (refine Bd.mk 0 rfl (by omega) ?_)
              | (refine Bd.mk 1 rfl (by omega) ?_)
              | (refine Bd.int (by omega) (by omega) ?_)
              | (refine Len.mk (by omega) ?_)
              | (refine Len.mk (by simp only [List.length_cons, List.length_nil]; omega) ?_)
              | (refine Ltn.mk (by omega) ?_)
              | (refine Both.mk ?_ ?_)
              | (refine MkS.vec ?_)
              | (refine (r1 _ _).mono ?_; rintro _ _ _ ⟨rfl, rfl, rfl⟩)
              | (refine (r2 _ _).mono ?_; rintro _ _ _ ⟨rfl, rfl, rfl⟩)
              | (refine (r3 _ _).mono ?_; rintro _ _ _ ⟨rfl, rfl, rfl⟩)
              | (refine Br.any (fun _ => ?_) (fun _ => ?_)))
          all_goals (conv => whnf)
          refine ⟨g.ports.length - (v + 1), v + 1, by omega, ⟨rfl, by omega⟩, ?_⟩
          refine weak_by (fun _ _ => [(0, some 0), (999, some 999)]) ?_ ?_ rfl
          · repeat' (first | exact True.intro | exact VRen.oel rfl rfl | exact VRen.map rfl | exact VRen.yld rfl | (refine VRen.fn ?_) | exact ⟨rfl, rfl⟩ | exact ⟨rfl, rfl, rfl⟩ | (refine ⟨rfl, rfl, rfl, rfl, rfl, ?_⟩) | (refine ⟨⟨_, rfl, ?_⟩, ?_⟩) | exact VRen.kf rfl | exact VRen.int rfl | exact VRen.int (by omega) | exact VRen.loc rfl | exact VRen.vec rfl rfl rfl | exact VRen.vec rfl (by omega) (by omega) | exact VRen.nil rfl rfl | exact VRen.nil rfl (by omega) | exact VRen.fz rfl (fun h => h) (fun _ _ _ _ => VLe.rfl) | (refine ⟨Nat.le_refl _, rfl, fun i j hi hj => ?_⟩) | (refine ⟨by omega, rfl, fun i j hi hj => ?_⟩) | exact VLe.rfl | (refine ⟨⟨_, _, rfl⟩, ?_⟩) | (refine And.intro ?_ ?_))
          · repeat' (first | exact True.intro | exact VRen.oel rfl rfl | exact VRen.map rfl | exact VRen.yld rfl | (refine VRen.fn ?_) | exact ⟨rfl, rfl⟩ | exact ⟨rfl, rfl, rfl⟩ | (refine ⟨rfl, rfl, rfl, rfl, rfl, ?_⟩) | (refine ⟨⟨_, rfl, ?_⟩, ?_⟩) | exact VRen.kf rfl | exact VRen.int rfl | exact VRen.int (by omega) | exact VRen.loc rfl | exact VRen.vec rfl rfl rfl | exact VRen.vec rfl (by omega) (by omega) | exact VRen.nil rfl rfl | exact VRen.nil rfl (by omega) | exact VRen.fz rfl (fun h => h) (fun _ _ _ _ => VLe.rfl) | (refine ⟨Nat.le_refl _, rfl, fun i j hi hj => ?_⟩) | (refine ⟨by omega, rfl, fun i j hi hj => ?_⟩) | exact VLe.rfl | (refine ⟨⟨_, _, rfl⟩, ?_⟩) | (refine And.intro ?_ ?_))
    · repeat' ((conv => whnf); first
          | (refine Br.tt ?_)
          | (refine Br.ff ?_)
          | (refine Br.dec (fun _ => ?_) (fun _ => ?_) <;> first | (exfalso; omega) | skip)
          | (refine Br.beq (fun _ => ?_) (fun _ => ?_) <;> first | (exfalso; omega) | skip)
          | (refine Br.bne (fun _ => ?_) (fun _ => ?_) <;> first | (exfalso; omega) | skip)
          | (refine Br.nbeq (fun _ => ?_) (fun _ => ?_) <;> first | (exfalso; omega) | skip)
          | (refine Br.nble (fun _ => ?_) (fun _ => ?_) <;> first | (exfalso; omega) | skip)
          | (refine Ar.i64 (by omega) (by omega) ?_)
          | (refine Ar.u32 (by omega) (by omega) ?_)
          | (refine Ar.sh1 (by omega) ?_)
          | (refine Ar.u64 (by omega) (by omega) ?_)
          | (refine Sv.mk _ rfl ?_)
          | (refine Nz.mk (by omega) ?_)
          | (refine Nn.mk (by omega) ?_)
          | (refine Ix.nat (by omega) ?_)
          | (refine Ix.ofNat (by omega) ?_)
          | (refine Ix.mk 0 rfl (by omega) ?_)
          | (refine Ix.mk 1 rfl (by omega) ?_)
          | (refine Ix.int (by omega) (by omega) ?_)
          | (refine Bd.nat (by omega) ?_)
          | (refine Bd.mk 0 rfl (by omega) ?_)
          | (refine Bd.mk 1 rfl (by omega) ?_)
          | (refine Bd.int (by omega) (by omega) ?_)
          | (refine Len.mk (by omega) ?_)
          | (refine Len.mk (by simp only [List.length_cons, List.length_nil]; omega) ?_)
          | (refine Ltn.mk (by omega) ?_)
          | (refine Both.mk ?_ ?_)
          | (refine MkS.vec ?_)
          | (refine (ha _ _ rfl).mono ?_; rintro _ _ _ ⟨rfl, rfl, rfl⟩)
          | (refine Br.any (fun _ => ?_) (fun _ => ?_)))
      all_goals (conv => whnf)
      all_goals exact VLe.rfl

theorem sorted_get {l : List Nat} (h : l.Pairwise (· < ·)) {i : Nat} (hi : i < l.length) (h0 : 0 < i) : gN l (i - 1) < gN l i := by
  have := List.pairwise_iff_getElem.1 h (i - 1) i (by omega) hi (by omega)
  simpa only [gN, List.getD, List.getElem?_eq_getElem hi, List.getElem?_eq_getElem (show i - 1 < l.length by omega), Option.getD_some] using this
theorem take_mem {l : List Nat} {c i : Nat} (hi : i < l.length) : c ∈ l.take (i + 1) ↔ c ∈ l.take i ∨ gN l i = c := by
  rw [List.take_succ_eq_append_getElem hi, List.mem_append, List.mem_singleton]
  have : gN l i = l[i] := by simp only [gN, List.getD, List.getElem?_eq_getElem hi, Option.getD_some]
  rw [this]
  exact ⟨fun h => h.imp_right Eq.symm, fun h => h.imp_right Eq.symm⟩

set_option maxHeartbeats 8000000 in
theorem lawLists (g : G) (hs : g.Small) (kd : Int) (en c : Nat) (hen : en < 4294967296) (hc : c < 4294967296) : RG 5 [g.v, .int .i64 kd, .int .u32 en, .int .u32 c] (.bool true) := by
  have h0 := fair_ok g hs
  have ha := awake_ok
  have hm := mod_ok kd
  have hr := md4_range kd
  have hk := md_kind kd
  refine ret_frzG rfl ?_
  refine fn_rule mixed Tryd.func5 rfl hc5 hr5 rfl ?_
  cases hf : (g.light && g.valid) with
  | false =>
    rw [hf] at h0
    repeat' ((conv => whnf); first
        | (refine Br.tt ?_)
        | (refine Br.ff ?_)
        | (refine Br.dec (fun _ => ?_) (fun _ => ?_) <;> first | (exfalso; omega) | skip)
        | (refine Br.beq (fun _ => ?_) (fun _ => ?_) <;> first | (exfalso; omega) | skip)
        | (refine Br.bne (fun _ => ?_) (fun _ => ?_) <;> first | (exfalso; omega) | skip)
        | (refine Br.nbeq (fun _ => ?_) (fun _ => ?_) <;> first | (exfalso; omega) | skip)
        | (refine Br.nble (fun _ => ?_) (fun _ => ?_) <;> first | (exfalso; omega) | skip)
        | (refine Ar.i64 (by omega) (by omega) ?_)
        | (refine Ar.u32 (by omega) (by omega) ?_)
        | (refine Ar.sh1 (by omega) ?_)
        | (refine Ar.u64 (by omega) (by omega) ?_)
        | (refine Sv.mk _ rfl ?_)
        | (refine Nz.mk (by omega) ?_)
        | (refine Nn.mk (by omega) ?_)
        | (refine Ix.nat (by omega) ?_)
        | (refine Ix.ofNat (by omega) ?_)
        | (refine Ix.mk 0 rfl (by omega) ?_)
        | (refine Ix.mk 1 rfl (by omega) ?_)
        | (refine Ix.int (by omega) (by omega) ?_)
        | (refine Bd.nat (by omega) ?_)
        | (refine Bd.mk 0 rfl (by omega) ?_)
        | (refine Bd.mk 1 rfl (by omega) ?_)
        | (refine Bd.int (by omega) (by omega) ?_)
        | (refine Len.mk (by omega) ?_)
        | (refine Len.mk (by simp only [List.length_cons, List.length_nil]; omega) ?_)
        | (refine Ltn.mk (by omega) ?_)
        | (refine Both.mk ?_ ?_)
        | (refine MkS.vec ?_)
        | (refine (h0 _ _).mono ?_; rintro _ _ _ ⟨rfl, rfl, rfl⟩)
        | (refine (ha _ _ rfl).mono ?_; rintro _ _ _ ⟨rfl, rfl, rfl⟩)
        | (refine Br.any (fun _ => ?_) (fun _ => ?_)))
    all_goals (conv => whnf)
    all_goals exact VLe.rfl
  | true =>
    rw [hf] at h0
    rw [Bool.and_eq_true] at hf
    obtain ⟨f1, f2, f3, f4, f5, f6, f7⟩ := val_facts hf.2
    have h3 := rall_ok g.ports.length (by omega)
    have hb : bitI .and .u32 (en : Int) (full g.ports.length : Nat) = ((en &&& full g.ports.length : Nat) : Int) := bit_and hen (nb_lt (fun _ => true) (k := g.ports.length) (by omega))
    have he : en &&& full g.ports.length < 4294967296 := Nat.lt_of_le_of_lt Nat.and_le_left hen
    have hp := part_and en (full g.ports.length)
    generalize en &&& full g.ports.length = e at *
    generalize md4 kd = K at *
    have h4 := choices_ok g hs (1 + K) e he
    have hz := (part_iff he).2 hp
    have hposs : g.poss (1 + K) e = true := poss_iff.2 ⟨hf.2, hk, hz⟩
    have hch : g.choices (1 + K) e = chs g (1 + K) e := by rw [G.choices, if_neg (by rw [hf.2]; simp), if_neg (by rw [hk]; simp), if_neg (fun x => x hz)]
    rw [hch] at h4
    have hlen := chs_len (g := g) (k := 1 + K) he
    have hmemL := chs_lt (g := g) (k := 1 + K) he
    have hmem := fun x => chs_mem (g := g) (k := 1 + K) (c := x) hk he
    have hsort := chs_sorted (g := g) (k := 1 + K) he
    have hsome := chs_some hf.2 hk he hp (g := g)
    have herr := chs_err (g := g) (e := e) hk
    have hcn := count_ok e he
    generalize chs g (1 + K) e = p at *
    obtain ⟨L, er⟩ := p
    simp only at hlen hmemL hmem hsort hsome herr
    have h4 : RG 12 [g.v, .int .i64 (1 + K), .int .u32 e] (.tup [.fz L.length 1 false (vU L), .int .i64 er]) := h4
    by_cases h00 : er = 0
    · subst h00
      have hin : ∀ i, i < L.length → RG 23 [g.v, .int .i64 (1 + K), .int .u32 e, .int .u32 (gN L i)] (.bool true) := fun i hi => by
        have hl := hmemL _ (gN_mem hi)
        have := permits_ok g hs (1 + K) e (gN L i) he hl
        rw [G.perm, hposs, Bool.true_and, (hmem _ hl rfl).1 (gN_mem hi)] at this
        exact this
      have hpc := permits_ok g hs (1 + K) e c he hc
      have hdc : g.perm (1 + K) e c = decide (c ∈ L) := by
        rw [G.perm, hposs, Bool.true_and, Bool.eq_iff_iff, decide_eq_true_eq]; exact (hmem c hc rfl).symm
      rw [hdc] at hpc
      have hse := hsome rfl
      repeat' ((conv => whnf); first
          | (refine Sv.mk _ hb.symm ?_)
          | (refine Br.tt ?_)
          | (refine Br.ff ?_)
          | (refine Br.dec (fun _ => ?_) (fun _ => ?_) <;> first | (exfalso; omega) | skip)
          | (refine Br.beq (fun _ => ?_) (fun _ => ?_) <;> first | (exfalso; omega) | skip)
          | (refine Br.bne (fun _ => ?_) (fun _ => ?_) <;> first | (exfalso; omega) | skip)
          | (refine Br.nbeq (fun _ => ?_) (fun _ => ?_) <;> first | (exfalso; omega) | skip)
          | (refine Br.nble (fun _ => ?_) (fun _ => ?_) <;> first | (exfalso; omega) | skip)
          | (refine Ar.i64 (by omega) (by omega) ?_)
          | (refine Ar.u32 (by omega) (by omega) ?_)
          | (refine Ar.sh1 (by omega) ?_)
          | (refine Ar.u64 (by omega) (by omega) ?_)
          | (refine Sv.mk _ rfl ?_)
          | (refine Nz.mk (by omega) ?_)
          | (refine Nn.mk (by omega) ?_)
          | (refine Ix.nat (by omega) ?_)
          | (refine Ix.ofNat (by omega) ?_)
          | (refine Ix.mk 0 rfl (by omega) ?_)
          | (refine Ix.mk 1 rfl (by omega) ?_)
          | (refine Ix.int (by omega) (by omega) ?_)
          | (refine Bd.nat (by omega) ?_)
          | (refine Bd.mk 0 rfl (by omega) ?_)
          | (refine Bd.mk 1 rfl (by omega) ?_)
          | (refine Bd.int (by omega) (by omega) ?_)
          | (refine Len.mk (by omega) ?_)
          | (refine Len.mk (by simp only [List.length_cons, List.length_nil]; omega) ?_)
          | (refine Ltn.mk (by omega) ?_)
          | (refine Both.mk ?_ ?_)
          | (refine MkS.vec ?_)
          | (refine (h0 _ _).mono ?_; rintro _ _ _ ⟨rfl, rfl, rfl⟩)
          | (refine (ha _ _ rfl).mono ?_; rintro _ _ _ ⟨rfl, rfl, rfl⟩)
          | (refine (hm _ _).mono ?_; rintro _ _ _ ⟨rfl, rfl, rfl⟩)
          | (refine (h3 _ _).mono ?_; rintro _ _ _ ⟨rfl, rfl, rfl⟩)
          | (refine (h4 _ _ rfl).mono ?_; rintro _ _ _ ⟨rfl, rfl, rfl⟩)
          | (refine And.intro rfl ?_)
          | (refine Br.any (fun _ => ?_) (fun _ => ?_)))
      all_goals (conv => whnf)
      refine loop_r mixed [1, 2, 3, 4, 9] (fun i : Nat => [(11, .bool (decide (c ∈ L.take i))), (12, .int .i64 i)]) (fun m i => m = L.length - i ∧ i ≤ L.length) L.length 0 ⟨rfl, by omega⟩ ?_ ?_
      · refine weak_by (fun _ _ => [(0, some 0), (999, some 999)]) ?_ ?_ rfl
        · repeat' (first | exact True.intro | exact VRen.oel rfl rfl | exact VRen.map rfl | exact VRen.yld rfl | (refine VRen.fn ?_) | exact ⟨rfl, rfl⟩ | exact ⟨rfl, rfl, rfl⟩ | (refine ⟨rfl, rfl, rfl, rfl, rfl, ?_⟩) | (refine ⟨⟨_, rfl, ?_⟩, ?_⟩) | exact VRen.kf rfl | exact VRen.int rfl | exact VRen.int (by omega) | exact VRen.loc rfl | exact VRen.vec rfl rfl rfl | exact VRen.vec rfl (by omega) (by omega) | exact VRen.nil rfl rfl | exact VRen.nil rfl (by omega) | exact VRen.fz rfl (fun h => h) (fun _ _ _ _ => VLe.rfl) | (refine ⟨Nat.le_refl _, rfl, fun i j hi hj => ?_⟩) | (refine ⟨by omega, rfl, fun i j hi hj => ?_⟩) | exact VLe.rfl | (refine ⟨⟨_, _, rfl⟩, ?_⟩) | (refine And.intro ?_ ?_))
        · repeat' (first | exact True.intro | exact VRen.oel rfl rfl | exact VRen.map rfl | exact VRen.yld rfl | (refine VRen.fn ?_) | exact ⟨rfl, rfl⟩ | exact ⟨rfl, rfl, rfl⟩ | (refine ⟨rfl, rfl, rfl, rfl, rfl, ?_⟩) | (refine ⟨⟨_, rfl, ?_⟩, ?_⟩) | exact VRen.kf rfl | exact VRen.int rfl | exact VRen.int (by omega) | exact VRen.loc rfl | exact VRen.vec rfl rfl rfl | exact VRen.vec rfl (by omega) (by omega) | exact VRen.nil rfl rfl | exact VRen.nil rfl (by omega) | exact VRen.fz rfl (fun h => h) (fun _ _ _ _ => VLe.rfl) | (refine ⟨Nat.le_refl _, rfl, fun i j hi hj => ?_⟩) | (refine ⟨by omega, rfl, fun i j hi hj => ?_⟩) | exact VLe.rfl | (refine ⟨⟨_, _, rfl⟩, ?_⟩) | (refine And.intro ?_ ?_))
      rintro m i ⟨hmm, hi⟩
      by_cases hil : i < L.length
      · have hpi := hin i hil
        have hst := fun h => sorted_get hsort hil h
        have htm := take_mem (c := c) hil
        cases hfd : decide (c ∈ L.take i) with
        | true =>
          rw [decide_eq_true_eq] at hfd
          have hnx : decide (c ∈ L.take (i + 1)) = true := by rw [decide_eq_true_eq]; exact htm.2 (.inl hfd)
          by_cases hi0 : i = 0
          · subst hi0
            repeat' ((conv => whnf); first
                | (refine Br.tt ?_)
                | (refine Br.ff ?_)
                | (refine Br.dec (fun _ => ?_) (fun _ => ?_) <;> first | (exfalso; omega) | skip)
                | (refine Br.beq (fun _ => ?_) (fun _ => ?_) <;> first | (exfalso; omega) | skip)
                | (refine Br.bne (fun _ => ?_) (fun _ => ?_) <;> first | (exfalso; omega) | skip)
                | (refine Br.nbeq (fun _ => ?_) (fun _ => ?_) <;> first | (exfalso; omega) | skip)
                | (refine Br.nble (fun _ => ?_) (fun _ => ?_) <;> first | (exfalso; omega) | skip)
                | (refine Ar.i64 (by omega) (by omega) ?_)
                | (refine Ar.u32 (by omega) (by omega) ?_)
                | (refine Ar.sh1 (by omega) ?_)
                | (refine Ar.u64 (by omega) (by omega) ?_)
                | (refine Sv.mk _ rfl ?_)
                | (refine Nz.mk (by omega) ?_)
                | (refine Nn.mk (by omega) ?_)
                | (refine Ix.nat (by omega) ?_)
                | (refine Ix.ofNat (by omega) ?_)
                | (refine Ix.mk 0 rfl (by omega) ?_)
                | (refine Ix.mk 1 rfl (by omega) ?_)
                | (refine Ix.int (by omega) (by omega) ?_)
                | (refine Bd.nat (by omega) ?_)
                | (refine Bd.mk 0 rfl (by omega) ?_)
                | (refine Bd.mk 1 rfl (by omega) ?_)
                | (refine Bd.int (by omega) (by omega) ?_)
                | (refine Len.mk (by omega) ?_)
                | (refine Len.mk (by simp only [List.length_cons, List.length_nil]; omega) ?_)
                | (refine Ltn.mk (by omega) ?_)
                | (refine Both.mk ?_ ?_)
                | (refine MkS.vec ?_)
                | (refine (hpi _ _ rfl).mono ?_; rintro _ _ _ ⟨rfl, rfl, rfl⟩)
                | (refine Br.any (fun _ => ?_) (fun _ => ?_)))
            all_goals (conv => whnf)
            all_goals
              refine ⟨L.length - (0 + 1), 0 + 1, by omega, ⟨rfl, by omega⟩, ?_⟩
              simp only [hnx]
              refine weak_by (fun _ _ => [(0, some 0), (999, some 999)]) ?_ ?_ rfl
              · repeat' (first | exact True.intro | exact VRen.oel rfl rfl | exact VRen.map rfl | exact VRen.yld rfl | (refine VRen.fn ?_) | exact ⟨rfl, rfl⟩ | exact ⟨rfl, rfl, rfl⟩ | (refine ⟨rfl, rfl, rfl, rfl, rfl, ?_⟩) | (refine ⟨⟨_, rfl, ?_⟩, ?_⟩) | exact VRen.kf rfl | exact VRen.int rfl | exact VRen.int (by omega) | exact VRen.loc rfl | exact VRen.vec rfl rfl rfl | exact VRen.vec rfl (by omega) (by omega) | exact VRen.nil rfl rfl | exact VRen.nil rfl (by omega) | exact VRen.fz rfl (fun h => h) (fun _ _ _ _ => VLe.rfl) | (refine ⟨Nat.le_refl _, rfl, fun i j hi hj => ?_⟩) | (refine ⟨by omega, rfl, fun i j hi hj => ?_⟩) | exact VLe.rfl | (refine ⟨⟨_, _, rfl⟩, ?_⟩) | (refine And.intro ?_ ?_))
              · repeat' (first | exact True.intro | exact VRen.oel rfl rfl | exact VRen.map rfl | exact VRen.yld rfl | (refine VRen.fn ?_) | exact ⟨rfl, rfl⟩ | exact ⟨rfl, rfl, rfl⟩ | (refine ⟨rfl, rfl, rfl, rfl, rfl, ?_⟩) | (refine ⟨⟨_, rfl, ?_⟩, ?_⟩) | exact VRen.kf rfl | exact VRen.int rfl | exact VRen.int (by omega) | exact VRen.loc rfl | exact VRen.vec rfl rfl rfl | exact VRen.vec rfl (by omega) (by omega) | exact VRen.nil rfl rfl | exact VRen.nil rfl (by omega) | exact VRen.fz rfl (fun h => h) (fun _ _ _ _ => VLe.rfl) | (refine ⟨Nat.le_refl _, rfl, fun i j hi hj => ?_⟩) | (refine ⟨by omega, rfl, fun i j hi hj => ?_⟩) | exact VLe.rfl | (refine ⟨⟨_, _, rfl⟩, ?_⟩) | (refine And.intro ?_ ?_))
          · have hst' := hst (by omega)
            repeat' ((conv => whnf); first
                | (refine Ix.mk (i - 1) (by omega) (by omega) ?_)
                | (refine Br.tt ?_)
                | (refine Br.ff ?_)
                | (refine Br.dec (fun _ => ?_) (fun _ => ?_) <;> first | (exfalso; omega) | skip)
                | (refine Br.beq (fun _ => ?_) (fun _ => ?_) <;> first | (exfalso; omega) | skip)
                | (refine Br.bne (fun _ => ?_) (fun _ => ?_) <;> first | (exfalso; omega) | skip)
                | (refine Br.nbeq (fun _ => ?_) (fun _ => ?_) <;> first | (exfalso; omega) | skip)
                | (refine Br.nble (fun _ => ?_) (fun _ => ?_) <;> first | (exfalso; omega) | skip)
                | (refine Ar.i64 (by omega) (by omega) ?_)
                | (refine Ar.u32 (by omega) (by omega) ?_)
                | (refine Ar.sh1 (by omega) ?_)
                | (refine Ar.u64 (by omega) (by omega) ?_)
                | (refine Sv.mk _ rfl ?_)
                | (refine Nz.mk (by omega) ?_)
                | (refine Nn.mk (by omega) ?_)
                | (refine Ix.nat (by omega) ?_)
                | (refine Ix.ofNat (by omega) ?_)
                | (refine Ix.mk 0 rfl (by omega) ?_)
                | (refine Ix.mk 1 rfl (by omega) ?_)
                | (refine Ix.int (by omega) (by omega) ?_)
                | (refine Bd.nat (by omega) ?_)
                | (refine Bd.mk 0 rfl (by omega) ?_)
                | (refine Bd.mk 1 rfl (by omega) ?_)
                | (refine Bd.int (by omega) (by omega) ?_)
                | (refine Len.mk (by omega) ?_)
                | (refine Len.mk (by simp only [List.length_cons, List.length_nil]; omega) ?_)
                | (refine Ltn.mk (by omega) ?_)
                | (refine Both.mk ?_ ?_)
                | (refine MkS.vec ?_)
                | (refine (hpi _ _ rfl).mono ?_; rintro _ _ _ ⟨rfl, rfl, rfl⟩)
                | (refine Br.any (fun _ => ?_) (fun _ => ?_)))
            all_goals (conv => whnf)
            all_goals
              refine ⟨L.length - (i + 1), i + 1, by omega, ⟨rfl, by omega⟩, ?_⟩
              simp only [hnx]
              refine weak_by (fun _ _ => [(0, some 0), (999, some 999)]) ?_ ?_ rfl
              · repeat' (first | exact True.intro | exact VRen.oel rfl rfl | exact VRen.map rfl | exact VRen.yld rfl | (refine VRen.fn ?_) | exact ⟨rfl, rfl⟩ | exact ⟨rfl, rfl, rfl⟩ | (refine ⟨rfl, rfl, rfl, rfl, rfl, ?_⟩) | (refine ⟨⟨_, rfl, ?_⟩, ?_⟩) | exact VRen.kf rfl | exact VRen.int rfl | exact VRen.int (by omega) | exact VRen.loc rfl | exact VRen.vec rfl rfl rfl | exact VRen.vec rfl (by omega) (by omega) | exact VRen.nil rfl rfl | exact VRen.nil rfl (by omega) | exact VRen.fz rfl (fun h => h) (fun _ _ _ _ => VLe.rfl) | (refine ⟨Nat.le_refl _, rfl, fun i j hi hj => ?_⟩) | (refine ⟨by omega, rfl, fun i j hi hj => ?_⟩) | exact VLe.rfl | (refine ⟨⟨_, _, rfl⟩, ?_⟩) | (refine And.intro ?_ ?_))
              · repeat' (first | exact True.intro | exact VRen.oel rfl rfl | exact VRen.map rfl | exact VRen.yld rfl | (refine VRen.fn ?_) | exact ⟨rfl, rfl⟩ | exact ⟨rfl, rfl, rfl⟩ | (refine ⟨rfl, rfl, rfl, rfl, rfl, ?_⟩) | (refine ⟨⟨_, rfl, ?_⟩, ?_⟩) | exact VRen.kf rfl | exact VRen.int rfl | exact VRen.int (by omega) | exact VRen.loc rfl | exact VRen.vec rfl rfl rfl | exact VRen.vec rfl (by omega) (by omega) | exact VRen.nil rfl rfl | exact VRen.nil rfl (by omega) | exact VRen.fz rfl (fun h => h) (fun _ _ _ _ => VLe.rfl) | (refine ⟨Nat.le_refl _, rfl, fun i j hi hj => ?_⟩) | (refine ⟨by omega, rfl, fun i j hi hj => ?_⟩) | exact VLe.rfl | (refine ⟨⟨_, _, rfl⟩, ?_⟩) | (refine And.intro ?_ ?_))
        | false =>
          rw [decide_eq_false_iff_not] at hfd
          by_cases hi0 : i = 0
          · subst hi0
            repeat' ((conv => whnf); first
                | (refine Br.tt ?_)
                | (refine Br.ff ?_)
                | (refine Br.dec (fun _ => ?_) (fun _ => ?_) <;> first | (exfalso; omega) | skip)
                | (refine Br.beq (fun _ => ?_) (fun _ => ?_) <;> first | (exfalso; omega) | skip)
                | (refine Br.bne (fun _ => ?_) (fun _ => ?_) <;> first | (exfalso; omega) | skip)
                | (refine Br.nbeq (fun _ => ?_) (fun _ => ?_) <;> first | (exfalso; omega) | skip)
                | (refine Br.nble (fun _ => ?_) (fun _ => ?_) <;> first | (exfalso; omega) | skip)
                | (refine Ar.i64 (by omega) (by omega) ?_)
                | (refine Ar.u32 (by omega) (by omega) ?_)
                | (refine Ar.sh1 (by omega) ?_)
                | (refine Ar.u64 (by omega) (by omega) ?_)
                | (refine Sv.mk _ rfl ?_)
                | (refine Nz.mk (by omega) ?_)
                | (refine Nn.mk (by omega) ?_)
                | (refine Ix.nat (by omega) ?_)
                | (refine Ix.ofNat (by omega) ?_)
                | (refine Ix.mk 0 rfl (by omega) ?_)
                | (refine Ix.mk 1 rfl (by omega) ?_)
                | (refine Ix.int (by omega) (by omega) ?_)
                | (refine Bd.nat (by omega) ?_)
                | (refine Bd.mk 0 rfl (by omega) ?_)
                | (refine Bd.mk 1 rfl (by omega) ?_)
                | (refine Bd.int (by omega) (by omega) ?_)
                | (refine Len.mk (by omega) ?_)
                | (refine Len.mk (by simp only [List.length_cons, List.length_nil]; omega) ?_)
                | (refine Ltn.mk (by omega) ?_)
                | (refine Both.mk ?_ ?_)
                | (refine MkS.vec ?_)
                | (refine (hpi _ _ rfl).mono ?_; rintro _ _ _ ⟨rfl, rfl, rfl⟩)
                | (refine Br.any (fun _ => ?_) (fun _ => ?_)))
            all_goals (conv => whnf)
            all_goals
              refine ⟨L.length - (0 + 1), 0 + 1, by omega, ⟨rfl, by omega⟩, ?_⟩
              first
              | (have hnx : decide (c ∈ L.take (0 + 1)) = true := by rw [decide_eq_true_eq]; exact htm.2 (.inr (by omega))
                 simp only [hnx]
                 refine weak_by (fun _ _ => [(0, some 0), (999, some 999)]) ?_ ?_ rfl
                 · repeat' (first | exact True.intro | exact VRen.oel rfl rfl | exact VRen.map rfl | exact VRen.yld rfl | (refine VRen.fn ?_) | exact ⟨rfl, rfl⟩ | exact ⟨rfl, rfl, rfl⟩ | (refine ⟨rfl, rfl, rfl, rfl, rfl, ?_⟩) | (refine ⟨⟨_, rfl, ?_⟩, ?_⟩) | exact VRen.kf rfl | exact VRen.int rfl | exact VRen.int (by omega) | exact VRen.loc rfl | exact VRen.vec rfl rfl rfl | exact VRen.vec rfl (by omega) (by omega) | exact VRen.nil rfl rfl | exact VRen.nil rfl (by omega) | exact VRen.fz rfl (fun h => h) (fun _ _ _ _ => VLe.rfl) | (refine ⟨Nat.le_refl _, rfl, fun i j hi hj => ?_⟩) | (refine ⟨by omega, rfl, fun i j hi hj => ?_⟩) | exact VLe.rfl | (refine ⟨⟨_, _, rfl⟩, ?_⟩) | (refine And.intro ?_ ?_))
                 · repeat' (first | exact True.intro | exact VRen.oel rfl rfl | exact VRen.map rfl | exact VRen.yld rfl | (refine VRen.fn ?_) | exact ⟨rfl, rfl⟩ | exact ⟨rfl, rfl, rfl⟩ | (refine ⟨rfl, rfl, rfl, rfl, rfl, ?_⟩) | (refine ⟨⟨_, rfl, ?_⟩, ?_⟩) | exact VRen.kf rfl | exact VRen.int rfl | exact VRen.int (by omega) | exact VRen.loc rfl | exact VRen.vec rfl rfl rfl | exact VRen.vec rfl (by omega) (by omega) | exact VRen.nil rfl rfl | exact VRen.nil rfl (by omega) | exact VRen.fz rfl (fun h => h) (fun _ _ _ _ => VLe.rfl) | (refine ⟨Nat.le_refl _, rfl, fun i j hi hj => ?_⟩) | (refine ⟨by omega, rfl, fun i j hi hj => ?_⟩) | exact VLe.rfl | (refine ⟨⟨_, _, rfl⟩, ?_⟩) | (refine And.intro ?_ ?_)))
              | (have hnx : decide (c ∈ L.take (0 + 1)) = false := by rw [decide_eq_false_iff_not]; exact fun x => (htm.1 x).elim hfd (fun y => by omega)
                 simp only [hnx]
                 refine weak_by (fun _ _ => [(0, some 0), (999, some 999)]) ?_ ?_ rfl
                 · repeat' (first | exact True.intro | exact VRen.oel rfl rfl | exact VRen.map rfl | exact VRen.yld rfl | (refine VRen.fn ?_) | exact ⟨rfl, rfl⟩ | exact ⟨rfl, rfl, rfl⟩ | (refine ⟨rfl, rfl, rfl, rfl, rfl, ?_⟩) | (refine ⟨⟨_, rfl, ?_⟩, ?_⟩) | exact VRen.kf rfl | exact VRen.int rfl | exact VRen.int (by omega) | exact VRen.loc rfl | exact VRen.vec rfl rfl rfl | exact VRen.vec rfl (by omega) (by omega) | exact VRen.nil rfl rfl | exact VRen.nil rfl (by omega) | exact VRen.fz rfl (fun h => h) (fun _ _ _ _ => VLe.rfl) | (refine ⟨Nat.le_refl _, rfl, fun i j hi hj => ?_⟩) | (refine ⟨by omega, rfl, fun i j hi hj => ?_⟩) | exact VLe.rfl | (refine ⟨⟨_, _, rfl⟩, ?_⟩) | (refine And.intro ?_ ?_))
                 · repeat' (first | exact True.intro | exact VRen.oel rfl rfl | exact VRen.map rfl | exact VRen.yld rfl | (refine VRen.fn ?_) | exact ⟨rfl, rfl⟩ | exact ⟨rfl, rfl, rfl⟩ | (refine ⟨rfl, rfl, rfl, rfl, rfl, ?_⟩) | (refine ⟨⟨_, rfl, ?_⟩, ?_⟩) | exact VRen.kf rfl | exact VRen.int rfl | exact VRen.int (by omega) | exact VRen.loc rfl | exact VRen.vec rfl rfl rfl | exact VRen.vec rfl (by omega) (by omega) | exact VRen.nil rfl rfl | exact VRen.nil rfl (by omega) | exact VRen.fz rfl (fun h => h) (fun _ _ _ _ => VLe.rfl) | (refine ⟨Nat.le_refl _, rfl, fun i j hi hj => ?_⟩) | (refine ⟨by omega, rfl, fun i j hi hj => ?_⟩) | exact VLe.rfl | (refine ⟨⟨_, _, rfl⟩, ?_⟩) | (refine And.intro ?_ ?_)))
          · have hst' := hst (by omega)
            repeat' ((conv => whnf); first
                | (refine Ix.mk (i - 1) (by omega) (by omega) ?_)
                | (refine Br.tt ?_)
                | (refine Br.ff ?_)
                | (refine Br.dec (fun _ => ?_) (fun _ => ?_) <;> first | (exfalso; omega) | skip)
                | (refine Br.beq (fun _ => ?_) (fun _ => ?_) <;> first | (exfalso; omega) | skip)
                | (refine Br.bne (fun _ => ?_) (fun _ => ?_) <;> first | (exfalso; omega) | skip)
                | (refine Br.nbeq (fun _ => ?_) (fun _ => ?_) <;> first | (exfalso; omega) | skip)
                | (refine Br.nble (fun _ => ?_) (fun _ => ?_) <;> first | (exfalso; omega) | skip)
                | (refine Ar.i64 (by omega) (by omega) ?_)
                | (refine Ar.u32 (by omega) (by omega) ?_)
                | (refine Ar.sh1 (by omega) ?_)
                | (refine Ar.u64 (by omega) (by omega) ?_)
                | (refine Sv.mk _ rfl ?_)
                | (refine Nz.mk (by omega) ?_)
                | (refine Nn.mk (by omega) ?_)
                | (refine Ix.nat (by omega) ?_)
                | (refine Ix.ofNat (by omega) ?_)
                | (refine Ix.mk 0 rfl (by omega) ?_)
                | (refine Ix.mk 1 rfl (by omega) ?_)
                | (refine Ix.int (by omega) (by omega) ?_)
                | (refine Bd.nat (by omega) ?_)
                | (refine Bd.mk 0 rfl (by omega) ?_)
                | (refine Bd.mk 1 rfl (by omega) ?_)
                | (refine Bd.int (by omega) (by omega) ?_)
                | (refine Len.mk (by omega) ?_)
                | (refine Len.mk (by simp only [List.length_cons, List.length_nil]; omega) ?_)
                | (refine Ltn.mk (by omega) ?_)
                | (refine Both.mk ?_ ?_)
                | (refine MkS.vec ?_)
                | (refine (hpi _ _ rfl).mono ?_; rintro _ _ _ ⟨rfl, rfl, rfl⟩)
                | (refine Br.any (fun _ => ?_) (fun _ => ?_)))
            all_goals (conv => whnf)
            all_goals
              refine ⟨L.length - (i + 1), i + 1, by omega, ⟨rfl, by omega⟩, ?_⟩
              first
              | (have hnx : decide (c ∈ L.take (i + 1)) = true := by rw [decide_eq_true_eq]; exact htm.2 (.inr (by omega))
                 simp only [hnx]
                 refine weak_by (fun _ _ => [(0, some 0), (999, some 999)]) ?_ ?_ rfl
                 · repeat' (first | exact True.intro | exact VRen.oel rfl rfl | exact VRen.map rfl | exact VRen.yld rfl | (refine VRen.fn ?_) | exact ⟨rfl, rfl⟩ | exact ⟨rfl, rfl, rfl⟩ | (refine ⟨rfl, rfl, rfl, rfl, rfl, ?_⟩) | (refine ⟨⟨_, rfl, ?_⟩, ?_⟩) | exact VRen.kf rfl | exact VRen.int rfl | exact VRen.int (by omega) | exact VRen.loc rfl | exact VRen.vec rfl rfl rfl | exact VRen.vec rfl (by omega) (by omega) | exact VRen.nil rfl rfl | exact VRen.nil rfl (by omega) | exact VRen.fz rfl (fun h => h) (fun _ _ _ _ => VLe.rfl) | (refine ⟨Nat.le_refl _, rfl, fun i j hi hj => ?_⟩) | (refine ⟨by omega, rfl, fun i j hi hj => ?_⟩) | exact VLe.rfl | (refine ⟨⟨_, _, rfl⟩, ?_⟩) | (refine And.intro ?_ ?_))
                 · repeat' (first | exact True.intro | exact VRen.oel rfl rfl | exact VRen.map rfl | exact VRen.yld rfl | (refine VRen.fn ?_) | exact ⟨rfl, rfl⟩ | exact ⟨rfl, rfl, rfl⟩ | (refine ⟨rfl, rfl, rfl, rfl, rfl, ?_⟩) | (refine ⟨⟨_, rfl, ?_⟩, ?_⟩) | exact VRen.kf rfl | exact VRen.int rfl | exact VRen.int (by omega) | exact VRen.loc rfl | exact VRen.vec rfl rfl rfl | exact VRen.vec rfl (by omega) (by omega) | exact VRen.nil rfl rfl | exact VRen.nil rfl (by omega) | exact VRen.fz rfl (fun h => h) (fun _ _ _ _ => VLe.rfl) | (refine ⟨Nat.le_refl _, rfl, fun i j hi hj => ?_⟩) | (refine ⟨by omega, rfl, fun i j hi hj => ?_⟩) | exact VLe.rfl | (refine ⟨⟨_, _, rfl⟩, ?_⟩) | (refine And.intro ?_ ?_)))
              | (have hnx : decide (c ∈ L.take (i + 1)) = false := by rw [decide_eq_false_iff_not]; exact fun x => (htm.1 x).elim hfd (fun y => by omega)
                 simp only [hnx]
                 refine weak_by (fun _ _ => [(0, some 0), (999, some 999)]) ?_ ?_ rfl
                 · repeat' (first | exact True.intro | exact VRen.oel rfl rfl | exact VRen.map rfl | exact VRen.yld rfl | (refine VRen.fn ?_) | exact ⟨rfl, rfl⟩ | exact ⟨rfl, rfl, rfl⟩ | (refine ⟨rfl, rfl, rfl, rfl, rfl, ?_⟩) | (refine ⟨⟨_, rfl, ?_⟩, ?_⟩) | exact VRen.kf rfl | exact VRen.int rfl | exact VRen.int (by omega) | exact VRen.loc rfl | exact VRen.vec rfl rfl rfl | exact VRen.vec rfl (by omega) (by omega) | exact VRen.nil rfl rfl | exact VRen.nil rfl (by omega) | exact VRen.fz rfl (fun h => h) (fun _ _ _ _ => VLe.rfl) | (refine ⟨Nat.le_refl _, rfl, fun i j hi hj => ?_⟩) | (refine ⟨by omega, rfl, fun i j hi hj => ?_⟩) | exact VLe.rfl | (refine ⟨⟨_, _, rfl⟩, ?_⟩) | (refine And.intro ?_ ?_))
                 · repeat' (first | exact True.intro | exact VRen.oel rfl rfl | exact VRen.map rfl | exact VRen.yld rfl | (refine VRen.fn ?_) | exact ⟨rfl, rfl⟩ | exact ⟨rfl, rfl, rfl⟩ | (refine ⟨rfl, rfl, rfl, rfl, rfl, ?_⟩) | (refine ⟨⟨_, rfl, ?_⟩, ?_⟩) | exact VRen.kf rfl | exact VRen.int rfl | exact VRen.int (by omega) | exact VRen.loc rfl | exact VRen.vec rfl rfl rfl | exact VRen.vec rfl (by omega) (by omega) | exact VRen.nil rfl rfl | exact VRen.nil rfl (by omega) | exact VRen.fz rfl (fun h => h) (fun _ _ _ _ => VLe.rfl) | (refine ⟨Nat.le_refl _, rfl, fun i j hi hj => ?_⟩) | (refine ⟨by omega, rfl, fun i j hi hj => ?_⟩) | exact VLe.rfl | (refine ⟨⟨_, _, rfl⟩, ?_⟩) | (refine And.intro ?_ ?_)))
      · have hte : L.take i = L := List.take_of_length_le (by omega)
        rw [hte]
        by_cases he0 : e = 0
        · have hL : L.length = 0 := by
            rcases Nat.eq_zero_or_pos L.length with h | h
            · exact h
            · exact absurd he0 (hse.1 h)
          generalize decide (c ∈ L) = bb at hpc ⊢
          cases bb
          all_goals
            repeat' ((conv => whnf); first
                | (refine Br.tt ?_)
                | (refine Br.ff ?_)
                | (refine Br.dec (fun _ => ?_) (fun _ => ?_) <;> first | (exfalso; omega) | skip)
                | (refine Br.beq (fun _ => ?_) (fun _ => ?_) <;> first | (exfalso; omega) | skip)
                | (refine Br.bne (fun _ => ?_) (fun _ => ?_) <;> first | (exfalso; omega) | skip)
                | (refine Br.nbeq (fun _ => ?_) (fun _ => ?_) <;> first | (exfalso; omega) | skip)
                | (refine Br.nble (fun _ => ?_) (fun _ => ?_) <;> first | (exfalso; omega) | skip)
                | (refine Ar.i64 (by omega) (by omega) ?_)
                | (refine Ar.u32 (by omega) (by omega) ?_)
                | (refine Ar.sh1 (by omega) ?_)
                | (refine Ar.u64 (by omega) (by omega) ?_)
                | (refine Sv.mk _ rfl ?_)
                | (refine Nz.mk (by omega) ?_)
                | (refine Nn.mk (by omega) ?_)
                | (refine Ix.nat (by omega) ?_)
                | (refine Ix.ofNat (by omega) ?_)
                | (refine Ix.mk 0 rfl (by omega) ?_)
                | (refine Ix.mk 1 rfl (by omega) ?_)
                | (refine Ix.int (by omega) (by omega) ?_)
                | (refine Bd.nat (by omega) ?_)
                | (refine Bd.mk 0 rfl (by omega) ?_)
                | (refine Bd.mk 1 rfl (by omega) ?_)
                | (refine Bd.int (by omega) (by omega) ?_)
                | (refine Len.mk (by omega) ?_)
                | (refine Len.mk (by simp only [List.length_cons, List.length_nil]; omega) ?_)
                | (refine Ltn.mk (by omega) ?_)
                | (refine Both.mk ?_ ?_)
                | (refine MkS.vec ?_)
                | (refine (ha _ _ rfl).mono ?_; rintro _ _ _ ⟨rfl, rfl, rfl⟩)
                | (refine (hpc _ _ rfl).mono ?_; rintro _ _ _ ⟨rfl, rfl, rfl⟩)
                | (refine Br.any (fun _ => ?_) (fun _ => ?_)))
            all_goals (conv => whnf)
            all_goals exact VLe.rfl
        · have hL := hse.2 he0
          generalize decide (c ∈ L) = bb at hpc ⊢
          cases bb
          all_goals
            repeat' ((conv => whnf); first
                | (refine Br.tt ?_)
                | (refine Br.ff ?_)
                | (refine Br.dec (fun _ => ?_) (fun _ => ?_) <;> first | (exfalso; omega) | skip)
                | (refine Br.beq (fun _ => ?_) (fun _ => ?_) <;> first | (exfalso; omega) | skip)
                | (refine Br.bne (fun _ => ?_) (fun _ => ?_) <;> first | (exfalso; omega) | skip)
                | (refine Br.nbeq (fun _ => ?_) (fun _ => ?_) <;> first | (exfalso; omega) | skip)
                | (refine Br.nble (fun _ => ?_) (fun _ => ?_) <;> first | (exfalso; omega) | skip)
                | (refine Ar.i64 (by omega) (by omega) ?_)
                | (refine Ar.u32 (by omega) (by omega) ?_)
                | (refine Ar.sh1 (by omega) ?_)
                | (refine Ar.u64 (by omega) (by omega) ?_)
                | (refine Sv.mk _ rfl ?_)
                | (refine Nz.mk (by omega) ?_)
                | (refine Nn.mk (by omega) ?_)
                | (refine Ix.nat (by omega) ?_)
                | (refine Ix.ofNat (by omega) ?_)
                | (refine Ix.mk 0 rfl (by omega) ?_)
                | (refine Ix.mk 1 rfl (by omega) ?_)
                | (refine Ix.int (by omega) (by omega) ?_)
                | (refine Bd.nat (by omega) ?_)
                | (refine Bd.mk 0 rfl (by omega) ?_)
                | (refine Bd.mk 1 rfl (by omega) ?_)
                | (refine Bd.int (by omega) (by omega) ?_)
                | (refine Len.mk (by omega) ?_)
                | (refine Len.mk (by simp only [List.length_cons, List.length_nil]; omega) ?_)
                | (refine Ltn.mk (by omega) ?_)
                | (refine Both.mk ?_ ?_)
                | (refine MkS.vec ?_)
                | (refine (ha _ _ rfl).mono ?_; rintro _ _ _ ⟨rfl, rfl, rfl⟩)
                | (refine (hpc _ _ rfl).mono ?_; rintro _ _ _ ⟨rfl, rfl, rfl⟩)
                | (refine Br.any (fun _ => ?_) (fun _ => ?_)))
            all_goals (conv => whnf)
            all_goals exact VLe.rfl
    · obtain ⟨e1, e2, e3, e4⟩ := herr h00
      subst e1 e2
      have hcl := cnt_le e 32
      repeat' ((conv => whnf); first
          | (refine Sv.mk _ hb.symm ?_)
          | (refine Br.tt ?_)
          | (refine Br.ff ?_)
          | (refine Br.dec (fun _ => ?_) (fun _ => ?_) <;> first | (exfalso; omega) | skip)
          | (refine Br.beq (fun _ => ?_) (fun _ => ?_) <;> first | (exfalso; omega) | skip)
          | (refine Br.bne (fun _ => ?_) (fun _ => ?_) <;> first | (exfalso; omega) | skip)
          | (refine Br.nbeq (fun _ => ?_) (fun _ => ?_) <;> first | (exfalso; omega) | skip)
          | (refine Br.nble (fun _ => ?_) (fun _ => ?_) <;> first | (exfalso; omega) | skip)
          | (refine Ar.i64 (by omega) (by omega) ?_)
          | (refine Ar.u32 (by omega) (by omega) ?_)
          | (refine Ar.sh1 (by omega) ?_)
          | (refine Ar.u64 (by omega) (by omega) ?_)
          | (refine Sv.mk _ rfl ?_)
          | (refine Nz.mk (by omega) ?_)
          | (refine Nn.mk (by omega) ?_)
          | (refine Ix.nat (by omega) ?_)
          | (refine Ix.ofNat (by omega) ?_)
          | (refine Ix.mk 0 rfl (by omega) ?_)
          | (refine Ix.mk 1 rfl (by omega) ?_)
          | (refine Ix.int (by omega) (by omega) ?_)
          | (refine Bd.nat (by omega) ?_)
          | (refine Bd.mk 0 rfl (by omega) ?_)
          | (refine Bd.mk 1 rfl (by omega) ?_)
          | (refine Bd.int (by omega) (by omega) ?_)
          | (refine Len.mk (by omega) ?_)
          | (refine Len.mk (by simp only [List.length_cons, List.length_nil]; omega) ?_)
          | (refine Ltn.mk (by omega) ?_)
          | (refine Both.mk ?_ ?_)
          | (refine MkS.vec ?_)
          | (refine (h0 _ _).mono ?_; rintro _ _ _ ⟨rfl, rfl, rfl⟩)
          | (refine (ha _ _ rfl).mono ?_; rintro _ _ _ ⟨rfl, rfl, rfl⟩)
          | (refine (hm _ _).mono ?_; rintro _ _ _ ⟨rfl, rfl, rfl⟩)
          | (refine (h3 _ _).mono ?_; rintro _ _ _ ⟨rfl, rfl, rfl⟩)
          | (refine (h4 _ _ rfl).mono ?_; rintro _ _ _ ⟨rfl, rfl, rfl⟩)
          | (refine (hcn _ _).mono ?_; rintro _ _ _ ⟨rfl, rfl, rfl⟩)
          | (refine And.intro rfl ?_)
          | (refine Br.any (fun _ => ?_) (fun _ => ?_)))
      all_goals (conv => whnf)
      all_goals exact VLe.rfl
end Go.Proofs.YtjadlpflhmooaaaDoor
