/-
  ClockText: the walk.
-/
import Derived.Test.YtcnpplcfabdoaaaGreatTKN
import Derived.Test.YtcnpplcfabdoaaaGreatEngU
namespace Go.Proofs.YtcnpplcfabdoaaaGreat
open Go.Eng
set_option maxRecDepth 100000
set_option linter.unusedVariables false

def within (a b : Int) : Int := if b < 1 then 0 else if a.tmod b < 0 then a.tmod b + b else a.tmod b
theorem within_ok (a b : Int) (hb : b ≤ 9223372036854775807) : Ret Tryz.prog 12 [.int .i64 a, .int .i64 b] (.int .i64 (within a b)) := by
  refine ret_frz rfl ?_
  refine fn_rule mixed Tryz.func12 rfl hc12 hr12 rfl ?_
  have h1 : 1 ≤ b → -b < a.tmod b := fun h => Int.neg_lt_of_neg_lt (by have := Int.lt_tmod_of_pos (-a) (show 0 < b by omega); rw [Int.neg_tmod] at this; have h2 := Int.tmod_lt_of_pos (-a) (show 0 < b by omega); rw [Int.neg_tmod] at h2; omega)
  rw [within]
  repeat' ((conv => whnf); first
      | (refine Br.tt ?_)
      | (refine Br.ff ?_)
      | (refine Br.dec (fun _ => ?_) (fun _ => ?_) <;> first | (exfalso; omega) | skip)
      | (refine Br.beq (fun _ => ?_) (fun _ => ?_) <;> first | (exfalso; omega) | skip)
      | (refine Br.bne (fun _ => ?_) (fun _ => ?_) <;> first | (exfalso; omega) | skip)
      | (refine Br.nbeq (fun _ => ?_) (fun _ => ?_) <;> first | (exfalso; omega) | skip)
      | (refine Br.nble (fun _ => ?_) (fun _ => ?_) <;> first | (exfalso; omega) | skip)
      | (refine Ar.i64 (by omega) (by omega) ?_)
      | (refine Ar.u32 (by omega) (by omega) ?_)
      | (refine Ar.sh1 (by omega) ?_)
      | (refine Ar.u64 (by omega) (by omega) ?_)
      | (refine Sv.mk _ rfl ?_)
      | (refine Nz.mk (by omega) ?_)
      | (refine Nn.mk (by omega) ?_)
      | (refine Ix.nat (by omega) ?_)
      | (refine Ix.ofNat (by omega) ?_)
      | (refine Ix.mk 0 rfl (by omega) ?_)
      | (refine Ix.mk 1 rfl (by omega) ?_)
      | (refine Ix.int (by omega) (by omega) ?_)
      | (refine Bd.nat (by omega) ?_)
      | (refine Bd.mk 0 rfl (by omega) ?_)
      | (refine Bd.mk 1 rfl (by omega) ?_)
      | (refine Bd.int (by omega) (by omega) ?_)
      | (refine Len.mk (by omega) ?_)
      | (refine Len.mk (by simp only [List.length_cons, List.length_nil]; omega) ?_)
      | (refine Ltn.mk (by omega) ?_)
      | (refine Both.mk ?_ ?_)
      | (refine MkS.vec ?_)
      | (refine Br.any (fun _ => ?_) (fun _ => ?_)))
  all_goals (conv => whnf)
  · rw [if_pos (by omega)]; exact VLe.rfl
  · rw [if_neg (by omega), if_pos (by omega)]; exact VLe.rfl
  · rw [if_neg (by omega), if_neg (by omega)]; exact VLe.rfl

theorem withinN (a : Int) : within a 3 = 0 ∨ within a 3 = 1 ∨ within a 3 = 2 := by
  have h1 := Int.lt_tmod_of_pos a (show (0 : Int) < 3 by omega)
  have h2 := Int.tmod_lt_of_pos a (show (0 : Int) < 3 by omega)
  simp only [within]
  rw [if_neg (by omega)]
  split <;> omega

def txt : ByteArray := match textC with | .str l c => bytesOf l c | _ => default
def fV : Nat → Nat → V := match varsC with | .fz _ _ _ z rows => tabz (C.vs z) (C.vss rows) | _ => fun _ _ => default
def fR : Nat → Nat → V := match aggC with | .agg [_, _, .fz _ _ _ z rows] => tabz (C.vs z) (C.vss rows) | _ => fun _ _ => default
theorem Br.bytes {a : ByteArray} {A B : Prop} (h : A) : Br (a == a) A B := ⟨fun _ => h, fun e => by rw [(Go.MapKept.bytes_beq a a).2 rfl] at e; cases e⟩
theorem Br.tr {b : Bool} {A B : Prop} (e : b = true) (h : A) : Br b A B := ⟨fun _ => h, fun e' => by rw [e] at e'; cases e'⟩
theorem Br.fa {b : Bool} {A B : Prop} (e : b = false) (h : B) : Br b A B := ⟨fun e' => (by rw [e] at e'; cases e'), fun _ => h⟩

theorem text_ok : Ret Tryz.prog 23 [] (.str txt) := by
  have := ev_ret mixed ta_ok ev_text
  simpa only [C.vs, C.v, textC, txt] using this
theorem rtext_ok : Ret Tryz.prog 26 [] (.str txt) := by
  have := ev_ret mixed ta_ok ev_rtext
  simpa only [C.vs, C.v, textC, txt] using this
theorem vars_ok : Ret Tryz.prog 24 [] (.fz 3 6 false fV) := by
  have := ev_ret mixed ta_ok ev_vars
  simpa only [C.vs, C.v, varsC, fV] using this
theorem known_ok : Ret Tryz.prog 25 [] (.bool true) := by
  have := ev_ret mixed tn_ok ev_known
  simpa only [C.vs, C.v] using this
theorem parse_ok : Ret Tryz.prog 9 [.str txt] (.tup [.agg [.str (bytesOf 5 461229747299), .fz 3 6 false fV, .fz 4 3 false fR], .int .i64 0, .int .i64 0]) := by
  have := ev_ret mixed tp_ok ev_parse
  simpa only [C.vs, C.v, textC, txt, progC, aggC, fV, fR, varsC] using this

set_option maxHeartbeats 4000000 in
theorem law (a : Int) : Ret Tryz.prog 6 [.int .i64 a] (.bool true) := by
  have hw := within_ok a 3 (by omega)
  rcases withinN a with h | h | h
  · rw [h] at hw
    refine ret_frz rfl ?_
    refine fn_rule mixed Tryz.func6 rfl hc6 hr6 rfl ?_
    repeat' ((conv => whnf); first
        | (refine Br.bytes ?_)
        | (refine Br.tt ?_)
        | (refine Br.ff ?_)
        | (refine Br.dec (fun _ => ?_) (fun _ => ?_) <;> first | (exfalso; omega) | skip)
        | (refine Br.beq (fun _ => ?_) (fun _ => ?_) <;> first | (exfalso; omega) | skip)
        | (refine Br.bne (fun _ => ?_) (fun _ => ?_) <;> first | (exfalso; omega) | skip)
        | (refine Br.nbeq (fun _ => ?_) (fun _ => ?_) <;> first | (exfalso; omega) | skip)
        | (refine Br.nble (fun _ => ?_) (fun _ => ?_) <;> first | (exfalso; omega) | skip)
        | (refine Ar.i64 (by omega) (by omega) ?_)
        | (refine Ar.u32 (by omega) (by omega) ?_)
        | (refine Ar.sh1 (by omega) ?_)
        | (refine Ar.u64 (by omega) (by omega) ?_)
        | (refine Sv.mk _ rfl ?_)
        | (refine Nz.mk (by omega) ?_)
        | (refine Nn.mk (by omega) ?_)
        | (refine Ix.nat (by omega) ?_)
        | (refine Ix.ofNat (by omega) ?_)
        | (refine Ix.mk 0 rfl (by omega) ?_)
        | (refine Ix.mk 1 rfl (by omega) ?_)
        | (refine Ix.int (by omega) (by omega) ?_)
        | (refine Bd.nat (by omega) ?_)
        | (refine Bd.mk 0 rfl (by omega) ?_)
        | (refine Bd.mk 1 rfl (by omega) ?_)
        | (refine Bd.int (by omega) (by omega) ?_)
        | (refine Len.mk (by omega) ?_)
        | (refine Len.mk (by simp only [List.length_cons, List.length_nil]; omega) ?_)
        | (refine Ltn.mk (by omega) ?_)
        | (refine Both.mk ?_ ?_)
        | (refine MkS.vec ?_)
        | (refine (text_ok _ _).mono ?_; rintro _ _ _ ⟨rfl, rfl, rfl⟩)
        | (refine (rtext_ok _ _).mono ?_; rintro _ _ _ ⟨rfl, rfl, rfl⟩)
        | (refine (vars_ok _ _).mono ?_; rintro _ _ _ ⟨rfl, rfl, rfl⟩)
        | (refine (known_ok _ _).mono ?_; rintro _ _ _ ⟨rfl, rfl, rfl⟩)
        | (refine (parse_ok _ _).mono ?_; rintro _ _ _ ⟨rfl, rfl, rfl⟩)
        | (refine (hw _ _).mono ?_; rintro _ _ _ ⟨rfl, rfl, rfl⟩)
        | (refine Br.tr (by decide +kernel) ?_)
        | (refine Br.fa (by decide +kernel) ?_)
        | (refine Br.any (fun _ => ?_) (fun _ => ?_)))
    all_goals (conv => whnf)
    all_goals exact VLe.rfl
  · rw [h] at hw
    refine ret_frz rfl ?_
    refine fn_rule mixed Tryz.func6 rfl hc6 hr6 rfl ?_
    repeat' ((conv => whnf); first
        | (refine Br.bytes ?_)
        | (refine Br.tt ?_)
        | (refine Br.ff ?_)
        | (refine Br.dec (fun _ => ?_) (fun _ => ?_) <;> first | (exfalso; omega) | skip)
        | (refine Br.beq (fun _ => ?_) (fun _ => ?_) <;> first | (exfalso; omega) | skip)
        | (refine Br.bne (fun _ => ?_) (fun _ => ?_) <;> first | (exfalso; omega) | skip)
        | (refine Br.nbeq (fun _ => ?_) (fun _ => ?_) <;> first | (exfalso; omega) | skip)
        | (refine Br.nble (fun _ => ?_) (fun _ => ?_) <;> first | (exfalso; omega) | skip)
        | (refine Ar.i64 (by omega) (by omega) ?_)
        | (refine Ar.u32 (by omega) (by omega) ?_)
        | (refine Ar.sh1 (by omega) ?_)
        | (refine Ar.u64 (by omega) (by omega) ?_)
        | (refine Sv.mk _ rfl ?_)
        | (refine Nz.mk (by omega) ?_)
        | (refine Nn.mk (by omega) ?_)
        | (refine Ix.nat (by omega) ?_)
        | (refine Ix.ofNat (by omega) ?_)
        | (refine Ix.mk 0 rfl (by omega) ?_)
        | (refine Ix.mk 1 rfl (by omega) ?_)
        | (refine Ix.int (by omega) (by omega) ?_)
        | (refine Bd.nat (by omega) ?_)
        | (refine Bd.mk 0 rfl (by omega) ?_)
        | (refine Bd.mk 1 rfl (by omega) ?_)
        | (refine Bd.int (by omega) (by omega) ?_)
        | (refine Len.mk (by omega) ?_)
        | (refine Len.mk (by simp only [List.length_cons, List.length_nil]; omega) ?_)
        | (refine Ltn.mk (by omega) ?_)
        | (refine Both.mk ?_ ?_)
        | (refine MkS.vec ?_)
        | (refine (text_ok _ _).mono ?_; rintro _ _ _ ⟨rfl, rfl, rfl⟩)
        | (refine (rtext_ok _ _).mono ?_; rintro _ _ _ ⟨rfl, rfl, rfl⟩)
        | (refine (vars_ok _ _).mono ?_; rintro _ _ _ ⟨rfl, rfl, rfl⟩)
        | (refine (known_ok _ _).mono ?_; rintro _ _ _ ⟨rfl, rfl, rfl⟩)
        | (refine (parse_ok _ _).mono ?_; rintro _ _ _ ⟨rfl, rfl, rfl⟩)
        | (refine (hw _ _).mono ?_; rintro _ _ _ ⟨rfl, rfl, rfl⟩)
        | (refine Br.tr (by decide +kernel) ?_)
        | (refine Br.fa (by decide +kernel) ?_)
        | (refine Br.any (fun _ => ?_) (fun _ => ?_)))
    all_goals (conv => whnf)
    all_goals exact VLe.rfl
  · rw [h] at hw
    refine ret_frz rfl ?_
    refine fn_rule mixed Tryz.func6 rfl hc6 hr6 rfl ?_
    repeat' ((conv => whnf); first
        | (refine Br.bytes ?_)
        | (refine Br.tt ?_)
        | (refine Br.ff ?_)
        | (refine Br.dec (fun _ => ?_) (fun _ => ?_) <;> first | (exfalso; omega) | skip)
        | (refine Br.beq (fun _ => ?_) (fun _ => ?_) <;> first | (exfalso; omega) | skip)
        | (refine Br.bne (fun _ => ?_) (fun _ => ?_) <;> first | (exfalso; omega) | skip)
        | (refine Br.nbeq (fun _ => ?_) (fun _ => ?_) <;> first | (exfalso; omega) | skip)
        | (refine Br.nble (fun _ => ?_) (fun _ => ?_) <;> first | (exfalso; omega) | skip)
        | (refine Ar.i64 (by omega) (by omega) ?_)
        | (refine Ar.u32 (by omega) (by omega) ?_)
        | (refine Ar.sh1 (by omega) ?_)
        | (refine Ar.u64 (by omega) (by omega) ?_)
        | (refine Sv.mk _ rfl ?_)
        | (refine Nz.mk (by omega) ?_)
        | (refine Nn.mk (by omega) ?_)
        | (refine Ix.nat (by omega) ?_)
        | (refine Ix.ofNat (by omega) ?_)
        | (refine Ix.mk 0 rfl (by omega) ?_)
        | (refine Ix.mk 1 rfl (by omega) ?_)
        | (refine Ix.int (by omega) (by omega) ?_)
        | (refine Bd.nat (by omega) ?_)
        | (refine Bd.mk 0 rfl (by omega) ?_)
        | (refine Bd.mk 1 rfl (by omega) ?_)
        | (refine Bd.int (by omega) (by omega) ?_)
        | (refine Len.mk (by omega) ?_)
        | (refine Len.mk (by simp only [List.length_cons, List.length_nil]; omega) ?_)
        | (refine Ltn.mk (by omega) ?_)
        | (refine Both.mk ?_ ?_)
        | (refine MkS.vec ?_)
        | (refine (text_ok _ _).mono ?_; rintro _ _ _ ⟨rfl, rfl, rfl⟩)
        | (refine (rtext_ok _ _).mono ?_; rintro _ _ _ ⟨rfl, rfl, rfl⟩)
        | (refine (vars_ok _ _).mono ?_; rintro _ _ _ ⟨rfl, rfl, rfl⟩)
        | (refine (known_ok _ _).mono ?_; rintro _ _ _ ⟨rfl, rfl, rfl⟩)
        | (refine (parse_ok _ _).mono ?_; rintro _ _ _ ⟨rfl, rfl, rfl⟩)
        | (refine (hw _ _).mono ?_; rintro _ _ _ ⟨rfl, rfl, rfl⟩)
        | (refine Br.tr (by decide +kernel) ?_)
        | (refine Br.fa (by decide +kernel) ?_)
        | (refine Br.any (fun _ => ?_) (fun _ => ?_)))
    all_goals (conv => whnf)
    all_goals exact VLe.rfl
end Go.Proofs.YtcnpplcfabdoaaaGreat
