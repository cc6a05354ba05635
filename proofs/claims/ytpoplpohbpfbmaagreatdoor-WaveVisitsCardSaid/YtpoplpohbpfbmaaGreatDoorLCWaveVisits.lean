/-
 WaveVisits: for every input the call returns true, and every argument reads as it did. Its one condition: math/bits' table reads as the program's text lays it, to which the card ties it.
-/
import Derived.Test.YtpoplpohbpfbmaaGreatDoorCK1
import Derived.Test.YtpoplpohbpfbmaaGreatDoorWV9
import Derived.Test.YtpoplpohbpfbmaaGreatDoorCards
import Derived.Test.YtpoplpohbpfbmaaGreatDoorTie
import Derived.SevenTiedAt
namespace Go.Proofs.YtpoplpohbpfbmaaGreatDoor
open Go.Eng Go.ChangeShapes Go.WideShapes Go.ChangeAt Go.WideMaps Go.WideElems Go.RowKit
set_option maxRecDepth 100000
set_option linter.unusedVariables false
theorem waveVisits_lifted (os:Os) (started:os.Started) (H:Type) (enc:TypeId×Value->H) :
 ReturnsInHanded {} Tryz.checked os 3 .any (fun w args=>(Rows.waveVisitsSpec.pre enc Tryz.prog Tryz.f3 [] false w args/\laidMetH Tryz.prog laidL w)/\sizedMet enc Tryz.prog Tryz.f3 (OpenSpec.ofChange Rows.waveVisitsSpec) false w args)
  (Rows.waveVisitsSpec.post enc Tryz.prog Tryz.f3 false true false false):=by
 refine returnsInHanded_of_change_and (C:=Tryz.checked) (X:=fun w _=>laidMetH Tryz.prog laidL w) (fun _ _ _ hh h=>h.of_heap hh) ownk started (by kernel_rfl) Tryz.func3
  (ChangeSpec.witness_shaped (enc:=enc) (C:=Tryz.checked) (os:=os) (X:=fun w _=>laidMetH Tryz.prog laidL w) false (World.doorLaid Tryz.prog 400 os) #[.agg #[.int .i64 0,.slice none 0 0,.slice none 0 0,.slice none 0 0,.bool false,.bool false],.bool false,.slice none 0 0] 8 rfl (World.shaped_of_RefB (by kernel_rfl) (by kernel_rfl)) (by kernel_rfl) (by kernel_rfl) (by kernel_rfl) (door_met os _)) ?_
 intro W base args ds gs before hval0 hW _ _ hL _;have hval:∀(j:Nat) t v,Tryz.f3.params[j]?=some t->args[j]?=some v->Value.okWide Tryz.prog W .any base t v:=hval0;have hW':=hW;obtain⟨p,q,hA0,hV,rfl,hfz,hnd⟩:=hW;have hA:DataW.TrodAll enc Tryz.prog W 0 (fun _=>true) true Tryz.f3.params.toList args.toList ds p:=hA0;rw[Tryz.params3] at hA hval;obtain⟨v0,vs0,d0,ds0,p0,q0,hargs,rfl,rfl,h0,r0⟩:=trodAll_cons hA;obtain⟨v1,vs1,d1,ds1,p1,q1,hargs1,rfl,rfl,h1,r1⟩:=trodAll_cons r0;obtain⟨v2,vs2,d2,ds2,p2,q2,hargs2,rfl,rfl,h2,r2⟩:=trodAll_cons r1;obtain⟨rfl,rfl,rfl⟩:=trodAll_nil r2;subst hargs2;subst hargs1;obtain rfl:args=#[v0,v1,v2]:=by cases args;simp_all
 obtain⟨rfl,rfl⟩:=trodVars_none hV;obtain⟨x0,b0,e0⟩:=den_net (aggN_of_ok (hval 0 24 v0 rfl rfl)) h0;obtain⟨x1,e1⟩:=den_b (hval 1 4 v1 rfl rfl) h1;obtain⟨x2,b2,e2⟩:=den_us (sliceU_of_ok (hval 2 25 v2 rfl rfl)) h2;refine(retG_calls (args:=#[v0,v1,v2]) (W:=W) (lawWVisits x0 b0 x1 x2 b2) rfl (of_laid hL) ?_).mono ?_
 . intro i v u hv hu
   match i,hv,hu with
   | 0,hv,hu=>simp at hv hu;subst hv hu;exact e0
   | 1,hv,hu=>simp at hv hu;subst hv hu;exact e1
   | 2,hv,hu=>simp at hv hu;subst hv hu;exact e2
   | i+3,hv,hu=>simp at hv
 . rintro e W' ⟨rfl,hb⟩;refine⟨_,rfl,post_law (tb:=4) laidB rfl hW' ?_ (by kernel_rfl) Tryz.underlying4 rfl rfl rfl hb⟩;rw[Tryz.params3];intro t ht;simp at ht;rcases ht with rfl|rfl|rfl
   all_goals first|exact⟨read24,size24⟩|exact⟨read4,size4⟩|exact⟨read25,size25⟩
theorem waveVisits_row:Rows.WaveVisitsSaid :=
 OpenClaim.holds_of_wide 3 Tryz.f3 rfl rfl rfl rfl rfl rfl rfl ⟨rfl,rfl,rfl,rfl,rfl⟩ rfl rfl rfl rfl rfl (by kernel_rfl) Tryz.func3 (by kernel_rfl)
  (of_decide_eq_true (by kernel_rfl)) (by unfold Func.isWrapper;first|(rw[if_pos (by decide +kernel)];kernel_rfl)|(rw[if_neg (by decide +kernel)];exact⟨rfl,rfl⟩))
  (fun os started H enc _=>waveVisits_lifted os started H enc)
theorem waveVisits_holds:Rows.WaveVisitsCardSaid :=
 Claim7.holds_tied_plain_at .later [] [.data] true (true, "608c09d8ba33eab98931a36c63befa3ceaed180b5c80a2fe58f72e783de36a54") true
  waveVisits_row (fun _ h=>by cases h) (by kernel_rfl) (fun _ h=>by cases h) waveVisits_row_tie rfl ⟨rfl,rfl⟩ (by kernel_rfl) rfl
  (fun f fn hf hfn=>by
    obtain rfl:f=3:=Option.some.inj ((show Tryz.prog.funcNamed "selfstab/selfstablaw35.WaveVisits"=some 3 by kernel_rfl).symm.trans hf) |>.symm
    obtain rfl:fn=Tryz.f3:=(Option.some.inj (Tryz.func3.symm.trans hfn)).symm;refine⟨by kernel_rfl,fun j t ht=>?_⟩;rw[Tryz.params3] at ht;have ht2:=List.mem_of_getElem? (by simpa using ht);simp at ht2;rcases ht2 with rfl|rfl|rfl
    all_goals first|exact stand24|exact stand4|exact stand25)
  (by kernel_rfl)
end Go.Proofs.YtpoplpohbpfbmaaGreatDoor
