/-
  The compiled forms of the functions, printed by a program (wip/tools/seat.py), and that the compiler yields just these.
-/
import Derived.Test.YtinmenifoebfmaaGreatEngQ
import Derived.Test.YtinmenifoebfmaaGreatProg
import Derived.KernelRfl
namespace Go.Proofs.YtinmenifoebfmaaGreat
open Go.Eng
set_option maxRecDepth 100000

abbrev o (d : Nat) (x : SOp) : SI := ⟨some d, x, none⟩
abbrev on (x : SOp) : SI := ⟨none, x, none⟩
abbrev ot (d g : Nat) (x : SOp) : SI := ⟨some d, x, some (g, true)⟩
abbrev of (d g : Nat) (x : SOp) : SI := ⟨some d, x, some (g, false)⟩
abbrev ki (n : Int) : X := .k (.int .i64 n)
abbrev bn (op : BinOp) (a b : X) : SOp := .p (.bin .num op a b)
abbrev pm (n : Nat) : SOp := .p (.mv (.t n))
abbrev ln (n : Nat) : SOp := .p (.len (.t n))
abbrev at_ (n : Nat) : SOp := .asg (.t n)
abbrev so (l : List SI) (c : SC) : SC := .seq (.ops l) c
abbrev ef (i : Nat) (s : SI) : DI := .eff i [] [] s

theorem mixed : Tryz.prog.follows .mixedOrders = true := by kernel_rfl

/-- selfstab/selfstablaw36.ClockJudges -/
def sc7 : SC := (so [(o 2 (.box (.t 0))), (o 4 (.asg (.k (.bool false))))] (.seq (so [(o 5 (.load (.some 2) (.t 2))), (mv 6 1), (o 7 (.call 27 [(.t 5), (.t 6)]))] (.cond (.t 7) (so [(o 8 (.call 25 [])), (o 4 (at_ 8))] .ret) .skip)) (.seq (.draw [(ef 0 (o 9 (.call 25 []))), (.op 1 (mv 10 9)), (.op 2 (ot 11 10 (.load (.some 2) (.t 2)))), (.op 4 (ot 13 10 (.load (.some 2) (.t 2)))), (.eff 3 [] [((.some 2), (2, 13))] (ot 12 10 (.call 28 [(.t 11)]))), (ef 5 (ot 14 10 (.call 29 [(.t 13)]))), (.op 6 (ot 15 10 (.p (.bin .bool .eql (.t 12) (.t 14))))), (.op 7 (o 16 (.p (.pick (.t 10) (.t 15) (.k (.bool false)))))), (.op 8 (mv 17 16)), (.op 9 (ot 18 17 (.load (.some 2) (.t 2)))), (.op 10 (ot 19 17 (pm 1))), (.op 12 (ot 21 17 (.load (.some 2) (.t 2)))), (.op 13 (ot 22 17 (pm 1))), (.eff 11 [] [((.some 2), (2, 21))] (ot 20 17 (.call 30 [(.t 18), (.t 19)]))), (ef 14 (ot 23 17 (.call 31 [(.t 21), (.t 22)]))), (.op 15 (ot 24 17 (.p (.bin .bool .eql (.t 20) (.t 23))))), (.op 16 (o 25 (.p (.pick (.t 17) (.t 24) (.k (.bool false)))))), (.op 17 (mv 26 25)), (.op 18 (ot 27 26 (.load (.some 2) (.t 2)))), (.op 20 (ot 29 26 (.load (.some 2) (.t 2)))), (.eff 19 [] [((.some 2), (2, 29))] (ot 28 26 (.call 32 [(.t 27)]))), (ef 21 (ot 30 26 (.call 33 [(.t 29)]))), (.op 22 (ot 31 26 (.p (.bin (.flat [.int, .bool, .bool, .int, .int]) .eql (.t 28) (.t 30))))), (.op 23 (o 32 (.p (.pick (.t 26) (.t 31) (.k (.bool false)))))), (.op 24 (mv 33 32)), (.op 25 (ot 34 33 (.load (.some 2) (.t 2)))), (.op 26 (ot 35 33 (pm 1))), (.op 28 (ot 37 33 (.load (.some 2) (.t 2)))), (.op 29 (ot 38 33 (pm 1))), (.eff 27 [] [((.some 2), (2, 37))] (ot 36 33 (.call 35 [(.t 34), (.t 35)]))), (ef 30 (ot 39 33 (.call 36 [(.t 37), (.t 38)]))), (ef 31 (ot 40 33 (.call 34 [(.t 36), (.t 39)]))), (.op 32 (o 41 (.p (.pick (.t 33) (.t 40) (.k (.bool false)))))), (ef 33 (o 4 (at_ 41)))]) .ret)))
def rv7 : List RV := [(.tmp 4)]
theorem hc7 : cCode Tryz.prog Tryz.f7.ntmps (Tryz.f7.body.getD .skip) = some sc7 := by kernel_rfl
theorem hr7 : cRes Tryz.prog Tryz.f7.results.toList = some rv7 := by kernel_rfl

/-- selfstab/program.Parse -/
noncomputable def sc9 : SC := (cCode Tryz.prog Tryz.f9.ntmps (Tryz.f9.body.getD .skip)).getD .skip
def rv9 : List RV := [(.cell 2 (.some 3)), (.tmp 3), (.tmp 4)]
theorem hc9 : cCode Tryz.prog Tryz.f9.ntmps (Tryz.f9.body.getD .skip) = some sc9 := by kernel_rfl
theorem hr9 : cRes Tryz.prog Tryz.f9.results.toList = some rv9 := by kernel_rfl

/-- selfstab/selfstabworld.Within -/
noncomputable def sc12 : SC := (cCode Tryz.prog Tryz.f12.ntmps (Tryz.f12.body.getD .skip)).getD .skip
def rv12 : List RV := [(.tmp 4)]
theorem hc12 : cCode Tryz.prog Tryz.f12.ntmps (Tryz.f12.body.getD .skip) = some sc12 := by kernel_rfl
theorem hr12 : cRes Tryz.prog Tryz.f12.results.toList = some rv12 := by kernel_rfl

/-- selfstab/clock.Text -/
noncomputable def sc23 : SC := (cCode Tryz.prog Tryz.f23.ntmps (Tryz.f23.body.getD .skip)).getD .skip
def rv23 : List RV := [(.tmp 0)]
theorem hc23 : cCode Tryz.prog Tryz.f23.ntmps (Tryz.f23.body.getD .skip) = some sc23 := by kernel_rfl
theorem hr23 : cRes Tryz.prog Tryz.f23.results.toList = some rv23 := by kernel_rfl

/-- selfstab/selfstabref36.Vars -/
def sc24 : SC := (so [(o 0 (.asg (.k .nilslice)))] (so [(o 1 (.call 64 [])), (o 2 (.call 58 [(.k (.str (ByteArray.mk (Array.mk [120])))), (ki 3), (ki 0), (ki 0)])), (o 3 (.bslice 6 1 [(.t 2)])), (o 4 (.app 6 56 (.t 1) (.t 3))), (o 0 (at_ 4))] .ret))
def rv24 : List RV := [(.tmp 0)]
theorem hc24 : cCode Tryz.prog Tryz.f24.ntmps (Tryz.f24.body.getD .skip) = some sc24 := by kernel_rfl
theorem hr24 : cRes Tryz.prog Tryz.f24.results.toList = some rv24 := by kernel_rfl

/-- selfstab/selfstablaw36.known -/
noncomputable def sc25 : SC := (cCode Tryz.prog Tryz.f25.ntmps (Tryz.f25.body.getD .skip)).getD .skip
def rv25 : List RV := [(.tmp 0)]
theorem hc25 : cCode Tryz.prog Tryz.f25.ntmps (Tryz.f25.body.getD .skip) = some sc25 := by kernel_rfl
theorem hr25 : cRes Tryz.prog Tryz.f25.results.toList = some rv25 := by kernel_rfl

/-- selfstab/selfstabref36.Text -/
noncomputable def sc26 : SC := (cCode Tryz.prog Tryz.f26.ntmps (Tryz.f26.body.getD .skip)).getD .skip
def rv26 : List RV := [(.tmp 0)]
theorem hc26 : cCode Tryz.prog Tryz.f26.ntmps (Tryz.f26.body.getD .skip) = some sc26 := by kernel_rfl
theorem hr26 : cRes Tryz.prog Tryz.f26.results.toList = some rv26 := by kernel_rfl

/-- selfstab/selfstablaw36.large -/
def sc27 : SC := (so [(o 2 (.box (.t 0))), (o 4 (.asg (.k (.bool false))))] (so [(fl 5 1 2), (ld 6 5), (o 7 (ln 6)), (o 8 (bn .gtr (.t 7) (ki 60))), (mv 9 8), (of 10 9 (.p (.fld 0 (.t 2)))), (of 11 9 (.load none (.t 10))), (of 12 9 (ln 11)), (of 13 9 (bn .gtr (.t 12) (ki 60))), (o 14 (.p (.pick (.t 9) (.k (.bool true)) (.t 13)))), (mv 15 14), (of 16 15 (pm 1)), (of 17 15 (ln 16)), (of 18 15 (bn .gtr (.t 17) (ki 60))), (o 19 (.p (.pick (.t 15) (.k (.bool true)) (.t 18)))), (o 4 (at_ 19))] .ret))
def rv27 : List RV := [(.tmp 4)]
theorem hc27 : cCode Tryz.prog Tryz.f27.ntmps (Tryz.f27.body.getD .skip) = some sc27 := by kernel_rfl
theorem hr27 : cRes Tryz.prog Tryz.f27.results.toList = some rv27 := by kernel_rfl

/-- selfstab/clock.Fit -/
def sc28 : SC := (so [(o 1 (.box (.t 0))), (o 2 (.asg (.k (.bool false))))] (so [(o 3 (.load (.some 2) (.t 1))), (o 4 (.call 65 [(.t 3)])), (o 2 (at_ 4))] .ret))
def rv28 : List RV := [(.tmp 2)]
theorem hc28 : cCode Tryz.prog Tryz.f28.ntmps (Tryz.f28.body.getD .skip) = some sc28 := by kernel_rfl
theorem hr28 : cRes Tryz.prog Tryz.f28.results.toList = some rv28 := by kernel_rfl

/-- selfstab/selfstabref36.Fit -/
def sc29 : SC := (so [(o 1 (.box (.t 0))), (o 2 (.asg (.k (.bool false))))] (so [(o 3 (.load (.some 2) (.t 1))), (o 4 (.call 66 [(.t 3)])), (o 2 (at_ 4))] .ret))
def rv29 : List RV := [(.tmp 2)]
theorem hc29 : cCode Tryz.prog Tryz.f29.ntmps (Tryz.f29.body.getD .skip) = some sc29 := by kernel_rfl
theorem hr29 : cRes Tryz.prog Tryz.f29.results.toList = some rv29 := by kernel_rfl

/-- selfstab/clock.Legit -/
def sc30 : SC := (so [(o 2 (.box (.t 0))), (o 4 (.asg (.k (.bool false))))] (.seq (.seq (.draw [(.op 0 (o 7 (.load (.some 2) (.t 2)))), (.op 1 (mv 8 1)), (ef 2 (o 9 (.call 67 [(.t 7), (.t 8)]))), (.op 3 (o 10 (.p (.un .not (.t 9))))), (.op 4 (mv 11 10)), (.op 5 (of 12 11 (.load (.some 2) (.t 2)))), (.op 6 (of 13 11 (pm 1))), (.eff 7 [] [((.some 2), (2, 12))] (of 14 11 (.call 69 [(.t 13)]))), (ef 8 (of 15 11 (.call 68 [(.t 12), (.t 14)]))), (.op 9 (of 16 11 (.p (.un .not (.t 15))))), (.op 10 (o 17 (.p (.pick (.t 11) (.k (.bool true)) (.t 16)))))]) (.cond (.t 17) (so [(o 4 (.asg (.k (.bool false))))] .ret) .skip)) (.seq (so [(o 18 (.load (.some 2) (.t 2))), (mv 19 1), (o 20 (.call 70 [(.t 18), (.t 19), (ki 1)])), (o 21 (ln 20)), (o 22 (.p (.mv (ki 0))))] (.block 0 (.loop (so [(o 23 (bn .lss (.t 22) (.t 21)))] (.seq (.cond (.t 23) .skip (.exit 0)) (.seq (.block 1 (so [(mv 24 22), (o 25 (.p (.ixs 1 (.t 20) (.t 22)))), (ld 26 25), (o 5 (at_ 24)), (o 6 (at_ 26))] (.seq (.draw [(.op 0 (mv 27 6)), (.op 1 (o 28 (bn .geq (.t 27) (ki 0)))), (.op 2 (mv 29 28)), (.op 3 (ot 30 29 (pm 1))), (.op 4 (ot 31 29 (pm 6))), (.op 5 (ot 32 29 (.p (.ixs 1 (.t 30) (.t 31))))), (.op 6 (ot 33 29 (.load none (.t 32)))), (.op 7 (ot 34 29 (.p (.ixs 1 (.t 33) (ki 2))))), (.op 8 (ot 35 29 (.load none (.t 34)))), (.op 9 (ot 36 29 (pm 1))), (.op 10 (ot 37 29 (pm 5))), (.op 11 (ot 38 29 (.p (.ixs 1 (.t 36) (.t 37))))), (.op 12 (ot 39 29 (.load none (.t 38)))), (.op 13 (ot 40 29 (.p (.ixs 1 (.t 39) (ki 2))))), (.op 14 (ot 41 29 (.load none (.t 40)))), (.op 15 (ot 42 29 (bn .sub (.t 35) (.t 41)))), (.op 16 (ot 43 29 (bn .add (.t 42) (ki 4)))), (.op 17 (ot 44 29 (bn .rem (.t 43) (ki 4)))), (.op 18 (ot 45 29 (bn .gtr (.t 44) (ki 1)))), (.op 19 (o 46 (.p (.pick (.t 29) (.t 45) (.k (.bool false))))))]) (.cond (.t 46) (so [(o 4 (.asg (.k (.bool false))))] .ret) .skip)))) (.ops [(o 47 (bn .add (.t 22) (ki 1))), (mv 22 47)]))))))) (so [(o 4 (.asg (.k (.bool true))))] .ret))))
def rv30 : List RV := [(.tmp 4)]
theorem hc30 : cCode Tryz.prog Tryz.f30.ntmps (Tryz.f30.body.getD .skip) = some sc30 := by kernel_rfl
theorem hr30 : cRes Tryz.prog Tryz.f30.results.toList = some rv30 := by kernel_rfl

/-- selfstab/selfstabref36.Legit -/
def sc31 : SC := (so [(o 2 (.box (.t 0))), (o 4 (.asg (.k (.bool false))))] (.seq (.seq (.draw [(.op 0 (o 7 (.load (.some 2) (.t 2)))), (ef 1 (o 8 (.call 29 [(.t 7)]))), (.op 2 (o 9 (.p (.un .not (.t 8))))), (.op 3 (mv 10 9)), (.op 4 (of 11 10 (.load (.some 2) (.t 2)))), (.op 5 (of 12 10 (pm 1))), (.eff 6 [] [((.some 2), (2, 11))] (of 13 10 (.call 24 []))), (ef 7 (of 14 10 (.call 71 [(.t 11), (.t 12), (.t 13)]))), (.op 8 (of 15 10 (.p (.un .not (.t 14))))), (.op 9 (o 16 (.p (.pick (.t 10) (.k (.bool true)) (.t 15))))), (.op 10 (mv 17 16)), (.op 11 (of 18 17 (.load (.some 2) (.t 2)))), (.op 12 (of 19 17 (pm 1))), (ef 13 (of 20 17 (.call 72 [(.t 18), (.t 19), (ki 0), (ki 0), (ki 1)]))), (.op 14 (of 21 17 (.p (.un .not (.t 20))))), (.op 15 (o 22 (.p (.pick (.t 17) (.k (.bool true)) (.t 21)))))]) (.cond (.t 22) (so [(o 4 (.asg (.k (.bool false))))] .ret) .skip)) (so [(o 23 (.load (.some 2) (.t 2))), (mv 24 1), (o 25 (.call 73 [(.t 23), (.t 24), (ki 1)])), (o 5 (at_ 25))] (.seq (so [(o 6 (.asg (ki 1)))] (.block 0 (.loop (.seq (so [(mv 26 6), (mv 27 1), (o 28 (ln 27)), (o 29 (bn .lss (.t 26) (.t 28)))] (.cond (.t 29) .skip (.exit 0))) (.seq (.block 1 (.seq (.draw [(.op 0 (mv 32 1)), (.op 1 (mv 33 5)), (.op 2 (mv 34 6)), (.op 3 (o 35 (.p (.ixs 1 (.t 33) (.t 34))))), (.op 4 (ld 36 35)), (.op 5 (o 37 (.p (.ixs 1 (.t 32) (.t 36))))), (.op 6 (ld 38 37)), (.op 7 (o 39 (.p (.ixs 1 (.t 38) (ki 2))))), (.op 8 (ld 40 39)), (.op 9 (mv 41 1)), (.op 10 (mv 42 6)), (.op 11 (o 43 (.p (.ixs 1 (.t 41) (.t 42))))), (.op 12 (ld 44 43)), (.op 13 (o 45 (.p (.ixs 1 (.t 44) (ki 2))))), (.op 14 (ld 46 45)), (.op 15 (o 47 (bn .sub (.t 40) (.t 46)))), (.op 16 (o 48 (bn .add (.t 47) (ki 4)))), (.op 17 (o 49 (bn .rem (.t 48) (ki 4)))), (.op 18 (o 50 (bn .gtr (.t 49) (ki 1))))]) (.cond (.t 50) (so [(o 4 (.asg (.k (.bool false))))] .ret) .skip))) (.ops [(mv 30 6), (o 31 (bn .add (.t 30) (ki 1))), (o 6 (at_ 31))])))))) (so [(o 4 (.asg (.k (.bool true))))] .ret)))))
def rv31 : List RV := [(.tmp 4)]
theorem hc31 : cCode Tryz.prog Tryz.f31.ntmps (Tryz.f31.body.getD .skip) = some sc31 := by kernel_rfl
theorem hr31 : cRes Tryz.prog Tryz.f31.results.toList = some rv31 := by kernel_rfl

/-- selfstab/clock.Claim -/
def sc32 : SC := (so [(o 1 (.box (.t 0))), (o 2 (.alloc [(.int .i64 0), (.bool false), (.bool false), (.int .i64 0), (.int .i64 0)]))] (.seq (so [(o 4 (.load (.some 2) (.t 1))), (o 5 (.call 28 [(.t 4)])), (o 6 (.p (.un .not (.t 5))))] (.cond (.t 6) (so [(o 7 (.build [(.int .i64 0), (.bool false), (.bool false), (.int .i64 0), (.int .i64 0)] [])), (on (.store 5 (.t 2) (.t 7)))] .ret) .skip)) (so [(o 8 (.load (.some 2) (.t 1))), (o 9 (.call 74 [(.t 8), (ki 0)])), (o 3 (at_ 9))] (so [(mv 10 3), (o 11 (bn .add (.t 10) (ki 1))), (mv 12 3), (mv 13 3), (o 14 (bn .add (.t 13) (ki 1))), (o 15 (bn .mul (.t 12) (.t 14))), (o 16 (bn .quo (.t 15) (ki 2))), (o 17 (bn .add (.t 11) (.t 16))), (o 18 (.build [(.int .i64 0), (.bool false), (.bool false), (.int .i64 0), (.int .i64 0)] [(0, (1, (ki 3))), (1, (1, (.k (.bool true)))), (3, (1, (.t 17))), (4, (1, (.k (.int .i64 (-1)))))])), (on (.store 5 (.t 2) (.t 18)))] .ret))))
def rv32 : List RV := [(.cell 2 (.some 5))]
theorem hc32 : cCode Tryz.prog Tryz.f32.ntmps (Tryz.f32.body.getD .skip) = some sc32 := by kernel_rfl
theorem hr32 : cRes Tryz.prog Tryz.f32.results.toList = some rv32 := by kernel_rfl

/-- selfstab/selfstabref36.Claim -/
def sc33 : SC := (so [(o 1 (.box (.t 0))), (o 2 (.alloc [(.int .i64 0), (.bool false), (.bool false), (.int .i64 0), (.int .i64 0)]))] (.seq (so [(o 4 (.load (.some 2) (.t 1))), (o 5 (.call 29 [(.t 4)])), (o 6 (.p (.un .not (.t 5))))] (.cond (.t 6) (so [(o 7 (.build [(.int .i64 0), (.bool false), (.bool false), (.int .i64 0), (.int .i64 0)] [])), (on (.store 5 (.t 2) (.t 7)))] .ret) .skip)) (so [(o 8 (.load (.some 2) (.t 1))), (o 9 (.call 75 [(.t 8), (ki 0)])), (o 3 (at_ 9))] (so [(mv 10 3), (o 11 (bn .add (.t 10) (ki 1))), (mv 12 3), (mv 13 3), (o 14 (bn .add (.t 13) (ki 1))), (o 15 (bn .mul (.t 12) (.t 14))), (o 16 (bn .quo (.t 15) (ki 2))), (o 17 (bn .add (.t 11) (.t 16))), (o 18 (.build [(.int .i64 0), (.bool false), (.bool false), (.int .i64 0), (.int .i64 0)] [(0, (1, (ki 3))), (1, (1, (.k (.bool true)))), (3, (1, (.t 17))), (4, (1, (.k (.int .i64 (-1)))))])), (on (.store 5 (.t 2) (.t 18)))] .ret))))
def rv33 : List RV := [(.cell 2 (.some 5))]
theorem hc33 : cCode Tryz.prog Tryz.f33.ntmps (Tryz.f33.body.getD .skip) = some sc33 := by kernel_rfl
theorem hr33 : cRes Tryz.prog Tryz.f33.results.toList = some rv33 := by kernel_rfl

/-- selfstab/selfstablaw36.sameInts -/
def sc34 : SC := (so [(o 4 (.asg (.k (.bool false))))] (.seq (so [(mv 6 0), (o 7 (ln 6)), (mv 8 1), (o 9 (ln 8)), (o 10 (bn .neq (.t 7) (.t 9)))] (.cond (.t 10) (so [(o 4 (.asg (.k (.bool false))))] .ret) .skip)) (.seq (so [(o 5 (.asg (ki 0)))] (.block 0 (.loop (.seq (so [(mv 11 5), (mv 12 0), (o 13 (ln 12)), (o 14 (bn .lss (.t 11) (.t 13)))] (.cond (.t 14) .skip (.exit 0))) (.seq (.block 1 (.seq (.draw [(.op 0 (mv 17 0)), (.op 1 (mv 18 5)), (.op 2 (o 19 (.p (.ixs 1 (.t 17) (.t 18))))), (.op 3 (ld 20 19)), (.op 4 (mv 21 1)), (.op 5 (mv 22 5)), (.op 6 (o 23 (.p (.ixs 1 (.t 21) (.t 22))))), (.op 7 (ld 24 23)), (.op 8 (o 25 (bn .neq (.t 20) (.t 24))))]) (.cond (.t 25) (so [(o 4 (.asg (.k (.bool false))))] .ret) .skip))) (.ops [(mv 15 5), (o 16 (bn .add (.t 15) (ki 1))), (o 5 (at_ 16))])))))) (so [(o 4 (.asg (.k (.bool true))))] .ret))))
def rv34 : List RV := [(.tmp 4)]
theorem hc34 : cCode Tryz.prog Tryz.f34.ntmps (Tryz.f34.body.getD .skip) = some sc34 := by kernel_rfl
theorem hr34 : cRes Tryz.prog Tryz.f34.results.toList = some rv34 := by kernel_rfl

/-- selfstab/clock.Phases -/
def sc35 : SC := (so [(o 2 (.box (.t 0))), (o 4 (.asg (.k .nilslice)))] (.seq (so [(o 8 (.load (.some 2) (.t 2))), (mv 9 1), (o 10 (.call 67 [(.t 8), (.t 9)])), (o 11 (.p (.un .not (.t 10))))] (.cond (.t 11) (so [(o 4 (.asg (.k .nilslice)))] .ret) .skip)) (so [(mv 12 1), (o 13 (ln 12)), (o 14 (.xt (Go.Eng.XOp.mks 1 8 [(.int .i64 0)] (.t 13)))), (o 5 (at_ 14))] (.seq (so [(mv 15 1), (o 16 (ln 15)), (o 17 (.p (.mv (ki 0))))] (.block 0 (.loop (so [(o 18 (bn .lss (.t 17) (.t 16)))] (.seq (.cond (.t 18) .skip (.exit 0)) (.seq (.block 1 (so [(mv 19 17), (o 20 (.p (.ixs 1 (.t 15) (.t 17)))), (ld 21 20), (o 6 (at_ 19)), (o 7 (at_ 21))] (.ops [(mv 22 5), (mv 23 6), (mv 24 7), (o 25 (.p (.ixs 1 (.t 24) (ki 2)))), (ld 26 25), (o 27 (.p (.ixs 1 (.t 22) (.t 23)))), (on (.store 1 (.t 27) (.t 26)))]))) (.ops [(o 28 (bn .add (.t 17) (ki 1))), (mv 17 28)]))))))) (so [(mv 29 5), (o 4 (at_ 29))] .ret)))))
def rv35 : List RV := [(.tmp 4)]
theorem hc35 : cCode Tryz.prog Tryz.f35.ntmps (Tryz.f35.body.getD .skip) = some sc35 := by kernel_rfl
theorem hr35 : cRes Tryz.prog Tryz.f35.results.toList = some rv35 := by kernel_rfl

/-- selfstab/selfstabref36.Phases -/
def sc36 : SC := (so [(o 2 (.box (.t 0))), (o 4 (.asg (.k .nilslice)))] (.seq (.seq (.draw [(.op 0 (o 7 (.load (.some 2) (.t 2)))), (ef 1 (o 8 (.call 29 [(.t 7)]))), (.op 2 (o 9 (.p (.un .not (.t 8))))), (.op 3 (mv 10 9)), (.op 4 (of 11 10 (.load (.some 2) (.t 2)))), (.op 5 (of 12 10 (pm 1))), (.eff 6 [] [((.some 2), (2, 11))] (of 13 10 (.call 24 []))), (ef 7 (of 14 10 (.call 71 [(.t 11), (.t 12), (.t 13)]))), (.op 8 (of 15 10 (.p (.un .not (.t 14))))), (.op 9 (o 16 (.p (.pick (.t 10) (.k (.bool true)) (.t 15)))))]) (.cond (.t 16) (so [(o 4 (.asg (.k .nilslice)))] .ret) .skip)) (so [(o 5 (.asg (.k .nilslice)))] (.seq (so [(o 6 (.asg (ki 0)))] (.block 0 (.loop (.seq (so [(mv 17 6), (mv 18 1), (o 19 (ln 18)), (o 20 (bn .lss (.t 17) (.t 19)))] (.cond (.t 20) .skip (.exit 0))) (.seq (.block 1 (.ops [(mv 23 5), (mv 24 1), (mv 25 6), (o 26 (.p (.ixs 1 (.t 24) (.t 25)))), (ld 27 26), (o 28 (.p (.ixs 1 (.t 27) (ki 2)))), (ld 29 28), (o 30 (.bslice 1 1 [(.t 29)])), (o 31 (.app 1 8 (.t 23) (.t 30))), (o 5 (at_ 31))])) (.ops [(mv 21 6), (o 22 (bn .add (.t 21) (ki 1))), (o 6 (at_ 22))])))))) (so [(mv 32 5), (o 4 (at_ 32))] .ret)))))
def rv36 : List RV := [(.tmp 4)]
theorem hc36 : cCode Tryz.prog Tryz.f36.ntmps (Tryz.f36.body.getD .skip) = some sc36 := by kernel_rfl
theorem hr36 : cRes Tryz.prog Tryz.f36.results.toList = some rv36 := by kernel_rfl

/-- selfstab/step.Enabled -/
noncomputable def sc42 : SC := (cCode Tryz.prog Tryz.f42.ntmps (Tryz.f42.body.getD .skip)).getD .skip
def rv42 : List RV := [(.tmp 6)]
theorem hc42 : cCode Tryz.prog Tryz.f42.ntmps (Tryz.f42.body.getD .skip) = some sc42 := by kernel_rfl
theorem hr42 : cRes Tryz.prog Tryz.f42.results.toList = some rv42 := by kernel_rfl

/-- selfstab/selfstabworld.Program -/
noncomputable def sc43 : SC := (cCode Tryz.prog Tryz.f43.ntmps (Tryz.f43.body.getD .skip)).getD .skip
def rv43 : List RV := [(.cell 2 (.some 3))]
theorem hc43 : cCode Tryz.prog Tryz.f43.ntmps (Tryz.f43.body.getD .skip) = some sc43 := by kernel_rfl
theorem hr43 : cRes Tryz.prog Tryz.f43.results.toList = some rv43 := by kernel_rfl

/-- selfstab/lexer.Scan -/
noncomputable def sc46 : SC := (cCode Tryz.prog Tryz.f46.ntmps (Tryz.f46.body.getD .skip)).getD .skip
def rv46 : List RV := [(.tmp 2), (.tmp 3), (.tmp 4)]
theorem hc46 : cCode Tryz.prog Tryz.f46.ntmps (Tryz.f46.body.getD .skip) = some sc46 := by kernel_rfl
theorem hr46 : cRes Tryz.prog Tryz.f46.results.toList = some rv46 := by kernel_rfl

/-- (*selfstab/program.reader).all -/
noncomputable def sc48 : SC := (cCode Tryz.prog Tryz.f48.ntmps (Tryz.f48.body.getD .skip)).getD .skip
def rv48 : List RV := []
theorem hc48 : cCode Tryz.prog Tryz.f48.ntmps (Tryz.f48.body.getD .skip) = some sc48 := by kernel_rfl
theorem hr48 : cRes Tryz.prog Tryz.f48.results.toList = some rv48 := by kernel_rfl

/-- selfstab/types.Check -/
noncomputable def sc49 : SC := (cCode Tryz.prog Tryz.f49.ntmps (Tryz.f49.body.getD .skip)).getD .skip
def rv49 : List RV := [(.tmp 2)]
theorem hc49 : cCode Tryz.prog Tryz.f49.ntmps (Tryz.f49.body.getD .skip) = some sc49 := by kernel_rfl
theorem hr49 : cRes Tryz.prog Tryz.f49.results.toList = some rv49 := by kernel_rfl

/-- (selfstab/selfstabworld.Net).Tree -/
noncomputable def sc51 : SC := (cCode Tryz.prog Tryz.f51.ntmps (Tryz.f51.body.getD .skip)).getD .skip
def rv51 : List RV := [(.cell 4 (.some 2))]
theorem hc51 : cCode Tryz.prog Tryz.f51.ntmps (Tryz.f51.body.getD .skip) = some sc51 := by kernel_rfl
theorem hr51 : cRes Tryz.prog Tryz.f51.results.toList = some rv51 := by kernel_rfl

/-- selfstab/selfstabref23.Pointer -/
def sc54 : SC := (so [(o 2 (.alloc [(.str (ByteArray.mk (Array.mk []))), (.int .i64 0), (.int .i64 0), (.int .i64 0), (.int .i64 0), (.int .i64 0)]))] (so [(mv 3 0), (o 4 (.build [(.str (ByteArray.mk (Array.mk []))), (.int .i64 0), (.int .i64 0), (.int .i64 0), (.int .i64 0), (.int .i64 0)] [(0, (1, (.t 3))), (1, (1, (ki 3)))])), (on (.store 6 (.t 2) (.t 4)))] .ret))
def rv54 : List RV := [(.cell 2 (.some 6))]
theorem hc54 : cCode Tryz.prog Tryz.f54.ntmps (Tryz.f54.body.getD .skip) = some sc54 := by kernel_rfl
theorem hr54 : cRes Tryz.prog Tryz.f54.results.toList = some rv54 := by kernel_rfl

/-- selfstab/selfstabref23.Number -/
def sc58 : SC := (so [(o 8 (.alloc [(.str (ByteArray.mk (Array.mk []))), (.int .i64 0), (.int .i64 0), (.int .i64 0), (.int .i64 0), (.int .i64 0)]))] (so [(mv 9 0), (mv 10 1), (mv 11 2), (mv 12 3), (o 13 (.build [(.str (ByteArray.mk (Array.mk []))), (.int .i64 0), (.int .i64 0), (.int .i64 0), (.int .i64 0), (.int .i64 0)] [(0, (1, (.t 9))), (1, (1, (ki 1))), (3, (1, (.t 10))), (4, (1, (.t 11))), (5, (1, (.t 12)))])), (on (.store 6 (.t 8) (.t 13)))] .ret))
def rv58 : List RV := [(.cell 8 (.some 6))]
theorem hc58 : cCode Tryz.prog Tryz.f58.ntmps (Tryz.f58.body.getD .skip) = some sc58 := by kernel_rfl
theorem hr58 : cRes Tryz.prog Tryz.f58.results.toList = some rv58 := by kernel_rfl

/-- selfstab/selfstabref23.Vars -/
def sc64 : SC := (so [(o 0 (.asg (.k .nilslice)))] (so [(o 1 (.call 58 [(.k (.str (ByteArray.mk (Array.mk [100])))), (ki 0), (ki 1), (ki 0)])), (o 2 (.call 54 [(.k (.str (ByteArray.mk (Array.mk [112]))))])), (o 3 (.bslice 6 2 [(.t 1), (.t 2)])), (o 0 (at_ 3))] .ret))
def rv64 : List RV := [(.tmp 0)]
theorem hc64 : cCode Tryz.prog Tryz.f64.ntmps (Tryz.f64.body.getD .skip) = some sc64 := by kernel_rfl
theorem hr64 : cRes Tryz.prog Tryz.f64.results.toList = some rv64 := by kernel_rfl

/-- selfstab/graph.Connected -/
def sc65 : SC := (so [(o 1 (.box (.t 0))), (o 2 (.asg (.k (.bool false))))] (.seq (so [(o 5 (.load (.some 2) (.t 1))), (o 6 (.call 116 [(.t 5)])), (o 7 (.p (.un .not (.t 6))))] (.cond (.t 7) (so [(o 2 (.asg (.k (.bool false))))] .ret) .skip)) (.seq (so [(o 8 (.load (.some 2) (.t 1))), (o 9 (.call 117 [(.t 8), (ki 0)])), (o 10 (ln 9)), (o 11 (.p (.mv (ki 0))))] (.block 0 (.loop (so [(o 12 (bn .lss (.t 11) (.t 10)))] (.seq (.cond (.t 12) .skip (.exit 0)) (.seq (.block 1 (so [(o 13 (.p (.ixs 1 (.t 9) (.t 11)))), (ld 14 13), (o 4 (at_ 14))] (so [(mv 15 4), (o 16 (bn .lss (.t 15) (ki 0)))] (.cond (.t 16) (so [(o 2 (.asg (.k (.bool false))))] .ret) .skip)))) (.ops [(o 17 (bn .add (.t 11) (ki 1))), (mv 11 17)]))))))) (so [(o 2 (.asg (.k (.bool true))))] .ret))))
def rv65 : List RV := [(.tmp 2)]
theorem hc65 : cCode Tryz.prog Tryz.f65.ntmps (Tryz.f65.body.getD .skip) = some sc65 := by kernel_rfl
theorem hr65 : cRes Tryz.prog Tryz.f65.results.toList = some rv65 := by kernel_rfl

/-- selfstab/selfstabref01.Connected -/
def sc66 : SC := (so [(o 1 (.box (.t 0))), (o 2 (.asg (.k (.bool false))))] (so [(o 3 (.load (.some 2) (.t 1))), (o 4 (.call 119 [(.t 3), (ki 0)])), (o 5 (.call 118 [(.t 4)])), (o 6 (bn .geq (.t 5) (ki 0))), (o 2 (at_ 6))] .ret))
def rv66 : List RV := [(.tmp 2)]
theorem hc66 : cCode Tryz.prog Tryz.f66.ntmps (Tryz.f66.body.getD .skip) = some sc66 := by kernel_rfl
theorem hr66 : cRes Tryz.prog Tryz.f66.results.toList = some rv66 := by kernel_rfl

/-- selfstab/clock.configuration -/
def sc67 : SC := (so [(o 2 (.box (.t 0))), (o 4 (.asg (.k (.bool false))))] (so [(o 5 (.load (.some 2) (.t 2))), (o 6 (.call 28 [(.t 5)])), (mv 7 6), (ot 8 7 (.load (.some 2) (.t 2))), (ot 9 7 (pm 1)), (ot 10 7 (.p (.fld 0 (.t 2)))), (ot 11 7 (.load none (.t 10))), (ot 12 7 (ln 11)), (ot 13 7 (.bslice 1 3 [(.t 12), (.k (.int .i64 (-1))), (ki 3)])), (ot 14 7 (.call 120 [(.t 8), (.t 9), (.t 13)])), (o 15 (.p (.pick (.t 7) (.t 14) (.k (.bool false))))), (o 4 (at_ 15))] .ret))
def rv67 : List RV := [(.tmp 4)]
theorem hc67 : cCode Tryz.prog Tryz.f67.ntmps (Tryz.f67.body.getD .skip) = some sc67 := by kernel_rfl
theorem hr67 : cRes Tryz.prog Tryz.f67.results.toList = some rv67 := by kernel_rfl

/-- selfstab/bfs.Legit -/
def sc68 : SC := (so [(o 2 (.box (.t 0))), (o 4 (.asg (.k (.bool false))))] (.seq (so [(o 8 (.load (.some 2) (.t 2))), (mv 9 1), (o 10 (.call 121 [(.t 8), (.t 9)])), (o 11 (.p (.un .not (.t 10))))] (.cond (.t 11) (so [(o 4 (.asg (.k (.bool false))))] .ret) .skip)) (so [(o 12 (.load (.some 2) (.t 2))), (o 13 (.call 122 [(.t 12), (ki 0)])), (o 5 (at_ 13))] (.seq (so [(mv 14 1), (o 15 (ln 14)), (o 16 (.p (.mv (ki 0))))] (.block 0 (.loop (so [(o 17 (bn .lss (.t 16) (.t 15)))] (.seq (.cond (.t 17) .skip (.exit 0)) (.seq (.block 1 (so [(mv 18 16), (o 19 (.p (.ixs 1 (.t 14) (.t 16)))), (ld 20 19), (o 6 (at_ 18)), (o 7 (at_ 20))] (so [(o 21 (.load (.some 2) (.t 2))), (mv 22 6), (mv 23 5), (mv 24 7), (o 25 (.call 123 [(.t 21), (.t 22), (.t 23), (.t 24)])), (o 26 (.p (.un .not (.t 25))))] (.cond (.t 26) (so [(o 4 (.asg (.k (.bool false))))] .ret) .skip)))) (.ops [(o 27 (bn .add (.t 16) (ki 1))), (mv 16 27)]))))))) (so [(o 4 (.asg (.k (.bool true))))] .ret)))))
def rv68 : List RV := [(.tmp 4)]
theorem hc68 : cCode Tryz.prog Tryz.f68.ntmps (Tryz.f68.body.getD .skip) = some sc68 := by kernel_rfl
theorem hr68 : cRes Tryz.prog Tryz.f68.results.toList = some rv68 := by kernel_rfl

/-- selfstab/clock.tree -/
def sc69 : SC := (so [(o 2 (.asg (.k .nilslice)))] (so [(mv 6 0), (o 7 (ln 6)), (o 8 (.xt (Go.Eng.XOp.mks 1 24 [.nilslice] (.t 7)))), (o 3 (at_ 8))] (.seq (so [(mv 9 0), (o 10 (ln 9)), (o 11 (.p (.mv (ki 0))))] (.block 0 (.loop (so [(o 12 (bn .lss (.t 11) (.t 10)))] (.seq (.cond (.t 12) .skip (.exit 0)) (.seq (.block 1 (so [(mv 13 11), (o 14 (.p (.ixs 1 (.t 9) (.t 11)))), (ld 15 14), (o 4 (at_ 13)), (o 5 (at_ 15))] (.ops [(mv 16 3), (mv 17 4), (mv 18 5), (o 19 (.p (.slc 1 (.t 18) (.some (ki 0)) (.some (ki 2)) (.some (ki 2)) true))), (o 20 (.p (.ixs 1 (.t 16) (.t 17)))), (on (.store 1 (.t 20) (.t 19)))]))) (.ops [(o 21 (bn .add (.t 11) (ki 1))), (mv 11 21)]))))))) (so [(mv 22 3), (o 2 (at_ 22))] .ret))))
def rv69 : List RV := [(.tmp 2)]
theorem hc69 : cCode Tryz.prog Tryz.f69.ntmps (Tryz.f69.body.getD .skip) = some sc69 := by kernel_rfl
theorem hr69 : cRes Tryz.prog Tryz.f69.results.toList = some rv69 := by kernel_rfl

/-- selfstab/bfs.Towards -/
def sc70 : SC := (so [(o 3 (.box (.t 0))), (o 6 (.asg (.k .nilslice)))] (so [(mv 10 1), (o 11 (ln 10)), (o 12 (.xt (Go.Eng.XOp.mks 1 8 [(.int .i64 0)] (.t 11)))), (o 7 (at_ 12))] (.seq (so [(mv 13 1), (o 14 (ln 13)), (o 15 (.p (.mv (ki 0))))] (.block 0 (.loop (so [(o 16 (bn .lss (.t 15) (.t 14)))] (.seq (.cond (.t 16) .skip (.exit 0)) (.seq (.block 1 (so [(mv 17 15), (o 18 (.p (.ixs 1 (.t 13) (.t 15)))), (ld 19 18), (o 8 (at_ 17)), (o 9 (at_ 19))] (so [(mv 20 7), (mv 21 8), (o 22 (.p (.ixs 1 (.t 20) (.t 21)))), (on (.store 1 (.t 22) (.k (.int .i64 (-1)))))] (so [(mv 23 9), (mv 24 2), (o 25 (.p (.ixs 1 (.t 23) (.t 24)))), (ld 26 25), (o 27 (bn .geq (.t 26) (ki 0)))] (.cond (.t 27) (.draw [(.op 0 (mv 28 7)), (.op 1 (mv 29 8)), (.op 2 (fl 30 1 3)), (.op 3 (ld 31 30)), (.op 4 (mv 32 8)), (.op 5 (o 33 (.p (.ixs 1 (.t 31) (.t 32))))), (.op 6 (ld 34 33)), (.op 7 (mv 35 9)), (.op 8 (mv 36 2)), (.op 9 (o 37 (.p (.ixs 1 (.t 35) (.t 36))))), (.op 10 (ld 38 37)), (.op 11 (o 39 (.p (.ixs 2 (.t 34) (.t 38))))), (.op 12 (fl 40 0 39)), (.op 13 (ld 41 40)), (.op 14 (o 42 (.p (.ixs 1 (.t 28) (.t 29))))), (ef 15 (on (.store 1 (.t 42) (.t 41))))]) .skip))))) (.ops [(o 43 (bn .add (.t 15) (ki 1))), (mv 15 43)]))))))) (so [(mv 44 7), (o 6 (at_ 44))] .ret))))
def rv70 : List RV := [(.tmp 6)]
theorem hc70 : cCode Tryz.prog Tryz.f70.ntmps (Tryz.f70.body.getD .skip) = some sc70 := by kernel_rfl
theorem hr70 : cRes Tryz.prog Tryz.f70.results.toList = some rv70 := by kernel_rfl

/-- selfstab/selfstabref23.Config -/
def sc71 : SC := (so [(o 3 (.box (.t 0))), (o 6 (.asg (.k (.bool false))))] (so [(fl 12 1 3), (ld 13 12), (o 14 (ln 13)), (o 7 (at_ 14))] (.seq (so [(o 15 (.load (.some 2) (.t 3))), (o 16 (.call 124 [(.t 15)])), (o 17 (.p (.un .not (.t 16)))), (mv 18 17), (of 19 18 (pm 1)), (of 20 18 (ln 19)), (of 21 18 (pm 7)), (of 22 18 (bn .neq (.t 20) (.t 21))), (o 23 (.p (.pick (.t 18) (.k (.bool true)) (.t 22))))] (.cond (.t 23) (so [(o 6 (.asg (.k (.bool false))))] .ret) .skip)) (.seq (so [(o 8 (.asg (ki 0)))] (.block 0 (.loop (.seq (so [(mv 24 8), (mv 25 7), (o 26 (bn .lss (.t 24) (.t 25)))] (.cond (.t 26) .skip (.exit 0))) (.seq (.block 1 (.seq (so [(mv 29 1), (mv 30 8), (o 31 (.p (.ixs 1 (.t 29) (.t 30)))), (ld 32 31), (o 33 (ln 32)), (mv 34 2), (o 35 (ln 34)), (o 36 (bn .neq (.t 33) (.t 35)))] (.cond (.t 36) (so [(o 6 (.asg (.k (.bool false))))] .ret) .skip)) (so [(o 9 (.asg (ki 0)))] (.block 2 (.loop (.seq (so [(mv 37 9), (mv 38 2), (o 39 (ln 38)), (o 40 (bn .lss (.t 37) (.t 39)))] (.cond (.t 40) .skip (.exit 2))) (.seq (.block 3 (.seq (.draw [(.op 0 (mv 43 2)), (.op 1 (mv 44 9)), (.op 2 (o 45 (.p (.ixs 6 (.t 43) (.t 44))))), (.op 3 (fl 46 2 45)), (.op 4 (ld 47 46)), (.op 5 (mv 48 2)), (.op 6 (mv 49 9)), (.op 7 (o 50 (.p (.ixs 6 (.t 48) (.t 49))))), (.op 8 (fl 51 3 50)), (.op 9 (ld 52 51)), (.op 10 (mv 53 2)), (.op 11 (mv 54 9)), (.op 12 (o 55 (.p (.ixs 6 (.t 53) (.t 54))))), (.op 13 (fl 56 4 55)), (.op 14 (ld 57 56)), (.op 15 (mv 58 7)), (.op 16 (o 59 (bn .mul (.t 57) (.t 58)))), (.op 17 (o 60 (bn .add (.t 52) (.t 59)))), (.op 18 (mv 61 2)), (.op 19 (mv 62 9)), (.op 20 (o 63 (.p (.ixs 6 (.t 61) (.t 62))))), (.op 21 (fl 64 5 63)), (.op 22 (ld 65 64)), (.op 23 (o 66 (.load (.some 2) (.t 3)))), (.eff 24 [] [(none, (46, 47)), (none, (51, 52)), (none, (56, 57)), (none, (64, 65))] (o 67 (.call 125 [(.t 66)]))), (.op 25 (o 68 (bn .mul (.t 65) (.t 67)))), (.op 26 (o 69 (bn .add (.t 60) (.t 68)))), (.eff 27 [] [(none, (51, 52)), (none, (56, 57)), (none, (64, 65))] (o 10 (at_ 47))), (ef 28 (o 11 (at_ 69)))]) (.seq (so [(mv 70 2), (mv 71 9), (o 72 (.p (.ixs 6 (.t 70) (.t 71)))), (fl 73 1 72), (ld 74 73)] (.block 4 (so [(o 76 (bn .eql (.t 74) (ki 2))), (o 75 (at_ 76))] (.cond (.t 75) (.ops [(o 10 (.asg (ki 0))), (o 11 (.asg (ki 1)))]) (so [(o 78 (bn .eql (.t 74) (ki 3))), (o 77 (at_ 78))] (.cond (.t 77) (.draw [(.op 0 (fl 79 1 3)), (.op 1 (ld 80 79)), (.op 2 (mv 81 8)), (.op 3 (o 82 (.p (.ixs 1 (.t 80) (.t 81))))), (.op 4 (ld 83 82)), (.op 5 (o 84 (ln 83))), (.op 6 (o 85 (bn .sub (.t 84) (ki 1)))), (.eff 7 [] [(none, (79, 80)), (none, (82, 83))] (o 10 (.asg (.k (.int .i64 (-1)))))), (ef 8 (o 11 (at_ 85)))]) .skip)))))) (so [(mv 86 1), (mv 87 8), (o 88 (.p (.ixs 1 (.t 86) (.t 87)))), (ld 89 88), (mv 90 9), (o 91 (.p (.ixs 1 (.t 89) (.t 90)))), (ld 92 91), (mv 93 10), (mv 94 11), (o 95 (.call 126 [(.t 92), (.t 93), (.t 94)])), (o 96 (.p (.un .not (.t 95))))] (.cond (.t 96) (so [(o 6 (.asg (.k (.bool false))))] .ret) .skip))))) (.ops [(mv 41 9), (o 42 (bn .add (.t 41) (ki 1))), (o 9 (at_ 42))])))))))) (.ops [(mv 27 8), (o 28 (bn .add (.t 27) (ki 1))), (o 8 (at_ 28))])))))) (so [(o 6 (.asg (.k (.bool true))))] .ret)))))
def rv71 : List RV := [(.tmp 6)]
theorem hc71 : cCode Tryz.prog Tryz.f71.ntmps (Tryz.f71.body.getD .skip) = some sc71 := by kernel_rfl
theorem hr71 : cRes Tryz.prog Tryz.f71.results.toList = some rv71 := by kernel_rfl

/-- selfstab/selfstabref23.Tree -/
def sc72 : SC := (so [(o 5 (.box (.t 0))), (o 10 (.asg (.k (.bool false))))] (so [(o 15 (.load (.some 2) (.t 5))), (mv 16 2), (o 17 (.call 119 [(.t 15), (.t 16)])), (o 11 (at_ 17))] (.seq (so [(o 12 (.asg (ki 0)))] (.block 0 (.loop (.seq (so [(mv 18 12), (fl 19 1 5), (ld 20 19), (o 21 (ln 20)), (o 22 (bn .lss (.t 18) (.t 21)))] (.cond (.t 22) .skip (.exit 0))) (.seq (.block 1 (so [(o 13 (.asg (.k (.int .i64 (-1)))))] (.seq (so [(fl 25 1 5), (ld 26 25), (mv 27 12), (o 28 (.p (.ixs 1 (.t 26) (.t 27)))), (ld 29 28), (o 30 (ln 29)), (o 31 (bn .sub (.t 30) (ki 1))), (o 14 (at_ 31))] (.block 2 (.loop (.seq (so [(mv 32 14), (o 33 (bn .geq (.t 32) (ki 0)))] (.cond (.t 33) .skip (.exit 2))) (.seq (.block 3 (.seq (.draw [(.op 0 (mv 36 11)), (.op 1 (fl 37 1 5)), (.op 2 (ld 38 37)), (.op 3 (mv 39 12)), (.op 4 (o 40 (.p (.ixs 1 (.t 38) (.t 39))))), (.op 5 (ld 41 40)), (.op 6 (mv 42 14)), (.op 7 (o 43 (.p (.ixs 2 (.t 41) (.t 42))))), (.op 8 (fl 44 0 43)), (.op 9 (ld 45 44)), (.op 10 (o 46 (.p (.ixs 1 (.t 36) (.t 45))))), (.op 11 (ld 47 46)), (.op 12 (mv 48 11)), (.op 13 (mv 49 12)), (.op 14 (o 50 (.p (.ixs 1 (.t 48) (.t 49))))), (.op 15 (ld 51 50)), (.op 16 (o 52 (bn .sub (.t 51) (ki 1)))), (.op 17 (o 53 (bn .eql (.t 47) (.t 52))))]) (.cond (.t 53) (.ops [(mv 54 14), (o 13 (at_ 54))]) .skip))) (.ops [(mv 34 14), (o 35 (bn .sub (.t 34) (ki 1))), (o 14 (at_ 35))])))))) (.seq (.draw [(.op 0 (mv 55 1)), (.op 1 (mv 56 12)), (.op 2 (o 57 (.p (.ixs 1 (.t 55) (.t 56))))), (.op 3 (ld 58 57)), (.op 4 (mv 59 3)), (.op 5 (o 60 (.p (.ixs 1 (.t 58) (.t 59))))), (.op 6 (ld 61 60)), (.op 7 (mv 62 11)), (.op 8 (mv 63 12)), (.op 9 (o 64 (.p (.ixs 1 (.t 62) (.t 63))))), (.op 10 (ld 65 64)), (.op 11 (o 66 (bn .neq (.t 61) (.t 65)))), (.op 12 (mv 67 66)), (.op 13 (of 68 67 (pm 1))), (.op 14 (of 69 67 (pm 12))), (.op 15 (of 70 67 (.p (.ixs 1 (.t 68) (.t 69))))), (.op 16 (of 71 67 (.load none (.t 70)))), (.op 17 (of 72 67 (pm 4))), (.op 18 (of 73 67 (.p (.ixs 1 (.t 71) (.t 72))))), (.op 19 (of 74 67 (.load none (.t 73)))), (.op 20 (of 75 67 (pm 13))), (.op 21 (of 76 67 (bn .neq (.t 74) (.t 75)))), (.op 22 (o 77 (.p (.pick (.t 67) (.k (.bool true)) (.t 76)))))]) (.cond (.t 77) (so [(o 10 (.asg (.k (.bool false))))] .ret) .skip))))) (.ops [(mv 23 12), (o 24 (bn .add (.t 23) (ki 1))), (o 12 (at_ 24))])))))) (so [(o 10 (.asg (.k (.bool true))))] .ret))))
def rv72 : List RV := [(.tmp 10)]
theorem hc72 : cCode Tryz.prog Tryz.f72.ntmps (Tryz.f72.body.getD .skip) = some sc72 := by kernel_rfl
theorem hr72 : cRes Tryz.prog Tryz.f72.results.toList = some rv72 := by kernel_rfl

/-- selfstab/selfstabref23.Named -/
def sc73 : SC := (so [(o 3 (.box (.t 0))), (o 6 (.asg (.k .nilslice)))] (so [(o 7 (.asg (.k .nilslice)))] (.seq (so [(o 8 (.asg (ki 0)))] (.block 0 (.loop (.seq (so [(mv 10 8), (mv 11 1), (o 12 (ln 11)), (o 13 (bn .lss (.t 10) (.t 12)))] (.cond (.t 13) .skip (.exit 0))) (.seq (.block 1 (so [(o 9 (.asg (.k (.int .i64 (-1)))))] (.seq (so [(mv 16 1), (mv 17 8), (o 18 (.p (.ixs 1 (.t 16) (.t 17)))), (ld 19 18), (mv 20 2), (o 21 (.p (.ixs 1 (.t 19) (.t 20)))), (ld 22 21), (o 23 (bn .geq (.t 22) (ki 0)))] (.cond (.t 23) (.draw [(.op 0 (fl 24 1 3)), (.op 1 (ld 25 24)), (.op 2 (mv 26 8)), (.op 3 (o 27 (.p (.ixs 1 (.t 25) (.t 26))))), (.op 4 (ld 28 27)), (.op 5 (mv 29 1)), (.op 6 (mv 30 8)), (.op 7 (o 31 (.p (.ixs 1 (.t 29) (.t 30))))), (.op 8 (ld 32 31)), (.op 9 (mv 33 2)), (.op 10 (o 34 (.p (.ixs 1 (.t 32) (.t 33))))), (.op 11 (ld 35 34)), (.op 12 (o 36 (.p (.ixs 2 (.t 28) (.t 35))))), (.op 13 (fl 37 0 36)), (.op 14 (ld 38 37)), (ef 15 (o 9 (at_ 38)))]) .skip)) (.ops [(mv 39 7), (mv 40 9), (o 41 (.bslice 1 1 [(.t 40)])), (o 42 (.app 1 8 (.t 39) (.t 41))), (o 7 (at_ 42))])))) (.ops [(mv 14 8), (o 15 (bn .add (.t 14) (ki 1))), (o 8 (at_ 15))])))))) (so [(mv 43 7), (o 6 (at_ 43))] .ret))))
def rv73 : List RV := [(.tmp 6)]
theorem hc73 : cCode Tryz.prog Tryz.f73.ntmps (Tryz.f73.body.getD .skip) = some sc73 := by kernel_rfl
theorem hr73 : cRes Tryz.prog Tryz.f73.results.toList = some rv73 := by kernel_rfl

/-- selfstab/graph.Eccentricity -/
def sc74 : SC := (so [(o 2 (.box (.t 0))), (o 4 (.asg (ki 0)))] (.seq (so [(o 5 (.load (.some 2) (.t 2))), (o 6 (.call 65 [(.t 5)])), (o 7 (.p (.un .not (.t 6)))), (mv 8 7), (of 9 8 (pm 1)), (of 10 8 (bn .lss (.t 9) (ki 0))), (o 11 (.p (.pick (.t 8) (.k (.bool true)) (.t 10)))), (mv 12 11), (of 13 12 (pm 1)), (of 14 12 (.p (.fld 1 (.t 2)))), (of 15 12 (.load none (.t 14))), (of 16 12 (ln 15)), (of 17 12 (bn .geq (.t 13) (.t 16))), (o 18 (.p (.pick (.t 12) (.k (.bool true)) (.t 17))))] (.cond (.t 18) (so [(o 4 (.asg (.k (.int .i64 (-1)))))] .ret) .skip)) (so [(o 19 (.load (.some 2) (.t 2))), (mv 20 1), (o 21 (.call 117 [(.t 19), (.t 20)])), (o 22 (.call 127 [(.t 21)])), (o 4 (at_ 22))] .ret)))
def rv74 : List RV := [(.tmp 4)]
theorem hc74 : cCode Tryz.prog Tryz.f74.ntmps (Tryz.f74.body.getD .skip) = some sc74 := by kernel_rfl
theorem hr74 : cRes Tryz.prog Tryz.f74.results.toList = some rv74 := by kernel_rfl

/-- selfstab/selfstabref01.Eccentricity -/
def sc75 : SC := (so [(o 2 (.box (.t 0))), (o 4 (.asg (ki 0)))] (so [(o 5 (.load (.some 2) (.t 2))), (mv 6 1), (o 7 (.call 119 [(.t 5), (.t 6)])), (o 8 (.call 118 [(.t 7)])), (o 4 (at_ 8))] .ret))
def rv75 : List RV := [(.tmp 4)]
theorem hc75 : cCode Tryz.prog Tryz.f75.ntmps (Tryz.f75.body.getD .skip) = some sc75 := by kernel_rfl
theorem hr75 : cRes Tryz.prog Tryz.f75.results.toList = some rv75 := by kernel_rfl

/-- (selfstab/selfstabworld.Net).nodes -/
noncomputable def sc76 : SC := (cCode Tryz.prog Tryz.f76.ntmps (Tryz.f76.body.getD .skip)).getD .skip
def rv76 : List RV := [(.cell 4 (.some 2))]
theorem hc76 : cCode Tryz.prog Tryz.f76.ntmps (Tryz.f76.body.getD .skip) = some sc76 := by kernel_rfl
theorem hr76 : cRes Tryz.prog Tryz.f76.results.toList = some rv76 := by kernel_rfl

/-- selfstab/selfstabworld.at -/
noncomputable def sc77 : SC := (cCode Tryz.prog Tryz.f77.ntmps (Tryz.f77.body.getD .skip)).getD .skip
def rv77 : List RV := [(.tmp 4)]
theorem hc77 : cCode Tryz.prog Tryz.f77.ntmps (Tryz.f77.body.getD .skip) = some sc77 := by kernel_rfl
theorem hr77 : cRes Tryz.prog Tryz.f77.results.toList = some rv77 := by kernel_rfl

/-- selfstab/memory.Valid -/
noncomputable def sc79 : SC := (cCode Tryz.prog Tryz.f79.ntmps (Tryz.f79.body.getD .skip)).getD .skip
def rv79 : List RV := [(.tmp 6)]
theorem hc79 : cCode Tryz.prog Tryz.f79.ntmps (Tryz.f79.body.getD .skip) = some sc79 := by kernel_rfl
theorem hr79 : cRes Tryz.prog Tryz.f79.results.toList = some rv79 := by kernel_rfl

/-- selfstab/step.NewMover -/
noncomputable def sc80 : SC := (cCode Tryz.prog Tryz.f80.ntmps (Tryz.f80.body.getD .skip)).getD .skip
def rv80 : List RV := [(.tmp 4)]
theorem hc80 : cCode Tryz.prog Tryz.f80.ntmps (Tryz.f80.body.getD .skip) = some sc80 := by kernel_rfl
theorem hr80 : cRes Tryz.prog Tryz.f80.results.toList = some rv80 := by kernel_rfl

/-- (*selfstab/step.Mover).Enabled -/
noncomputable def sc81 : SC := (cCode Tryz.prog Tryz.f81.ntmps (Tryz.f81.body.getD .skip)).getD .skip
def rv81 : List RV := [(.tmp 4)]
theorem hc81 : cCode Tryz.prog Tryz.f81.ntmps (Tryz.f81.body.getD .skip) = some sc81 := by kernel_rfl
theorem hr81 : cRes Tryz.prog Tryz.f81.results.toList = some rv81 := by kernel_rfl

/-- selfstab/lexer.skip -/
noncomputable def sc82 : SC := (cCode Tryz.prog Tryz.f82.ntmps (Tryz.f82.body.getD .skip)).getD .skip
def rv82 : List RV := [(.tmp 4)]
theorem hc82 : cCode Tryz.prog Tryz.f82.ntmps (Tryz.f82.body.getD .skip) = some sc82 := by kernel_rfl
theorem hr82 : cRes Tryz.prog Tryz.f82.results.toList = some rv82 := by kernel_rfl

/-- selfstab/lexer.next -/
noncomputable def sc83 : SC := (cCode Tryz.prog Tryz.f83.ntmps (Tryz.f83.body.getD .skip)).getD .skip
def rv83 : List RV := [(.cell 4 (.some 4)), (.tmp 5)]
theorem hc83 : cCode Tryz.prog Tryz.f83.ntmps (Tryz.f83.body.getD .skip) = some sc83 := by kernel_rfl
theorem hr83 : cRes Tryz.prog Tryz.f83.results.toList = some rv83 := by kernel_rfl

/-- (*selfstab/expr.Reader).Expect -/
noncomputable def sc86 : SC := (cCode Tryz.prog Tryz.f86.ntmps (Tryz.f86.body.getD .skip)).getD .skip
def rv86 : List RV := []
theorem hc86 : cCode Tryz.prog Tryz.f86.ntmps (Tryz.f86.body.getD .skip) = some sc86 := by kernel_rfl
theorem hr86 : cRes Tryz.prog Tryz.f86.results.toList = some rv86 := by kernel_rfl

/-- (*selfstab/program.reader).name -/
noncomputable def sc87 : SC := (cCode Tryz.prog Tryz.f87.ntmps (Tryz.f87.body.getD .skip)).getD .skip
def rv87 : List RV := [(.tmp 4)]
theorem hc87 : cCode Tryz.prog Tryz.f87.ntmps (Tryz.f87.body.getD .skip) = some sc87 := by kernel_rfl
theorem hr87 : cRes Tryz.prog Tryz.f87.results.toList = some rv87 := by kernel_rfl

/-- (*selfstab/program.reader).many -/
noncomputable def sc88 : SC := (cCode Tryz.prog Tryz.f88.ntmps (Tryz.f88.body.getD .skip)).getD .skip
def rv88 : List RV := []
theorem hc88 : cCode Tryz.prog Tryz.f88.ntmps (Tryz.f88.body.getD .skip) = some sc88 := by kernel_rfl
theorem hr88 : cRes Tryz.prog Tryz.f88.results.toList = some rv88 := by kernel_rfl

/-- (*selfstab/program.reader).variable -/
noncomputable def sc89 : SC := (cCode Tryz.prog Tryz.f89.ntmps (Tryz.f89.body.getD .skip)).getD .skip
def rv89 : List RV := []
theorem hc89 : cCode Tryz.prog Tryz.f89.ntmps (Tryz.f89.body.getD .skip) = some sc89 := by kernel_rfl
theorem hr89 : cRes Tryz.prog Tryz.f89.results.toList = some rv89 := by kernel_rfl

/-- (*selfstab/program.reader).rule -/
noncomputable def sc90 : SC := (cCode Tryz.prog Tryz.f90.ntmps (Tryz.f90.body.getD .skip)).getD .skip
def rv90 : List RV := []
theorem hc90 : cCode Tryz.prog Tryz.f90.ntmps (Tryz.f90.body.getD .skip) = some sc90 := by kernel_rfl
theorem hr90 : cRes Tryz.prog Tryz.f90.results.toList = some rv90 := by kernel_rfl

/-- (*selfstab/expr.Reader).Done -/
noncomputable def sc91 : SC := (cCode Tryz.prog Tryz.f91.ntmps (Tryz.f91.body.getD .skip)).getD .skip
def rv91 : List RV := [(.tmp 2)]
theorem hc91 : cCode Tryz.prog Tryz.f91.ntmps (Tryz.f91.body.getD .skip) = some sc91 := by kernel_rfl
theorem hr91 : cRes Tryz.prog Tryz.f91.results.toList = some rv91 := by kernel_rfl

/-- (*selfstab/expr.Reader).Fail -/
noncomputable def sc92 : SC := (cCode Tryz.prog Tryz.f92.ntmps (Tryz.f92.body.getD .skip)).getD .skip
def rv92 : List RV := []
theorem hc92 : cCode Tryz.prog Tryz.f92.ntmps (Tryz.f92.body.getD .skip) = some sc92 := by kernel_rfl
theorem hr92 : cRes Tryz.prog Tryz.f92.results.toList = some rv92 := by kernel_rfl

/-- selfstab/types.named -/
noncomputable def sc93 : SC := (cCode Tryz.prog Tryz.f93.ntmps (Tryz.f93.body.getD .skip)).getD .skip
def rv93 : List RV := [(.tmp 2)]
theorem hc93 : cCode Tryz.prog Tryz.f93.ntmps (Tryz.f93.body.getD .skip) = some sc93 := by kernel_rfl
theorem hr93 : cRes Tryz.prog Tryz.f93.results.toList = some rv93 := by kernel_rfl

/-- selfstab/types.numbers -/
noncomputable def sc94 : SC := (cCode Tryz.prog Tryz.f94.ntmps (Tryz.f94.body.getD .skip)).getD .skip
def rv94 : List RV := [(.tmp 2)]
theorem hc94 : cCode Tryz.prog Tryz.f94.ntmps (Tryz.f94.body.getD .skip) = some sc94 := by kernel_rfl
theorem hr94 : cRes Tryz.prog Tryz.f94.results.toList = some rv94 := by kernel_rfl

/-- selfstab/types.formed -/
noncomputable def sc95 : SC := (cCode Tryz.prog Tryz.f95.ntmps (Tryz.f95.body.getD .skip)).getD .skip
def rv95 : List RV := [(.tmp 4)]
theorem hc95 : cCode Tryz.prog Tryz.f95.ntmps (Tryz.f95.body.getD .skip) = some sc95 := by kernel_rfl
theorem hr95 : cRes Tryz.prog Tryz.f95.results.toList = some rv95 := by kernel_rfl

/-- selfstab/types.Kinds -/
noncomputable def sc96 : SC := (cCode Tryz.prog Tryz.f96.ntmps (Tryz.f96.body.getD .skip)).getD .skip
def rv96 : List RV := [(.tmp 2)]
theorem hc96 : cCode Tryz.prog Tryz.f96.ntmps (Tryz.f96.body.getD .skip) = some sc96 := by kernel_rfl
theorem hr96 : cRes Tryz.prog Tryz.f96.results.toList = some rv96 := by kernel_rfl

/-- selfstab/types.typed -/
noncomputable def sc97 : SC := (cCode Tryz.prog Tryz.f97.ntmps (Tryz.f97.body.getD .skip)).getD .skip
def rv97 : List RV := [(.tmp 4)]
theorem hc97 : cCode Tryz.prog Tryz.f97.ntmps (Tryz.f97.body.getD .skip) = some sc97 := by kernel_rfl
theorem hr97 : cRes Tryz.prog Tryz.f97.results.toList = some rv97 := by kernel_rfl

/-- (selfstab/selfstabworld.Net).link -/
noncomputable def sc98 : SC := (cCode Tryz.prog Tryz.f98.ntmps (Tryz.f98.body.getD .skip)).getD .skip
def rv98 : List RV := []
theorem hc98 : cCode Tryz.prog Tryz.f98.ntmps (Tryz.f98.body.getD .skip) = some sc98 := by kernel_rfl
theorem hr98 : cRes Tryz.prog Tryz.f98.results.toList = some rv98 := by kernel_rfl

/-- selfstab/graph.FirstPort -/
def sc103 : SC := (so [(o 3 (.box (.t 0))), (o 6 (.asg (ki 0)))] (.seq (so [(fl 9 1 3), (ld 10 9), (mv 11 1), (o 12 (.p (.ixs 1 (.t 10) (.t 11)))), (ld 13 12), (o 14 (ln 13)), (o 15 (.p (.mv (ki 0))))] (.block 0 (.loop (so [(o 16 (bn .lss (.t 15) (.t 14)))] (.seq (.cond (.t 16) .skip (.exit 0)) (.seq (.block 1 (so [(mv 17 15), (o 18 (.p (.ixs 2 (.t 13) (.t 15)))), (o 19 (.load (.some 2) (.t 18))), (o 8 (.alloc [(.int .i64 0), (.int .i64 0)])), (o 7 (at_ 17)), (on (.store 2 (.t 8) (.t 19)))] (so [(mv 20 2), (o 21 (.load (.some 2) (.t 8))), (o 22 (.callv (.t 20) [(.t 21)]))] (.cond (.t 22) (so [(mv 23 7), (o 6 (at_ 23))] .ret) .skip)))) (.ops [(o 24 (bn .add (.t 15) (ki 1))), (mv 15 24)]))))))) (so [(o 6 (.asg (.k (.int .i64 (-1)))))] .ret)))
def rv103 : List RV := [(.tmp 6)]
theorem hc103 : cCode Tryz.prog Tryz.f103.ntmps (Tryz.f103.body.getD .skip) = some sc103 := by kernel_rfl
theorem hr103 : cRes Tryz.prog Tryz.f103.results.toList = some rv103 := by kernel_rfl

/-- selfstab/graph.Valid -/
def sc116 : SC := (so [(o 1 (.box (.t 0))), (o 2 (.asg (.k (.bool false))))] (so [(fl 4 0 1), (ld 5 4), (o 6 (ln 5)), (o 3 (at_ 6))] (.seq (so [(mv 7 3), (o 8 (bn .lss (.t 7) (ki 1))), (mv 9 8), (of 10 9 (pm 3)), (of 11 9 (bn .gtr (.t 10) (ki 24))), (o 12 (.p (.pick (.t 9) (.k (.bool true)) (.t 11)))), (mv 13 12), (of 14 13 (.p (.fld 1 (.t 1)))), (of 15 13 (.load none (.t 14))), (of 16 13 (ln 15)), (of 17 13 (pm 3)), (of 18 13 (bn .neq (.t 16) (.t 17))), (o 19 (.p (.pick (.t 13) (.k (.bool true)) (.t 18))))] (.cond (.t 19) (so [(o 2 (.asg (.k (.bool false))))] .ret) .skip)) (so [(fl 20 0 1), (ld 21 20), (o 22 (.call 166 [(.t 21)])), (mv 23 22), (ot 24 23 (.p (.fld 1 (.t 1)))), (ot 25 23 (.load none (.t 24))), (ot 26 23 (.call 167 [(.t 25)])), (o 27 (.p (.pick (.t 23) (.t 26) (.k (.bool false))))), (o 2 (at_ 27))] .ret))))
def rv116 : List RV := [(.tmp 2)]
theorem hc116 : cCode Tryz.prog Tryz.f116.ntmps (Tryz.f116.body.getD .skip) = some sc116 := by kernel_rfl
theorem hr116 : cRes Tryz.prog Tryz.f116.results.toList = some rv116 := by kernel_rfl

/-- selfstab/graph.search -/
def sc117 : SC := (so [(o 2 (.box (.t 0))), (o 4 (.asg (.k .nilslice)))] (so [(fl 11 1 2), (ld 12 11), (o 13 (ln 12)), (o 14 (.xt (Go.Eng.XOp.mks 1 8 [(.int .i64 0)] (.t 13)))), (o 5 (at_ 14))] (.seq (so [(mv 15 5), (o 16 (ln 15)), (o 17 (.p (.mv (ki 0))))] (.block 0 (.loop (so [(o 18 (bn .lss (.t 17) (.t 16)))] (.seq (.cond (.t 18) .skip (.exit 0)) (.seq (.block 1 (so [(mv 19 17), (o 6 (at_ 19))] (.ops [(mv 20 5), (mv 21 6), (o 22 (.p (.ixs 1 (.t 20) (.t 21)))), (on (.store 1 (.t 22) (.k (.int .i64 (-1)))))]))) (.ops [(o 23 (bn .add (.t 17) (ki 1))), (mv 17 23)]))))))) (so [(mv 24 5), (mv 25 1), (o 26 (.p (.ixs 1 (.t 24) (.t 25)))), (on (.store 1 (.t 26) (ki 0)))] (so [(mv 27 1), (o 28 (.bslice 1 1 [(.t 27)])), (o 7 (at_ 28))] (.seq (.block 2 (.loop (.seq (so [(mv 29 7), (o 30 (ln 29)), (o 31 (bn .gtr (.t 30) (ki 0)))] (.cond (.t 31) .skip (.exit 2))) (.block 3 (so [(mv 32 7), (o 33 (.p (.ixs 1 (.t 32) (ki 0)))), (ld 34 33), (o 8 (at_ 34))] (so [(mv 35 7), (o 36 (.p (.slc 1 (.t 35) (.some (ki 1)) none none false))), (o 7 (at_ 36))] (so [(fl 37 1 2), (ld 38 37), (mv 39 8), (o 40 (.p (.ixs 1 (.t 38) (.t 39)))), (ld 41 40), (o 42 (ln 41)), (o 43 (.p (.mv (ki 0))))] (.block 4 (.loop (so [(o 44 (bn .lss (.t 43) (.t 42)))] (.seq (.cond (.t 44) .skip (.exit 4)) (.seq (.block 5 (so [(o 45 (.p (.ixs 2 (.t 41) (.t 43)))), (o 46 (.load (.some 2) (.t 45))), (o 10 (.alloc [(.int .i64 0), (.int .i64 0)])), (on (.store 2 (.t 10) (.t 46)))] (so [(mv 47 5), (fl 48 0 10), (ld 49 48), (o 50 (.p (.ixs 1 (.t 47) (.t 49)))), (ld 51 50), (o 52 (bn .lss (.t 51) (ki 0)))] (.cond (.t 52) (.seq (.draw [(.op 0 (mv 53 5)), (.op 1 (fl 54 0 10)), (.op 2 (ld 55 54)), (.op 3 (mv 56 5)), (.op 4 (mv 57 8)), (.op 5 (o 58 (.p (.ixs 1 (.t 56) (.t 57))))), (.op 6 (ld 59 58)), (.op 7 (o 60 (bn .add (.t 59) (ki 1)))), (.op 8 (o 61 (.p (.ixs 1 (.t 53) (.t 55))))), (ef 9 (on (.store 1 (.t 61) (.t 60))))]) (.ops [(mv 62 7), (fl 63 0 10), (ld 64 63), (o 65 (.bslice 1 1 [(.t 64)])), (o 66 (.app 1 8 (.t 62) (.t 65))), (o 7 (at_ 66))])) .skip)))) (.ops [(o 67 (bn .add (.t 43) (ki 1))), (mv 43 67)]))))))))))))) (so [(mv 68 5), (o 4 (at_ 68))] .ret)))))))
def rv117 : List RV := [(.tmp 4)]
theorem hc117 : cCode Tryz.prog Tryz.f117.ntmps (Tryz.f117.body.getD .skip) = some sc117 := by kernel_rfl
theorem hr117 : cRes Tryz.prog Tryz.f117.results.toList = some rv117 := by kernel_rfl

/-- selfstab/selfstabref01.greatest -/
def sc118 : SC := (so [(o 2 (.asg (ki 0)))] (so [(o 3 (.asg (.k (.int .i64 (-1)))))] (.seq (so [(o 4 (.asg (ki 0)))] (.block 0 (.loop (.seq (so [(mv 5 4), (mv 6 0), (o 7 (ln 6)), (o 8 (bn .lss (.t 5) (.t 7)))] (.cond (.t 8) .skip (.exit 0))) (.seq (.block 1 (.seq (so [(mv 11 0), (mv 12 4), (o 13 (.p (.ixs 1 (.t 11) (.t 12)))), (ld 14 13), (o 15 (bn .lss (.t 14) (ki 0)))] (.cond (.t 15) (so [(o 2 (.asg (.k (.int .i64 (-1)))))] .ret) .skip)) (.ops [(mv 16 3), (mv 17 0), (mv 18 4), (o 19 (.p (.ixs 1 (.t 17) (.t 18)))), (ld 20 19), (o 21 (.p (.mx (.t 16) (.t 20)))), (o 3 (at_ 21))]))) (.ops [(mv 9 4), (o 10 (bn .add (.t 9) (ki 1))), (o 4 (at_ 10))])))))) (so [(mv 22 3), (o 2 (at_ 22))] .ret))))
def rv118 : List RV := [(.tmp 2)]
theorem hc118 : cCode Tryz.prog Tryz.f118.ntmps (Tryz.f118.body.getD .skip) = some sc118 := by kernel_rfl
theorem hr118 : cRes Tryz.prog Tryz.f118.results.toList = some rv118 := by kernel_rfl

/-- selfstab/selfstabref01.Distances -/
def sc119 : SC := (so [(o 2 (.box (.t 0))), (o 4 (.asg (.k .nilslice)))] (.seq (so [(o 11 (.load (.some 2) (.t 2))), (o 12 (.call 124 [(.t 11)])), (o 13 (.p (.un .not (.t 12)))), (mv 14 13), (of 15 14 (pm 1)), (of 16 14 (.p (.fld 1 (.t 2)))), (of 17 14 (.load none (.t 16))), (of 18 14 (ln 17)), (of 19 14 (bn .sub (.t 18) (ki 1))), (of 20 14 (.call 126 [(.t 15), (ki 0), (.t 19)])), (of 21 14 (.p (.un .not (.t 20)))), (o 22 (.p (.pick (.t 14) (.k (.bool true)) (.t 21))))] (.cond (.t 22) (so [(o 4 (.asg (.k .nilslice)))] .ret) .skip)) (so [(fl 23 1 2), (ld 24 23), (o 25 (ln 24)), (o 5 (at_ 25))] (so [(o 6 (.asg (.k .nilslice)))] (.seq (so [(o 7 (.asg (ki 0)))] (.block 0 (.loop (.seq (so [(mv 26 7), (mv 27 5), (o 28 (bn .lss (.t 26) (.t 27)))] (.cond (.t 28) .skip (.exit 0))) (.seq (.block 1 (.ops [(mv 31 6), (o 32 (.bslice 1 1 [(.k (.int .i64 (-1)))])), (o 33 (.app 1 8 (.t 31) (.t 32))), (o 6 (at_ 33))])) (.ops [(mv 29 7), (o 30 (bn .add (.t 29) (ki 1))), (o 7 (at_ 30))])))))) (so [(mv 34 6), (mv 35 1), (o 36 (.p (.ixs 1 (.t 34) (.t 35)))), (on (.store 1 (.t 36) (ki 0)))] (.seq (so [(o 8 (.asg (ki 1)))] (.block 2 (.loop (.seq (so [(mv 37 8), (mv 38 5), (o 39 (bn .lss (.t 37) (.t 38)))] (.cond (.t 39) .skip (.exit 2))) (.seq (.block 3 (so [(o 9 (.asg (ki 0)))] (.block 4 (.loop (.seq (so [(mv 42 9), (mv 43 5), (o 44 (bn .lss (.t 42) (.t 43)))] (.cond (.t 44) .skip (.exit 4))) (.seq (.block 5 (so [(o 10 (.asg (ki 0)))] (.block 6 (.loop (.seq (so [(mv 47 10), (fl 48 1 2), (ld 49 48), (mv 50 9), (o 51 (.p (.ixs 1 (.t 49) (.t 50)))), (ld 52 51), (o 53 (ln 52)), (o 54 (bn .lss (.t 47) (.t 53))), (mv 55 54), (ot 56 55 (pm 6)), (ot 57 55 (pm 9)), (ot 58 55 (.p (.ixs 1 (.t 56) (.t 57)))), (ot 59 55 (.load none (.t 58))), (ot 60 55 (bn .lss (.t 59) (ki 0))), (o 61 (.p (.pick (.t 55) (.t 60) (.k (.bool false)))))] (.cond (.t 61) .skip (.exit 6))) (.seq (.block 7 (so [(mv 64 6), (fl 65 1 2), (ld 66 65), (mv 67 9), (o 68 (.p (.ixs 1 (.t 66) (.t 67)))), (ld 69 68), (mv 70 10), (o 71 (.p (.ixs 2 (.t 69) (.t 70)))), (fl 72 0 71), (ld 73 72), (o 74 (.p (.ixs 1 (.t 64) (.t 73)))), (ld 75 74), (mv 76 8), (o 77 (bn .sub (.t 76) (ki 1))), (o 78 (bn .eql (.t 75) (.t 77)))] (.cond (.t 78) (.ops [(mv 79 6), (mv 80 9), (mv 81 8), (o 82 (.p (.ixs 1 (.t 79) (.t 80)))), (on (.store 1 (.t 82) (.t 81)))]) .skip))) (.ops [(mv 62 10), (o 63 (bn .add (.t 62) (ki 1))), (o 10 (at_ 63))]))))))) (.ops [(mv 45 9), (o 46 (bn .add (.t 45) (ki 1))), (o 9 (at_ 46))]))))))) (.ops [(mv 40 8), (o 41 (bn .add (.t 40) (ki 1))), (o 8 (at_ 41))])))))) (so [(mv 83 6), (o 4 (at_ 83))] .ret))))))))
def rv119 : List RV := [(.tmp 4)]
theorem hc119 : cCode Tryz.prog Tryz.f119.ntmps (Tryz.f119.body.getD .skip) = some sc119 := by kernel_rfl
theorem hr119 : cRes Tryz.prog Tryz.f119.results.toList = some rv119 := by kernel_rfl

/-- selfstab/bfs.Configuration -/
def sc120 : SC := (so [(o 3 (.box (.t 0))), (o 6 (.asg (.k (.bool false))))] (.seq (so [(mv 13 1), (o 14 (ln 13)), (fl 15 0 3), (ld 16 15), (o 17 (ln 16)), (o 18 (bn .neq (.t 14) (.t 17)))] (.cond (.t 18) (so [(o 6 (.asg (.k (.bool false))))] .ret) .skip)) (.seq (so [(mv 19 1), (o 20 (ln 19)), (o 21 (.p (.mv (ki 0))))] (.block 0 (.loop (so [(o 22 (bn .lss (.t 21) (.t 20)))] (.seq (.cond (.t 22) .skip (.exit 0)) (.seq (.block 1 (so [(mv 23 21), (o 24 (.p (.ixs 1 (.t 19) (.t 21)))), (ld 25 24), (o 7 (at_ 23)), (o 8 (at_ 25))] (.seq (so [(mv 26 8), (o 27 (ln 26)), (mv 28 2), (o 29 (ln 28)), (o 30 (bn .neq (.t 27) (.t 29)))] (.cond (.t 30) (so [(o 6 (.asg (.k (.bool false))))] .ret) .skip)) (so [(mv 31 8), (o 32 (ln 31)), (o 33 (.p (.mv (ki 0))))] (.block 2 (.loop (so [(o 34 (bn .lss (.t 33) (.t 32)))] (.seq (.cond (.t 34) .skip (.exit 2)) (.seq (.block 3 (so [(mv 35 33), (o 36 (.p (.ixs 1 (.t 31) (.t 33)))), (ld 37 36), (o 9 (at_ 35)), (o 10 (at_ 37))] (.seq (.draw [(.op 0 (mv 38 2)), (.op 1 (mv 39 9)), (.op 2 (o 40 (.p (.ixs 1 (.t 38) (.t 39))))), (.op 3 (ld 41 40)), (.eff 4 [] [(none, (40, 41))] (o 11 (.asg (ki 0)))), (ef 5 (o 12 (at_ 41)))]) (.seq (so [(mv 42 12), (o 43 (bn .eql (.t 42) (.k (.int .i64 (-1)))))] (.cond (.t 43) (.draw [(.op 0 (fl 44 1 3)), (.op 1 (ld 45 44)), (.op 2 (mv 46 7)), (.op 3 (o 47 (.p (.ixs 1 (.t 45) (.t 46))))), (.op 4 (ld 48 47)), (.op 5 (o 49 (ln 48))), (.op 6 (o 50 (bn .sub (.t 49) (ki 1)))), (.eff 7 [] [(none, (44, 45)), (none, (47, 48))] (o 11 (.asg (.k (.int .i64 (-1)))))), (ef 8 (o 12 (at_ 50)))]) .skip)) (so [(mv 51 10), (mv 52 11), (o 53 (bn .lss (.t 51) (.t 52))), (mv 54 53), (of 55 54 (pm 10)), (of 56 54 (pm 12)), (of 57 54 (bn .gtr (.t 55) (.t 56))), (o 58 (.p (.pick (.t 54) (.k (.bool true)) (.t 57))))] (.cond (.t 58) (so [(o 6 (.asg (.k (.bool false))))] .ret) .skip)))))) (.ops [(o 59 (bn .add (.t 33) (ki 1))), (mv 33 59)])))))))))) (.ops [(o 60 (bn .add (.t 21) (ki 1))), (mv 21 60)]))))))) (so [(o 6 (.asg (.k (.bool true))))] .ret))))
def rv120 : List RV := [(.tmp 6)]
theorem hc120 : cCode Tryz.prog Tryz.f120.ntmps (Tryz.f120.body.getD .skip) = some sc120 := by kernel_rfl
theorem hr120 : cRes Tryz.prog Tryz.f120.results.toList = some rv120 := by kernel_rfl

/-- selfstab/bfs.configuration -/
def sc121 : SC := (so [(o 2 (.box (.t 0))), (o 4 (.asg (.k (.bool false))))] (so [(o 5 (.load (.some 2) (.t 2))), (o 6 (.call 168 [(.t 5)])), (mv 7 6), (ot 8 7 (.load (.some 2) (.t 2))), (ot 9 7 (pm 1)), (ot 10 7 (.p (.fld 0 (.t 2)))), (ot 11 7 (.load none (.t 10))), (ot 12 7 (ln 11)), (ot 13 7 (.bslice 1 2 [(.t 12), (.k (.int .i64 (-1)))])), (ot 14 7 (.call 120 [(.t 8), (.t 9), (.t 13)])), (o 15 (.p (.pick (.t 7) (.t 14) (.k (.bool false))))), (o 4 (at_ 15))] .ret))
def rv121 : List RV := [(.tmp 4)]
theorem hc121 : cCode Tryz.prog Tryz.f121.ntmps (Tryz.f121.body.getD .skip) = some sc121 := by kernel_rfl
theorem hr121 : cRes Tryz.prog Tryz.f121.results.toList = some rv121 := by kernel_rfl

/-- selfstab/graph.Distances -/
def sc122 : SC := (so [(o 2 (.box (.t 0))), (o 4 (.asg (.k .nilslice)))] (.seq (so [(o 5 (.load (.some 2) (.t 2))), (o 6 (.call 116 [(.t 5)])), (o 7 (.p (.un .not (.t 6)))), (mv 8 7), (of 9 8 (pm 1)), (of 10 8 (bn .lss (.t 9) (ki 0))), (o 11 (.p (.pick (.t 8) (.k (.bool true)) (.t 10)))), (mv 12 11), (of 13 12 (pm 1)), (of 14 12 (.p (.fld 1 (.t 2)))), (of 15 12 (.load none (.t 14))), (of 16 12 (ln 15)), (of 17 12 (bn .geq (.t 13) (.t 16))), (o 18 (.p (.pick (.t 12) (.k (.bool true)) (.t 17))))] (.cond (.t 18) (so [(o 4 (.asg (.k .nilslice)))] .ret) .skip)) (so [(o 19 (.load (.some 2) (.t 2))), (mv 20 1), (o 21 (.call 117 [(.t 19), (.t 20)])), (o 4 (at_ 21))] .ret)))
def rv122 : List RV := [(.tmp 4)]
theorem hc122 : cCode Tryz.prog Tryz.f122.ntmps (Tryz.f122.body.getD .skip) = some sc122 := by kernel_rfl
theorem hr122 : cRes Tryz.prog Tryz.f122.results.toList = some rv122 := by kernel_rfl

/-- selfstab/bfs.Right -/
def sc123 : SC := (so [(o 4 (.box (.t 0))), (o 5 (.box (.t 1))), (o 6 (.box (.t 2))), (o 8 (.asg (.k (.bool false))))] (so [(o 10 (.load (.some 2) (.t 4))), (ld 11 5), (o 12 (.p (.mkfn (.func 169) false [(.t 6), (.t 5)]))), (o 13 (.call 103 [(.t 10), (.t 11), (.t 12)])), (o 9 (at_ 13))] (so [(mv 14 3), (ld 15 6), (ld 16 5), (o 17 (.p (.ixs 1 (.t 15) (.t 16)))), (ld 18 17), (mv 19 9), (o 20 (.bslice 1 2 [(.t 18), (.t 19)])), (o 21 (.call 170 [(.t 14), (.t 20)])), (o 8 (at_ 21))] .ret)))
def rv123 : List RV := [(.tmp 8)]
theorem hc123 : cCode Tryz.prog Tryz.f123.ntmps (Tryz.f123.body.getD .skip) = some sc123 := by kernel_rfl
theorem hr123 : cRes Tryz.prog Tryz.f123.results.toList = some rv123 := by kernel_rfl

/-- selfstab/selfstabref01.Valid -/
def sc124 : SC := (so [(o 1 (.box (.t 0))), (o 2 (.asg (.k (.bool false))))] (so [(fl 10 1 1), (ld 11 10), (o 12 (ln 11)), (o 3 (at_ 12))] (.seq (so [(mv 13 3), (o 14 (.call 126 [(.t 13), (ki 1), (ki 24)])), (o 15 (.p (.un .not (.t 14)))), (mv 16 15), (of 17 16 (.p (.fld 0 (.t 1)))), (of 18 16 (.load none (.t 17))), (of 19 16 (ln 18)), (of 20 16 (pm 3)), (of 21 16 (bn .neq (.t 19) (.t 20))), (o 22 (.p (.pick (.t 16) (.k (.bool true)) (.t 21))))] (.cond (.t 22) (so [(o 2 (.asg (.k (.bool false))))] .ret) .skip)) (.seq (so [(o 4 (.asg (ki 0)))] (.block 0 (.loop (.seq (so [(mv 23 4), (mv 24 3), (o 25 (bn .lss (.t 23) (.t 24)))] (.cond (.t 25) .skip (.exit 0))) (.seq (.block 1 (.seq (so [(fl 28 0 1), (ld 29 28), (mv 30 4), (o 31 (.p (.ixs 1 (.t 29) (.t 30)))), (ld 32 31), (o 33 (.call 126 [(.t 32), (ki 0), (ki 255)])), (o 34 (.p (.un .not (.t 33)))), (mv 35 34), (of 36 35 (.p (.fld 1 (.t 1)))), (of 37 35 (.load none (.t 36))), (of 38 35 (pm 4)), (of 39 35 (.p (.ixs 1 (.t 37) (.t 38)))), (of 40 35 (.load none (.t 39))), (of 41 35 (ln 40)), (of 42 35 (pm 3)), (of 43 35 (bn .geq (.t 41) (.t 42))), (o 44 (.p (.pick (.t 35) (.k (.bool true)) (.t 43)))), (mv 45 44), (of 46 45 (.p (.fld 1 (.t 1)))), (of 47 45 (.load none (.t 46))), (of 48 45 (pm 4)), (of 49 45 (.p (.ixs 1 (.t 47) (.t 48)))), (of 50 45 (.load none (.t 49))), (of 51 45 (pm 4)), (of 52 45 (pm 3)), (of 53 45 (.call 171 [(.t 50), (.t 51), (.t 52)])), (of 54 45 (.p (.un .not (.t 53)))), (o 55 (.p (.pick (.t 45) (.k (.bool true)) (.t 54))))] (.cond (.t 55) (so [(o 2 (.asg (.k (.bool false))))] .ret) .skip)) (so [(o 5 (.asg (ki 0)))] (.block 2 (.loop (.seq (so [(mv 56 5), (mv 57 4), (o 58 (bn .lss (.t 56) (.t 57)))] (.cond (.t 58) .skip (.exit 2))) (.seq (.block 3 (.seq (.draw [(.op 0 (fl 61 0 1)), (.op 1 (ld 62 61)), (.op 2 (mv 63 5)), (.op 3 (o 64 (.p (.ixs 1 (.t 62) (.t 63))))), (.op 4 (ld 65 64)), (.op 5 (fl 66 0 1)), (.op 6 (ld 67 66)), (.op 7 (mv 68 4)), (.op 8 (o 69 (.p (.ixs 1 (.t 67) (.t 68))))), (.op 9 (ld 70 69)), (.op 10 (o 71 (bn .eql (.t 65) (.t 70))))]) (.cond (.t 71) (so [(o 2 (.asg (.k (.bool false))))] .ret) .skip))) (.ops [(mv 59 5), (o 60 (bn .add (.t 59) (ki 1))), (o 5 (at_ 60))])))))))) (.ops [(mv 26 4), (o 27 (bn .add (.t 26) (ki 1))), (o 4 (at_ 27))])))))) (.seq (so [(o 6 (.asg (ki 0)))] (.block 4 (.loop (.seq (so [(mv 72 6), (mv 73 3), (o 74 (bn .lss (.t 72) (.t 73)))] (.cond (.t 74) .skip (.exit 4))) (.seq (.block 5 (so [(o 7 (.asg (ki 0)))] (.block 6 (.loop (.seq (so [(mv 77 7), (fl 78 1 1), (ld 79 78), (mv 80 6), (o 81 (.p (.ixs 1 (.t 79) (.t 80)))), (ld 82 81), (o 83 (ln 82)), (o 84 (bn .lss (.t 77) (.t 83)))] (.cond (.t 84) .skip (.exit 6))) (.seq (.block 7 (so [(fl 87 1 1), (ld 88 87), (mv 89 6), (o 90 (.p (.ixs 1 (.t 88) (.t 89)))), (ld 91 90), (mv 92 7), (o 93 (.p (.ixs 2 (.t 91) (.t 92)))), (o 94 (.load (.some 2) (.t 93))), (o 8 (.alloc [(.int .i64 0), (.int .i64 0)])), (on (.store 2 (.t 8) (.t 94)))] (so [(o 95 (.load (.some 2) (.t 1))), (fl 96 0 8), (ld 97 96), (mv 98 6), (o 99 (.call 172 [(.t 95), (.t 97), (.t 98)])), (o 9 (at_ 99))] (.seq (.draw [(.op 0 (mv 100 9)), (.op 1 (o 101 (bn .lss (.t 100) (ki 0)))), (.op 2 (mv 102 101)), (.op 3 (of 103 102 (.p (.fld 1 (.t 1))))), (.op 4 (of 104 102 (.load none (.t 103)))), (.op 5 (of 105 102 (.p (.fld 0 (.t 8))))), (.op 6 (of 106 102 (.load none (.t 105)))), (.op 7 (of 107 102 (.p (.ixs 1 (.t 104) (.t 106))))), (.op 8 (of 108 102 (.load none (.t 107)))), (.op 9 (of 109 102 (pm 9))), (.op 10 (of 110 102 (.p (.ixs 2 (.t 108) (.t 109))))), (.op 11 (of 111 102 (.p (.fld 1 (.t 110))))), (.op 12 (of 112 102 (.load none (.t 111)))), (.op 13 (of 113 102 (.p (.fld 1 (.t 8))))), (.op 14 (of 114 102 (.load none (.t 113)))), (.op 15 (of 115 102 (bn .neq (.t 112) (.t 114)))), (.op 16 (o 116 (.p (.pick (.t 102) (.k (.bool true)) (.t 115)))))]) (.cond (.t 116) (so [(o 2 (.asg (.k (.bool false))))] .ret) .skip))))) (.ops [(mv 85 7), (o 86 (bn .add (.t 85) (ki 1))), (o 7 (at_ 86))]))))))) (.ops [(mv 75 6), (o 76 (bn .add (.t 75) (ki 1))), (o 6 (at_ 76))])))))) (so [(o 2 (.asg (.k (.bool true))))] .ret))))))
def rv124 : List RV := [(.tmp 2)]
theorem hc124 : cCode Tryz.prog Tryz.f124.ntmps (Tryz.f124.body.getD .skip) = some sc124 := by kernel_rfl
theorem hr124 : cRes Tryz.prog Tryz.f124.results.toList = some rv124 := by kernel_rfl

/-- selfstab/selfstabref23.top -/
def sc125 : SC := (so [(o 1 (.box (.t 0))), (o 2 (.asg (ki 0)))] (so [(o 3 (.asg (ki 0)))] (.seq (so [(o 4 (.asg (ki 0)))] (.block 0 (.loop (.seq (so [(mv 5 4), (fl 6 0 1), (ld 7 6), (o 8 (ln 7)), (o 9 (bn .lss (.t 5) (.t 8)))] (.cond (.t 9) .skip (.exit 0))) (.seq (.block 1 (.ops [(mv 12 3), (fl 13 0 1), (ld 14 13), (mv 15 4), (o 16 (.p (.ixs 1 (.t 14) (.t 15)))), (ld 17 16), (o 18 (.p (.mx (.t 12) (.t 17)))), (o 3 (at_ 18))])) (.ops [(mv 10 4), (o 11 (bn .add (.t 10) (ki 1))), (o 4 (at_ 11))])))))) (so [(mv 19 3), (o 2 (at_ 19))] .ret))))
def rv125 : List RV := [(.tmp 2)]
theorem hc125 : cCode Tryz.prog Tryz.f125.ntmps (Tryz.f125.body.getD .skip) = some sc125 := by kernel_rfl
theorem hr125 : cRes Tryz.prog Tryz.f125.results.toList = some rv125 := by kernel_rfl

/-- selfstab/selfstabref01.In -/
def sc126 : SC := (so [(o 6 (.asg (.k (.bool false))))] (so [(mv 7 0), (mv 8 1), (o 9 (bn .geq (.t 7) (.t 8))), (mv 10 9), (ot 11 10 (pm 0)), (ot 12 10 (pm 2)), (ot 13 10 (bn .leq (.t 11) (.t 12))), (o 14 (.p (.pick (.t 10) (.t 13) (.k (.bool false))))), (o 6 (at_ 14))] .ret))
def rv126 : List RV := [(.tmp 6)]
theorem hc126 : cCode Tryz.prog Tryz.f126.ntmps (Tryz.f126.body.getD .skip) = some sc126 := by kernel_rfl
theorem hr126 : cRes Tryz.prog Tryz.f126.results.toList = some rv126 := by kernel_rfl

/-- selfstab/graph.greatest -/
def sc127 : SC := (so [(o 2 (.asg (ki 0)))] (so [(o 3 (.asg (.k (.int .i64 (-1)))))] (.seq (so [(mv 6 0), (o 7 (ln 6)), (o 8 (.p (.mv (ki 0))))] (.block 0 (.loop (so [(o 9 (bn .lss (.t 8) (.t 7)))] (.seq (.cond (.t 9) .skip (.exit 0)) (.seq (.block 1 (so [(o 10 (.p (.ixs 1 (.t 6) (.t 8)))), (ld 11 10), (o 5 (at_ 11))] (.ops [(mv 12 3), (mv 13 5), (o 14 (.p (.mx (.t 12) (.t 13)))), (o 3 (at_ 14))]))) (.ops [(o 15 (bn .add (.t 8) (ki 1))), (mv 8 15)]))))))) (so [(mv 16 3), (o 2 (at_ 16))] .ret))))
def rv127 : List RV := [(.tmp 2)]
theorem hc127 : cCode Tryz.prog Tryz.f127.ntmps (Tryz.f127.body.getD .skip) = some sc127 := by kernel_rfl
theorem hr127 : cRes Tryz.prog Tryz.f127.results.toList = some rv127 := by kernel_rfl

/-- selfstab/memory.Check -/
noncomputable def sc129 : SC := (cCode Tryz.prog Tryz.f129.ntmps (Tryz.f129.body.getD .skip)).getD .skip
def rv129 : List RV := [(.tmp 6)]
theorem hc129 : cCode Tryz.prog Tryz.f129.ntmps (Tryz.f129.body.getD .skip) = some sc129 := by kernel_rfl
theorem hr129 : cRes Tryz.prog Tryz.f129.results.toList = some rv129 := by kernel_rfl

/-- selfstab/eval.NewScene -/
noncomputable def sc130 : SC := (cCode Tryz.prog Tryz.f130.ntmps (Tryz.f130.body.getD .skip)).getD .skip
def rv130 : List RV := [(.tmp 4)]
theorem hc130 : cCode Tryz.prog Tryz.f130.ntmps (Tryz.f130.body.getD .skip) = some sc130 := by kernel_rfl
theorem hr130 : cRes Tryz.prog Tryz.f130.results.toList = some rv130 := by kernel_rfl

/-- selfstab/domain.Table -/
noncomputable def sc131 : SC := (cCode Tryz.prog Tryz.f131.ntmps (Tryz.f131.body.getD .skip)).getD .skip
def rv131 : List RV := [(.tmp 4)]
theorem hc131 : cCode Tryz.prog Tryz.f131.ntmps (Tryz.f131.body.getD .skip) = some sc131 := by kernel_rfl
theorem hr131 : cRes Tryz.prog Tryz.f131.results.toList = some rv131 := by kernel_rfl

/-- selfstab/step.nodes -/
noncomputable def sc132 : SC := (cCode Tryz.prog Tryz.f132.ntmps (Tryz.f132.body.getD .skip)).getD .skip
def rv132 : List RV := [(.tmp 4)]
theorem hc132 : cCode Tryz.prog Tryz.f132.ntmps (Tryz.f132.body.getD .skip) = some sc132 := by kernel_rfl
theorem hr132 : cRes Tryz.prog Tryz.f132.results.toList = some rv132 := by kernel_rfl

/-- (*selfstab/step.Mover).Enabled$1 -/
noncomputable def sc133 : SC := (cCode Tryz.prog Tryz.f133.ntmps (Tryz.f133.body.getD .skip)).getD .skip
def rv133 : List RV := [(.tmp 4)]
theorem hc133 : cCode Tryz.prog Tryz.f133.ntmps (Tryz.f133.body.getD .skip) = some sc133 := by kernel_rfl
theorem hr133 : cRes Tryz.prog Tryz.f133.results.toList = some rv133 := by kernel_rfl

/-- (*selfstab/step.Mover).Rule -/
noncomputable def sc134 : SC := (cCode Tryz.prog Tryz.f134.ntmps (Tryz.f134.body.getD .skip)).getD .skip
def rv134 : List RV := [(.tmp 6)]
theorem hc134 : cCode Tryz.prog Tryz.f134.ntmps (Tryz.f134.body.getD .skip) = some sc134 := by kernel_rfl
theorem hr134 : cRes Tryz.prog Tryz.f134.results.toList = some rv134 := by kernel_rfl

/-- selfstab/lexer.next$1 -/
noncomputable def sc135 : SC := (cCode Tryz.prog Tryz.f135.ntmps (Tryz.f135.body.getD .skip)).getD .skip
def rv135 : List RV := [(.tmp 4)]
theorem hc135 : cCode Tryz.prog Tryz.f135.ntmps (Tryz.f135.body.getD .skip) = some sc135 := by kernel_rfl
theorem hr135 : cRes Tryz.prog Tryz.f135.results.toList = some rv135 := by kernel_rfl

/-- selfstab/lexer.letter -/
noncomputable def sc136 : SC := (cCode Tryz.prog Tryz.f136.ntmps (Tryz.f136.body.getD .skip)).getD .skip
def rv136 : List RV := [(.tmp 2)]
theorem hc136 : cCode Tryz.prog Tryz.f136.ntmps (Tryz.f136.body.getD .skip) = some sc136 := by kernel_rfl
theorem hr136 : cRes Tryz.prog Tryz.f136.results.toList = some rv136 := by kernel_rfl

/-- selfstab/lexer.inWord -/
noncomputable def sc137 : SC := (cCode Tryz.prog Tryz.f137.ntmps (Tryz.f137.body.getD .skip)).getD .skip
def rv137 : List RV := [(.tmp 2)]
theorem hc137 : cCode Tryz.prog Tryz.f137.ntmps (Tryz.f137.body.getD .skip) = some sc137 := by kernel_rfl
theorem hr137 : cRes Tryz.prog Tryz.f137.results.toList = some rv137 := by kernel_rfl

/-- selfstab/lexer.digit -/
noncomputable def sc138 : SC := (cCode Tryz.prog Tryz.f138.ntmps (Tryz.f138.body.getD .skip)).getD .skip
def rv138 : List RV := [(.tmp 2)]
theorem hc138 : cCode Tryz.prog Tryz.f138.ntmps (Tryz.f138.body.getD .skip) = some sc138 := by kernel_rfl
theorem hr138 : cRes Tryz.prog Tryz.f138.results.toList = some rv138 := by kernel_rfl

/-- selfstab/lexer.number -/
noncomputable def sc139 : SC := (cCode Tryz.prog Tryz.f139.ntmps (Tryz.f139.body.getD .skip)).getD .skip
def rv139 : List RV := [(.tmp 2), (.tmp 3)]
theorem hc139 : cCode Tryz.prog Tryz.f139.ntmps (Tryz.f139.body.getD .skip) = some sc139 := by kernel_rfl
theorem hr139 : cRes Tryz.prog Tryz.f139.results.toList = some rv139 := by kernel_rfl

/-- selfstab/lexer.sign -/
noncomputable def sc140 : SC := (cCode Tryz.prog Tryz.f140.ntmps (Tryz.f140.body.getD .skip)).getD .skip
def rv140 : List RV := [(.tmp 2)]
theorem hc140 : cCode Tryz.prog Tryz.f140.ntmps (Tryz.f140.body.getD .skip) = some sc140 := by kernel_rfl
theorem hr140 : cRes Tryz.prog Tryz.f140.results.toList = some rv140 := by kernel_rfl

/-- (*selfstab/expr.Reader).Accept -/
noncomputable def sc141 : SC := (cCode Tryz.prog Tryz.f141.ntmps (Tryz.f141.body.getD .skip)).getD .skip
def rv141 : List RV := [(.tmp 4)]
theorem hc141 : cCode Tryz.prog Tryz.f141.ntmps (Tryz.f141.body.getD .skip) = some sc141 := by kernel_rfl
theorem hr141 : cRes Tryz.prog Tryz.f141.results.toList = some rv141 := by kernel_rfl

/-- (*selfstab/expr.Reader).Peek -/
noncomputable def sc142 : SC := (cCode Tryz.prog Tryz.f142.ntmps (Tryz.f142.body.getD .skip)).getD .skip
def rv142 : List RV := [(.tmp 2)]
theorem hc142 : cCode Tryz.prog Tryz.f142.ntmps (Tryz.f142.body.getD .skip) = some sc142 := by kernel_rfl
theorem hr142 : cRes Tryz.prog Tryz.f142.results.toList = some rv142 := by kernel_rfl

/-- (*selfstab/expr.Reader).Kind -/
noncomputable def sc143 : SC := (cCode Tryz.prog Tryz.f143.ntmps (Tryz.f143.body.getD .skip)).getD .skip
def rv143 : List RV := [(.tmp 2)]
theorem hc143 : cCode Tryz.prog Tryz.f143.ntmps (Tryz.f143.body.getD .skip) = some sc143 := by kernel_rfl
theorem hr143 : cRes Tryz.prog Tryz.f143.results.toList = some rv143 := by kernel_rfl

/-- selfstab/lexer.Name -/
noncomputable def sc144 : SC := (cCode Tryz.prog Tryz.f144.ntmps (Tryz.f144.body.getD .skip)).getD .skip
def rv144 : List RV := [(.tmp 2)]
theorem hc144 : cCode Tryz.prog Tryz.f144.ntmps (Tryz.f144.body.getD .skip) = some sc144 := by kernel_rfl
theorem hr144 : cRes Tryz.prog Tryz.f144.results.toList = some rv144 := by kernel_rfl

/-- (*selfstab/expr.Reader).Take -/
noncomputable def sc145 : SC := (cCode Tryz.prog Tryz.f145.ntmps (Tryz.f145.body.getD .skip)).getD .skip
def rv145 : List RV := [(.cell 2 (.some 4))]
theorem hc145 : cCode Tryz.prog Tryz.f145.ntmps (Tryz.f145.body.getD .skip) = some sc145 := by kernel_rfl
theorem hr145 : cRes Tryz.prog Tryz.f145.results.toList = some rv145 := by kernel_rfl

/-- (*selfstab/program.reader).number -/
noncomputable def sc146 : SC := (cCode Tryz.prog Tryz.f146.ntmps (Tryz.f146.body.getD .skip)).getD .skip
def rv146 : List RV := [(.tmp 6)]
theorem hc146 : cCode Tryz.prog Tryz.f146.ntmps (Tryz.f146.body.getD .skip) = some sc146 := by kernel_rfl
theorem hr146 : cRes Tryz.prog Tryz.f146.results.toList = some rv146 := by kernel_rfl

/-- (*selfstab/program.reader).bound -/
noncomputable def sc147 : SC := (cCode Tryz.prog Tryz.f147.ntmps (Tryz.f147.body.getD .skip)).getD .skip
def rv147 : List RV := []
theorem hc147 : cCode Tryz.prog Tryz.f147.ntmps (Tryz.f147.body.getD .skip) = some sc147 := by kernel_rfl
theorem hr147 : cRes Tryz.prog Tryz.f147.results.toList = some rv147 := by kernel_rfl

/-- (*selfstab/expr.Reader).Choice -/
noncomputable def sc148 : SC := (cCode Tryz.prog Tryz.f148.ntmps (Tryz.f148.body.getD .skip)).getD .skip
def rv148 : List RV := [(.tmp 2)]
theorem hc148 : cCode Tryz.prog Tryz.f148.ntmps (Tryz.f148.body.getD .skip) = some sc148 := by kernel_rfl
theorem hr148 : cRes Tryz.prog Tryz.f148.results.toList = some rv148 := by kernel_rfl

/-- (*selfstab/expr.Reader).Variable -/
noncomputable def sc149 : SC := (cCode Tryz.prog Tryz.f149.ntmps (Tryz.f149.body.getD .skip)).getD .skip
def rv149 : List RV := [(.tmp 2)]
theorem hc149 : cCode Tryz.prog Tryz.f149.ntmps (Tryz.f149.body.getD .skip) = some sc149 := by kernel_rfl
theorem hr149 : cRes Tryz.prog Tryz.f149.results.toList = some rv149 := by kernel_rfl

/-- selfstab/types.possible -/
noncomputable def sc150 : SC := (cCode Tryz.prog Tryz.f150.ntmps (Tryz.f150.body.getD .skip)).getD .skip
def rv150 : List RV := [(.tmp 2)]
theorem hc150 : cCode Tryz.prog Tryz.f150.ntmps (Tryz.f150.body.getD .skip) = some sc150 := by kernel_rfl
theorem hr150 : cRes Tryz.prog Tryz.f150.results.toList = some rv150 := by kernel_rfl

/-- selfstab/types.within -/
noncomputable def sc151 : SC := (cCode Tryz.prog Tryz.f151.ntmps (Tryz.f151.body.getD .skip)).getD .skip
def rv151 : List RV := [(.tmp 6)]
theorem hc151 : cCode Tryz.prog Tryz.f151.ntmps (Tryz.f151.body.getD .skip) = some sc151 := by kernel_rfl
theorem hr151 : cRes Tryz.prog Tryz.f151.results.toList = some rv151 := by kernel_rfl

/-- selfstab/term.Valid -/
noncomputable def sc152 : SC := (cCode Tryz.prog Tryz.f152.ntmps (Tryz.f152.body.getD .skip)).getD .skip
def rv152 : List RV := [(.tmp 4)]
theorem hc152 : cCode Tryz.prog Tryz.f152.ntmps (Tryz.f152.body.getD .skip) = some sc152 := by kernel_rfl
theorem hr152 : cRes Tryz.prog Tryz.f152.results.toList = some rv152 := by kernel_rfl

/-- selfstab/types.Of -/
noncomputable def sc153 : SC := (cCode Tryz.prog Tryz.f153.ntmps (Tryz.f153.body.getD .skip)).getD .skip
def rv153 : List RV := [(.tmp 6), (.tmp 7)]
theorem hc153 : cCode Tryz.prog Tryz.f153.ntmps (Tryz.f153.body.getD .skip) = some sc153 := by kernel_rfl
theorem hr153 : cRes Tryz.prog Tryz.f153.results.toList = some rv153 := by kernel_rfl

/-- selfstab/selfstabworld.linked -/
noncomputable def sc154 : SC := (cCode Tryz.prog Tryz.f154.ntmps (Tryz.f154.body.getD .skip)).getD .skip
def rv154 : List RV := [(.tmp 6)]
theorem hc154 : cCode Tryz.prog Tryz.f154.ntmps (Tryz.f154.body.getD .skip) = some sc154 := by kernel_rfl
theorem hr154 : cRes Tryz.prog Tryz.f154.results.toList = some rv154 := by kernel_rfl

/-- selfstab/graph.DifferentIDs -/
def sc166 : SC := (so [(o 2 (.asg (.k (.bool false))))] (so [(o 3 (.alloca 256 (.bool false)))] (.seq (so [(mv 6 0), (o 7 (ln 6)), (o 8 (.p (.mv (ki 0))))] (.block 0 (.loop (so [(o 9 (bn .lss (.t 8) (.t 7)))] (.seq (.cond (.t 9) .skip (.exit 0)) (.seq (.block 1 (so [(o 10 (.p (.ixs 1 (.t 6) (.t 8)))), (ld 11 10), (o 5 (at_ 11))] (.seq (so [(mv 12 5), (o 13 (bn .lss (.t 12) (ki 0))), (mv 14 13), (of 15 14 (pm 5)), (of 16 14 (bn .gtr (.t 15) (ki 255))), (o 17 (.p (.pick (.t 14) (.k (.bool true)) (.t 16)))), (mv 18 17), (of 19 18 (pm 5)), (of 20 18 (.p (.ixa 256 1 (.t 3) (.t 19)))), (of 21 18 (.load none (.t 20))), (o 22 (.p (.pick (.t 18) (.k (.bool true)) (.t 21))))] (.cond (.t 22) (so [(o 2 (.asg (.k (.bool false))))] .ret) .skip)) (.ops [(mv 23 5), (o 24 (.p (.ixa 256 1 (.t 3) (.t 23)))), (on (.store 1 (.t 24) (.k (.bool true))))])))) (.ops [(o 25 (bn .add (.t 8) (ki 1))), (mv 8 25)]))))))) (so [(o 2 (.asg (.k (.bool true))))] .ret))))
def rv166 : List RV := [(.tmp 2)]
theorem hc166 : cCode Tryz.prog Tryz.f166.ntmps (Tryz.f166.body.getD .skip) = some sc166 := by kernel_rfl
theorem hr166 : cRes Tryz.prog Tryz.f166.results.toList = some rv166 := by kernel_rfl

/-- selfstab/graph.symmetric -/
def sc167 : SC := (so [(o 2 (.asg (.k (.bool false))))] (so [(o 13 (.xt (Go.Eng.XOp.mkmap (Go.Eng.MKd.pair .i64)))), (o 3 (at_ 13))] (.seq (so [(mv 14 0), (o 15 (ln 14)), (o 16 (.p (.mv (ki 0))))] (.block 0 (.loop (so [(o 17 (bn .lss (.t 16) (.t 15)))] (.seq (.cond (.t 17) .skip (.exit 0)) (.seq (.block 1 (so [(mv 18 16), (o 19 (.p (.ixs 1 (.t 14) (.t 16)))), (ld 20 19), (o 4 (at_ 18)), (o 5 (at_ 20))] (so [(mv 21 5), (o 22 (ln 21)), (o 23 (.p (.mv (ki 0))))] (.block 2 (.loop (so [(o 24 (bn .lss (.t 23) (.t 22)))] (.seq (.cond (.t 24) .skip (.exit 2)) (.seq (.block 3 (so [(o 25 (.p (.ixs 2 (.t 21) (.t 23)))), (o 26 (.load (.some 2) (.t 25))), (o 7 (.alloc [(.int .i64 0), (.int .i64 0)])), (on (.store 2 (.t 7) (.t 26)))] (.seq (so [(fl 27 0 7), (ld 28 27), (o 29 (bn .lss (.t 28) (ki 0))), (mv 30 29), (of 31 30 (.p (.fld 0 (.t 7)))), (of 32 30 (.load none (.t 31))), (of 33 30 (pm 0)), (of 34 30 (ln 33)), (of 35 30 (bn .geq (.t 32) (.t 34))), (o 36 (.p (.pick (.t 30) (.k (.bool true)) (.t 35)))), (mv 37 36), (of 38 37 (.p (.fld 0 (.t 7)))), (of 39 37 (.load none (.t 38))), (of 40 37 (pm 4)), (of 41 37 (bn .eql (.t 39) (.t 40))), (o 42 (.p (.pick (.t 37) (.k (.bool true)) (.t 41))))] (.cond (.t 42) (so [(o 2 (.asg (.k (.bool false))))] .ret) .skip)) (.seq (so [(fl 43 1 7), (ld 44 43), (o 45 (bn .lss (.t 44) (ki 1))), (mv 46 45), (of 47 46 (.p (.fld 1 (.t 7)))), (of 48 46 (.load none (.t 47))), (of 49 46 (bn .gtr (.t 48) (ki 15))), (o 50 (.p (.pick (.t 46) (.k (.bool true)) (.t 49))))] (.cond (.t 50) (so [(o 2 (.asg (.k (.bool false))))] .ret) .skip)) (so [(mv 51 4), (fl 52 0 7), (ld 53 52), (o 54 (.build [(.int .i64 0), (.int .i64 0)] [(0, (1, (.t 51))), (1, (1, (.t 53)))])), (o 8 (.alloc [(.int .i64 0), (.int .i64 0)])), (on (.store 2 (.t 8) (.t 54)))] (.seq (so [(mv 56 3), (o 57 (.load (.some 2) (.t 8))), (o 58 (.xt (Go.Eng.XOp.mget (Go.Eng.MKd.pair .i64) (.int .i64 0) true (.t 56) (.t 57)))), (mv 55 58), (o 59 (.p (.ext (.t 55) 0))), (o 60 (.p (.ext (.t 55) 1))), (o 9 (at_ 59)), (o 10 (at_ 60))] (so [(mv 61 10)] (.cond (.t 61) (so [(o 2 (.asg (.k (.bool false))))] .ret) .skip))) (.ops [(mv 62 3), (o 63 (.load (.some 2) (.t 8))), (fl 64 1 7), (ld 65 64), (on (.xt (Go.Eng.XOp.mput (Go.Eng.MKd.pair .i64) (.t 62) (.t 63) (.t 65))))]))))))) (.ops [(o 66 (bn .add (.t 23) (ki 1))), (mv 23 66)]))))))))) (.ops [(o 67 (bn .add (.t 16) (ki 1))), (mv 16 67)]))))))) (.seq (so [(mv 68 3), (o 69 (.xt (Go.Eng.XOp.mrng (.t 68))))] (.block 4 (.loop (so [(o 70 (.xt (Go.Eng.XOp.mnxt (.t 69)))), (o 71 (.p (.ext (.t 70) 0)))] (.seq (.cond (.t 71) .skip (.exit 4)) (.block 5 (so [(o 72 (.xt (Go.Eng.XOp.ment (.t 69)))), (o 73 (.p (.ext (.t 72) 0))), (o 74 (.p (.ext (.t 72) 1))), (o 11 (.alloc [(.int .i64 0), (.int .i64 0)])), (on (.store 2 (.t 11) (.t 73))), (o 12 (at_ 74))] (so [(mv 75 3), (o 76 (.p (.ixa 2 1 (.t 11) (ki 1)))), (ld 77 76), (o 78 (.p (.ixa 2 1 (.t 11) (ki 0)))), (ld 79 78), (o 80 (.build [(.int .i64 0), (.int .i64 0)] [(0, (1, (.t 77))), (1, (1, (.t 79)))])), (o 81 (.xt (Go.Eng.XOp.mget (Go.Eng.MKd.pair .i64) (.int .i64 0) false (.t 75) (.t 80)))), (mv 82 12), (o 83 (bn .neq (.t 81) (.t 82)))] (.cond (.t 83) (so [(o 2 (.asg (.k (.bool false))))] .ret) .skip))))))))) (so [(o 2 (.asg (.k (.bool true))))] .ret)))))
def rv167 : List RV := [(.tmp 2)]
theorem hc167 : cCode Tryz.prog Tryz.f167.ntmps (Tryz.f167.body.getD .skip) = some sc167 := by kernel_rfl
theorem hr167 : cRes Tryz.prog Tryz.f167.results.toList = some rv167 := by kernel_rfl

/-- selfstab/bfs.Fit -/
def sc168 : SC := (so [(o 1 (.box (.t 0))), (o 2 (.asg (.k (.bool false))))] (so [(o 3 (.load (.some 2) (.t 1))), (o 4 (.call 65 [(.t 3)])), (o 2 (at_ 4))] .ret))
def rv168 : List RV := [(.tmp 2)]
theorem hc168 : cCode Tryz.prog Tryz.f168.ntmps (Tryz.f168.body.getD .skip) = some sc168 := by kernel_rfl
theorem hr168 : cRes Tryz.prog Tryz.f168.results.toList = some rv168 := by kernel_rfl

/-- selfstab/bfs.Right$1 -/
def sc169 : SC := (so [(o 3 (.box (.t 0))), (o 4 (.asg (.k (.bool false))))] (.seq (.draw [(.op 0 (ld 5 1)), (.op 1 (fl 6 0 3)), (.op 2 (ld 7 6)), (.op 3 (o 8 (.p (.ixs 1 (.t 5) (.t 7))))), (.op 4 (ld 9 8)), (.op 5 (ld 10 1)), (.op 6 (ld 11 2)), (.op 7 (o 12 (.p (.ixs 1 (.t 10) (.t 11))))), (.op 8 (ld 13 12)), (.op 9 (o 14 (bn .sub (.t 13) (ki 1)))), (.op 10 (o 15 (bn .eql (.t 9) (.t 14)))), (ef 11 (o 4 (at_ 15)))]) .ret))
def rv169 : List RV := [(.tmp 4)]
theorem hc169 : cCode Tryz.prog Tryz.f169.ntmps (Tryz.f169.body.getD .skip) = some sc169 := by kernel_rfl
theorem hr169 : cRes Tryz.prog Tryz.f169.results.toList = some rv169 := by kernel_rfl

/-- slices.Equal[[]int,int] -/
def sc170 : SC := (so [(o 4 (.asg (.k (.bool false))))] (.seq (so [(mv 6 0), (o 7 (ln 6)), (mv 8 1), (o 9 (ln 8)), (o 10 (bn .neq (.t 7) (.t 9)))] (.cond (.t 10) (so [(o 4 (.asg (.k (.bool false))))] .ret) .skip)) (.seq (so [(mv 11 0), (o 12 (ln 11)), (o 13 (.p (.mv (ki 0))))] (.block 0 (.loop (so [(o 14 (bn .lss (.t 13) (.t 12)))] (.seq (.cond (.t 14) .skip (.exit 0)) (.seq (.block 1 (so [(mv 15 13), (o 5 (at_ 15))] (.seq (.draw [(.op 0 (mv 16 0)), (.op 1 (mv 17 5)), (.op 2 (o 18 (.p (.ixs 1 (.t 16) (.t 17))))), (.op 3 (ld 19 18)), (.op 4 (mv 20 1)), (.op 5 (mv 21 5)), (.op 6 (o 22 (.p (.ixs 1 (.t 20) (.t 21))))), (.op 7 (ld 23 22)), (.op 8 (o 24 (bn .neq (.t 19) (.t 23))))]) (.cond (.t 24) (so [(o 4 (.asg (.k (.bool false))))] .ret) .skip)))) (.ops [(o 25 (bn .add (.t 13) (ki 1))), (mv 13 25)]))))))) (so [(o 4 (.asg (.k (.bool true))))] .ret))))
def rv170 : List RV := [(.tmp 4)]
theorem hc170 : cCode Tryz.prog Tryz.f170.ntmps (Tryz.f170.body.getD .skip) = some sc170 := by kernel_rfl
theorem hr170 : cRes Tryz.prog Tryz.f170.results.toList = some rv170 := by kernel_rfl

/-- selfstab/selfstabref01.linksValid -/
def sc171 : SC := (so [(o 6 (.asg (.k (.bool false))))] (.seq (so [(o 7 (.asg (ki 0)))] (.block 0 (.loop (.seq (so [(mv 9 7), (mv 10 0), (o 11 (ln 10)), (o 12 (bn .lss (.t 9) (.t 11)))] (.cond (.t 12) .skip (.exit 0))) (.seq (.block 1 (.seq (so [(mv 15 0), (mv 16 7), (o 17 (.p (.ixs 2 (.t 15) (.t 16)))), (fl 18 0 17), (ld 19 18), (mv 20 2), (o 21 (bn .sub (.t 20) (ki 1))), (o 22 (.call 126 [(.t 19), (ki 0), (.t 21)])), (o 23 (.p (.un .not (.t 22)))), (mv 24 23), (of 25 24 (pm 0)), (of 26 24 (pm 7)), (of 27 24 (.p (.ixs 2 (.t 25) (.t 26)))), (of 28 24 (.p (.fld 0 (.t 27)))), (of 29 24 (.load none (.t 28))), (of 30 24 (pm 1)), (of 31 24 (bn .eql (.t 29) (.t 30))), (o 32 (.p (.pick (.t 24) (.k (.bool true)) (.t 31)))), (mv 33 32), (of 34 33 (pm 0)), (of 35 33 (pm 7)), (of 36 33 (.p (.ixs 2 (.t 34) (.t 35)))), (of 37 33 (.p (.fld 1 (.t 36)))), (of 38 33 (.load none (.t 37))), (of 39 33 (.call 126 [(.t 38), (ki 1), (ki 15)])), (of 40 33 (.p (.un .not (.t 39)))), (o 41 (.p (.pick (.t 33) (.k (.bool true)) (.t 40))))] (.cond (.t 41) (so [(o 6 (.asg (.k (.bool false))))] .ret) .skip)) (so [(o 8 (.asg (ki 0)))] (.block 2 (.loop (.seq (so [(mv 42 8), (mv 43 7), (o 44 (bn .lss (.t 42) (.t 43)))] (.cond (.t 44) .skip (.exit 2))) (.seq (.block 3 (.seq (.draw [(.op 0 (mv 47 0)), (.op 1 (mv 48 8)), (.op 2 (o 49 (.p (.ixs 2 (.t 47) (.t 48))))), (.op 3 (fl 50 0 49)), (.op 4 (ld 51 50)), (.op 5 (mv 52 0)), (.op 6 (mv 53 7)), (.op 7 (o 54 (.p (.ixs 2 (.t 52) (.t 53))))), (.op 8 (fl 55 0 54)), (.op 9 (ld 56 55)), (.op 10 (o 57 (bn .eql (.t 51) (.t 56))))]) (.cond (.t 57) (so [(o 6 (.asg (.k (.bool false))))] .ret) .skip))) (.ops [(mv 45 8), (o 46 (bn .add (.t 45) (ki 1))), (o 8 (at_ 46))])))))))) (.ops [(mv 13 7), (o 14 (bn .add (.t 13) (ki 1))), (o 7 (at_ 14))])))))) (so [(o 6 (.asg (.k (.bool true))))] .ret)))
def rv171 : List RV := [(.tmp 6)]
theorem hc171 : cCode Tryz.prog Tryz.f171.ntmps (Tryz.f171.body.getD .skip) = some sc171 := by kernel_rfl
theorem hr171 : cRes Tryz.prog Tryz.f171.results.toList = some rv171 := by kernel_rfl

/-- selfstab/selfstabref01.Port -/
def sc172 : SC := (so [(o 3 (.box (.t 0))), (o 6 (.asg (ki 0)))] (.seq (so [(o 7 (.asg (ki 0)))] (.block 0 (.loop (.seq (so [(mv 8 7), (fl 9 1 3), (ld 10 9), (mv 11 1), (o 12 (.p (.ixs 1 (.t 10) (.t 11)))), (ld 13 12), (o 14 (ln 13)), (o 15 (bn .lss (.t 8) (.t 14)))] (.cond (.t 15) .skip (.exit 0))) (.seq (.block 1 (so [(fl 18 1 3), (ld 19 18), (mv 20 1), (o 21 (.p (.ixs 1 (.t 19) (.t 20)))), (ld 22 21), (mv 23 7), (o 24 (.p (.ixs 2 (.t 22) (.t 23)))), (fl 25 0 24), (ld 26 25), (mv 27 2), (o 28 (bn .eql (.t 26) (.t 27)))] (.cond (.t 28) (so [(mv 29 7), (o 6 (at_ 29))] .ret) .skip))) (.ops [(mv 16 7), (o 17 (bn .add (.t 16) (ki 1))), (o 7 (at_ 17))])))))) (so [(o 6 (.asg (.k (.int .i64 (-1)))))] .ret)))
def rv172 : List RV := [(.tmp 6)]
theorem hc172 : cCode Tryz.prog Tryz.f172.ntmps (Tryz.f172.body.getD .skip) = some sc172 := by kernel_rfl
theorem hr172 : cRes Tryz.prog Tryz.f172.results.toList = some rv172 := by kernel_rfl

/-- selfstab/domain.Fits -/
noncomputable def sc173 : SC := (cCode Tryz.prog Tryz.f173.ntmps (Tryz.f173.body.getD .skip)).getD .skip
def rv173 : List RV := [(.tmp 4)]
theorem hc173 : cCode Tryz.prog Tryz.f173.ntmps (Tryz.f173.body.getD .skip) = some sc173 := by kernel_rfl
theorem hr173 : cRes Tryz.prog Tryz.f173.results.toList = some rv173 := by kernel_rfl

/-- selfstab/memory.within -/
noncomputable def sc174 : SC := (cCode Tryz.prog Tryz.f174.ntmps (Tryz.f174.body.getD .skip)).getD .skip
def rv174 : List RV := [(.tmp 4)]
theorem hc174 : cCode Tryz.prog Tryz.f174.ntmps (Tryz.f174.body.getD .skip) = some sc174 := by kernel_rfl
theorem hr174 : cRes Tryz.prog Tryz.f174.results.toList = some rv174 := by kernel_rfl

/-- selfstab/graph.PortTo -/
noncomputable def sc175 : SC := (cCode Tryz.prog Tryz.f175.ntmps (Tryz.f175.body.getD .skip)).getD .skip
def rv175 : List RV := [(.tmp 6)]
theorem hc175 : cCode Tryz.prog Tryz.f175.ntmps (Tryz.f175.body.getD .skip) = some sc175 := by kernel_rfl
theorem hr175 : cRes Tryz.prog Tryz.f175.results.toList = some rv175 := by kernel_rfl

/-- selfstab/domain.Bounds -/
noncomputable def sc176 : SC := (cCode Tryz.prog Tryz.f176.ntmps (Tryz.f176.body.getD .skip)).getD .skip
def rv176 : List RV := [(.tmp 6), (.tmp 7)]
theorem hc176 : cCode Tryz.prog Tryz.f176.ntmps (Tryz.f176.body.getD .skip) = some sc176 := by kernel_rfl
theorem hr176 : cRes Tryz.prog Tryz.f176.results.toList = some rv176 := by kernel_rfl

/-- (*selfstab/eval.Scene).Guard -/
noncomputable def sc177 : SC := (cCode Tryz.prog Tryz.f177.ntmps (Tryz.f177.body.getD .skip)).getD .skip
def rv177 : List RV := [(.tmp 8)]
theorem hc177 : cCode Tryz.prog Tryz.f177.ntmps (Tryz.f177.body.getD .skip) = some sc177 := by kernel_rfl
theorem hr177 : cRes Tryz.prog Tryz.f177.results.toList = some rv177 := by kernel_rfl

/-- strings.HasPrefix -/
noncomputable def sc178 : SC := (cCode Tryz.prog Tryz.f178.ntmps (Tryz.f178.body.getD .skip)).getD .skip
def rv178 : List RV := [(.tmp 4)]
theorem hc178 : cCode Tryz.prog Tryz.f178.ntmps (Tryz.f178.body.getD .skip) = some sc178 := by kernel_rfl
theorem hr178 : cRes Tryz.prog Tryz.f178.results.toList = some rv178 := by kernel_rfl

/-- strings.IndexByte -/
noncomputable def sc179 : SC := (cCode Tryz.prog Tryz.f179.ntmps (Tryz.f179.body.getD .skip)).getD .skip
def rv179 : List RV := [(.tmp 4)]
theorem hc179 : cCode Tryz.prog Tryz.f179.ntmps (Tryz.f179.body.getD .skip) = some sc179 := by kernel_rfl
theorem hr179 : cRes Tryz.prog Tryz.f179.results.toList = some rv179 := by kernel_rfl

/-- selfstab/lexer.Reserved -/
noncomputable def sc180 : SC := (cCode Tryz.prog Tryz.f180.ntmps (Tryz.f180.body.getD .skip)).getD .skip
def rv180 : List RV := [(.tmp 2)]
theorem hc180 : cCode Tryz.prog Tryz.f180.ntmps (Tryz.f180.body.getD .skip) = some sc180 := by kernel_rfl
theorem hr180 : cRes Tryz.prog Tryz.f180.results.toList = some rv180 := by kernel_rfl

/-- (*selfstab/program.reader).first -/
noncomputable def sc181 : SC := (cCode Tryz.prog Tryz.f181.ntmps (Tryz.f181.body.getD .skip)).getD .skip
def rv181 : List RV := [(.tmp 2)]
theorem hc181 : cCode Tryz.prog Tryz.f181.ntmps (Tryz.f181.body.getD .skip) = some sc181 := by kernel_rfl
theorem hr181 : cRes Tryz.prog Tryz.f181.results.toList = some rv181 := by kernel_rfl

/-- (*selfstab/expr.Reader).binary -/
noncomputable def sc182 : SC := (cCode Tryz.prog Tryz.f182.ntmps (Tryz.f182.body.getD .skip)).getD .skip
def rv182 : List RV := [(.tmp 4)]
theorem hc182 : cCode Tryz.prog Tryz.f182.ntmps (Tryz.f182.body.getD .skip) = some sc182 := by kernel_rfl
theorem hr182 : cRes Tryz.prog Tryz.f182.results.toList = some rv182 := by kernel_rfl

/-- selfstab/expr.operation -/
noncomputable def sc183 : SC := (cCode Tryz.prog Tryz.f183.ntmps (Tryz.f183.body.getD .skip)).getD .skip
def rv183 : List RV := [(.tmp 4)]
theorem hc183 : cCode Tryz.prog Tryz.f183.ntmps (Tryz.f183.body.getD .skip) = some sc183 := by kernel_rfl
theorem hr183 : cRes Tryz.prog Tryz.f183.results.toList = some rv183 := by kernel_rfl

/-- slices.Index[[]string,string] -/
noncomputable def sc184 : SC := (cCode Tryz.prog Tryz.f184.ntmps (Tryz.f184.body.getD .skip)).getD .skip
def rv184 : List RV := [(.tmp 4)]
theorem hc184 : cCode Tryz.prog Tryz.f184.ntmps (Tryz.f184.body.getD .skip) = some sc184 := by kernel_rfl
theorem hr184 : cRes Tryz.prog Tryz.f184.results.toList = some rv184 := by kernel_rfl

/-- selfstab/term.End -/
noncomputable def sc185 : SC := (cCode Tryz.prog Tryz.f185.ntmps (Tryz.f185.body.getD .skip)).getD .skip
def rv185 : List RV := [(.tmp 4)]
theorem hc185 : cCode Tryz.prog Tryz.f185.ntmps (Tryz.f185.body.getD .skip) = some sc185 := by kernel_rfl
theorem hr185 : cRes Tryz.prog Tryz.f185.results.toList = some rv185 := by kernel_rfl

/-- selfstab/term.argument -/
noncomputable def sc186 : SC := (cCode Tryz.prog Tryz.f186.ntmps (Tryz.f186.body.getD .skip)).getD .skip
def rv186 : List RV := [(.tmp 4)]
theorem hc186 : cCode Tryz.prog Tryz.f186.ntmps (Tryz.f186.body.getD .skip) = some sc186 := by kernel_rfl
theorem hr186 : cRes Tryz.prog Tryz.f186.results.toList = some rv186 := by kernel_rfl

/-- selfstab/term.Depth -/
noncomputable def sc187 : SC := (cCode Tryz.prog Tryz.f187.ntmps (Tryz.f187.body.getD .skip)).getD .skip
def rv187 : List RV := [(.tmp 2)]
theorem hc187 : cCode Tryz.prog Tryz.f187.ntmps (Tryz.f187.body.getD .skip) = some sc187 := by kernel_rfl
theorem hr187 : cRes Tryz.prog Tryz.f187.results.toList = some rv187 := by kernel_rfl

/-- selfstab/term.Nest -/
noncomputable def sc188 : SC := (cCode Tryz.prog Tryz.f188.ntmps (Tryz.f188.body.getD .skip)).getD .skip
def rv188 : List RV := [(.tmp 2)]
theorem hc188 : cCode Tryz.prog Tryz.f188.ntmps (Tryz.f188.body.getD .skip) = some sc188 := by kernel_rfl
theorem hr188 : cRes Tryz.prog Tryz.f188.results.toList = some rv188 := by kernel_rfl

/-- (selfstab/types.typer).read -/
noncomputable def sc189 : SC := (cCode Tryz.prog Tryz.f189.ntmps (Tryz.f189.body.getD .skip)).getD .skip
def rv189 : List RV := [(.tmp 6), (.tmp 7)]
theorem hc189 : cCode Tryz.prog Tryz.f189.ntmps (Tryz.f189.body.getD .skip) = some sc189 := by kernel_rfl
theorem hr189 : cRes Tryz.prog Tryz.f189.results.toList = some rv189 := by kernel_rfl

/-- selfstab/types.Valid -/
noncomputable def sc196 : SC := (cCode Tryz.prog Tryz.f196.ntmps (Tryz.f196.body.getD .skip)).getD .skip
def rv196 : List RV := [(.tmp 2)]
theorem hc196 : cCode Tryz.prog Tryz.f196.ntmps (Tryz.f196.body.getD .skip) = some sc196 := by kernel_rfl
theorem hr196 : cRes Tryz.prog Tryz.f196.results.toList = some rv196 := by kernel_rfl

/-- selfstab/memory.State -/
noncomputable def sc197 : SC := (cCode Tryz.prog Tryz.f197.ntmps (Tryz.f197.body.getD .skip)).getD .skip
def rv197 : List RV := [(.tmp 4)]
theorem hc197 : cCode Tryz.prog Tryz.f197.ntmps (Tryz.f197.body.getD .skip) = some sc197 := by kernel_rfl
theorem hr197 : cRes Tryz.prog Tryz.f197.results.toList = some rv197 := by kernel_rfl

/-- selfstab/domain.Bounds$1 -/
noncomputable def sc198 : SC := (cCode Tryz.prog Tryz.f198.ntmps (Tryz.f198.body.getD .skip)).getD .skip
def rv198 : List RV := [(.tmp 6), (.tmp 7)]
theorem hc198 : cCode Tryz.prog Tryz.f198.ntmps (Tryz.f198.body.getD .skip) = some sc198 := by kernel_rfl
theorem hr198 : cRes Tryz.prog Tryz.f198.results.toList = some rv198 := by kernel_rfl

/-- slices.Max[[]int,int] -/
noncomputable def sc199 : SC := (cCode Tryz.prog Tryz.f199.ntmps (Tryz.f199.body.getD .skip)).getD .skip
def rv199 : List RV := [(.tmp 2)]
theorem hc199 : cCode Tryz.prog Tryz.f199.ntmps (Tryz.f199.body.getD .skip) = some sc199 := by kernel_rfl
theorem hr199 : cRes Tryz.prog Tryz.f199.results.toList = some rv199 := by kernel_rfl

/-- selfstab/domain.Bounds$2 -/
noncomputable def sc200 : SC := (cCode Tryz.prog Tryz.f200.ntmps (Tryz.f200.body.getD .skip)).getD .skip
def rv200 : List RV := [(.tmp 6), (.tmp 7)]
theorem hc200 : cCode Tryz.prog Tryz.f200.ntmps (Tryz.f200.body.getD .skip) = some sc200 := by kernel_rfl
theorem hr200 : cRes Tryz.prog Tryz.f200.results.toList = some rv200 := by kernel_rfl

/-- selfstab/domain.Bounds$3 -/
noncomputable def sc201 : SC := (cCode Tryz.prog Tryz.f201.ntmps (Tryz.f201.body.getD .skip)).getD .skip
def rv201 : List RV := [(.tmp 6), (.tmp 7)]
theorem hc201 : cCode Tryz.prog Tryz.f201.ntmps (Tryz.f201.body.getD .skip) = some sc201 := by kernel_rfl
theorem hr201 : cRes Tryz.prog Tryz.f201.results.toList = some rv201 := by kernel_rfl

/-- (*selfstab/eval.Scene).Value -/
noncomputable def sc202 : SC := (cCode Tryz.prog Tryz.f202.ntmps (Tryz.f202.body.getD .skip)).getD .skip
def rv202 : List RV := [(.tmp 8)]
theorem hc202 : cCode Tryz.prog Tryz.f202.ntmps (Tryz.f202.body.getD .skip) = some sc202 := by kernel_rfl
theorem hr202 : cRes Tryz.prog Tryz.f202.results.toList = some rv202 := by kernel_rfl

/-- internal/stringslite.HasPrefix -/
noncomputable def sc203 : SC := (cCode Tryz.prog Tryz.f203.ntmps (Tryz.f203.body.getD .skip)).getD .skip
def rv203 : List RV := [(.tmp 4)]
theorem hc203 : cCode Tryz.prog Tryz.f203.ntmps (Tryz.f203.body.getD .skip) = some sc203 := by kernel_rfl
theorem hr203 : cRes Tryz.prog Tryz.f203.results.toList = some rv203 := by kernel_rfl

/-- (*selfstab/program.reader).starred -/
noncomputable def sc205 : SC := (cCode Tryz.prog Tryz.f205.ntmps (Tryz.f205.body.getD .skip)).getD .skip
def rv205 : List RV := [(.tmp 2)]
theorem hc205 : cCode Tryz.prog Tryz.f205.ntmps (Tryz.f205.body.getD .skip) = some sc205 := by kernel_rfl
theorem hr205 : cRes Tryz.prog Tryz.f205.results.toList = some rv205 := by kernel_rfl

/-- (*selfstab/expr.Reader).unary -/
noncomputable def sc206 : SC := (cCode Tryz.prog Tryz.f206.ntmps (Tryz.f206.body.getD .skip)).getD .skip
def rv206 : List RV := [(.tmp 2)]
theorem hc206 : cCode Tryz.prog Tryz.f206.ntmps (Tryz.f206.body.getD .skip) = some sc206 := by kernel_rfl
theorem hr206 : cRes Tryz.prog Tryz.f206.results.toList = some rv206 := by kernel_rfl

/-- selfstab/expr.binaryOp -/
noncomputable def sc207 : SC := (cCode Tryz.prog Tryz.f207.ntmps (Tryz.f207.body.getD .skip)).getD .skip
def rv207 : List RV := [(.tmp 2)]
theorem hc207 : cCode Tryz.prog Tryz.f207.ntmps (Tryz.f207.body.getD .skip) = some sc207 := by kernel_rfl
theorem hr207 : cRes Tryz.prog Tryz.f207.results.toList = some rv207 := by kernel_rfl

/-- selfstab/expr.levelOf -/
noncomputable def sc208 : SC := (cCode Tryz.prog Tryz.f208.ntmps (Tryz.f208.body.getD .skip)).getD .skip
def rv208 : List RV := [(.tmp 2)]
theorem hc208 : cCode Tryz.prog Tryz.f208.ntmps (Tryz.f208.body.getD .skip) = some sc208 := by kernel_rfl
theorem hr208 : cRes Tryz.prog Tryz.f208.results.toList = some rv208 := by kernel_rfl

/-- selfstab/expr.leaf -/
noncomputable def sc209 : SC := (cCode Tryz.prog Tryz.f209.ntmps (Tryz.f209.body.getD .skip)).getD .skip
def rv209 : List RV := [(.tmp 4)]
theorem hc209 : cCode Tryz.prog Tryz.f209.ntmps (Tryz.f209.body.getD .skip) = some sc209 := by kernel_rfl
theorem hr209 : cRes Tryz.prog Tryz.f209.results.toList = some rv209 := by kernel_rfl

/-- selfstab/term.Arity -/
noncomputable def sc210 : SC := (cCode Tryz.prog Tryz.f210.ntmps (Tryz.f210.body.getD .skip)).getD .skip
def rv210 : List RV := [(.tmp 2)]
theorem hc210 : cCode Tryz.prog Tryz.f210.ntmps (Tryz.f210.body.getD .skip) = some sc210 := by kernel_rfl
theorem hr210 : cRes Tryz.prog Tryz.f210.results.toList = some rv210 := by kernel_rfl

/-- selfstab/term.levels -/
noncomputable def sc211 : SC := (cCode Tryz.prog Tryz.f211.ntmps (Tryz.f211.body.getD .skip)).getD .skip
def rv211 : List RV := [(.tmp 4), (.tmp 5)]
theorem hc211 : cCode Tryz.prog Tryz.f211.ntmps (Tryz.f211.body.getD .skip) = some sc211 := by kernel_rfl
theorem hr211 : cRes Tryz.prog Tryz.f211.results.toList = some rv211 := by kernel_rfl

/-- selfstab/term.Depth$1 -/
noncomputable def sc212 : SC := (cCode Tryz.prog Tryz.f212.ntmps (Tryz.f212.body.getD .skip)).getD .skip
def rv212 : List RV := [(.tmp 4)]
theorem hc212 : cCode Tryz.prog Tryz.f212.ntmps (Tryz.f212.body.getD .skip) = some sc212 := by kernel_rfl
theorem hr212 : cRes Tryz.prog Tryz.f212.results.toList = some rv212 := by kernel_rfl

/-- selfstab/term.Nest$1 -/
noncomputable def sc213 : SC := (cCode Tryz.prog Tryz.f213.ntmps (Tryz.f213.body.getD .skip)).getD .skip
def rv213 : List RV := [(.tmp 4)]
theorem hc213 : cCode Tryz.prog Tryz.f213.ntmps (Tryz.f213.body.getD .skip) = some sc213 := by kernel_rfl
theorem hr213 : cRes Tryz.prog Tryz.f213.results.toList = some rv213 := by kernel_rfl

/-- selfstab/term.Aggregate -/
noncomputable def sc214 : SC := (cCode Tryz.prog Tryz.f214.ntmps (Tryz.f214.body.getD .skip)).getD .skip
def rv214 : List RV := [(.tmp 2)]
theorem hc214 : cCode Tryz.prog Tryz.f214.ntmps (Tryz.f214.body.getD .skip) = some sc214 := by kernel_rfl
theorem hr214 : cRes Tryz.prog Tryz.f214.results.toList = some rv214 := by kernel_rfl

/-- selfstab/term.Near -/
noncomputable def sc215 : SC := (cCode Tryz.prog Tryz.f215.ntmps (Tryz.f215.body.getD .skip)).getD .skip
def rv215 : List RV := [(.tmp 2)]
theorem hc215 : cCode Tryz.prog Tryz.f215.ntmps (Tryz.f215.body.getD .skip) = some sc215 := by kernel_rfl
theorem hr215 : cRes Tryz.prog Tryz.f215.results.toList = some rv215 := by kernel_rfl

/-- (selfstab/types.typer).leaf -/
noncomputable def sc216 : SC := (cCode Tryz.prog Tryz.f216.ntmps (Tryz.f216.body.getD .skip)).getD .skip
def rv216 : List RV := [(.tmp 4)]
theorem hc216 : cCode Tryz.prog Tryz.f216.ntmps (Tryz.f216.body.getD .skip) = some sc216 := by kernel_rfl
theorem hr216 : cRes Tryz.prog Tryz.f216.results.toList = some rv216 := by kernel_rfl

/-- selfstab/types.result -/
noncomputable def sc217 : SC := (cCode Tryz.prog Tryz.f217.ntmps (Tryz.f217.body.getD .skip)).getD .skip
def rv217 : List RV := [(.tmp 4)]
theorem hc217 : cCode Tryz.prog Tryz.f217.ntmps (Tryz.f217.body.getD .skip) = some sc217 := by kernel_rfl
theorem hr217 : cRes Tryz.prog Tryz.f217.results.toList = some rv217 := by kernel_rfl

/-- (*selfstab/eval.walk).value -/
noncomputable def sc228 : SC := (cCode Tryz.prog Tryz.f228.ntmps (Tryz.f228.body.getD .skip)).getD .skip
def rv228 : List RV := [(.tmp 6), (.tmp 7)]
theorem hc228 : cCode Tryz.prog Tryz.f228.ntmps (Tryz.f228.body.getD .skip) = some sc228 := by kernel_rfl
theorem hr228 : cRes Tryz.prog Tryz.f228.results.toList = some rv228 := by kernel_rfl

/-- (*selfstab/expr.Reader).primary -/
noncomputable def sc230 : SC := (cCode Tryz.prog Tryz.f230.ntmps (Tryz.f230.body.getD .skip)).getD .skip
def rv230 : List RV := [(.tmp 2)]
theorem hc230 : cCode Tryz.prog Tryz.f230.ntmps (Tryz.f230.body.getD .skip) = some sc230 := by kernel_rfl
theorem hr230 : cRes Tryz.prog Tryz.f230.results.toList = some rv230 := by kernel_rfl

/-- selfstab/expr.find -/
noncomputable def sc231 : SC := (cCode Tryz.prog Tryz.f231.ntmps (Tryz.f231.body.getD .skip)).getD .skip
def rv231 : List RV := [(.tmp 6)]
theorem hc231 : cCode Tryz.prog Tryz.f231.ntmps (Tryz.f231.body.getD .skip) = some sc231 := by kernel_rfl
theorem hr231 : cRes Tryz.prog Tryz.f231.results.toList = some rv231 := by kernel_rfl

/-- selfstab/expr.binarySigns -/
noncomputable def sc232 : SC := (cCode Tryz.prog Tryz.f232.ntmps (Tryz.f232.body.getD .skip)).getD .skip
def rv232 : List RV := [(.tmp 0)]
theorem hc232 : cCode Tryz.prog Tryz.f232.ntmps (Tryz.f232.body.getD .skip) = some sc232 := by kernel_rfl
theorem hr232 : cRes Tryz.prog Tryz.f232.results.toList = some rv232 := by kernel_rfl

/-- selfstab/types.ifTrue -/
noncomputable def sc233 : SC := (cCode Tryz.prog Tryz.f233.ntmps (Tryz.f233.body.getD .skip)).getD .skip
def rv233 : List RV := [(.tmp 4)]
theorem hc233 : cCode Tryz.prog Tryz.f233.ntmps (Tryz.f233.body.getD .skip) = some sc233 := by kernel_rfl
theorem hr233 : cRes Tryz.prog Tryz.f233.results.toList = some rv233 := by kernel_rfl

/-- (*selfstab/eval.walk).leaf -/
noncomputable def sc240 : SC := (cCode Tryz.prog Tryz.f240.ntmps (Tryz.f240.body.getD .skip)).getD .skip
def rv240 : List RV := [(.tmp 6)]
theorem hc240 : cCode Tryz.prog Tryz.f240.ntmps (Tryz.f240.body.getD .skip) = some sc240 := by kernel_rfl
theorem hr240 : cRes Tryz.prog Tryz.f240.results.toList = some rv240 := by kernel_rfl

/-- selfstab/eval.unary -/
noncomputable def sc241 : SC := (cCode Tryz.prog Tryz.f241.ntmps (Tryz.f241.body.getD .skip)).getD .skip
def rv241 : List RV := [(.tmp 4)]
theorem hc241 : cCode Tryz.prog Tryz.f241.ntmps (Tryz.f241.body.getD .skip) = some sc241 := by kernel_rfl
theorem hr241 : cRes Tryz.prog Tryz.f241.results.toList = some rv241 := by kernel_rfl

/-- (*selfstab/eval.walk).aggregate -/
noncomputable def sc242 : SC := (cCode Tryz.prog Tryz.f242.ntmps (Tryz.f242.body.getD .skip)).getD .skip
def rv242 : List RV := [(.tmp 6), (.tmp 7)]
theorem hc242 : cCode Tryz.prog Tryz.f242.ntmps (Tryz.f242.body.getD .skip) = some sc242 := by kernel_rfl
theorem hr242 : cRes Tryz.prog Tryz.f242.results.toList = some rv242 := by kernel_rfl

/-- selfstab/eval.binary -/
noncomputable def sc243 : SC := (cCode Tryz.prog Tryz.f243.ntmps (Tryz.f243.body.getD .skip)).getD .skip
def rv243 : List RV := [(.tmp 6)]
theorem hc243 : cCode Tryz.prog Tryz.f243.ntmps (Tryz.f243.body.getD .skip) = some sc243 := by kernel_rfl
theorem hr243 : cRes Tryz.prog Tryz.f243.results.toList = some rv243 := by kernel_rfl

/-- (*selfstab/expr.Reader).neighbour -/
noncomputable def sc244 : SC := (cCode Tryz.prog Tryz.f244.ntmps (Tryz.f244.body.getD .skip)).getD .skip
def rv244 : List RV := [(.tmp 2)]
theorem hc244 : cCode Tryz.prog Tryz.f244.ntmps (Tryz.f244.body.getD .skip) = some sc244 := by kernel_rfl
theorem hr244 : cRes Tryz.prog Tryz.f244.results.toList = some rv244 := by kernel_rfl

/-- selfstab/expr.constantOp -/
noncomputable def sc245 : SC := (cCode Tryz.prog Tryz.f245.ntmps (Tryz.f245.body.getD .skip)).getD .skip
def rv245 : List RV := [(.tmp 2)]
theorem hc245 : cCode Tryz.prog Tryz.f245.ntmps (Tryz.f245.body.getD .skip) = some sc245 := by kernel_rfl
theorem hr245 : cRes Tryz.prog Tryz.f245.results.toList = some rv245 := by kernel_rfl

/-- selfstab/expr.aggregateOp -/
noncomputable def sc246 : SC := (cCode Tryz.prog Tryz.f246.ntmps (Tryz.f246.body.getD .skip)).getD .skip
def rv246 : List RV := [(.tmp 2)]
theorem hc246 : cCode Tryz.prog Tryz.f246.ntmps (Tryz.f246.body.getD .skip) = some sc246 := by kernel_rfl
theorem hr246 : cRes Tryz.prog Tryz.f246.results.toList = some rv246 := by kernel_rfl

/-- (*selfstab/eval.Scene).Fact -/
noncomputable def sc248 : SC := (cCode Tryz.prog Tryz.f248.ntmps (Tryz.f248.body.getD .skip)).getD .skip
def rv248 : List RV := [(.tmp 8)]
theorem hc248 : cCode Tryz.prog Tryz.f248.ntmps (Tryz.f248.body.getD .skip) = some sc248 := by kernel_rfl
theorem hr248 : cRes Tryz.prog Tryz.f248.results.toList = some rv248 := by kernel_rfl

/-- selfstab/eval.truth -/
noncomputable def sc249 : SC := (cCode Tryz.prog Tryz.f249.ntmps (Tryz.f249.body.getD .skip)).getD .skip
def rv249 : List RV := [(.tmp 2)]
theorem hc249 : cCode Tryz.prog Tryz.f249.ntmps (Tryz.f249.body.getD .skip) = some sc249 := by kernel_rfl
theorem hr249 : cRes Tryz.prog Tryz.f249.results.toList = some rv249 := by kernel_rfl

/-- selfstab/eval.fold -/
noncomputable def sc250 : SC := (cCode Tryz.prog Tryz.f250.ntmps (Tryz.f250.body.getD .skip)).getD .skip
def rv250 : List RV := [(.tmp 4)]
theorem hc250 : cCode Tryz.prog Tryz.f250.ntmps (Tryz.f250.body.getD .skip) = some sc250 := by kernel_rfl
theorem hr250 : cRes Tryz.prog Tryz.f250.results.toList = some rv250 := by kernel_rfl

/-- selfstab/eval.saturated -/
noncomputable def sc251 : SC := (cCode Tryz.prog Tryz.f251.ntmps (Tryz.f251.body.getD .skip)).getD .skip
def rv251 : List RV := [(.tmp 2)]
theorem hc251 : cCode Tryz.prog Tryz.f251.ntmps (Tryz.f251.body.getD .skip) = some sc251 := by kernel_rfl
theorem hr251 : cRes Tryz.prog Tryz.f251.results.toList = some rv251 := by kernel_rfl

/-- selfstab/eval.quotient -/
noncomputable def sc252 : SC := (cCode Tryz.prog Tryz.f252.ntmps (Tryz.f252.body.getD .skip)).getD .skip
def rv252 : List RV := [(.tmp 4)]
theorem hc252 : cCode Tryz.prog Tryz.f252.ntmps (Tryz.f252.body.getD .skip) = some sc252 := by kernel_rfl
theorem hr252 : cRes Tryz.prog Tryz.f252.results.toList = some rv252 := by kernel_rfl

/-- selfstab/eval.compared -/
noncomputable def sc253 : SC := (cCode Tryz.prog Tryz.f253.ntmps (Tryz.f253.body.getD .skip)).getD .skip
def rv253 : List RV := [(.tmp 6)]
theorem hc253 : cCode Tryz.prog Tryz.f253.ntmps (Tryz.f253.body.getD .skip) = some sc253 := by kernel_rfl
theorem hr253 : cRes Tryz.prog Tryz.f253.results.toList = some rv253 := by kernel_rfl

/-- selfstab/expr.fieldOp -/
noncomputable def sc254 : SC := (cCode Tryz.prog Tryz.f254.ntmps (Tryz.f254.body.getD .skip)).getD .skip
def rv254 : List RV := [(.tmp 2)]
theorem hc254 : cCode Tryz.prog Tryz.f254.ntmps (Tryz.f254.body.getD .skip) = some sc254 := by kernel_rfl
theorem hr254 : cRes Tryz.prog Tryz.f254.results.toList = some rv254 := by kernel_rfl

/-- selfstab/expr.constantWords -/
noncomputable def sc255 : SC := (cCode Tryz.prog Tryz.f255.ntmps (Tryz.f255.body.getD .skip)).getD .skip
def rv255 : List RV := [(.tmp 0)]
theorem hc255 : cCode Tryz.prog Tryz.f255.ntmps (Tryz.f255.body.getD .skip) = some sc255 := by kernel_rfl
theorem hr255 : cRes Tryz.prog Tryz.f255.results.toList = some rv255 := by kernel_rfl

/-- selfstab/expr.aggregateWords -/
noncomputable def sc256 : SC := (cCode Tryz.prog Tryz.f256.ntmps (Tryz.f256.body.getD .skip)).getD .skip
def rv256 : List RV := [(.tmp 0)]
theorem hc256 : cCode Tryz.prog Tryz.f256.ntmps (Tryz.f256.body.getD .skip) = some sc256 := by kernel_rfl
theorem hr256 : cRes Tryz.prog Tryz.f256.results.toList = some rv256 := by kernel_rfl

/-- selfstab/eval.count -/
noncomputable def sc257 : SC := (cCode Tryz.prog Tryz.f257.ntmps (Tryz.f257.body.getD .skip)).getD .skip
def rv257 : List RV := [(.tmp 2)]
theorem hc257 : cCode Tryz.prog Tryz.f257.ntmps (Tryz.f257.body.getD .skip) = some sc257 := by kernel_rfl
theorem hr257 : cRes Tryz.prog Tryz.f257.results.toList = some rv257 := by kernel_rfl

/-- slices.IndexFunc[[]int,int] -/
noncomputable def sc258 : SC := (cCode Tryz.prog Tryz.f258.ntmps (Tryz.f258.body.getD .skip)).getD .skip
def rv258 : List RV := [(.tmp 4)]
theorem hc258 : cCode Tryz.prog Tryz.f258.ntmps (Tryz.f258.body.getD .skip) = some sc258 := by kernel_rfl
theorem hr258 : cRes Tryz.prog Tryz.f258.results.toList = some rv258 := by kernel_rfl

/-- selfstab/eval.fold$1 -/
noncomputable def sc259 : SC := (cCode Tryz.prog Tryz.f259.ntmps (Tryz.f259.body.getD .skip)).getD .skip
def rv259 : List RV := [(.tmp 2)]
theorem hc259 : cCode Tryz.prog Tryz.f259.ntmps (Tryz.f259.body.getD .skip) = some sc259 := by kernel_rfl
theorem hr259 : cRes Tryz.prog Tryz.f259.results.toList = some rv259 := by kernel_rfl

/-- selfstab/eval.twoGreatest -/
noncomputable def sc260 : SC := (cCode Tryz.prog Tryz.f260.ntmps (Tryz.f260.body.getD .skip)).getD .skip
def rv260 : List RV := [(.tmp 2), (.tmp 3)]
theorem hc260 : cCode Tryz.prog Tryz.f260.ntmps (Tryz.f260.body.getD .skip) = some sc260 := by kernel_rfl
theorem hr260 : cRes Tryz.prog Tryz.f260.results.toList = some rv260 := by kernel_rfl

/-- selfstab/eval.mex -/
noncomputable def sc261 : SC := (cCode Tryz.prog Tryz.f261.ntmps (Tryz.f261.body.getD .skip)).getD .skip
def rv261 : List RV := [(.tmp 2)]
theorem hc261 : cCode Tryz.prog Tryz.f261.ntmps (Tryz.f261.body.getD .skip) = some sc261 := by kernel_rfl
theorem hr261 : cRes Tryz.prog Tryz.f261.results.toList = some rv261 := by kernel_rfl

/-- selfstab/expr.fieldWords -/
noncomputable def sc262 : SC := (cCode Tryz.prog Tryz.f262.ntmps (Tryz.f262.body.getD .skip)).getD .skip
def rv262 : List RV := [(.tmp 0)]
theorem hc262 : cCode Tryz.prog Tryz.f262.ntmps (Tryz.f262.body.getD .skip) = some sc262 := by kernel_rfl
theorem hr262 : cRes Tryz.prog Tryz.f262.results.toList = some rv262 := by kernel_rfl

/-- slices.Contains[[]int,int] -/
noncomputable def sc263 : SC := (cCode Tryz.prog Tryz.f263.ntmps (Tryz.f263.body.getD .skip)).getD .skip
def rv263 : List RV := [(.tmp 4)]
theorem hc263 : cCode Tryz.prog Tryz.f263.ntmps (Tryz.f263.body.getD .skip) = some sc263 := by kernel_rfl
theorem hr263 : cRes Tryz.prog Tryz.f263.results.toList = some rv263 := by kernel_rfl

/-- slices.Index[[]int,int] -/
noncomputable def sc264 : SC := (cCode Tryz.prog Tryz.f264.ntmps (Tryz.f264.body.getD .skip)).getD .skip
def rv264 : List RV := [(.tmp 4)]
theorem hc264 : cCode Tryz.prog Tryz.f264.ntmps (Tryz.f264.body.getD .skip) = some sc264 := by kernel_rfl
theorem hr264 : cRes Tryz.prog Tryz.f264.results.toList = some rv264 := by kernel_rfl

end Go.Proofs.YtinmenifoebfmaaGreat

