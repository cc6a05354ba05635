/-
  The compiled forms of the functions, printed by a program (wip/tools/seat.py), and that the compiler yields just these.
-/
import Derived.Test.YtinmenifoebfmaaGreatDoorEngQ
import Derived.Test.YtinmenifoebfmaaGreatDoorProg
import Derived.KernelRfl
namespace Go.Proofs.YtinmenifoebfmaaGreatDoor
open Go.Eng
set_option maxRecDepth 100000

abbrev o (d : Nat) (x : SOp) : SI := ⟨some d, x, none⟩
abbrev on (x : SOp) : SI := ⟨none, x, none⟩
abbrev ot (d g : Nat) (x : SOp) : SI := ⟨some d, x, some (g, true)⟩
abbrev of (d g : Nat) (x : SOp) : SI := ⟨some d, x, some (g, false)⟩
abbrev ki (n : Int) : X := .k (.int .i64 n)
abbrev bn (op : BinOp) (a b : X) : SOp := .p (.bin .num op a b)
abbrev pm (n : Nat) : SOp := .p (.mv (.t n))
abbrev ln (n : Nat) : SOp := .p (.len (.t n))
abbrev at_ (n : Nat) : SOp := .asg (.t n)
abbrev so (l : List SI) (c : SC) : SC := .seq (.ops l) c
abbrev ef (i : Nat) (s : SI) : DI := .eff i [] [] s

theorem mixed : Tryz.prog.follows .mixedOrders = true := by kernel_rfl

/-- selfstab/selfstablaw29.RingTurns -/
def sc5 : SC := (so [(o 5 (.box (.t 0))), (o 10 (.asg (.k (.bool false))))] (so [(o 22 (.load (.some 6) (.t 5))), (o 23 (.call 9 [(.t 22), (ki 9)])), (o 11 (.alloc [.nilslice, .nilslice])), (on (.store 2 (.t 11) (.t 23)))] (so [(fl 24 1 11), (ld 25 24), (o 26 (ln 25)), (o 12 (at_ 26))] (so [(mv 27 2), (mv 28 12), (o 29 (.call 24 [(.t 27), (.t 28)])), (o 2 (at_ 29))] (so [(o 13 (.asg (.k .nilslice)))] (.seq (so [(o 14 (.asg (ki 0)))] (.block 0 (.loop (.seq (so [(mv 30 14), (mv 31 12), (o 32 (bn .lss (.t 30) (.t 31)))] (.cond (.t 32) .skip (.exit 0))) (.seq (.block 1 (so [(mv 35 14), (mv 36 2), (o 37 (bn .leq (.t 35) (.t 36)))] (.cond (.t 37) (.ops [(mv 38 13), (mv 39 1), (mv 40 12), (o 41 (bn .add (.t 40) (ki 1))), (o 42 (.call 24 [(.t 39), (.t 41)])), (o 43 (.bslice 1 1 [(.t 42)])), (o 44 (.bslice 1 1 [(.t 43)])), (o 45 (.app 1 24 (.t 38) (.t 44))), (o 13 (at_ 45))]) (.ops [(mv 46 13), (mv 47 3), (mv 48 12), (o 49 (bn .add (.t 48) (ki 1))), (o 50 (.call 24 [(.t 47), (.t 49)])), (o 51 (.bslice 1 1 [(.t 50)])), (o 52 (.bslice 1 1 [(.t 51)])), (o 53 (.app 1 24 (.t 46) (.t 52))), (o 13 (at_ 53))])))) (.ops [(mv 33 14), (o 34 (bn .add (.t 33) (ki 1))), (o 14 (at_ 34))])))))) (.seq (.draw [(.op 1 (o 56 (.load (.some 2) (.t 11)))), (.op 2 (mv 57 13)), (.op 3 (mv 58 4)), (.op 4 (mv 59 12)), (.eff 0 [] [((.some 2), (11, 56))] (o 55 (.call 14 []))), (.eff 5 [] [((.some 2), (11, 56))] (o 60 (.call 15 [(.t 58), (.t 59)]))), (ef 6 (o 61 (.call 16 [(.t 55), (.t 56), (ki 3), (.t 57), (.t 60)]))), (.op 7 (mv 54 61)), (.op 8 (o 62 (.p (.ext (.t 54) 0)))), (.op 9 (o 63 (.p (.ext (.t 54) 1)))), (.op 10 (o 64 (.p (.ext (.t 54) 2)))), (ef 11 (o 15 (at_ 62))), (ef 12 (o 16 (at_ 63))), (ef 13 (o 17 (at_ 64)))]) (.seq (so [(mv 65 17), (o 66 (.p (.un .not (.t 65)))), (mv 67 66), (of 68 67 (pm 15)), (of 69 67 (ln 68)), (of 70 67 (pm 12)), (of 71 67 (bn .add (.t 70) (ki 1))), (of 72 67 (bn .neq (.t 69) (.t 71))), (o 73 (.p (.pick (.t 67) (.k (.bool true)) (.t 72)))), (mv 74 73), (of 75 74 (.load (.some 2) (.t 11))), (of 76 74 (pm 13)), (of 77 74 (.call 17 [(.t 75), (.t 76)])), (of 78 74 (.p (.un .not (.t 77)))), (o 79 (.p (.pick (.t 74) (.k (.bool true)) (.t 78))))] (.cond (.t 79) (so [(o 10 (.asg (.k (.bool false))))] .ret) .skip)) (so [(o 18 (.asg (.k (.int .u32 0))))] (.seq (so [(o 19 (.asg (ki 0)))] (.block 2 (.loop (.seq (so [(mv 80 19), (mv 81 12), (o 82 (bn .lss (.t 80) (.t 81)))] (.cond (.t 82) .skip (.exit 2))) (.seq (.block 3 (.seq (.draw [(.op 0 (o 85 (.load (.some 2) (.t 11)))), (.op 1 (mv 86 15)), (.op 2 (mv 87 19)), (.op 3 (o 88 (.p (.ixs 1 (.t 86) (.t 87))))), (.op 4 (ld 89 88)), (ef 5 (o 90 (.call 25 [(.t 85), (.t 89)]))), (ef 6 (o 20 (at_ 90)))]) (so [(mv 91 20), (o 92 (bn .shl (.t 91) (.k (.int .u64 1)))), (o 21 (at_ 92))] (.seq (so [(mv 93 21), (mv 94 12), (o 95 (.p (.toint .u64 (.t 94)))), (o 96 (bn .shl (.k (.int .u32 1)) (.t 95))), (o 97 (bn .eql (.t 93) (.t 96)))] (.cond (.t 97) (.ops [(o 21 (.asg (.k (.int .u32 1))))]) .skip)) (.seq (.seq (.draw [(.op 0 (mv 98 20)), (.op 1 (mv 99 20)), (.op 2 (o 100 (bn .sub (.t 99) (.k (.int .u32 1))))), (.op 3 (o 101 (bn .and (.t 98) (.t 100)))), (.op 4 (o 102 (bn .neq (.t 101) (.k (.int .u32 0))))), (.op 5 (mv 103 102)), (.op 6 (of 104 103 (pm 18))), (.op 7 (of 105 103 (pm 20))), (.op 8 (of 106 103 (bn .and (.t 104) (.t 105)))), (.op 9 (of 107 103 (bn .neq (.t 106) (.k (.int .u32 0))))), (.op 10 (o 108 (.p (.pick (.t 103) (.k (.bool true)) (.t 107))))), (.op 11 (mv 109 108)), (.op 12 (of 110 109 (.load (.some 2) (.t 11)))), (.op 13 (of 111 109 (pm 15))), (.op 14 (of 112 109 (pm 19))), (.op 15 (of 113 109 (bn .add (.t 112) (ki 1)))), (.op 16 (of 114 109 (.p (.ixs 1 (.t 111) (.t 113))))), (.op 17 (of 115 109 (.load none (.t 114)))), (.op 19 (of 117 109 (pm 21))), (ef 18 (of 116 109 (.call 25 [(.t 110), (.t 115)]))), (.op 20 (of 118 109 (bn .neq (.t 116) (.t 117)))), (.op 21 (o 119 (.p (.pick (.t 109) (.k (.bool true)) (.t 118)))))]) (.cond (.t 119) (so [(o 10 (.asg (.k (.bool false))))] .ret) .skip)) (.ops [(mv 120 18), (mv 121 20), (o 122 (bn .or (.t 120) (.t 121))), (o 18 (at_ 122))])))))) (.ops [(mv 83 19), (o 84 (bn .add (.t 83) (ki 1))), (o 19 (at_ 84))])))))) (so [(o 123 (.call 19 [])), (mv 124 123), (ot 125 124 (pm 18)), (ot 126 124 (pm 12)), (ot 127 124 (.p (.toint .u64 (.t 126)))), (ot 128 124 (bn .shl (.k (.int .u32 1)) (.t 127))), (ot 129 124 (bn .sub (.t 128) (.k (.int .u32 1)))), (ot 130 124 (bn .eql (.t 125) (.t 129))), (o 131 (.p (.pick (.t 124) (.t 130) (.k (.bool false))))), (o 10 (at_ 131))] .ret)))))))))))
def rv5 : List RV := [(.tmp 10)]
theorem hc5 : cCode Tryz.prog Tryz.f5.ntmps (Tryz.f5.body.getD .skip) = some sc5 := by kernel_rfl
theorem hr5 : cRes Tryz.prog Tryz.f5.results.toList = some rv5 := by kernel_rfl

/-- (selfstab/selfstabworld.Net).Ring -/
def sc9 : SC := (so [(o 2 (.box (.t 0))), (o 4 (.alloc [.nilslice, .nilslice]))] (so [(o 12 (.load (.some 6) (.t 2))), (mv 13 1), (o 14 (bn .sub (.t 13) (ki 2))), (o 15 (.call 35 [(.t 12), (.t 14)])), (o 5 (.alloc [.nilslice, .nilslice])), (on (.store 2 (.t 5) (.t 15)))] (.seq (.block 0 (.loop (.seq (so [(fl 16 1 5), (ld 17 16), (o 18 (ln 17)), (o 19 (bn .lss (.t 18) (ki 3)))] (.cond (.t 19) .skip (.exit 0))) (.block 1 (so [(o 6 (.asg (ki 0)))] (.seq (so [(o 7 (.asg (ki 0)))] (.block 2 (.loop (.seq (so [(mv 20 7), (fl 21 0 5), (ld 22 21), (o 23 (ln 22)), (o 24 (bn .lss (.t 20) (.t 23)))] (.cond (.t 24) .skip (.exit 2))) (.seq (.block 3 (so [(fl 27 0 5), (ld 28 27), (mv 29 7), (o 30 (.p (.ixs 1 (.t 28) (.t 29)))), (ld 31 30), (mv 32 6), (o 33 (bn .eql (.t 31) (.t 32)))] (.cond (.t 33) (.ops [(mv 34 6), (o 35 (bn .add (.t 34) (ki 1))), (o 6 (at_ 35)), (o 7 (.asg (.k (.int .i64 (-1)))))]) .skip))) (.ops [(mv 25 7), (o 26 (bn .add (.t 25) (ki 1))), (o 7 (at_ 26))])))))) (.draw [(.op 0 (fl 36 0 5)), (.op 1 (ld 37 36)), (.op 2 (mv 38 6)), (.op 3 (o 39 (.bslice 1 1 [(.t 38)]))), (.op 5 (fl 41 1 5)), (.op 6 (ld 42 41)), (.op 7 (o 43 (.bslice 1 1 [(.k .nilslice)]))), (.eff 4 [43] [(none, (41, 42))] (o 40 (.app 1 8 (.t 37) (.t 39)))), (.op 9 (fl 45 0 5)), (ef 8 (o 44 (.app 1 24 (.t 42) (.t 43)))), (ef 10 (on (.store 1 (.t 45) (.t 40)))), (.op 11 (fl 46 1 5)), (ef 12 (on (.store 1 (.t 46) (.t 44))))]))))))) (so [(fl 47 1 5), (ld 48 47), (o 49 (ln 48)), (o 8 (at_ 49))] (.seq (so [(o 9 (.asg (ki 0)))] (.block 4 (.loop (.seq (so [(mv 50 9), (mv 51 8), (o 52 (bn .lss (.t 50) (.t 51)))] (.cond (.t 52) .skip (.exit 4))) (.seq (.block 5 (.seq (.draw [(.op 0 (fl 55 2 2)), (.op 1 (ld 56 55)), (.op 2 (mv 57 9)), (.op 3 (mv 58 8)), (.op 4 (o 59 (bn .add (.t 57) (.t 58)))), (.op 5 (o 60 (bn .sub (.t 59) (ki 1)))), (.op 6 (mv 61 8)), (.op 7 (o 62 (bn .rem (.t 60) (.t 61)))), (ef 8 (o 63 (.call 36 [(.t 56), (.t 62)]))), (ef 9 (o 64 (.call 24 [(.t 63), (ki 15)]))), (.op 10 (o 65 (bn .add (ki 1) (.t 64)))), (ef 11 (o 10 (at_ 65)))]) (so [(fl 66 2 2), (ld 67 66), (mv 68 9), (o 69 (.call 36 [(.t 67), (.t 68)])), (o 70 (.call 24 [(.t 69), (ki 15)])), (o 71 (bn .add (ki 1) (.t 70))), (o 11 (at_ 71))] (.draw [(.op 0 (fl 72 1 5)), (.op 1 (ld 73 72)), (.op 2 (mv 74 9)), (.op 3 (mv 75 9)), (.op 4 (mv 76 8)), (.op 5 (o 77 (bn .add (.t 75) (.t 76)))), (.op 6 (o 78 (bn .sub (.t 77) (ki 1)))), (.op 7 (mv 79 8)), (.op 8 (o 80 (bn .rem (.t 78) (.t 79)))), (.op 9 (mv 81 10)), (.op 10 (o 82 (.build [(.int .i64 0), (.int .i64 0)] [(0, (1, (.t 80))), (1, (1, (.t 81)))]))), (.op 11 (mv 83 9)), (.op 12 (o 84 (bn .add (.t 83) (ki 1)))), (.op 13 (mv 85 8)), (.op 14 (o 86 (bn .rem (.t 84) (.t 85)))), (.op 15 (mv 87 11)), (.op 16 (o 88 (.build [(.int .i64 0), (.int .i64 0)] [(0, (1, (.t 86))), (1, (1, (.t 87)))]))), (.op 17 (o 89 (.bslice 2 2 [(.t 82), (.t 88)]))), (.op 18 (o 90 (.p (.ixs 1 (.t 73) (.t 74))))), (ef 19 (on (.store 1 (.t 90) (.t 89))))])))) (.ops [(mv 53 9), (o 54 (bn .add (.t 53) (ki 1))), (o 9 (at_ 54))])))))) (so [(o 91 (.load (.some 2) (.t 5))), (on (.store 2 (.t 4) (.t 91)))] .ret))))))
def rv9 : List RV := [(.cell 4 (.some 2))]
theorem hc9 : cCode Tryz.prog Tryz.f9.ntmps (Tryz.f9.body.getD .skip) = some sc9 := by kernel_rfl
theorem hr9 : cRes Tryz.prog Tryz.f9.results.toList = some rv9 := by kernel_rfl

/-- selfstab/selfstabworld.Program -/
def sc13 : SC := (so [(o 2 (.alloc [(.str (ByteArray.mk (Array.mk []))), .nilslice, .nilslice]))] (so [(mv 7 0), (o 8 (.call 42 [(.t 7)])), (mv 6 8), (o 9 (.p (.ext (.t 6) 0))), (o 10 (.p (.ext (.t 6) 1))), (o 11 (.p (.ext (.t 6) 2))), (o 3 (.alloc [(.str (ByteArray.mk (Array.mk []))), .nilslice, .nilslice])), (on (.store 3 (.t 3) (.t 9))), (o 4 (at_ 10)), (o 5 (at_ 11))] (so [(o 12 (.load (.some 3) (.t 3))), (on (.store 3 (.t 2) (.t 12)))] .ret)))
def rv13 : List RV := [(.cell 2 (.some 3))]
theorem hc13 : cCode Tryz.prog Tryz.f13.ntmps (Tryz.f13.body.getD .skip) = some sc13 := by kernel_rfl
theorem hr13 : cRes Tryz.prog Tryz.f13.results.toList = some rv13 := by kernel_rfl

/-- selfstab/ring.Text -/
noncomputable def sc14 : SC := (cCode Tryz.prog Tryz.f14.ntmps (Tryz.f14.body.getD .skip)).getD .skip
def rv14 : List RV := [(.tmp 0)]
theorem hc14 : cCode Tryz.prog Tryz.f14.ntmps (Tryz.f14.body.getD .skip) = some sc14 := by kernel_rfl
theorem hr14 : cRes Tryz.prog Tryz.f14.results.toList = some rv14 := by kernel_rfl

/-- selfstab/selfstabworld.Wishes -/
def sc15 : SC := (so [(o 4 (.asg (.k .nilslice)))] (so [(o 5 (.asg (.k .nilslice)))] (.seq (so [(o 6 (.asg (ki 0)))] (.block 0 (.loop (.seq (so [(mv 9 6), (mv 10 1), (o 11 (bn .lss (.t 9) (.t 10)))] (.cond (.t 11) .skip (.exit 0))) (.seq (.block 1 (.seq (so [(mv 14 0), (o 15 (ln 14)), (o 16 (bn .eql (.t 15) (ki 0)))] (.cond (.t 16) (so [(mv 17 5), (o 18 (.bslice 1 1 [(.k (.int .u32 4294967295))])), (o 19 (.app 1 4 (.t 17) (.t 18))), (o 5 (at_ 19))] (.exit 1)) .skip)) (.seq (.draw [(.op 0 (mv 20 0)), (.op 1 (mv 21 6)), (.op 2 (mv 22 0)), (.op 3 (o 23 (ln 22))), (.op 4 (o 24 (bn .rem (.t 21) (.t 23)))), (.op 5 (o 25 (.p (.ixs 1 (.t 20) (.t 24))))), (.op 6 (ld 26 25)), (.op 7 (mv 27 6)), (.op 8 (mv 28 0)), (.op 9 (o 29 (ln 28))), (.op 10 (o 30 (bn .quo (.t 27) (.t 29)))), (.op 11 (o 31 (bn .rem (.t 30) (ki 24)))), (.op 12 (o 32 (.p (.toint .u64 (.t 31))))), (ef 13 (o 7 (at_ 26))), (ef 14 (o 8 (at_ 32)))]) (so [(mv 33 7), (o 34 (bn .and (.t 33) (.k (.int .u32 16777215)))), (o 7 (at_ 34))] (.ops [(mv 35 5), (mv 36 7), (mv 37 8), (o 38 (bn .shl (.t 36) (.t 37))), (mv 39 7), (mv 40 8), (o 41 (bn .sub (.k (.int .u64 24)) (.t 40))), (o 42 (bn .shr (.t 39) (.t 41))), (o 43 (bn .or (.t 38) (.t 42))), (o 44 (bn .and (.t 43) (.k (.int .u32 16777215)))), (o 45 (.bslice 1 1 [(.t 44)])), (o 46 (.app 1 4 (.t 35) (.t 45))), (o 5 (at_ 46))]))))) (.ops [(mv 12 6), (o 13 (bn .add (.t 12) (ki 1))), (o 6 (at_ 13))])))))) (so [(mv 47 5), (o 4 (at_ 47))] .ret))))
def rv15 : List RV := [(.tmp 4)]
theorem hc15 : cCode Tryz.prog Tryz.f15.ntmps (Tryz.f15.body.getD .skip) = some sc15 := by kernel_rfl
theorem hr15 : cRes Tryz.prog Tryz.f15.results.toList = some rv15 := by kernel_rfl

/-- selfstab/selfstabworld.Run -/
def sc16 : SC := (so [(o 6 (.box (.t 1))), (o 10 (.asg (.k .nilslice))), (o 11 (.asg (.k .nilslice))), (o 12 (.asg (.k (.bool false))))] (.seq (.draw [(.op 0 (mv 17 0)), (.op 2 (o 19 (.load (.some 2) (.t 6)))), (.op 3 (mv 20 2)), (.op 4 (mv 21 3)), (.op 5 (mv 22 4)), (.eff 1 [] [((.some 2), (6, 19))] (o 18 (.call 13 [(.t 17)]))), (ef 6 (o 23 (.call 43 [(.t 18), (.t 19), (.t 20), (.t 21), (.t 22)]))), (.op 7 (mv 16 23)), (.op 8 (o 24 (.p (.ext (.t 16) 0)))), (.op 9 (o 25 (.p (.ext (.t 16) 1)))), (.op 10 (o 26 (.p (.ext (.t 16) 2)))), (ef 11 (o 13 (at_ 24))), (ef 12 (o 14 (at_ 25))), (ef 13 (o 15 (at_ 26)))]) (so [(mv 27 13), (mv 28 14), (mv 29 15), (o 30 (bn .eql (.t 29) (ki 0))), (mv 31 30), (ot 32 31 (pm 13)), (ot 33 31 (ln 32)), (ot 34 31 (pm 14)), (ot 35 31 (ln 34)), (ot 36 31 (bn .eql (.t 33) (.t 35))), (o 37 (.p (.pick (.t 31) (.t 36) (.k (.bool false))))), (mv 38 37), (ot 39 38 (pm 13)), (ot 40 38 (ln 39)), (ot 41 38 (bn .gtr (.t 40) (ki 0))), (o 42 (.p (.pick (.t 38) (.t 41) (.k (.bool false))))), (o 10 (at_ 27)), (o 11 (at_ 28)), (o 12 (at_ 42))] .ret)))
def rv16 : List RV := [(.tmp 10), (.tmp 11), (.tmp 12)]
theorem hc16 : cCode Tryz.prog Tryz.f16.ntmps (Tryz.f16.body.getD .skip) = some sc16 := by kernel_rfl
theorem hr16 : cRes Tryz.prog Tryz.f16.results.toList = some rv16 := by kernel_rfl

/-- selfstab/ring.Legit -/
def sc17 : SC := (so [(o 2 (.box (.t 0))), (o 4 (.asg (.k (.bool false))))] (.seq (so [(o 7 (.load (.some 2) (.t 2))), (mv 8 1), (o 9 (.call 44 [(.t 7), (.t 8)])), (o 10 (.p (.un .not (.t 9))))] (.cond (.t 10) (so [(o 4 (.asg (.k (.bool false))))] .ret) .skip)) (so [(o 5 (.asg (ki 0)))] (.seq (so [(mv 11 1), (o 12 (ln 11)), (o 13 (bn .sub (.t 12) (ki 1))), (o 14 (.p (.mv (ki 0))))] (.block 0 (.loop (so [(o 15 (bn .lss (.t 14) (.t 13)))] (.seq (.cond (.t 15) .skip (.exit 0)) (.seq (.block 1 (so [(mv 16 14), (o 6 (at_ 16))] (.seq (.draw [(.op 0 (mv 17 1)), (.op 1 (mv 18 6)), (.op 2 (o 19 (.p (.ixs 1 (.t 17) (.t 18))))), (.op 3 (ld 20 19)), (.op 4 (o 21 (.p (.ixs 1 (.t 20) (ki 0))))), (.op 5 (ld 22 21)), (.op 6 (mv 23 1)), (.op 7 (mv 24 6)), (.op 8 (o 25 (bn .add (.t 24) (ki 1)))), (.op 9 (o 26 (.p (.ixs 1 (.t 23) (.t 25))))), (.op 10 (ld 27 26)), (.op 11 (o 28 (.p (.ixs 1 (.t 27) (ki 0))))), (.op 12 (ld 29 28)), (.op 13 (o 30 (bn .neq (.t 22) (.t 29))))]) (.cond (.t 30) (.ops [(mv 31 5), (o 32 (bn .add (.t 31) (ki 1))), (o 5 (at_ 32))]) .skip)))) (.ops [(o 33 (bn .add (.t 14) (ki 1))), (mv 14 33)]))))))) (so [(mv 34 5), (o 35 (bn .leq (.t 34) (ki 1))), (o 4 (at_ 35))] .ret)))))
def rv17 : List RV := [(.tmp 4)]
theorem hc17 : cCode Tryz.prog Tryz.f17.ntmps (Tryz.f17.body.getD .skip) = some sc17 := by kernel_rfl
theorem hr17 : cRes Tryz.prog Tryz.f17.results.toList = some rv17 := by kernel_rfl

/-- selfstab/selfstablaw29.known -/
def sc19 : SC := (so [(o 0 (.asg (.k (.bool false))))] (so [(o 2 (.build [(.int .i64 0), .nilslice, .nilslice, .nilslice, (.bool false), (.bool false)] [(0, (1, (ki 3)))])), (o 3 (.call 9 [(.t 2), (ki 5)])), (o 1 (.alloc [.nilslice, .nilslice])), (on (.store 2 (.t 1) (.t 3)))] (so [(o 4 (.load (.some 2) (.t 1))), (o 5 (.bslice 1 1 [(ki 2)])), (o 6 (.bslice 1 1 [(ki 2)])), (o 7 (.bslice 1 1 [(ki 2)])), (o 8 (.bslice 1 3 [(.t 5), (.t 6), (.t 7)])), (o 9 (.call 17 [(.t 4), (.t 8)])), (mv 10 9), (ot 11 10 (.load (.some 2) (.t 1))), (ot 12 10 (.bslice 1 1 [(ki 2)])), (ot 13 10 (.bslice 1 1 [(ki 2)])), (ot 14 10 (.bslice 1 1 [(ki 1)])), (ot 15 10 (.bslice 1 3 [(.t 12), (.t 13), (.t 14)])), (ot 16 10 (.call 25 [(.t 11), (.t 15)])), (ot 17 10 (bn .eql (.t 16) (.k (.int .u32 4)))), (o 18 (.p (.pick (.t 10) (.t 17) (.k (.bool false))))), (mv 19 18), (ot 20 19 (.load (.some 2) (.t 1))), (ot 21 19 (.bslice 1 1 [(ki 2)])), (ot 22 19 (.bslice 1 1 [(ki 0)])), (ot 23 19 (.bslice 1 1 [(ki 1)])), (ot 24 19 (.bslice 1 3 [(.t 21), (.t 22), (.t 23)])), (ot 25 19 (.call 17 [(.t 20), (.t 24)])), (ot 26 19 (.p (.un .not (.t 25)))), (o 27 (.p (.pick (.t 19) (.t 26) (.k (.bool false))))), (mv 28 27), (ot 29 28 (.load (.some 2) (.t 1))), (ot 30 28 (.bslice 1 1 [(ki 2)])), (ot 31 28 (.bslice 1 1 [(ki 0)])), (ot 32 28 (.bslice 1 1 [(ki 1)])), (ot 33 28 (.bslice 1 3 [(.t 30), (.t 31), (.t 32)])), (ot 34 28 (.call 25 [(.t 29), (.t 33)])), (ot 35 28 (bn .eql (.t 34) (.k (.int .u32 6)))), (o 36 (.p (.pick (.t 28) (.t 35) (.k (.bool false))))), (o 0 (at_ 36))] .ret)))
def rv19 : List RV := [(.tmp 0)]
theorem hc19 : cCode Tryz.prog Tryz.f19.ntmps (Tryz.f19.body.getD .skip) = some sc19 := by kernel_rfl
theorem hr19 : cRes Tryz.prog Tryz.f19.results.toList = some rv19 := by kernel_rfl

/-- selfstab/selfstabworld.Within -/
def sc24 : SC := (so [(o 4 (.asg (ki 0)))] (.seq (so [(mv 5 1), (o 6 (bn .lss (.t 5) (ki 1)))] (.cond (.t 6) (so [(o 4 (.asg (ki 0)))] .ret) .skip)) (so [(mv 7 0), (mv 8 1), (o 9 (bn .rem (.t 7) (.t 8))), (o 0 (at_ 9))] (.seq (so [(mv 10 0), (o 11 (bn .lss (.t 10) (ki 0)))] (.cond (.t 11) (.ops [(mv 12 0), (mv 13 1), (o 14 (bn .add (.t 12) (.t 13))), (o 0 (at_ 14))]) .skip)) (so [(mv 15 0), (o 4 (at_ 15))] .ret)))))
def rv24 : List RV := [(.tmp 4)]
theorem hc24 : cCode Tryz.prog Tryz.f24.ntmps (Tryz.f24.body.getD .skip) = some sc24 := by kernel_rfl
theorem hr24 : cRes Tryz.prog Tryz.f24.results.toList = some rv24 := by kernel_rfl

/-- selfstab/ring.Privileged -/
def sc25 : SC := (so [(o 2 (.box (.t 0))), (o 4 (.asg (.k (.int .u32 0))))] (.seq (so [(o 9 (.load (.some 2) (.t 2))), (mv 10 1), (o 11 (.call 44 [(.t 9), (.t 10)])), (o 12 (.p (.un .not (.t 11))))] (.cond (.t 12) (so [(o 4 (.asg (.k (.int .u32 0))))] .ret) .skip)) (so [(mv 13 1), (o 14 (ln 13)), (o 5 (at_ 14))] (so [(o 6 (.asg (.k (.int .u32 0))))] (.seq (so [(mv 15 5), (o 16 (.p (.mv (ki 0))))] (.block 0 (.loop (so [(o 17 (bn .lss (.t 16) (.t 15)))] (.seq (.cond (.t 17) .skip (.exit 0)) (.seq (.block 1 (so [(mv 18 16), (o 7 (at_ 18))] (.seq (.draw [(.op 0 (mv 19 1)), (.op 1 (mv 20 7)), (.op 2 (o 21 (.p (.ixs 1 (.t 19) (.t 20))))), (.op 3 (ld 22 21)), (.op 4 (o 23 (.p (.ixs 1 (.t 22) (ki 0))))), (.op 5 (ld 24 23)), (.op 6 (mv 25 1)), (.op 7 (mv 26 7)), (.op 8 (mv 27 5)), (.op 9 (o 28 (bn .add (.t 26) (.t 27)))), (.op 10 (o 29 (bn .sub (.t 28) (ki 1)))), (.op 11 (mv 30 5)), (.op 12 (o 31 (bn .rem (.t 29) (.t 30)))), (.op 13 (o 32 (.p (.ixs 1 (.t 25) (.t 31))))), (.op 14 (ld 33 32)), (.op 15 (o 34 (.p (.ixs 1 (.t 33) (ki 0))))), (.op 16 (ld 35 34)), (.op 17 (o 36 (bn .eql (.t 24) (.t 35)))), (ef 18 (o 8 (at_ 36)))]) (so [(mv 37 8), (mv 38 7), (o 39 (bn .eql (.t 38) (ki 0))), (o 40 (.p (.bin .bool .eql (.t 37) (.t 39))))] (.cond (.t 40) (.ops [(mv 41 6), (mv 42 7), (o 43 (bn .shl (.k (.int .u32 1)) (.t 42))), (o 44 (bn .or (.t 41) (.t 43))), (o 6 (at_ 44))]) .skip))))) (.ops [(o 45 (bn .add (.t 16) (ki 1))), (mv 16 45)]))))))) (so [(mv 46 6), (o 4 (at_ 46))] .ret))))))
def rv25 : List RV := [(.tmp 4)]
theorem hc25 : cCode Tryz.prog Tryz.f25.ntmps (Tryz.f25.body.getD .skip) = some sc25 := by kernel_rfl
theorem hr25 : cRes Tryz.prog Tryz.f25.results.toList = some rv25 := by kernel_rfl

/-- (selfstab/selfstabworld.Net).nodes -/
def sc35 : SC := (so [(o 2 (.box (.t 0))), (o 4 (.alloc [.nilslice, .nilslice]))] (so [(fl 10 0 2), (ld 11 10), (o 12 (bn .sub (.t 11) (ki 1))), (mv 13 1), (o 14 (.call 24 [(.t 12), (.t 13)])), (o 15 (bn .add (ki 1) (.t 14))), (o 5 (at_ 15))] (so [(mv 16 5), (o 17 (.xt (Go.Eng.XOp.mks 1 24 [.nilslice] (.t 16)))), (o 18 (.build [.nilslice, .nilslice] [(1, (1, (.t 17)))])), (o 6 (.alloc [.nilslice, .nilslice])), (on (.store 2 (.t 6) (.t 18)))] (.seq (so [(o 7 (.asg (ki 0)))] (.block 0 (.loop (.seq (so [(mv 19 7), (mv 20 5), (o 21 (bn .lss (.t 19) (.t 20)))] (.cond (.t 21) .skip (.exit 0))) (.seq (.block 1 (so [(fl 24 3 2), (ld 25 24), (mv 26 7), (o 27 (.call 36 [(.t 25), (.t 26)])), (o 28 (.call 24 [(.t 27), (ki 256)])), (o 8 (at_ 28))] (.seq (so [(o 9 (.asg (ki 0)))] (.block 2 (.loop (.seq (so [(mv 29 9), (mv 30 7), (o 31 (bn .lss (.t 29) (.t 30)))] (.cond (.t 31) .skip (.exit 2))) (.seq (.block 3 (so [(fl 34 0 6), (ld 35 34), (mv 36 9), (o 37 (.p (.ixs 1 (.t 35) (.t 36)))), (ld 38 37), (mv 39 8), (o 40 (bn .eql (.t 38) (.t 39)))] (.cond (.t 40) (.ops [(mv 41 8), (o 42 (bn .add (.t 41) (ki 1))), (o 43 (bn .rem (.t 42) (ki 256))), (o 8 (at_ 43)), (o 9 (.asg (.k (.int .i64 (-1)))))]) .skip))) (.ops [(mv 32 9), (o 33 (bn .add (.t 32) (ki 1))), (o 9 (at_ 33))])))))) (.ops [(fl 44 0 6), (ld 45 44), (mv 46 8), (o 47 (.bslice 1 1 [(.t 46)])), (o 48 (.app 1 8 (.t 45) (.t 47))), (fl 49 0 6), (on (.store 1 (.t 49) (.t 48)))])))) (.ops [(mv 22 7), (o 23 (bn .add (.t 22) (ki 1))), (o 7 (at_ 23))])))))) (so [(o 50 (.load (.some 2) (.t 6))), (on (.store 2 (.t 4) (.t 50)))] .ret)))))
def rv35 : List RV := [(.cell 4 (.some 2))]
theorem hc35 : cCode Tryz.prog Tryz.f35.ntmps (Tryz.f35.body.getD .skip) = some sc35 := by kernel_rfl
theorem hr35 : cRes Tryz.prog Tryz.f35.results.toList = some rv35 := by kernel_rfl

/-- selfstab/selfstabworld.at -/
def sc36 : SC := (so [(o 4 (.asg (ki 0)))] (.seq (so [(mv 5 1), (mv 6 0), (o 7 (ln 6)), (o 8 (bn .lss (.t 5) (.t 7)))] (.cond (.t 8) (so [(mv 9 0), (mv 10 1), (o 11 (.p (.ixs 1 (.t 9) (.t 10)))), (ld 12 11), (o 4 (at_ 12))] .ret) .skip)) (so [(o 4 (.asg (ki 0)))] .ret)))
def rv36 : List RV := [(.tmp 4)]
theorem hc36 : cCode Tryz.prog Tryz.f36.ntmps (Tryz.f36.body.getD .skip) = some sc36 := by kernel_rfl
theorem hr36 : cRes Tryz.prog Tryz.f36.results.toList = some rv36 := by kernel_rfl

/-- selfstab/run.check -/
def sc38 : SC := (so [(o 5 (.box (.t 0))), (o 6 (.box (.t 1))), (o 10 (.asg (ki 0)))] (.seq (so [(o 12 (.load (.some 3) (.t 5))), (o 13 (.load (.some 2) (.t 6))), (mv 14 3), (o 15 (.call 62 [(.t 12), (.t 13), (.t 14)])), (o 11 (at_ 15))] (so [(mv 16 11), (o 17 (bn .neq (.t 16) (ki 0)))] (.cond (.t 17) (so [(mv 18 11), (o 10 (at_ 18))] .ret) .skip))) (.seq (so [(mv 19 2), (o 20 (.call 63 [(.t 19)])), (o 21 (.p (.un .not (.t 20))))] (.cond (.t 21) (so [(o 10 (.asg (ki 12)))] .ret) .skip)) (.seq (so [(mv 22 4), (o 23 (bn .gtr (.t 22) (ki 4096)))] (.cond (.t 23) (so [(o 10 (.asg (ki 3)))] .ret) .skip)) (so [(o 10 (.asg (ki 0)))] .ret)))))
def rv38 : List RV := [(.tmp 10)]
theorem hc38 : cCode Tryz.prog Tryz.f38.ntmps (Tryz.f38.body.getD .skip) = some sc38 := by kernel_rfl
theorem hr38 : cRes Tryz.prog Tryz.f38.results.toList = some rv38 := by kernel_rfl

/-- selfstab/run.newRunner -/
def sc39 : SC := (so [(o 4 (.box (.t 0))), (o 5 (.box (.t 1))), (o 8 (.alloc [.nilptr, .nilslice, (.int .i64 0), (.int .u32 0), .nilfunc]))] (.seq (.draw [(.op 0 (o 9 (.load (.some 3) (.t 4)))), (.op 1 (o 10 (.load (.some 2) (.t 5)))), (.op 3 (o 12 (.load (.some 2) (.t 5)))), (.op 5 (mv 14 2)), (.op 6 (o 15 (.load (.some 2) (.t 5)))), (.op 8 (mv 17 3)), (.eff 2 [] [((.some 2), (5, 12)), ((.some 2), (5, 15))] (o 11 (.call 48 [(.t 9), (.t 10)]))), (.eff 4 [] [((.some 2), (5, 15))] (o 13 (.call 64 [(.t 12)]))), (ef 7 (o 16 (.call 65 [(.t 15)]))), (.op 9 (o 18 (.build [.nilptr, .nilslice, (.int .i64 0), (.int .u32 0), .nilfunc] [(0, (1, (.t 11))), (1, (1, (.t 13))), (2, (1, (.t 14))), (3, (1, (.t 16))), (4, (1, (.t 17)))]))), (ef 10 (on (.store 5 (.t 8) (.t 18))))]) .ret))
def rv39 : List RV := [(.cell 8 (.some 5))]
theorem hc39 : cCode Tryz.prog Tryz.f39.ntmps (Tryz.f39.body.getD .skip) = some sc39 := by kernel_rfl
theorem hr39 : cRes Tryz.prog Tryz.f39.results.toList = some rv39 := by kernel_rfl

/-- (selfstab/run.runner).follow -/
def sc41 : SC := (so [(o 3 (.box (.t 0))), (o 5 (.box (.t 2))), (o 6 (.alloc [.nilslice, .nilslice, .nilslice, (.int .i64 0), (.int .i64 0), (.int .i64 0), (.int .i64 0), (.int .u32 0)])), (o 7 (.asg (ki 0)))] (so [(o 8 (.load (.some 5) (.t 3))), (mv 9 1), (ld 10 5), (o 11 (ln 10)), (o 12 (.p (.mkfn (.func 67) false [(.t 3), (.t 5)]))), (o 13 (.call 66 [(.t 8), (.t 9), (.t 11), (.t 12)])), (o 14 (.p (.ext (.t 13) 0))), (o 15 (.p (.ext (.t 13) 1))), (on (.store 8 (.t 6) (.t 14))), (o 7 (at_ 15))] .ret))
def rv41 : List RV := [(.cell 6 (.some 8)), (.tmp 7)]
theorem hc41 : cCode Tryz.prog Tryz.f41.ntmps (Tryz.f41.body.getD .skip) = some sc41 := by kernel_rfl
theorem hr41 : cRes Tryz.prog Tryz.f41.results.toList = some rv41 := by kernel_rfl

/-- selfstab/program.Parse -/
noncomputable def sc42 : SC := (cCode Tryz.prog Tryz.f42.ntmps (Tryz.f42.body.getD .skip)).getD .skip
def rv42 : List RV := [(.cell 2 (.some 3)), (.tmp 3), (.tmp 4)]
theorem hc42 : cCode Tryz.prog Tryz.f42.ntmps (Tryz.f42.body.getD .skip) = some sc42 := by kernel_rfl
theorem hr42 : cRes Tryz.prog Tryz.f42.results.toList = some rv42 := by kernel_rfl

/-- selfstab/run.Watch -/
def sc43 : SC := (so [(o 5 (.box (.t 0))), (o 6 (.box (.t 1))), (o 10 (.asg (.k .nilslice))), (o 11 (.asg (.k .nilslice))), (o 12 (.asg (ki 0)))] (.seq (so [(o 19 (.load (.some 3) (.t 5))), (o 20 (.load (.some 2) (.t 6))), (mv 21 2), (mv 22 3), (mv 23 4), (o 24 (ln 23)), (o 25 (.call 38 [(.t 19), (.t 20), (.t 21), (.t 22), (.t 24)])), (o 13 (at_ 25))] (so [(mv 26 13), (o 27 (bn .neq (.t 26) (ki 0)))] (.cond (.t 27) (so [(mv 28 13), (o 10 (.asg (.k .nilslice))), (o 11 (.asg (.k .nilslice))), (o 12 (at_ 28))] .ret) .skip))) (so [(o 14 (.alloc [.nilslice]))] (so [(o 15 (.alloc [.nilslice]))] (so [(o 29 (.load (.some 3) (.t 5))), (o 30 (.load (.some 2) (.t 6))), (mv 31 2), (o 32 (.p (.mkfn (.func 73) false [(.t 14), (.t 15)]))), (o 33 (.call 39 [(.t 29), (.t 30), (.t 31), (.t 32)])), (o 16 (.alloc [.nilptr, .nilslice, (.int .i64 0), (.int .u32 0), .nilfunc])), (on (.store 5 (.t 16) (.t 33)))] (.seq (so [(o 35 (.load (.some 5) (.t 16))), (mv 36 3), (mv 37 4), (o 38 (.call 41 [(.t 35), (.t 36), (.t 37)])), (mv 34 38), (o 39 (.p (.ext (.t 34) 0))), (o 40 (.p (.ext (.t 34) 1))), (o 17 (.alloc [.nilslice, .nilslice, .nilslice, (.int .i64 0), (.int .i64 0), (.int .i64 0), (.int .i64 0), (.int .u32 0)])), (on (.store 8 (.t 17) (.t 39))), (o 18 (at_ 40))] (so [(mv 41 18), (o 42 (bn .neq (.t 41) (ki 0)))] (.cond (.t 42) (so [(mv 43 18), (o 10 (.asg (.k .nilslice))), (o 11 (.asg (.k .nilslice))), (o 12 (at_ 43))] .ret) .skip))) (.seq (.draw [(.op 0 (ld 44 14)), (.op 1 (ld 45 15)), (.eff 2 [] [(none, (15, 45))] (o 10 (at_ 44))), (ef 3 (o 11 (at_ 45))), (ef 4 (o 12 (.asg (ki 0))))]) .ret)))))))
def rv43 : List RV := [(.tmp 10), (.tmp 11), (.tmp 12)]
theorem hc43 : cCode Tryz.prog Tryz.f43.ntmps (Tryz.f43.body.getD .skip) = some sc43 := by kernel_rfl
theorem hr43 : cRes Tryz.prog Tryz.f43.results.toList = some rv43 := by kernel_rfl

/-- selfstab/ring.configuration -/
def sc44 : SC := (so [(o 2 (.box (.t 0))), (o 4 (.asg (.k (.bool false))))] (so [(o 5 (.load (.some 2) (.t 2))), (o 6 (.call 45 [(.t 5)])), (mv 7 6), (ot 8 7 (.load (.some 2) (.t 2))), (ot 9 7 (pm 1)), (ot 10 7 (.p (.fld 0 (.t 2)))), (ot 11 7 (.load none (.t 10))), (ot 12 7 (ln 11)), (ot 13 7 (.bslice 1 1 [(.t 12)])), (ot 14 7 (.call 75 [(.t 8), (.t 9), (.t 13)])), (o 15 (.p (.pick (.t 7) (.t 14) (.k (.bool false))))), (o 4 (at_ 15))] .ret))
def rv44 : List RV := [(.tmp 4)]
theorem hc44 : cCode Tryz.prog Tryz.f44.ntmps (Tryz.f44.body.getD .skip) = some sc44 := by kernel_rfl
theorem hr44 : cRes Tryz.prog Tryz.f44.results.toList = some rv44 := by kernel_rfl

/-- selfstab/ring.Fit -/
def sc45 : SC := (so [(o 1 (.box (.t 0))), (o 2 (.asg (.k (.bool false))))] (so [(fl 6 0 1), (ld 7 6), (o 8 (ln 7)), (o 3 (at_ 8))] (.seq (so [(o 9 (.load (.some 2) (.t 1))), (o 10 (.call 76 [(.t 9)])), (o 11 (.p (.un .not (.t 10)))), (mv 12 11), (of 13 12 (pm 3)), (of 14 12 (bn .lss (.t 13) (ki 3))), (o 15 (.p (.pick (.t 12) (.k (.bool true)) (.t 14))))] (.cond (.t 15) (so [(o 2 (.asg (.k (.bool false))))] .ret) .skip)) (.seq (so [(fl 16 1 1), (ld 17 16), (o 18 (ln 17)), (o 19 (.p (.mv (ki 0))))] (.block 0 (.loop (so [(o 20 (bn .lss (.t 19) (.t 18)))] (.seq (.cond (.t 20) .skip (.exit 0)) (.seq (.block 1 (so [(mv 21 19), (o 22 (.p (.ixs 1 (.t 17) (.t 19)))), (ld 23 22), (o 4 (at_ 21)), (o 5 (at_ 23))] (.seq (.draw [(.op 0 (mv 24 5)), (.op 1 (o 25 (ln 24))), (.op 2 (o 26 (bn .neq (.t 25) (ki 2)))), (.op 3 (mv 27 26)), (.op 4 (of 28 27 (pm 5))), (.op 5 (of 29 27 (.p (.ixs 2 (.t 28) (ki 0))))), (.op 6 (of 30 27 (.p (.fld 0 (.t 29))))), (.op 7 (of 31 27 (.load none (.t 30)))), (.op 8 (of 32 27 (pm 4))), (.op 9 (of 33 27 (pm 3))), (.op 10 (of 34 27 (bn .add (.t 32) (.t 33)))), (.op 11 (of 35 27 (bn .sub (.t 34) (ki 1)))), (.op 12 (of 36 27 (pm 3))), (.op 13 (of 37 27 (bn .rem (.t 35) (.t 36)))), (.op 14 (of 38 27 (bn .neq (.t 31) (.t 37)))), (.op 15 (o 39 (.p (.pick (.t 27) (.k (.bool true)) (.t 38))))), (.op 16 (mv 40 39)), (.op 17 (of 41 40 (pm 5))), (.op 18 (of 42 40 (.p (.ixs 2 (.t 41) (ki 1))))), (.op 19 (of 43 40 (.p (.fld 0 (.t 42))))), (.op 20 (of 44 40 (.load none (.t 43)))), (.op 21 (of 45 40 (pm 4))), (.op 22 (of 46 40 (bn .add (.t 45) (ki 1)))), (.op 23 (of 47 40 (pm 3))), (.op 24 (of 48 40 (bn .rem (.t 46) (.t 47)))), (.op 25 (of 49 40 (bn .neq (.t 44) (.t 48)))), (.op 26 (o 50 (.p (.pick (.t 40) (.k (.bool true)) (.t 49)))))]) (.cond (.t 50) (so [(o 2 (.asg (.k (.bool false))))] .ret) .skip)))) (.ops [(o 51 (bn .add (.t 19) (ki 1))), (mv 19 51)]))))))) (so [(o 2 (.asg (.k (.bool true))))] .ret)))))
def rv45 : List RV := [(.tmp 2)]
theorem hc45 : cCode Tryz.prog Tryz.f45.ntmps (Tryz.f45.body.getD .skip) = some sc45 := by kernel_rfl
theorem hr45 : cRes Tryz.prog Tryz.f45.results.toList = some rv45 := by kernel_rfl

/-- selfstab/step.NewMover -/
def sc48 : SC := (so [(o 2 (.box (.t 0))), (o 3 (.box (.t 1))), (o 4 (.asg (.k .nilptr)))] (.seq (.draw [(.op 0 (o 5 (.load (.some 3) (.t 2)))), (.op 1 (o 6 (.load (.some 3) (.t 2)))), (.op 2 (o 7 (.load (.some 2) (.t 3)))), (.op 4 (o 9 (.load (.some 3) (.t 2)))), (.op 5 (o 10 (.load (.some 2) (.t 3)))), (.eff 3 [] [((.some 3), (2, 5)), ((.some 3), (2, 9)), ((.some 2), (3, 10))] (o 8 (.call 77 [(.t 6), (.t 7)]))), (.eff 6 [] [((.some 3), (2, 5))] (o 11 (.call 78 [(.t 9), (.t 10)]))), (.op 7 (o 12 (.build [(.str (ByteArray.mk (Array.mk []))), .nilslice, .nilslice, .nilptr, .nilslice] [(0, (3, (.t 5))), (3, (1, (.t 8))), (4, (1, (.t 11)))]))), (.op 8 (o 13 (.box (.t 12)))), (ef 9 (o 4 (at_ 13)))]) .ret))
def rv48 : List RV := [(.tmp 4)]
theorem hc48 : cCode Tryz.prog Tryz.f48.ntmps (Tryz.f48.body.getD .skip) = some sc48 := by kernel_rfl
theorem hr48 : cRes Tryz.prog Tryz.f48.results.toList = some rv48 := by kernel_rfl

/-- (*selfstab/step.Mover).Enabled -/
def sc49 : SC := (so [(o 2 (.box (.t 0))), (o 3 (.box (.t 1))), (o 4 (.asg (.k (.int .u32 0))))] (so [(ld 5 2), (nc 6 5), (fl 7 4 6), (ld 8 7), (o 9 (ln 8)), (o 10 (.p (.mkfn (.func 80) false [(.t 2), (.t 3)]))), (o 11 (.call 79 [(.t 9), (.t 10)])), (o 4 (at_ 11))] .ret))
def rv49 : List RV := [(.tmp 4)]
theorem hc49 : cCode Tryz.prog Tryz.f49.ntmps (Tryz.f49.body.getD .skip) = some sc49 := by kernel_rfl
theorem hr49 : cRes Tryz.prog Tryz.f49.results.toList = some rv49 := by kernel_rfl

/-- selfstab/memory.Check -/
def sc62 : SC := (so [(o 3 (.box (.t 0))), (o 4 (.box (.t 1))), (o 6 (.asg (ki 0)))] (.seq (so [(o 8 (.load (.some 3) (.t 3))), (o 9 (.load (.some 2) (.t 4))), (o 10 (.call 88 [(.t 8), (.t 9)])), (o 7 (at_ 10))] (so [(mv 11 7), (o 12 (bn .neq (.t 11) (ki 0)))] (.cond (.t 12) (so [(mv 13 7), (o 6 (at_ 13))] .ret) .skip))) (.seq (so [(o 14 (.load (.some 3) (.t 3))), (o 15 (.load (.some 2) (.t 4))), (o 16 (.call 78 [(.t 14), (.t 15)])), (mv 17 2), (o 18 (.call 89 [(.t 16), (.t 17)])), (o 19 (.p (.un .not (.t 18))))] (.cond (.t 19) (so [(o 6 (.asg (ki 10)))] .ret) .skip)) (so [(o 6 (.asg (ki 0)))] .ret))))
def rv62 : List RV := [(.tmp 6)]
theorem hc62 : cCode Tryz.prog Tryz.f62.ntmps (Tryz.f62.body.getD .skip) = some sc62 := by kernel_rfl
theorem hr62 : cRes Tryz.prog Tryz.f62.results.toList = some rv62 := by kernel_rfl

/-- selfstab/daemon.Valid -/
def sc63 : SC := (so [(o 2 (.asg (.k (.bool false))))] (so [(mv 3 0), (o 4 (bn .geq (.t 3) (ki 1))), (mv 5 4), (ot 6 5 (pm 0)), (ot 7 5 (bn .leq (.t 6) (ki 4))), (o 8 (.p (.pick (.t 5) (.t 7) (.k (.bool false))))), (o 2 (at_ 8))] .ret))
def rv63 : List RV := [(.tmp 2)]
theorem hc63 : cCode Tryz.prog Tryz.f63.ntmps (Tryz.f63.body.getD .skip) = some sc63 := by kernel_rfl
theorem hr63 : cRes Tryz.prog Tryz.f63.results.toList = some rv63 := by kernel_rfl

/-- selfstab/daemon.NewNet -/
def sc64 : SC := (so [(o 1 (.box (.t 0))), (o 2 (.asg (.k .nilslice)))] (so [(fl 8 1 1), (ld 9 8), (o 10 (ln 9)), (o 11 (.xt (Go.Eng.XOp.mks 1 4 [(.int .u32 0)] (.t 10)))), (o 3 (at_ 11))] (.seq (so [(fl 12 1 1), (ld 13 12), (o 14 (ln 13)), (o 15 (.p (.mv (ki 0))))] (.block 0 (.loop (so [(o 16 (bn .lss (.t 15) (.t 14)))] (.seq (.cond (.t 16) .skip (.exit 0)) (.seq (.block 1 (so [(mv 17 15), (o 18 (.p (.ixs 1 (.t 13) (.t 15)))), (ld 19 18), (o 4 (at_ 17)), (o 5 (at_ 19))] (so [(mv 20 5), (o 21 (ln 20)), (o 22 (.p (.mv (ki 0))))] (.block 2 (.loop (so [(o 23 (bn .lss (.t 22) (.t 21)))] (.seq (.cond (.t 23) .skip (.exit 2)) (.seq (.block 3 (so [(o 24 (.p (.ixs 2 (.t 20) (.t 22)))), (o 25 (.load (.some 2) (.t 24))), (o 7 (.alloc [(.int .i64 0), (.int .i64 0)])), (on (.store 2 (.t 7) (.t 25)))] (.draw [(.op 0 (mv 26 3)), (.op 1 (mv 27 4)), (.op 2 (o 28 (.p (.ixs 1 (.t 26) (.t 27))))), (.op 3 (ld 29 28)), (.op 4 (fl 30 0 7)), (.op 5 (ld 31 30)), (.op 6 (o 32 (bn .shl (.k (.int .u32 1)) (.t 31)))), (.op 7 (o 33 (bn .or (.t 29) (.t 32)))), (.op 8 (o 34 (.p (.ixs 1 (.t 26) (.t 27))))), (ef 9 (on (.store 1 (.t 34) (.t 33))))]))) (.ops [(o 35 (bn .add (.t 22) (ki 1))), (mv 22 35)]))))))))) (.ops [(o 36 (bn .add (.t 15) (ki 1))), (mv 15 36)]))))))) (so [(mv 37 3), (o 2 (at_ 37))] .ret))))
def rv64 : List RV := [(.tmp 2)]
theorem hc64 : cCode Tryz.prog Tryz.f64.ntmps (Tryz.f64.body.getD .skip) = some sc64 := by kernel_rfl
theorem hr64 : cRes Tryz.prog Tryz.f64.results.toList = some rv64 := by kernel_rfl

/-- selfstab/graph.All -/
def sc65 : SC := (so [(o 1 (.box (.t 0))), (o 2 (.asg (.k (.int .u32 0))))] (so [(fl 3 0 1), (ld 4 3), (o 5 (ln 4)), (o 6 (bn .shl (.k (.int .u32 1)) (.t 5))), (o 7 (bn .sub (.t 6) (.k (.int .u32 1)))), (o 2 (at_ 7))] .ret))
def rv65 : List RV := [(.tmp 2)]
theorem hc65 : cCode Tryz.prog Tryz.f65.ntmps (Tryz.f65.body.getD .skip) = some sc65 := by kernel_rfl
theorem hr65 : cRes Tryz.prog Tryz.f65.results.toList = some rv65 := by kernel_rfl

/-- (selfstab/run.runner).execute -/
def sc66 : SC := (so [(o 4 (.box (.t 0))), (o 8 (.alloc [.nilslice, .nilslice, .nilslice, (.int .i64 0), (.int .i64 0), (.int .i64 0), (.int .i64 0), (.int .u32 0)])), (o 9 (.asg (ki 0)))] (so [(o 10 (.alloc [.nilslice, .nilslice, .nilslice, (.int .i64 0), (.int .i64 0), (.int .i64 0), (.int .i64 0), (.int .u32 0)]))] (so [(mv 16 1), (o 17 (.call 74 [(.t 16)])), (o 1 (at_ 17))] (.seq (.draw [(.op 0 (fl 18 0 4)), (.op 1 (ld 19 18)), (.op 2 (mv 20 1)), (.op 4 (fl 22 3 4)), (.op 5 (ld 23 22)), (.eff 3 [] [(none, (22, 23))] (o 21 (.call 49 [(.t 19), (.t 20)]))), (.op 6 (o 24 (bn .and (.t 21) (.t 23)))), (ef 7 (o 11 (at_ 24)))]) (so [(mv 25 11), (o 26 (.call 90 [(.t 25)])), (o 12 (.alloc [(.int .i64 0), (.int .i64 0), (.int .i64 0), (.int .i64 0), (.int .u32 0)])), (on (.store 5 (.t 12) (.t 26)))] (so [(fl 27 4 4), (ld 28 27), (mv 29 1), (mv 30 11), (o 31 (.load (.some 5) (.t 12))), (o 32 (.callv (.t 28) [(.t 29), (.t 30), (.t 31)]))] (so [(fl 33 1 10), (ld 34 33), (mv 35 11), (o 36 (.bslice 1 1 [(.t 35)])), (o 37 (.app 1 4 (.t 34) (.t 36))), (fl 38 1 10), (on (.store 1 (.t 38) (.t 37)))] (.seq (so [(mv 39 2), (o 40 (.p (.mv (ki 0))))] (.block 0 (.loop (so [(o 41 (bn .lss (.t 40) (.t 39)))] (.seq (.cond (.t 41) .skip (.exit 0)) (.seq (.block 1 (so [(mv 42 40), (o 13 (at_ 42))] (so [(mv 44 3), (mv 45 13), (mv 46 11), (o 47 (.callv (.t 44) [(.t 45), (.t 46)])), (mv 43 47), (o 48 (.p (.ext (.t 43) 0))), (o 49 (.p (.ext (.t 43) 1))), (o 14 (at_ 48)), (o 15 (at_ 49))] (.seq (so [(mv 50 15), (o 51 (.p (.un .not (.t 50))))] (.cond (.t 51) (.exit 0) .skip)) (.seq (so [(fl 52 1 4), (ld 53 52), (fl 54 2 4), (ld 55 54), (mv 56 11), (mv 57 14), (o 58 (.call 91 [(.t 53), (.t 55), (.t 56), (.t 57)])), (o 59 (.p (.un .not (.t 58))))] (.cond (.t 59) (so [(o 60 (.build [.nilslice, .nilslice, .nilslice, (.int .i64 0), (.int .i64 0), (.int .i64 0), (.int .i64 0), (.int .u32 0)] [])), (on (.store 8 (.t 8) (.t 60))), (o 9 (.asg (ki 11)))] .ret) .skip)) (so [(fl 61 0 4), (ld 62 61), (mv 63 1), (mv 64 14), (o 65 (.call 92 [(.t 62), (.t 63), (.t 64)])), (o 1 (at_ 65))] (.seq (.draw [(.op 0 (fl 66 0 4)), (.op 1 (ld 67 66)), (.op 2 (mv 68 1)), (.op 4 (fl 70 3 4)), (.op 5 (ld 71 70)), (.eff 3 [] [(none, (70, 71))] (o 69 (.call 49 [(.t 67), (.t 68)]))), (.op 6 (o 72 (bn .and (.t 69) (.t 71)))), (ef 7 (o 11 (at_ 72)))]) (so [(o 74 (.load (.some 5) (.t 12))), (mv 75 14), (mv 76 11), (o 77 (.call 93 [(.t 74), (.t 75), (.t 76)])), (mv 73 77), (o 78 (.p (.ext (.t 73) 0))), (o 79 (.p (.ext (.t 73) 1))), (on (.store 5 (.t 12) (.t 78)))] (so [(fl 80 4 4), (ld 81 80), (mv 82 1), (mv 83 11), (o 84 (.load (.some 5) (.t 12))), (o 85 (.callv (.t 81) [(.t 82), (.t 83), (.t 84)]))] (so [(fl 86 0 10), (ld 87 86), (mv 88 14), (o 89 (.bslice 1 1 [(.t 88)])), (o 90 (.app 1 4 (.t 87) (.t 89))), (fl 91 0 10), (on (.store 1 (.t 91) (.t 90)))] (.ops [(fl 92 1 10), (ld 93 92), (mv 94 11), (o 95 (.bslice 1 1 [(.t 94)])), (o 96 (.app 1 4 (.t 93) (.t 95))), (fl 97 1 10), (on (.store 1 (.t 97) (.t 96)))]))))))))))) (.ops [(o 98 (bn .add (.t 40) (ki 1))), (mv 40 98)]))))))) (.seq (.draw [(.op 0 (mv 99 1)), (.op 1 (o 100 (.load (.some 5) (.t 12)))), (.op 2 (fl 101 2 10)), (.eff 3 [] [((.some 5), (12, 100))] (on (.store 1 (.t 101) (.t 99)))), (.op 4 (fl 102 3 10)), (ef 5 (on (.store 5 (.t 102) (.t 100))))]) (so [(o 103 (.load (.some 8) (.t 10))), (on (.store 8 (.t 8) (.t 103))), (o 9 (.asg (ki 0)))] .ret))))))))))
def rv66 : List RV := [(.cell 8 (.some 8)), (.tmp 9)]
theorem hc66 : cCode Tryz.prog Tryz.f66.ntmps (Tryz.f66.body.getD .skip) = some sc66 := by kernel_rfl
theorem hr66 : cRes Tryz.prog Tryz.f66.results.toList = some rv66 := by kernel_rfl

/-- (selfstab/run.runner).follow$1 -/
def sc67 : SC := (so [(o 6 (.asg (.k (.int .u32 0)))), (o 7 (.asg (.k (.bool false))))] (.seq (.draw [(.op 0 (fl 8 1 2)), (.op 1 (ld 9 8)), (.op 2 (fl 10 2 2)), (.op 3 (ld 11 10)), (.op 4 (mv 12 1)), (.op 5 (ld 13 3)), (.op 6 (mv 14 0)), (.op 7 (o 15 (.p (.ixs 1 (.t 13) (.t 14))))), (.op 8 (ld 16 15)), (.op 10 (mv 18 1)), (.op 11 (o 19 (bn .neq (.t 18) (.k (.int .u32 0))))), (ef 9 (o 17 (.call 68 [(.t 9), (.t 11), (.t 12), (.t 16)]))), (ef 12 (o 6 (at_ 17))), (ef 13 (o 7 (at_ 19)))]) .ret))
def rv67 : List RV := [(.tmp 6), (.tmp 7)]
theorem hc67 : cCode Tryz.prog Tryz.f67.ntmps (Tryz.f67.body.getD .skip) = some sc67 := by kernel_rfl
theorem hr67 : cRes Tryz.prog Tryz.f67.results.toList = some rv67 := by kernel_rfl

/-- (selfstab/daemon.Net).Resolve -/
def sc68 : SC := (so [(o 4 (.box (.t 0))), (o 8 (.asg (.k (.int .u32 0))))] (so [(mv 11 3), (mv 12 2), (o 13 (bn .and (.t 11) (.t 12))), (o 3 (at_ 13))] (.seq (so [(mv 14 3), (o 15 (bn .eql (.t 14) (.k (.int .u32 0))))] (.cond (.t 15) (.ops [(mv 16 2), (mv 17 2), (o 18 (.p (.un .neg (.t 17)))), (o 19 (bn .and (.t 16) (.t 18))), (o 3 (at_ 19))]) .skip)) (.seq (so [(mv 20 1)] (.block 0 (so [(o 22 (bn .eql (.t 20) (ki 1))), (o 21 (at_ 22))] (.cond (.t 21) (so [(mv 23 3), (mv 24 3), (o 25 (.p (.un .neg (.t 24)))), (o 26 (bn .and (.t 23) (.t 25))), (o 8 (at_ 26))] .ret) (so [(o 28 (bn .eql (.t 20) (ki 2))), (o 27 (at_ 28))] (.cond (.t 27) (so [(o 9 (.alloc [(.int .u32 0)])), (on (.store 1 (.t 9) (.k (.int .u32 0))))] (.seq (so [(mv 29 3), (o 30 (.call 94 [(.t 29)]))] (.block 1 (.rf (.t 30) [31] (.ops [(o 10 (at_ 31))]) (.block 2 (.seq (.draw [(.op 0 (ld 32 4)), (.op 1 (mv 33 10)), (.op 2 (o 34 (.p (.ixs 1 (.t 32) (.t 33))))), (.op 3 (ld 35 34)), (.op 4 (ld 36 9)), (.op 5 (o 37 (bn .and (.t 35) (.t 36)))), (.op 6 (o 38 (bn .eql (.t 37) (.k (.int .u32 0)))))]) (.cond (.t 38) (.draw [(.op 0 (ld 39 9)), (.op 1 (mv 40 10)), (.op 2 (o 41 (bn .shl (.k (.int .u32 1)) (.t 40)))), (.op 3 (o 42 (bn .or (.t 39) (.t 41)))), (ef 4 (on (.store 1 (.t 9) (.t 42))))]) .skip)))))) (so [(ld 43 9), (o 8 (at_ 43))] .ret))) (so [(o 45 (bn .eql (.t 20) (ki 4))), (o 44 (at_ 45))] (.cond (.t 44) (so [(mv 46 2), (o 8 (at_ 46))] .ret) .skip)))))))) (so [(mv 47 3), (o 8 (at_ 47))] .ret)))))
def rv68 : List RV := [(.tmp 8)]
theorem hc68 : cCode Tryz.prog Tryz.f68.ntmps (Tryz.f68.body.getD .skip) = some sc68 := by kernel_rfl
theorem hr68 : cRes Tryz.prog Tryz.f68.results.toList = some rv68 := by kernel_rfl

/-- selfstab/lexer.Scan -/
noncomputable def sc69 : SC := (cCode Tryz.prog Tryz.f69.ntmps (Tryz.f69.body.getD .skip)).getD .skip
def rv69 : List RV := [(.tmp 2), (.tmp 3), (.tmp 4)]
theorem hc69 : cCode Tryz.prog Tryz.f69.ntmps (Tryz.f69.body.getD .skip) = some sc69 := by kernel_rfl
theorem hr69 : cRes Tryz.prog Tryz.f69.results.toList = some rv69 := by kernel_rfl

/-- (*selfstab/program.reader).all -/
noncomputable def sc71 : SC := (cCode Tryz.prog Tryz.f71.ntmps (Tryz.f71.body.getD .skip)).getD .skip
def rv71 : List RV := []
theorem hc71 : cCode Tryz.prog Tryz.f71.ntmps (Tryz.f71.body.getD .skip) = some sc71 := by kernel_rfl
theorem hr71 : cRes Tryz.prog Tryz.f71.results.toList = some rv71 := by kernel_rfl

/-- selfstab/types.Check -/
noncomputable def sc72 : SC := (cCode Tryz.prog Tryz.f72.ntmps (Tryz.f72.body.getD .skip)).getD .skip
def rv72 : List RV := [(.tmp 2)]
theorem hc72 : cCode Tryz.prog Tryz.f72.ntmps (Tryz.f72.body.getD .skip) = some sc72 := by kernel_rfl
theorem hr72 : cRes Tryz.prog Tryz.f72.results.toList = some rv72 := by kernel_rfl

/-- selfstab/run.Watch$1 -/
def sc73 : SC := (so [(o 7 (.box (.t 2)))] (.seq (.draw [(.op 0 (ld 8 3)), (.op 1 (mv 9 0)), (.eff 2 [] [(none, (3, 8))] (o 10 (.call 74 [(.t 9)]))), (.op 3 (o 11 (.bslice 1 1 [(.t 10)]))), (ef 4 (o 12 (.app 1 24 (.t 8) (.t 11)))), (ef 5 (on (.store 1 (.t 3) (.t 12))))]) (.ops [(ld 13 4), (o 14 (.load (.some 5) (.t 7))), (o 15 (.bslice 5 1 [(.t 14)])), (o 16 (.app 5 40 (.t 13) (.t 15))), (on (.store 1 (.t 4) (.t 16)))])))
def rv73 : List RV := []
theorem hc73 : cCode Tryz.prog Tryz.f73.ntmps (Tryz.f73.body.getD .skip) = some sc73 := by kernel_rfl
theorem hr73 : cRes Tryz.prog Tryz.f73.results.toList = some rv73 := by kernel_rfl

/-- selfstab/memory.Copy -/
def sc74 : SC := (so [(o 2 (.asg (.k .nilslice)))] (so [(mv 6 0), (o 7 (ln 6)), (o 8 (.xt (Go.Eng.XOp.mks 1 24 [.nilslice] (.t 7)))), (o 3 (at_ 8))] (.seq (so [(mv 9 0), (o 10 (ln 9)), (o 11 (.p (.mv (ki 0))))] (.block 0 (.loop (so [(o 12 (bn .lss (.t 11) (.t 10)))] (.seq (.cond (.t 12) .skip (.exit 0)) (.seq (.block 1 (so [(mv 13 11), (o 14 (.p (.ixs 1 (.t 9) (.t 11)))), (ld 15 14), (o 4 (at_ 13)), (o 5 (at_ 15))] (.ops [(mv 16 3), (mv 17 4), (mv 18 5), (o 19 (.app 1 8 (.k .nilslice) (.t 18))), (o 20 (.p (.ixs 1 (.t 16) (.t 17)))), (on (.store 1 (.t 20) (.t 19)))]))) (.ops [(o 21 (bn .add (.t 11) (ki 1))), (mv 11 21)]))))))) (so [(mv 22 3), (o 2 (at_ 22))] .ret))))
def rv74 : List RV := [(.tmp 2)]
theorem hc74 : cCode Tryz.prog Tryz.f74.ntmps (Tryz.f74.body.getD .skip) = some sc74 := by kernel_rfl
theorem hr74 : cRes Tryz.prog Tryz.f74.results.toList = some rv74 := by kernel_rfl

/-- selfstab/bfs.Configuration -/
def sc75 : SC := (so [(o 3 (.box (.t 0))), (o 6 (.asg (.k (.bool false))))] (.seq (so [(mv 13 1), (o 14 (ln 13)), (fl 15 0 3), (ld 16 15), (o 17 (ln 16)), (o 18 (bn .neq (.t 14) (.t 17)))] (.cond (.t 18) (so [(o 6 (.asg (.k (.bool false))))] .ret) .skip)) (.seq (so [(mv 19 1), (o 20 (ln 19)), (o 21 (.p (.mv (ki 0))))] (.block 0 (.loop (so [(o 22 (bn .lss (.t 21) (.t 20)))] (.seq (.cond (.t 22) .skip (.exit 0)) (.seq (.block 1 (so [(mv 23 21), (o 24 (.p (.ixs 1 (.t 19) (.t 21)))), (ld 25 24), (o 7 (at_ 23)), (o 8 (at_ 25))] (.seq (so [(mv 26 8), (o 27 (ln 26)), (mv 28 2), (o 29 (ln 28)), (o 30 (bn .neq (.t 27) (.t 29)))] (.cond (.t 30) (so [(o 6 (.asg (.k (.bool false))))] .ret) .skip)) (so [(mv 31 8), (o 32 (ln 31)), (o 33 (.p (.mv (ki 0))))] (.block 2 (.loop (so [(o 34 (bn .lss (.t 33) (.t 32)))] (.seq (.cond (.t 34) .skip (.exit 2)) (.seq (.block 3 (so [(mv 35 33), (o 36 (.p (.ixs 1 (.t 31) (.t 33)))), (ld 37 36), (o 9 (at_ 35)), (o 10 (at_ 37))] (.seq (.draw [(.op 0 (mv 38 2)), (.op 1 (mv 39 9)), (.op 2 (o 40 (.p (.ixs 1 (.t 38) (.t 39))))), (.op 3 (ld 41 40)), (.eff 4 [] [(none, (40, 41))] (o 11 (.asg (ki 0)))), (ef 5 (o 12 (at_ 41)))]) (.seq (so [(mv 42 12), (o 43 (bn .eql (.t 42) (.k (.int .i64 (-1)))))] (.cond (.t 43) (.draw [(.op 0 (fl 44 1 3)), (.op 1 (ld 45 44)), (.op 2 (mv 46 7)), (.op 3 (o 47 (.p (.ixs 1 (.t 45) (.t 46))))), (.op 4 (ld 48 47)), (.op 5 (o 49 (ln 48))), (.op 6 (o 50 (bn .sub (.t 49) (ki 1)))), (.eff 7 [] [(none, (44, 45)), (none, (47, 48))] (o 11 (.asg (.k (.int .i64 (-1)))))), (ef 8 (o 12 (at_ 50)))]) .skip)) (so [(mv 51 10), (mv 52 11), (o 53 (bn .lss (.t 51) (.t 52))), (mv 54 53), (of 55 54 (pm 10)), (of 56 54 (pm 12)), (of 57 54 (bn .gtr (.t 55) (.t 56))), (o 58 (.p (.pick (.t 54) (.k (.bool true)) (.t 57))))] (.cond (.t 58) (so [(o 6 (.asg (.k (.bool false))))] .ret) .skip)))))) (.ops [(o 59 (bn .add (.t 33) (ki 1))), (mv 33 59)])))))))))) (.ops [(o 60 (bn .add (.t 21) (ki 1))), (mv 21 60)]))))))) (so [(o 6 (.asg (.k (.bool true))))] .ret))))
def rv75 : List RV := [(.tmp 6)]
theorem hc75 : cCode Tryz.prog Tryz.f75.ntmps (Tryz.f75.body.getD .skip) = some sc75 := by kernel_rfl
theorem hr75 : cRes Tryz.prog Tryz.f75.results.toList = some rv75 := by kernel_rfl

/-- selfstab/graph.Valid -/
def sc76 : SC := (so [(o 1 (.box (.t 0))), (o 2 (.asg (.k (.bool false))))] (so [(fl 4 0 1), (ld 5 4), (o 6 (ln 5)), (o 3 (at_ 6))] (.seq (so [(mv 7 3), (o 8 (bn .lss (.t 7) (ki 1))), (mv 9 8), (of 10 9 (pm 3)), (of 11 9 (bn .gtr (.t 10) (ki 24))), (o 12 (.p (.pick (.t 9) (.k (.bool true)) (.t 11)))), (mv 13 12), (of 14 13 (.p (.fld 1 (.t 1)))), (of 15 13 (.load none (.t 14))), (of 16 13 (ln 15)), (of 17 13 (pm 3)), (of 18 13 (bn .neq (.t 16) (.t 17))), (o 19 (.p (.pick (.t 13) (.k (.bool true)) (.t 18))))] (.cond (.t 19) (so [(o 2 (.asg (.k (.bool false))))] .ret) .skip)) (so [(fl 20 0 1), (ld 21 20), (o 22 (.call 111 [(.t 21)])), (mv 23 22), (ot 24 23 (.p (.fld 1 (.t 1)))), (ot 25 23 (.load none (.t 24))), (ot 26 23 (.call 112 [(.t 25)])), (o 27 (.p (.pick (.t 23) (.t 26) (.k (.bool false))))), (o 2 (at_ 27))] .ret))))
def rv76 : List RV := [(.tmp 2)]
theorem hc76 : cCode Tryz.prog Tryz.f76.ntmps (Tryz.f76.body.getD .skip) = some sc76 := by kernel_rfl
theorem hr76 : cRes Tryz.prog Tryz.f76.results.toList = some rv76 := by kernel_rfl

/-- selfstab/eval.NewScene -/
def sc77 : SC := (so [(o 2 (.box (.t 0))), (o 3 (.box (.t 1))), (o 4 (.asg (.k .nilptr)))] (.seq (.draw [(.op 0 (o 10 (.load (.some 3) (.t 2)))), (.op 1 (o 11 (.load (.some 2) (.t 3)))), (.op 2 (fl 12 1 3)), (.op 3 (ld 13 12)), (.op 4 (o 14 (ln 13))), (.eff 5 [] [((.some 3), (2, 10)), ((.some 2), (3, 11))] (o 15 (.xt (Go.Eng.XOp.mks 1 24 [.nilslice] (.t 14))))), (.op 6 (o 16 (.build [(.str (ByteArray.mk (Array.mk []))), .nilslice, .nilslice, .nilslice, .nilslice, (.int .i64 0), .nilslice] [(0, (3, (.t 10))), (3, (2, (.t 11))), (6, (1, (.t 15)))]))), (.op 7 (o 17 (.box (.t 16)))), (ef 8 (o 5 (at_ 17)))]) (.seq (so [(fl 18 1 3), (ld 19 18), (o 20 (ln 19)), (o 21 (.p (.mv (ki 0))))] (.block 0 (.loop (so [(o 22 (bn .lss (.t 21) (.t 20)))] (.seq (.cond (.t 22) .skip (.exit 0)) (.seq (.block 1 (so [(mv 23 21), (o 24 (.p (.ixs 1 (.t 19) (.t 21)))), (ld 25 24), (o 6 (at_ 23)), (o 7 (at_ 25))] (.seq (.draw [(.op 0 (mv 26 5)), (.op 1 (mv 27 5)), (.op 2 (nc 28 27)), (.op 3 (fl 29 5 28)), (.op 4 (ld 30 29)), (.op 5 (fl 31 0 3)), (.op 6 (ld 32 31)), (.op 7 (mv 33 6)), (.op 8 (o 34 (.p (.ixs 1 (.t 32) (.t 33))))), (.op 9 (ld 35 34)), (.op 10 (o 36 (.p (.mx (.t 30) (.t 35))))), (.op 11 (nc 37 26)), (.op 12 (fl 38 5 37)), (ef 13 (on (.store 1 (.t 38) (.t 36))))]) (so [(mv 39 7), (o 40 (ln 39)), (o 41 (.p (.mv (ki 0))))] (.block 2 (.loop (so [(o 42 (bn .lss (.t 41) (.t 40)))] (.seq (.cond (.t 42) .skip (.exit 2)) (.seq (.block 3 (so [(o 43 (.p (.ixs 2 (.t 39) (.t 41)))), (o 44 (.load (.some 2) (.t 43))), (o 9 (.alloc [(.int .i64 0), (.int .i64 0)])), (on (.store 2 (.t 9) (.t 44)))] (.draw [(.op 0 (mv 45 5)), (.op 1 (nc 46 45)), (.op 2 (fl 47 6 46)), (.op 3 (ld 48 47)), (.op 4 (mv 49 6)), (.op 5 (mv 50 5)), (.op 6 (nc 51 50)), (.op 7 (fl 52 6 51)), (.op 8 (ld 53 52)), (.op 9 (mv 54 6)), (.op 10 (o 55 (.p (.ixs 1 (.t 53) (.t 54))))), (.op 11 (ld 56 55)), (.op 12 (o 57 (.load (.some 2) (.t 3)))), (.op 13 (fl 58 0 9)), (.op 14 (ld 59 58)), (.op 15 (mv 60 6)), (.eff 16 [] [(none, (47, 48)), (none, (52, 53)), (none, (55, 56))] (o 61 (.call 113 [(.t 57), (.t 59), (.t 60)]))), (.op 17 (o 62 (.bslice 1 1 [(.t 61)]))), (.eff 18 [] [(none, (47, 48))] (o 63 (.app 1 8 (.t 56) (.t 62)))), (.op 19 (o 64 (.p (.ixs 1 (.t 48) (.t 49))))), (ef 20 (on (.store 1 (.t 64) (.t 63))))]))) (.ops [(o 65 (bn .add (.t 41) (ki 1))), (mv 41 65)])))))))))) (.ops [(o 66 (bn .add (.t 21) (ki 1))), (mv 21 66)]))))))) (so [(mv 67 5), (o 4 (at_ 67))] .ret))))
def rv77 : List RV := [(.tmp 4)]
theorem hc77 : cCode Tryz.prog Tryz.f77.ntmps (Tryz.f77.body.getD .skip) = some sc77 := by kernel_rfl
theorem hr77 : cRes Tryz.prog Tryz.f77.results.toList = some rv77 := by kernel_rfl

/-- selfstab/domain.Table -/
def sc78 : SC := (so [(o 2 (.box (.t 0))), (o 3 (.box (.t 1))), (o 4 (.asg (.k .nilslice)))] (so [(fl 9 0 3), (ld 10 9), (o 11 (ln 10)), (o 12 (.xt (Go.Eng.XOp.mks 1 24 [.nilslice] (.t 11)))), (o 5 (at_ 12))] (.seq (so [(mv 13 5), (o 14 (ln 13)), (o 15 (.p (.mv (ki 0))))] (.block 0 (.loop (so [(o 16 (bn .lss (.t 15) (.t 14)))] (.seq (.cond (.t 16) .skip (.exit 0)) (.seq (.block 1 (so [(mv 17 15), (o 6 (at_ 17))] (so [(mv 18 5), (mv 19 6), (fl 20 1 2), (ld 21 20), (o 22 (ln 21)), (o 23 (.xt (Go.Eng.XOp.mks 2 16 [(.int .i64 0), (.int .i64 0)] (.t 22)))), (o 24 (.p (.ixs 1 (.t 18) (.t 19)))), (on (.store 1 (.t 24) (.t 23)))] (so [(fl 25 1 2), (ld 26 25), (o 27 (ln 26)), (o 28 (.p (.mv (ki 0))))] (.block 2 (.loop (so [(o 29 (bn .lss (.t 28) (.t 27)))] (.seq (.cond (.t 29) .skip (.exit 2)) (.seq (.block 3 (so [(mv 30 28), (o 31 (.p (.ixs 6 (.t 26) (.t 28)))), (o 32 (.load (.some 6) (.t 31))), (o 8 (.alloc [(.str (ByteArray.mk (Array.mk []))), (.int .i64 0), (.int .i64 0), (.int .i64 0), (.int .i64 0), (.int .i64 0)])), (o 7 (at_ 30)), (on (.store 6 (.t 8) (.t 32)))] (.draw [(.op 0 (mv 34 5)), (.op 1 (mv 35 6)), (.op 2 (o 36 (.p (.ixs 1 (.t 34) (.t 35))))), (.op 3 (ld 37 36)), (.op 4 (mv 38 7)), (.op 5 (mv 39 5)), (.op 6 (mv 40 6)), (.op 7 (o 41 (.p (.ixs 1 (.t 39) (.t 40))))), (.op 8 (ld 42 41)), (.op 9 (mv 43 7)), (.op 10 (o 44 (.load (.some 6) (.t 8)))), (.op 11 (o 45 (.load (.some 2) (.t 3)))), (.op 12 (mv 46 6)), (.op 17 (o 50 (.p (.ixs 2 (.t 37) (.t 38))))), (.op 20 (o 52 (.p (.ixs 2 (.t 42) (.t 43))))), (.eff 13 [] [(none, (36, 37)), (none, (41, 42))] (o 47 (.call 114 [(.t 44), (.t 45), (.t 46)]))), (.op 14 (mv 33 47)), (.op 15 (o 48 (.p (.ext (.t 33) 0)))), (.op 16 (o 49 (.p (.ext (.t 33) 1)))), (.op 18 (o 51 (.p (.ixa 2 1 (.t 50) (ki 0))))), (ef 19 (on (.store 1 (.t 51) (.t 48)))), (.op 21 (o 53 (.p (.ixa 2 1 (.t 52) (ki 1))))), (ef 22 (on (.store 1 (.t 53) (.t 49))))]))) (.ops [(o 54 (bn .add (.t 28) (ki 1))), (mv 28 54)])))))))))) (.ops [(o 55 (bn .add (.t 15) (ki 1))), (mv 15 55)]))))))) (so [(mv 56 5), (o 4 (at_ 56))] .ret))))
def rv78 : List RV := [(.tmp 4)]
theorem hc78 : cCode Tryz.prog Tryz.f78.ntmps (Tryz.f78.body.getD .skip) = some sc78 := by kernel_rfl
theorem hr78 : cRes Tryz.prog Tryz.f78.results.toList = some rv78 := by kernel_rfl

/-- selfstab/step.nodes -/
def sc79 : SC := (so [(o 4 (.asg (.k (.int .u32 0))))] (so [(o 5 (.asg (.k (.int .u32 0))))] (.seq (so [(mv 7 0), (o 8 (.p (.mv (ki 0))))] (.block 0 (.loop (so [(o 9 (bn .lss (.t 8) (.t 7)))] (.seq (.cond (.t 9) .skip (.exit 0)) (.seq (.block 1 (so [(mv 10 8), (o 6 (at_ 10))] (so [(mv 11 1), (mv 12 6), (o 13 (.callv (.t 11) [(.t 12)]))] (.cond (.t 13) (.ops [(mv 14 5), (mv 15 6), (o 16 (bn .shl (.k (.int .u32 1)) (.t 15))), (o 17 (bn .or (.t 14) (.t 16))), (o 5 (at_ 17))]) .skip)))) (.ops [(o 18 (bn .add (.t 8) (ki 1))), (mv 8 18)]))))))) (so [(mv 19 5), (o 4 (at_ 19))] .ret))))
def rv79 : List RV := [(.tmp 4)]
theorem hc79 : cCode Tryz.prog Tryz.f79.ntmps (Tryz.f79.body.getD .skip) = some sc79 := by kernel_rfl
theorem hr79 : cRes Tryz.prog Tryz.f79.results.toList = some rv79 := by kernel_rfl

/-- (*selfstab/step.Mover).Enabled$1 -/
def sc80 : SC := (so [(o 4 (.asg (.k (.bool false))))] (so [(ld 5 1), (ld 6 2), (mv 7 0), (o 8 (.call 81 [(.t 5), (.t 6), (.t 7)])), (o 9 (bn .geq (.t 8) (ki 0))), (o 4 (at_ 9))] .ret))
def rv80 : List RV := [(.tmp 4)]
theorem hc80 : cCode Tryz.prog Tryz.f80.ntmps (Tryz.f80.body.getD .skip) = some sc80 := by kernel_rfl
theorem hr80 : cRes Tryz.prog Tryz.f80.results.toList = some rv80 := by kernel_rfl

/-- (*selfstab/step.Mover).Rule -/
def sc81 : SC := (so [(o 6 (.asg (ki 0)))] (.seq (so [(mv 8 0), (nc 9 8), (fl 10 0 9), (fl 11 2 10), (ld 12 11), (o 13 (ln 12)), (o 14 (.p (.mv (ki 0))))] (.block 0 (.loop (so [(o 15 (bn .lss (.t 14) (.t 13)))] (.seq (.cond (.t 15) .skip (.exit 0)) (.seq (.block 1 (so [(mv 16 14), (o 7 (at_ 16))] (so [(mv 17 0), (nc 18 17), (fl 19 3 18), (ld 20 19), (mv 21 1), (mv 22 2), (mv 23 7), (o 24 (.call 115 [(.t 20), (.t 21), (.t 22), (.t 23)]))] (.cond (.t 24) (so [(mv 25 7), (o 6 (at_ 25))] .ret) .skip)))) (.ops [(o 26 (bn .add (.t 14) (ki 1))), (mv 14 26)]))))))) (so [(o 6 (.asg (.k (.int .i64 (-1)))))] .ret)))
def rv81 : List RV := [(.tmp 6)]
theorem hc81 : cCode Tryz.prog Tryz.f81.ntmps (Tryz.f81.body.getD .skip) = some sc81 := by kernel_rfl
theorem hr81 : cRes Tryz.prog Tryz.f81.results.toList = some rv81 := by kernel_rfl

/-- selfstab/domain.Fits -/
def sc88 : SC := (so [(o 2 (.box (.t 0))), (o 3 (.box (.t 1))), (o 4 (.asg (ki 0)))] (.seq (so [(o 9 (.load (.some 3) (.t 2))), (o 10 (.call 118 [(.t 9)])), (o 11 (.p (.un .not (.t 10))))] (.cond (.t 11) (so [(o 4 (.asg (ki 8)))] .ret) .skip)) (.seq (so [(o 12 (.load (.some 2) (.t 3))), (o 13 (.call 76 [(.t 12)])), (o 14 (.p (.un .not (.t 13))))] (.cond (.t 14) (so [(o 4 (.asg (ki 1)))] .ret) .skip)) (.seq (so [(fl 15 1 2), (ld 16 15), (o 17 (ln 16)), (o 18 (.p (.mv (ki 0))))] (.block 0 (.loop (so [(o 19 (bn .lss (.t 18) (.t 17)))] (.seq (.cond (.t 19) .skip (.exit 0)) (.seq (.block 1 (so [(o 20 (.p (.ixs 6 (.t 16) (.t 18)))), (o 21 (.load (.some 6) (.t 20))), (o 6 (.alloc [(.str (ByteArray.mk (Array.mk []))), (.int .i64 0), (.int .i64 0), (.int .i64 0), (.int .i64 0), (.int .i64 0)])), (on (.store 6 (.t 6) (.t 21)))] (.seq (so [(fl 22 1 6), (ld 23 22), (o 24 (bn .neq (.t 23) (ki 1)))] (.cond (.t 24) (.exit 1) .skip)) (so [(o 26 (.load (.some 6) (.t 6))), (o 27 (.load (.some 2) (.t 3))), (o 28 (.call 114 [(.t 26), (.t 27), (ki 0)])), (mv 25 28), (o 29 (.p (.ext (.t 25) 0))), (o 30 (.p (.ext (.t 25) 1))), (o 7 (at_ 29)), (o 8 (at_ 30))] (so [(mv 31 8), (mv 32 7), (o 33 (bn .lss (.t 31) (.t 32))), (mv 34 33), (of 35 34 (pm 8)), (of 36 34 (pm 7)), (of 37 34 (bn .sub (.t 35) (.t 36))), (of 38 34 (bn .add (.t 37) (ki 1))), (of 39 34 (bn .gtr (.t 38) (ki 4096))), (o 40 (.p (.pick (.t 34) (.k (.bool true)) (.t 39))))] (.cond (.t 40) (so [(o 4 (.asg (ki 9)))] .ret) .skip)))))) (.ops [(o 41 (bn .add (.t 18) (ki 1))), (mv 18 41)]))))))) (so [(o 4 (.asg (ki 0)))] .ret)))))
def rv88 : List RV := [(.tmp 4)]
theorem hc88 : cCode Tryz.prog Tryz.f88.ntmps (Tryz.f88.body.getD .skip) = some sc88 := by kernel_rfl
theorem hr88 : cRes Tryz.prog Tryz.f88.results.toList = some rv88 := by kernel_rfl

/-- selfstab/memory.within -/
def sc89 : SC := (so [(o 4 (.asg (.k (.bool false))))] (.seq (so [(mv 7 1), (o 8 (ln 7)), (mv 9 0), (o 10 (ln 9)), (o 11 (bn .neq (.t 8) (.t 10)))] (.cond (.t 11) (so [(o 4 (.asg (.k (.bool false))))] .ret) .skip)) (.seq (so [(mv 12 0), (o 13 (ln 12)), (o 14 (.p (.mv (ki 0))))] (.block 0 (.loop (so [(o 15 (bn .lss (.t 14) (.t 13)))] (.seq (.cond (.t 15) .skip (.exit 0)) (.seq (.block 1 (so [(mv 16 14), (o 17 (.p (.ixs 1 (.t 12) (.t 14)))), (ld 18 17), (o 5 (at_ 16)), (o 6 (at_ 18))] (so [(mv 19 6), (mv 20 1), (mv 21 5), (o 22 (.p (.ixs 1 (.t 20) (.t 21)))), (ld 23 22), (o 24 (.call 119 [(.t 19), (.t 23)])), (o 25 (.p (.un .not (.t 24))))] (.cond (.t 25) (so [(o 4 (.asg (.k (.bool false))))] .ret) .skip)))) (.ops [(o 26 (bn .add (.t 14) (ki 1))), (mv 14 26)]))))))) (so [(o 4 (.asg (.k (.bool true))))] .ret))))
def rv89 : List RV := [(.tmp 4)]
theorem hc89 : cCode Tryz.prog Tryz.f89.ntmps (Tryz.f89.body.getD .skip) = some sc89 := by kernel_rfl
theorem hr89 : cRes Tryz.prog Tryz.f89.results.toList = some rv89 := by kernel_rfl

/-- selfstab/account.Begin -/
def sc90 : SC := (so [(o 2 (.alloc [(.int .i64 0), (.int .i64 0), (.int .i64 0), (.int .i64 0), (.int .u32 0)]))] (so [(mv 3 0), (o 4 (bn .and (.t 3) (.k (.int .u32 16777215)))), (o 5 (.build [(.int .i64 0), (.int .i64 0), (.int .i64 0), (.int .i64 0), (.int .u32 0)] [(4, (1, (.t 4)))])), (on (.store 5 (.t 2) (.t 5)))] .ret))
def rv90 : List RV := [(.cell 2 (.some 5))]
theorem hc90 : cCode Tryz.prog Tryz.f90.ntmps (Tryz.f90.body.getD .skip) = some sc90 := by kernel_rfl
theorem hr90 : cRes Tryz.prog Tryz.f90.results.toList = some rv90 := by kernel_rfl

/-- (selfstab/daemon.Net).Permits -/
def sc91 : SC := (so [(o 8 (.asg (.k (.bool false))))] (.seq (so [(mv 9 3), (o 10 (bn .eql (.t 9) (.k (.int .u32 0)))), (mv 11 10), (of 12 11 (pm 3)), (of 13 11 (pm 2)), (of 14 11 (bn .andNot (.t 12) (.t 13))), (of 15 11 (bn .neq (.t 14) (.k (.int .u32 0)))), (o 16 (.p (.pick (.t 11) (.k (.bool true)) (.t 15))))] (.cond (.t 16) (so [(o 8 (.asg (.k (.bool false))))] .ret) .skip)) (.seq (so [(mv 17 1)] (.block 0 (so [(o 19 (bn .eql (.t 17) (ki 1))), (o 18 (at_ 19))] (.cond (.t 18) (so [(mv 20 3), (mv 21 3), (o 22 (bn .sub (.t 21) (.k (.int .u32 1)))), (o 23 (bn .and (.t 20) (.t 22))), (o 24 (bn .eql (.t 23) (.k (.int .u32 0)))), (o 8 (at_ 24))] .ret) (so [(o 26 (bn .eql (.t 17) (ki 2))), (o 25 (at_ 26))] (.cond (.t 25) (so [(mv 27 0), (mv 28 3), (o 29 (.call 120 [(.t 27), (.t 28)])), (o 8 (at_ 29))] .ret) (so [(o 31 (bn .eql (.t 17) (ki 4))), (o 30 (at_ 31))] (.cond (.t 30) (so [(mv 32 3), (mv 33 2), (o 34 (bn .eql (.t 32) (.t 33))), (o 8 (at_ 34))] .ret) .skip)))))))) (so [(o 8 (.asg (.k (.bool true))))] .ret))))
def rv91 : List RV := [(.tmp 8)]
theorem hc91 : cCode Tryz.prog Tryz.f91.ntmps (Tryz.f91.body.getD .skip) = some sc91 := by kernel_rfl
theorem hr91 : cRes Tryz.prog Tryz.f91.results.toList = some rv91 := by kernel_rfl

/-- (*selfstab/step.Mover).Step -/
def sc92 : SC := (so [(o 6 (.asg (.k .nilslice)))] (so [(mv 9 1), (o 10 (.call 74 [(.t 9)])), (o 7 (at_ 10))] (.seq (so [(mv 11 1), (o 12 (ln 11)), (o 13 (.p (.mv (ki 0))))] (.block 0 (.loop (so [(o 14 (bn .lss (.t 13) (.t 12)))] (.seq (.cond (.t 14) .skip (.exit 0)) (.seq (.block 1 (so [(mv 15 13), (o 8 (at_ 15))] (so [(mv 16 2), (mv 17 8), (o 18 (bn .shr (.t 16) (.t 17))), (o 19 (bn .and (.t 18) (.k (.int .u32 1)))), (o 20 (bn .eql (.t 19) (.k (.int .u32 1))))] (.cond (.t 20) (.ops [(mv 21 7), (mv 22 8), (mv 23 0), (mv 24 1), (mv 25 8), (mv 26 0), (mv 27 1), (mv 28 8), (o 29 (.call 81 [(.t 26), (.t 27), (.t 28)])), (o 30 (.call 121 [(.t 23), (.t 24), (.t 25), (.t 29)])), (o 31 (.p (.ixs 1 (.t 21) (.t 22)))), (on (.store 1 (.t 31) (.t 30)))]) .skip)))) (.ops [(o 32 (bn .add (.t 13) (ki 1))), (mv 13 32)]))))))) (so [(mv 33 7), (o 6 (at_ 33))] .ret))))
def rv92 : List RV := [(.tmp 6)]
theorem hc92 : cCode Tryz.prog Tryz.f92.ntmps (Tryz.f92.body.getD .skip) = some sc92 := by kernel_rfl
theorem hr92 : cRes Tryz.prog Tryz.f92.results.toList = some rv92 := by kernel_rfl

/-- selfstab/account.Add -/
def sc93 : SC := (so [(o 3 (.box (.t 0))), (o 6 (.alloc [(.int .i64 0), (.int .i64 0), (.int .i64 0), (.int .i64 0), (.int .u32 0)])), (o 7 (.asg (ki 0)))] (.seq (so [(o 8 (.load (.some 5) (.t 3))), (o 9 (.call 122 [(.t 8)])), (o 10 (.p (.un .not (.t 9))))] (.cond (.t 10) (so [(o 11 (.build [(.int .i64 0), (.int .i64 0), (.int .i64 0), (.int .i64 0), (.int .u32 0)] [])), (on (.store 5 (.t 6) (.t 11))), (o 7 (.asg (ki 7)))] .ret) .skip)) (.seq (so [(mv 12 1), (o 13 (bn .eql (.t 12) (.k (.int .u32 0)))), (mv 14 13), (of 15 14 (pm 1)), (of 16 14 (pm 2)), (of 17 14 (.bslice 1 2 [(.t 15), (.t 16)])), (of 18 14 (.call 123 [(.t 17)])), (of 19 14 (.p (.un .not (.t 18)))), (o 20 (.p (.pick (.t 14) (.k (.bool true)) (.t 19))))] (.cond (.t 20) (so [(o 21 (.build [(.int .i64 0), (.int .i64 0), (.int .i64 0), (.int .i64 0), (.int .u32 0)] [])), (on (.store 5 (.t 6) (.t 21))), (o 7 (.asg (ki 11)))] .ret) .skip)) (.seq (so [(fl 22 0 3), (ld 23 22), (o 24 (bn .eql (.t 23) (ki 4096)))] (.cond (.t 24) (so [(o 25 (.build [(.int .i64 0), (.int .i64 0), (.int .i64 0), (.int .i64 0), (.int .u32 0)] [])), (on (.store 5 (.t 6) (.t 25))), (o 7 (.asg (ki 3)))] .ret) .skip)) (so [(fl 26 0 3), (ld 27 26), (o 28 (bn .add (.t 27) (ki 1))), (fl 29 0 3), (on (.store 1 (.t 29) (.t 28)))] (.seq (.draw [(.op 0 (fl 30 1 3)), (.op 1 (ld 31 30)), (.op 2 (mv 32 1)), (.eff 3 [] [(none, (30, 31))] (o 33 (.call 124 [(.t 32)]))), (.op 4 (o 34 (bn .add (.t 31) (.t 33)))), (.op 5 (fl 35 1 3)), (ef 6 (on (.store 1 (.t 35) (.t 34))))]) (so [(fl 36 2 3), (ld 37 36), (o 38 (bn .add (.t 37) (ki 1))), (fl 39 3 3), (on (.store 1 (.t 39) (.t 38)))] (so [(fl 40 4 3), (ld 41 40), (mv 42 1), (o 43 (bn .andNot (.t 41) (.t 42))), (mv 44 2), (o 45 (bn .and (.t 43) (.t 44))), (fl 46 4 3), (on (.store 1 (.t 46) (.t 45)))] (.seq (so [(fl 47 4 3), (ld 48 47), (o 49 (bn .eql (.t 48) (.k (.int .u32 0))))] (.cond (.t 49) (so [(fl 50 3 3), (ld 51 50), (fl 52 2 3), (on (.store 1 (.t 52) (.t 51)))] (.ops [(mv 53 2), (fl 54 4 3), (on (.store 1 (.t 54) (.t 53)))])) .skip)) (so [(o 55 (.load (.some 5) (.t 3))), (on (.store 5 (.t 6) (.t 55))), (o 7 (.asg (ki 0)))] .ret))))))))))
def rv93 : List RV := [(.cell 6 (.some 5)), (.tmp 7)]
theorem hc93 : cCode Tryz.prog Tryz.f93.ntmps (Tryz.f93.body.getD .skip) = some sc93 := by kernel_rfl
theorem hr93 : cRes Tryz.prog Tryz.f93.results.toList = some rv93 := by kernel_rfl

/-- selfstab/daemon.Nodes -/
def sc94 : SC := (so [(o 1 (.box (.t 0))), (o 2 (.asg (.k .nilfunc)))] (so [(o 3 (.p (.mkfn (.func 125) false [(.t 1)]))), (o 2 (at_ 3))] .ret))
def rv94 : List RV := [(.tmp 2)]
theorem hc94 : cCode Tryz.prog Tryz.f94.ntmps (Tryz.f94.body.getD .skip) = some sc94 := by kernel_rfl
theorem hr94 : cRes Tryz.prog Tryz.f94.results.toList = some rv94 := by kernel_rfl

/-- selfstab/lexer.skip -/
noncomputable def sc95 : SC := (cCode Tryz.prog Tryz.f95.ntmps (Tryz.f95.body.getD .skip)).getD .skip
def rv95 : List RV := [(.tmp 4)]
theorem hc95 : cCode Tryz.prog Tryz.f95.ntmps (Tryz.f95.body.getD .skip) = some sc95 := by kernel_rfl
theorem hr95 : cRes Tryz.prog Tryz.f95.results.toList = some rv95 := by kernel_rfl

/-- selfstab/lexer.next -/
noncomputable def sc96 : SC := (cCode Tryz.prog Tryz.f96.ntmps (Tryz.f96.body.getD .skip)).getD .skip
def rv96 : List RV := [(.cell 4 (.some 4)), (.tmp 5)]
theorem hc96 : cCode Tryz.prog Tryz.f96.ntmps (Tryz.f96.body.getD .skip) = some sc96 := by kernel_rfl
theorem hr96 : cRes Tryz.prog Tryz.f96.results.toList = some rv96 := by kernel_rfl

/-- (*selfstab/expr.Reader).Expect -/
noncomputable def sc99 : SC := (cCode Tryz.prog Tryz.f99.ntmps (Tryz.f99.body.getD .skip)).getD .skip
def rv99 : List RV := []
theorem hc99 : cCode Tryz.prog Tryz.f99.ntmps (Tryz.f99.body.getD .skip) = some sc99 := by kernel_rfl
theorem hr99 : cRes Tryz.prog Tryz.f99.results.toList = some rv99 := by kernel_rfl

/-- (*selfstab/program.reader).name -/
noncomputable def sc100 : SC := (cCode Tryz.prog Tryz.f100.ntmps (Tryz.f100.body.getD .skip)).getD .skip
def rv100 : List RV := [(.tmp 4)]
theorem hc100 : cCode Tryz.prog Tryz.f100.ntmps (Tryz.f100.body.getD .skip) = some sc100 := by kernel_rfl
theorem hr100 : cRes Tryz.prog Tryz.f100.results.toList = some rv100 := by kernel_rfl

/-- (*selfstab/program.reader).many -/
noncomputable def sc101 : SC := (cCode Tryz.prog Tryz.f101.ntmps (Tryz.f101.body.getD .skip)).getD .skip
def rv101 : List RV := []
theorem hc101 : cCode Tryz.prog Tryz.f101.ntmps (Tryz.f101.body.getD .skip) = some sc101 := by kernel_rfl
theorem hr101 : cRes Tryz.prog Tryz.f101.results.toList = some rv101 := by kernel_rfl

/-- (*selfstab/program.reader).variable -/
noncomputable def sc102 : SC := (cCode Tryz.prog Tryz.f102.ntmps (Tryz.f102.body.getD .skip)).getD .skip
def rv102 : List RV := []
theorem hc102 : cCode Tryz.prog Tryz.f102.ntmps (Tryz.f102.body.getD .skip) = some sc102 := by kernel_rfl
theorem hr102 : cRes Tryz.prog Tryz.f102.results.toList = some rv102 := by kernel_rfl

/-- (*selfstab/program.reader).rule -/
noncomputable def sc103 : SC := (cCode Tryz.prog Tryz.f103.ntmps (Tryz.f103.body.getD .skip)).getD .skip
def rv103 : List RV := []
theorem hc103 : cCode Tryz.prog Tryz.f103.ntmps (Tryz.f103.body.getD .skip) = some sc103 := by kernel_rfl
theorem hr103 : cRes Tryz.prog Tryz.f103.results.toList = some rv103 := by kernel_rfl

/-- (*selfstab/expr.Reader).Done -/
noncomputable def sc104 : SC := (cCode Tryz.prog Tryz.f104.ntmps (Tryz.f104.body.getD .skip)).getD .skip
def rv104 : List RV := [(.tmp 2)]
theorem hc104 : cCode Tryz.prog Tryz.f104.ntmps (Tryz.f104.body.getD .skip) = some sc104 := by kernel_rfl
theorem hr104 : cRes Tryz.prog Tryz.f104.results.toList = some rv104 := by kernel_rfl

/-- (*selfstab/expr.Reader).Fail -/
noncomputable def sc105 : SC := (cCode Tryz.prog Tryz.f105.ntmps (Tryz.f105.body.getD .skip)).getD .skip
def rv105 : List RV := []
theorem hc105 : cCode Tryz.prog Tryz.f105.ntmps (Tryz.f105.body.getD .skip) = some sc105 := by kernel_rfl
theorem hr105 : cRes Tryz.prog Tryz.f105.results.toList = some rv105 := by kernel_rfl

/-- selfstab/types.named -/
noncomputable def sc106 : SC := (cCode Tryz.prog Tryz.f106.ntmps (Tryz.f106.body.getD .skip)).getD .skip
def rv106 : List RV := [(.tmp 2)]
theorem hc106 : cCode Tryz.prog Tryz.f106.ntmps (Tryz.f106.body.getD .skip) = some sc106 := by kernel_rfl
theorem hr106 : cRes Tryz.prog Tryz.f106.results.toList = some rv106 := by kernel_rfl

/-- selfstab/types.numbers -/
noncomputable def sc107 : SC := (cCode Tryz.prog Tryz.f107.ntmps (Tryz.f107.body.getD .skip)).getD .skip
def rv107 : List RV := [(.tmp 2)]
theorem hc107 : cCode Tryz.prog Tryz.f107.ntmps (Tryz.f107.body.getD .skip) = some sc107 := by kernel_rfl
theorem hr107 : cRes Tryz.prog Tryz.f107.results.toList = some rv107 := by kernel_rfl

/-- selfstab/types.formed -/
noncomputable def sc108 : SC := (cCode Tryz.prog Tryz.f108.ntmps (Tryz.f108.body.getD .skip)).getD .skip
def rv108 : List RV := [(.tmp 4)]
theorem hc108 : cCode Tryz.prog Tryz.f108.ntmps (Tryz.f108.body.getD .skip) = some sc108 := by kernel_rfl
theorem hr108 : cRes Tryz.prog Tryz.f108.results.toList = some rv108 := by kernel_rfl

/-- selfstab/types.Kinds -/
noncomputable def sc109 : SC := (cCode Tryz.prog Tryz.f109.ntmps (Tryz.f109.body.getD .skip)).getD .skip
def rv109 : List RV := [(.tmp 2)]
theorem hc109 : cCode Tryz.prog Tryz.f109.ntmps (Tryz.f109.body.getD .skip) = some sc109 := by kernel_rfl
theorem hr109 : cRes Tryz.prog Tryz.f109.results.toList = some rv109 := by kernel_rfl

/-- selfstab/types.typed -/
noncomputable def sc110 : SC := (cCode Tryz.prog Tryz.f110.ntmps (Tryz.f110.body.getD .skip)).getD .skip
def rv110 : List RV := [(.tmp 4)]
theorem hc110 : cCode Tryz.prog Tryz.f110.ntmps (Tryz.f110.body.getD .skip) = some sc110 := by kernel_rfl
theorem hr110 : cRes Tryz.prog Tryz.f110.results.toList = some rv110 := by kernel_rfl

/-- selfstab/graph.DifferentIDs -/
def sc111 : SC := (so [(o 2 (.asg (.k (.bool false))))] (so [(o 3 (.alloca 256 (.bool false)))] (.seq (so [(mv 6 0), (o 7 (ln 6)), (o 8 (.p (.mv (ki 0))))] (.block 0 (.loop (so [(o 9 (bn .lss (.t 8) (.t 7)))] (.seq (.cond (.t 9) .skip (.exit 0)) (.seq (.block 1 (so [(o 10 (.p (.ixs 1 (.t 6) (.t 8)))), (ld 11 10), (o 5 (at_ 11))] (.seq (so [(mv 12 5), (o 13 (bn .lss (.t 12) (ki 0))), (mv 14 13), (of 15 14 (pm 5)), (of 16 14 (bn .gtr (.t 15) (ki 255))), (o 17 (.p (.pick (.t 14) (.k (.bool true)) (.t 16)))), (mv 18 17), (of 19 18 (pm 5)), (of 20 18 (.p (.ixa 256 1 (.t 3) (.t 19)))), (of 21 18 (.load none (.t 20))), (o 22 (.p (.pick (.t 18) (.k (.bool true)) (.t 21))))] (.cond (.t 22) (so [(o 2 (.asg (.k (.bool false))))] .ret) .skip)) (.ops [(mv 23 5), (o 24 (.p (.ixa 256 1 (.t 3) (.t 23)))), (on (.store 1 (.t 24) (.k (.bool true))))])))) (.ops [(o 25 (bn .add (.t 8) (ki 1))), (mv 8 25)]))))))) (so [(o 2 (.asg (.k (.bool true))))] .ret))))
def rv111 : List RV := [(.tmp 2)]
theorem hc111 : cCode Tryz.prog Tryz.f111.ntmps (Tryz.f111.body.getD .skip) = some sc111 := by kernel_rfl
theorem hr111 : cRes Tryz.prog Tryz.f111.results.toList = some rv111 := by kernel_rfl

/-- selfstab/graph.symmetric -/
def sc112 : SC := (so [(o 2 (.asg (.k (.bool false))))] (so [(o 13 (.xt (Go.Eng.XOp.mkmap (Go.Eng.MKd.pair .i64)))), (o 3 (at_ 13))] (.seq (so [(mv 14 0), (o 15 (ln 14)), (o 16 (.p (.mv (ki 0))))] (.block 0 (.loop (so [(o 17 (bn .lss (.t 16) (.t 15)))] (.seq (.cond (.t 17) .skip (.exit 0)) (.seq (.block 1 (so [(mv 18 16), (o 19 (.p (.ixs 1 (.t 14) (.t 16)))), (ld 20 19), (o 4 (at_ 18)), (o 5 (at_ 20))] (so [(mv 21 5), (o 22 (ln 21)), (o 23 (.p (.mv (ki 0))))] (.block 2 (.loop (so [(o 24 (bn .lss (.t 23) (.t 22)))] (.seq (.cond (.t 24) .skip (.exit 2)) (.seq (.block 3 (so [(o 25 (.p (.ixs 2 (.t 21) (.t 23)))), (o 26 (.load (.some 2) (.t 25))), (o 7 (.alloc [(.int .i64 0), (.int .i64 0)])), (on (.store 2 (.t 7) (.t 26)))] (.seq (so [(fl 27 0 7), (ld 28 27), (o 29 (bn .lss (.t 28) (ki 0))), (mv 30 29), (of 31 30 (.p (.fld 0 (.t 7)))), (of 32 30 (.load none (.t 31))), (of 33 30 (pm 0)), (of 34 30 (ln 33)), (of 35 30 (bn .geq (.t 32) (.t 34))), (o 36 (.p (.pick (.t 30) (.k (.bool true)) (.t 35)))), (mv 37 36), (of 38 37 (.p (.fld 0 (.t 7)))), (of 39 37 (.load none (.t 38))), (of 40 37 (pm 4)), (of 41 37 (bn .eql (.t 39) (.t 40))), (o 42 (.p (.pick (.t 37) (.k (.bool true)) (.t 41))))] (.cond (.t 42) (so [(o 2 (.asg (.k (.bool false))))] .ret) .skip)) (.seq (so [(fl 43 1 7), (ld 44 43), (o 45 (bn .lss (.t 44) (ki 1))), (mv 46 45), (of 47 46 (.p (.fld 1 (.t 7)))), (of 48 46 (.load none (.t 47))), (of 49 46 (bn .gtr (.t 48) (ki 15))), (o 50 (.p (.pick (.t 46) (.k (.bool true)) (.t 49))))] (.cond (.t 50) (so [(o 2 (.asg (.k (.bool false))))] .ret) .skip)) (so [(mv 51 4), (fl 52 0 7), (ld 53 52), (o 54 (.build [(.int .i64 0), (.int .i64 0)] [(0, (1, (.t 51))), (1, (1, (.t 53)))])), (o 8 (.alloc [(.int .i64 0), (.int .i64 0)])), (on (.store 2 (.t 8) (.t 54)))] (.seq (so [(mv 56 3), (o 57 (.load (.some 2) (.t 8))), (o 58 (.xt (Go.Eng.XOp.mget (Go.Eng.MKd.pair .i64) (.int .i64 0) true (.t 56) (.t 57)))), (mv 55 58), (o 59 (.p (.ext (.t 55) 0))), (o 60 (.p (.ext (.t 55) 1))), (o 9 (at_ 59)), (o 10 (at_ 60))] (so [(mv 61 10)] (.cond (.t 61) (so [(o 2 (.asg (.k (.bool false))))] .ret) .skip))) (.ops [(mv 62 3), (o 63 (.load (.some 2) (.t 8))), (fl 64 1 7), (ld 65 64), (on (.xt (Go.Eng.XOp.mput (Go.Eng.MKd.pair .i64) (.t 62) (.t 63) (.t 65))))]))))))) (.ops [(o 66 (bn .add (.t 23) (ki 1))), (mv 23 66)]))))))))) (.ops [(o 67 (bn .add (.t 16) (ki 1))), (mv 16 67)]))))))) (.seq (so [(mv 68 3), (o 69 (.xt (Go.Eng.XOp.mrng (.t 68))))] (.block 4 (.loop (so [(o 70 (.xt (Go.Eng.XOp.mnxt (.t 69)))), (o 71 (.p (.ext (.t 70) 0)))] (.seq (.cond (.t 71) .skip (.exit 4)) (.block 5 (so [(o 72 (.xt (Go.Eng.XOp.ment (.t 69)))), (o 73 (.p (.ext (.t 72) 0))), (o 74 (.p (.ext (.t 72) 1))), (o 11 (.alloc [(.int .i64 0), (.int .i64 0)])), (on (.store 2 (.t 11) (.t 73))), (o 12 (at_ 74))] (so [(mv 75 3), (o 76 (.p (.ixa 2 1 (.t 11) (ki 1)))), (ld 77 76), (o 78 (.p (.ixa 2 1 (.t 11) (ki 0)))), (ld 79 78), (o 80 (.build [(.int .i64 0), (.int .i64 0)] [(0, (1, (.t 77))), (1, (1, (.t 79)))])), (o 81 (.xt (Go.Eng.XOp.mget (Go.Eng.MKd.pair .i64) (.int .i64 0) false (.t 75) (.t 80)))), (mv 82 12), (o 83 (bn .neq (.t 81) (.t 82)))] (.cond (.t 83) (so [(o 2 (.asg (.k (.bool false))))] .ret) .skip))))))))) (so [(o 2 (.asg (.k (.bool true))))] .ret)))))
def rv112 : List RV := [(.tmp 2)]
theorem hc112 : cCode Tryz.prog Tryz.f112.ntmps (Tryz.f112.body.getD .skip) = some sc112 := by kernel_rfl
theorem hr112 : cRes Tryz.prog Tryz.f112.results.toList = some rv112 := by kernel_rfl

/-- selfstab/graph.PortTo -/
def sc113 : SC := (so [(o 3 (.box (.t 0))), (o 6 (.asg (ki 0)))] (.seq (so [(fl 9 1 3), (ld 10 9), (mv 11 1), (o 12 (.p (.ixs 1 (.t 10) (.t 11)))), (ld 13 12), (o 14 (ln 13)), (o 15 (.p (.mv (ki 0))))] (.block 0 (.loop (so [(o 16 (bn .lss (.t 15) (.t 14)))] (.seq (.cond (.t 16) .skip (.exit 0)) (.seq (.block 1 (so [(mv 17 15), (o 18 (.p (.ixs 2 (.t 13) (.t 15)))), (o 19 (.load (.some 2) (.t 18))), (o 8 (.alloc [(.int .i64 0), (.int .i64 0)])), (o 7 (at_ 17)), (on (.store 2 (.t 8) (.t 19)))] (so [(fl 20 0 8), (ld 21 20), (mv 22 2), (o 23 (bn .eql (.t 21) (.t 22)))] (.cond (.t 23) (so [(mv 24 7), (o 6 (at_ 24))] .ret) .skip)))) (.ops [(o 25 (bn .add (.t 15) (ki 1))), (mv 15 25)]))))))) (so [(o 6 (.asg (.k (.int .i64 (-1)))))] .ret)))
def rv113 : List RV := [(.tmp 6)]
theorem hc113 : cCode Tryz.prog Tryz.f113.ntmps (Tryz.f113.body.getD .skip) = some sc113 := by kernel_rfl
theorem hr113 : cRes Tryz.prog Tryz.f113.results.toList = some rv113 := by kernel_rfl

/-- selfstab/domain.Bounds -/
def sc114 : SC := (so [(o 3 (.box (.t 0))), (o 4 (.box (.t 1))), (o 6 (.asg (ki 0))), (o 7 (.asg (ki 0)))] (so [(o 11 (.build [(.int .i64 0), .nilfunc] [(0, (1, (ki 1))), (1, (1, (.k (.fn (.func 146) false []))))])), (o 12 (.build [(.int .i64 0), .nilfunc] [(0, (1, (ki 2))), (1, (1, (.k (.fn (.func 148) false []))))])), (o 13 (.build [(.int .i64 0), .nilfunc] [(0, (1, (ki 3))), (1, (1, (.k (.fn (.func 149) false []))))])), (o 14 (.bslice 2 3 [(.t 11), (.t 12), (.t 13)])), (o 8 (at_ 14))] (.seq (so [(mv 15 8), (o 16 (ln 15)), (o 17 (.p (.mv (ki 0))))] (.block 0 (.loop (so [(o 18 (bn .lss (.t 17) (.t 16)))] (.seq (.cond (.t 18) .skip (.exit 0)) (.seq (.block 1 (so [(o 19 (.p (.ixs 2 (.t 15) (.t 17)))), (o 20 (.load (.some 2) (.t 19))), (o 10 (.alloc [(.int .i64 0), .nilfunc])), (on (.store 2 (.t 10) (.t 20)))] (so [(fl 21 0 10), (ld 22 21), (fl 23 1 3), (ld 24 23), (o 25 (bn .eql (.t 22) (.t 24)))] (.cond (.t 25) (so [(fl 26 1 10), (ld 27 26), (o 28 (.load (.some 6) (.t 3))), (o 29 (.load (.some 2) (.t 4))), (mv 30 2), (o 31 (.callv (.t 27) [(.t 28), (.t 29), (.t 30)])), (o 32 (.p (.ext (.t 31) 0))), (o 33 (.p (.ext (.t 31) 1))), (o 6 (at_ 32)), (o 7 (at_ 33))] .ret) .skip)))) (.ops [(o 34 (bn .add (.t 17) (ki 1))), (mv 17 34)]))))))) (so [(o 6 (.asg (ki 0))), (o 7 (.asg (.k (.int .i64 (-1)))))] .ret))))
def rv114 : List RV := [(.tmp 6), (.tmp 7)]
theorem hc114 : cCode Tryz.prog Tryz.f114.ntmps (Tryz.f114.body.getD .skip) = some sc114 := by kernel_rfl
theorem hr114 : cRes Tryz.prog Tryz.f114.results.toList = some rv114 := by kernel_rfl

/-- (*selfstab/eval.Scene).Guard -/
def sc115 : SC := (so [(o 8 (.asg (.k (.bool false))))] (so [(mv 9 0), (mv 10 1), (mv 11 2), (mv 12 0), (nc 13 12), (fl 14 0 13), (fl 15 2 14), (ld 16 15), (mv 17 3), (o 18 (.p (.ixs 3 (.t 16) (.t 17)))), (fl 19 1 18), (ld 20 19), (o 21 (.call 150 [(.t 9), (.t 10), (.t 11), (.t 20)])), (o 22 (bn .neq (.t 21) (ki 0))), (o 8 (at_ 22))] .ret))
def rv115 : List RV := [(.tmp 8)]
theorem hc115 : cCode Tryz.prog Tryz.f115.ntmps (Tryz.f115.body.getD .skip) = some sc115 := by kernel_rfl
theorem hr115 : cRes Tryz.prog Tryz.f115.results.toList = some rv115 := by kernel_rfl

/-- selfstab/types.Valid -/
noncomputable def sc118 : SC := (cCode Tryz.prog Tryz.f118.ntmps (Tryz.f118.body.getD .skip)).getD .skip
def rv118 : List RV := [(.tmp 2)]
theorem hc118 : cCode Tryz.prog Tryz.f118.ntmps (Tryz.f118.body.getD .skip) = some sc118 := by kernel_rfl
theorem hr118 : cRes Tryz.prog Tryz.f118.results.toList = some rv118 := by kernel_rfl

/-- selfstab/memory.State -/
def sc119 : SC := (so [(o 4 (.asg (.k (.bool false))))] (.seq (so [(mv 7 1), (o 8 (ln 7)), (mv 9 0), (o 10 (ln 9)), (o 11 (bn .neq (.t 8) (.t 10)))] (.cond (.t 11) (so [(o 4 (.asg (.k (.bool false))))] .ret) .skip)) (.seq (so [(mv 12 1), (o 13 (ln 12)), (o 14 (.p (.mv (ki 0))))] (.block 0 (.loop (so [(o 15 (bn .lss (.t 14) (.t 13)))] (.seq (.cond (.t 15) .skip (.exit 0)) (.seq (.block 1 (so [(mv 16 14), (o 17 (.p (.ixs 1 (.t 12) (.t 14)))), (ld 18 17), (o 5 (at_ 16)), (o 6 (at_ 18))] (so [(mv 19 6), (mv 20 0), (mv 21 5), (o 22 (.p (.ixs 2 (.t 20) (.t 21)))), (o 23 (.p (.ixa 2 1 (.t 22) (ki 0)))), (ld 24 23), (o 25 (bn .lss (.t 19) (.t 24))), (mv 26 25), (of 27 26 (pm 6)), (of 28 26 (pm 0)), (of 29 26 (pm 5)), (of 30 26 (.p (.ixs 2 (.t 28) (.t 29)))), (of 31 26 (.p (.ixa 2 1 (.t 30) (ki 1)))), (of 32 26 (.load none (.t 31))), (of 33 26 (bn .gtr (.t 27) (.t 32))), (o 34 (.p (.pick (.t 26) (.k (.bool true)) (.t 33))))] (.cond (.t 34) (so [(o 4 (.asg (.k (.bool false))))] .ret) .skip)))) (.ops [(o 35 (bn .add (.t 14) (ki 1))), (mv 14 35)]))))))) (so [(o 4 (.asg (.k (.bool true))))] .ret))))
def rv119 : List RV := [(.tmp 4)]
theorem hc119 : cCode Tryz.prog Tryz.f119.ntmps (Tryz.f119.body.getD .skip) = some sc119 := by kernel_rfl
theorem hr119 : cRes Tryz.prog Tryz.f119.results.toList = some rv119 := by kernel_rfl

/-- (selfstab/daemon.Net).independent -/
def sc120 : SC := (so [(o 2 (.box (.t 0))), (o 3 (.box (.t 1))), (o 4 (.alloc [(.bool false)]))] (.seq (so [(ld 6 3), (o 7 (.call 94 [(.t 6)]))] (.block 0 (.rf (.t 7) [8] (.ops [(o 5 (at_ 8))]) (.block 1 (.seq (.draw [(.op 0 (ld 9 2)), (.op 1 (mv 10 5)), (.op 2 (o 11 (.p (.ixs 1 (.t 9) (.t 10))))), (.op 3 (ld 12 11)), (.op 4 (ld 13 3)), (.op 5 (o 14 (bn .and (.t 12) (.t 13)))), (.op 6 (o 15 (bn .neq (.t 14) (.k (.int .u32 0)))))]) (.cond (.t 15) (so [(on (.store 1 (.t 4) (.k (.bool false))))] .ret) .skip)))))) (so [(on (.store 1 (.t 4) (.k (.bool true))))] .ret)))
def rv120 : List RV := [(.cell 4 none)]
theorem hc120 : cCode Tryz.prog Tryz.f120.ntmps (Tryz.f120.body.getD .skip) = some sc120 := by kernel_rfl
theorem hr120 : cRes Tryz.prog Tryz.f120.results.toList = some rv120 := by kernel_rfl

/-- (*selfstab/step.Mover).Move -/
def sc121 : SC := (so [(o 8 (.asg (.k .nilslice)))] (so [(mv 13 1), (mv 14 2), (o 15 (.p (.ixs 1 (.t 13) (.t 14)))), (ld 16 15), (o 17 (.app 1 8 (.k .nilslice) (.t 16))), (o 9 (at_ 17))] (.seq (so [(mv 18 0), (nc 19 18), (fl 20 0 19), (fl 21 2 20), (ld 22 21), (mv 23 3), (o 24 (.p (.ixs 3 (.t 22) (.t 23)))), (fl 25 2 24), (ld 26 25), (o 27 (ln 26)), (o 28 (.p (.mv (ki 0))))] (.block 0 (.loop (so [(o 29 (bn .lss (.t 28) (.t 27)))] (.seq (.cond (.t 29) .skip (.exit 0)) (.seq (.block 1 (so [(o 30 (.p (.ixs 2 (.t 26) (.t 28)))), (o 31 (.load (.some 2) (.t 30))), (o 11 (.alloc [(.int .i64 0), .nilslice])), (on (.store 2 (.t 11) (.t 31)))] (.seq (.draw [(.op 0 (mv 32 0)), (.op 1 (nc 33 32)), (.op 2 (fl 34 3 33)), (.op 3 (ld 35 34)), (.op 4 (mv 36 1)), (.op 5 (mv 37 2)), (.op 6 (fl 38 1 11)), (.op 7 (ld 39 38)), (ef 8 (o 40 (.call 150 [(.t 35), (.t 36), (.t 37), (.t 39)]))), (ef 9 (o 12 (at_ 40)))]) (.draw [(.op 0 (mv 41 9)), (.op 1 (fl 42 0 11)), (.op 2 (ld 43 42)), (.op 3 (mv 44 0)), (.op 4 (nc 45 44)), (.op 5 (fl 46 0 45)), (.op 6 (fl 47 1 46)), (.op 7 (ld 48 47)), (.op 8 (fl 49 0 11)), (.op 9 (ld 50 49)), (.op 10 (o 51 (.p (.ixs 6 (.t 48) (.t 50))))), (.op 11 (fl 52 1 51)), (.op 12 (ld 53 52)), (.op 13 (mv 54 0)), (.op 14 (nc 55 54)), (.op 15 (fl 56 4 55)), (.op 16 (ld 57 56)), (.op 17 (mv 58 2)), (.op 18 (o 59 (.p (.ixs 1 (.t 57) (.t 58))))), (.op 19 (ld 60 59)), (.op 20 (fl 61 0 11)), (.op 21 (ld 62 61)), (.op 22 (o 63 (.p (.ixs 2 (.t 60) (.t 62))))), (.op 23 (o 64 (.load (.some 2) (.t 63)))), (.op 24 (mv 65 12)), (.eff 25 [] [(none, (42, 43))] (o 66 (.call 151 [(.t 53), (.t 64), (.t 65)]))), (.op 26 (o 67 (.p (.ixs 1 (.t 41) (.t 43))))), (ef 27 (on (.store 1 (.t 67) (.t 66))))])))) (.ops [(o 68 (bn .add (.t 28) (ki 1))), (mv 28 68)]))))))) (so [(mv 69 9), (o 8 (at_ 69))] .ret))))
def rv121 : List RV := [(.tmp 8)]
theorem hc121 : cCode Tryz.prog Tryz.f121.ntmps (Tryz.f121.body.getD .skip) = some sc121 := by kernel_rfl
theorem hr121 : cRes Tryz.prog Tryz.f121.results.toList = some rv121 := by kernel_rfl

/-- selfstab/account.Valid -/
def sc122 : SC := (so [(o 1 (.box (.t 0))), (o 2 (.asg (.k (.bool false))))] (.seq (so [(fl 3 0 1), (ld 4 3), (o 5 (bn .lss (.t 4) (ki 0))), (mv 6 5), (of 7 6 (.p (.fld 0 (.t 1)))), (of 8 6 (.load none (.t 7))), (of 9 6 (bn .gtr (.t 8) (ki 4096))), (o 10 (.p (.pick (.t 6) (.k (.bool true)) (.t 9)))), (mv 11 10), (of 12 11 (.p (.fld 2 (.t 1)))), (of 13 11 (.load none (.t 12))), (of 14 11 (bn .lss (.t 13) (ki 0))), (o 15 (.p (.pick (.t 11) (.k (.bool true)) (.t 14)))), (mv 16 15), (of 17 16 (.p (.fld 2 (.t 1)))), (of 18 16 (.load none (.t 17))), (of 19 16 (.p (.fld 3 (.t 1)))), (of 20 16 (.load none (.t 19))), (of 21 16 (bn .gtr (.t 18) (.t 20))), (o 22 (.p (.pick (.t 16) (.k (.bool true)) (.t 21)))), (mv 23 22), (of 24 23 (.p (.fld 3 (.t 1)))), (of 25 23 (.load none (.t 24))), (of 26 23 (.p (.fld 0 (.t 1)))), (of 27 23 (.load none (.t 26))), (of 28 23 (bn .gtr (.t 25) (.t 27))), (o 29 (.p (.pick (.t 23) (.k (.bool true)) (.t 28))))] (.cond (.t 29) (so [(o 2 (.asg (.k (.bool false))))] .ret) .skip)) (.seq (so [(fl 30 3 1), (ld 31 30), (fl 32 2 1), (ld 33 32), (o 34 (bn .add (.t 33) (ki 1))), (o 35 (bn .gtr (.t 31) (.t 34)))] (.cond (.t 35) (so [(o 2 (.asg (.k (.bool false))))] .ret) .skip)) (so [(fl 36 0 1), (ld 37 36), (fl 38 1 1), (ld 39 38), (o 40 (bn .leq (.t 37) (.t 39))), (mv 41 40), (ot 42 41 (.p (.fld 1 (.t 1)))), (ot 43 41 (.load none (.t 42))), (ot 44 41 (.p (.fld 0 (.t 1)))), (ot 45 41 (.load none (.t 44))), (ot 46 41 (bn .mul (ki 24) (.t 45))), (ot 47 41 (bn .leq (.t 43) (.t 46))), (o 48 (.p (.pick (.t 41) (.t 47) (.k (.bool false))))), (mv 49 48), (ot 50 49 (.p (.fld 4 (.t 1)))), (ot 51 49 (.load none (.t 50))), (ot 52 49 (.bslice 1 1 [(.t 51)])), (ot 53 49 (.call 123 [(.t 52)])), (o 54 (.p (.pick (.t 49) (.t 53) (.k (.bool false))))), (o 2 (at_ 54))] .ret))))
def rv122 : List RV := [(.tmp 2)]
theorem hc122 : cCode Tryz.prog Tryz.f122.ntmps (Tryz.f122.body.getD .skip) = some sc122 := by kernel_rfl
theorem hr122 : cRes Tryz.prog Tryz.f122.results.toList = some rv122 := by kernel_rfl

/-- selfstab/account.possible -/
def sc123 : SC := (so [(o 2 (.asg (.k (.bool false))))] (.seq (so [(mv 5 0), (o 6 (ln 5)), (o 7 (.p (.mv (ki 0))))] (.block 0 (.loop (so [(o 8 (bn .lss (.t 7) (.t 6)))] (.seq (.cond (.t 8) .skip (.exit 0)) (.seq (.block 1 (so [(o 9 (.p (.ixs 1 (.t 5) (.t 7)))), (ld 10 9), (o 4 (at_ 10))] (so [(mv 11 4), (o 12 (bn .andNot (.t 11) (.k (.int .u32 16777215)))), (o 13 (bn .neq (.t 12) (.k (.int .u32 0))))] (.cond (.t 13) (so [(o 2 (.asg (.k (.bool false))))] .ret) .skip)))) (.ops [(o 14 (bn .add (.t 7) (ki 1))), (mv 7 14)]))))))) (so [(o 2 (.asg (.k (.bool true))))] .ret)))
def rv123 : List RV := [(.tmp 2)]
theorem hc123 : cCode Tryz.prog Tryz.f123.ntmps (Tryz.f123.body.getD .skip) = some sc123 := by kernel_rfl
theorem hr123 : cRes Tryz.prog Tryz.f123.results.toList = some rv123 := by kernel_rfl

/-- math/bits.OnesCount32 -/
def sc124 : SC := (so [(o 2 (.asg (ki 0)))] (.seq (.draw [(.op 0 (mv 3 0)), (.op 1 (o 4 (bn .shr (.t 3) (.k (.int .u64 24))))), (.op 2 (o 5 (.p (.ixstr (.k (.str (ByteArray.mk (Array.mk [0, 1, 1, 2, 1, 2, 2, 3, 1, 2, 2, 3, 2, 3, 3, 4, 1, 2, 2, 3, 2, 3, 3, 4, 2, 3, 3, 4, 3, 4, 4, 5, 1, 2, 2, 3, 2, 3, 3, 4, 2, 3, 3, 4, 3, 4, 4, 5, 2, 3, 3, 4, 3, 4, 4, 5, 3, 4, 4, 5, 4, 5, 5, 6, 1, 2, 2, 3, 2, 3, 3, 4, 2, 3, 3, 4, 3, 4, 4, 5, 2, 3, 3, 4, 3, 4, 4, 5, 3, 4, 4, 5, 4, 5, 5, 6, 2, 3, 3, 4, 3, 4, 4, 5, 3, 4, 4, 5, 4, 5, 5, 6, 3, 4, 4, 5, 4, 5, 5, 6, 4, 5, 5, 6, 5, 6, 6, 7, 1, 2, 2, 3, 2, 3, 3, 4, 2, 3, 3, 4, 3, 4, 4, 5, 2, 3, 3, 4, 3, 4, 4, 5, 3, 4, 4, 5, 4, 5, 5, 6, 2, 3, 3, 4, 3, 4, 4, 5, 3, 4, 4, 5, 4, 5, 5, 6, 3, 4, 4, 5, 4, 5, 5, 6, 4, 5, 5, 6, 5, 6, 6, 7, 2, 3, 3, 4, 3, 4, 4, 5, 3, 4, 4, 5, 4, 5, 5, 6, 3, 4, 4, 5, 4, 5, 5, 6, 4, 5, 5, 6, 5, 6, 6, 7, 3, 4, 4, 5, 4, 5, 5, 6, 4, 5, 5, 6, 5, 6, 6, 7, 4, 5, 5, 6, 5, 6, 6, 7, 5, 6, 6, 7, 6, 7, 7, 8])))) (.t 4))))), (.op 3 (mv 6 0)), (.op 4 (o 7 (bn .shr (.t 6) (.k (.int .u64 16))))), (.op 5 (o 8 (bn .and (.t 7) (.k (.int .u32 255))))), (.op 6 (o 9 (.p (.ixstr (.k (.str (ByteArray.mk (Array.mk [0, 1, 1, 2, 1, 2, 2, 3, 1, 2, 2, 3, 2, 3, 3, 4, 1, 2, 2, 3, 2, 3, 3, 4, 2, 3, 3, 4, 3, 4, 4, 5, 1, 2, 2, 3, 2, 3, 3, 4, 2, 3, 3, 4, 3, 4, 4, 5, 2, 3, 3, 4, 3, 4, 4, 5, 3, 4, 4, 5, 4, 5, 5, 6, 1, 2, 2, 3, 2, 3, 3, 4, 2, 3, 3, 4, 3, 4, 4, 5, 2, 3, 3, 4, 3, 4, 4, 5, 3, 4, 4, 5, 4, 5, 5, 6, 2, 3, 3, 4, 3, 4, 4, 5, 3, 4, 4, 5, 4, 5, 5, 6, 3, 4, 4, 5, 4, 5, 5, 6, 4, 5, 5, 6, 5, 6, 6, 7, 1, 2, 2, 3, 2, 3, 3, 4, 2, 3, 3, 4, 3, 4, 4, 5, 2, 3, 3, 4, 3, 4, 4, 5, 3, 4, 4, 5, 4, 5, 5, 6, 2, 3, 3, 4, 3, 4, 4, 5, 3, 4, 4, 5, 4, 5, 5, 6, 3, 4, 4, 5, 4, 5, 5, 6, 4, 5, 5, 6, 5, 6, 6, 7, 2, 3, 3, 4, 3, 4, 4, 5, 3, 4, 4, 5, 4, 5, 5, 6, 3, 4, 4, 5, 4, 5, 5, 6, 4, 5, 5, 6, 5, 6, 6, 7, 3, 4, 4, 5, 4, 5, 5, 6, 4, 5, 5, 6, 5, 6, 6, 7, 4, 5, 5, 6, 5, 6, 6, 7, 5, 6, 6, 7, 6, 7, 7, 8])))) (.t 8))))), (.op 7 (o 10 (bn .add (.t 5) (.t 9)))), (.op 8 (mv 11 0)), (.op 9 (o 12 (bn .shr (.t 11) (.k (.int .u64 8))))), (.op 10 (o 13 (bn .and (.t 12) (.k (.int .u32 255))))), (.op 11 (o 14 (.p (.ixstr (.k (.str (ByteArray.mk (Array.mk [0, 1, 1, 2, 1, 2, 2, 3, 1, 2, 2, 3, 2, 3, 3, 4, 1, 2, 2, 3, 2, 3, 3, 4, 2, 3, 3, 4, 3, 4, 4, 5, 1, 2, 2, 3, 2, 3, 3, 4, 2, 3, 3, 4, 3, 4, 4, 5, 2, 3, 3, 4, 3, 4, 4, 5, 3, 4, 4, 5, 4, 5, 5, 6, 1, 2, 2, 3, 2, 3, 3, 4, 2, 3, 3, 4, 3, 4, 4, 5, 2, 3, 3, 4, 3, 4, 4, 5, 3, 4, 4, 5, 4, 5, 5, 6, 2, 3, 3, 4, 3, 4, 4, 5, 3, 4, 4, 5, 4, 5, 5, 6, 3, 4, 4, 5, 4, 5, 5, 6, 4, 5, 5, 6, 5, 6, 6, 7, 1, 2, 2, 3, 2, 3, 3, 4, 2, 3, 3, 4, 3, 4, 4, 5, 2, 3, 3, 4, 3, 4, 4, 5, 3, 4, 4, 5, 4, 5, 5, 6, 2, 3, 3, 4, 3, 4, 4, 5, 3, 4, 4, 5, 4, 5, 5, 6, 3, 4, 4, 5, 4, 5, 5, 6, 4, 5, 5, 6, 5, 6, 6, 7, 2, 3, 3, 4, 3, 4, 4, 5, 3, 4, 4, 5, 4, 5, 5, 6, 3, 4, 4, 5, 4, 5, 5, 6, 4, 5, 5, 6, 5, 6, 6, 7, 3, 4, 4, 5, 4, 5, 5, 6, 4, 5, 5, 6, 5, 6, 6, 7, 4, 5, 5, 6, 5, 6, 6, 7, 5, 6, 6, 7, 6, 7, 7, 8])))) (.t 13))))), (.op 12 (o 15 (bn .add (.t 10) (.t 14)))), (.op 13 (mv 16 0)), (.op 14 (o 17 (bn .and (.t 16) (.k (.int .u32 255))))), (.op 15 (o 18 (.p (.ixstr (.k (.str (ByteArray.mk (Array.mk [0, 1, 1, 2, 1, 2, 2, 3, 1, 2, 2, 3, 2, 3, 3, 4, 1, 2, 2, 3, 2, 3, 3, 4, 2, 3, 3, 4, 3, 4, 4, 5, 1, 2, 2, 3, 2, 3, 3, 4, 2, 3, 3, 4, 3, 4, 4, 5, 2, 3, 3, 4, 3, 4, 4, 5, 3, 4, 4, 5, 4, 5, 5, 6, 1, 2, 2, 3, 2, 3, 3, 4, 2, 3, 3, 4, 3, 4, 4, 5, 2, 3, 3, 4, 3, 4, 4, 5, 3, 4, 4, 5, 4, 5, 5, 6, 2, 3, 3, 4, 3, 4, 4, 5, 3, 4, 4, 5, 4, 5, 5, 6, 3, 4, 4, 5, 4, 5, 5, 6, 4, 5, 5, 6, 5, 6, 6, 7, 1, 2, 2, 3, 2, 3, 3, 4, 2, 3, 3, 4, 3, 4, 4, 5, 2, 3, 3, 4, 3, 4, 4, 5, 3, 4, 4, 5, 4, 5, 5, 6, 2, 3, 3, 4, 3, 4, 4, 5, 3, 4, 4, 5, 4, 5, 5, 6, 3, 4, 4, 5, 4, 5, 5, 6, 4, 5, 5, 6, 5, 6, 6, 7, 2, 3, 3, 4, 3, 4, 4, 5, 3, 4, 4, 5, 4, 5, 5, 6, 3, 4, 4, 5, 4, 5, 5, 6, 4, 5, 5, 6, 5, 6, 6, 7, 3, 4, 4, 5, 4, 5, 5, 6, 4, 5, 5, 6, 5, 6, 6, 7, 4, 5, 5, 6, 5, 6, 6, 7, 5, 6, 6, 7, 6, 7, 7, 8])))) (.t 17))))), (.op 16 (o 19 (bn .add (.t 15) (.t 18)))), (.op 17 (o 20 (.p (.toint .i64 (.t 19))))), (ef 18 (o 2 (at_ 20)))]) .ret))
def rv124 : List RV := [(.tmp 2)]
theorem hc124 : cCode Tryz.prog Tryz.f124.ntmps (Tryz.f124.body.getD .skip) = some sc124 := by kernel_rfl
theorem hr124 : cRes Tryz.prog Tryz.f124.results.toList = some rv124 := by kernel_rfl

/-- selfstab/daemon.Nodes$1 -/
def sc125 : SC := (.block 0 (.loop (.seq (so [(ld 3 1), (o 4 (bn .neq (.t 3) (.k (.int .u32 0))))] (.cond (.t 4) .skip (.exit 0))) (.seq (.block 1 (so [(mv 9 0), (ld 10 1), (o 11 (.call 126 [(.t 10)])), (o 12 (.callv (.t 9) [(.t 11)])), (o 13 (.p (.un .not (.t 12))))] (.cond (.t 13) .ret .skip))) (.ops [(ld 5 1), (ld 6 1), (o 7 (bn .sub (.t 6) (.k (.int .u32 1)))), (o 8 (bn .and (.t 5) (.t 7))), (on (.store 1 (.t 1) (.t 8)))])))))
def rv125 : List RV := []
theorem hc125 : cCode Tryz.prog Tryz.f125.ntmps (Tryz.f125.body.getD .skip) = some sc125 := by kernel_rfl
theorem hr125 : cRes Tryz.prog Tryz.f125.results.toList = some rv125 := by kernel_rfl

/-- math/bits.TrailingZeros32 -/
def sc126 : SC := (so [(o 2 (.asg (ki 0)))] (.seq (so [(mv 3 0), (o 4 (bn .eql (.t 3) (.k (.int .u32 0))))] (.cond (.t 4) (so [(o 2 (.asg (ki 32)))] .ret) .skip)) (so [(mv 5 0), (mv 6 0), (o 7 (.p (.un .neg (.t 6)))), (o 8 (bn .and (.t 5) (.t 7))), (o 9 (bn .mul (.t 8) (.k (.int .u32 125613361)))), (o 10 (bn .shr (.t 9) (.k (.int .u64 27)))), (o 11 (.xt (Go.Eng.XOp.gix 0 32 1 (.t 10)))), (ld 12 11), (o 13 (.p (.toint .i64 (.t 12)))), (o 2 (at_ 13))] .ret)))
def rv126 : List RV := [(.tmp 2)]
theorem hc126 : cCode Tryz.prog Tryz.f126.ntmps (Tryz.f126.body.getD .skip) = some sc126 := by kernel_rfl
theorem hr126 : cRes Tryz.prog Tryz.f126.results.toList = some rv126 := by kernel_rfl

/-- selfstab/lexer.next$1 -/
noncomputable def sc127 : SC := (cCode Tryz.prog Tryz.f127.ntmps (Tryz.f127.body.getD .skip)).getD .skip
def rv127 : List RV := [(.tmp 4)]
theorem hc127 : cCode Tryz.prog Tryz.f127.ntmps (Tryz.f127.body.getD .skip) = some sc127 := by kernel_rfl
theorem hr127 : cRes Tryz.prog Tryz.f127.results.toList = some rv127 := by kernel_rfl

/-- selfstab/lexer.letter -/
noncomputable def sc128 : SC := (cCode Tryz.prog Tryz.f128.ntmps (Tryz.f128.body.getD .skip)).getD .skip
def rv128 : List RV := [(.tmp 2)]
theorem hc128 : cCode Tryz.prog Tryz.f128.ntmps (Tryz.f128.body.getD .skip) = some sc128 := by kernel_rfl
theorem hr128 : cRes Tryz.prog Tryz.f128.results.toList = some rv128 := by kernel_rfl

/-- selfstab/lexer.inWord -/
noncomputable def sc129 : SC := (cCode Tryz.prog Tryz.f129.ntmps (Tryz.f129.body.getD .skip)).getD .skip
def rv129 : List RV := [(.tmp 2)]
theorem hc129 : cCode Tryz.prog Tryz.f129.ntmps (Tryz.f129.body.getD .skip) = some sc129 := by kernel_rfl
theorem hr129 : cRes Tryz.prog Tryz.f129.results.toList = some rv129 := by kernel_rfl

/-- selfstab/lexer.digit -/
noncomputable def sc130 : SC := (cCode Tryz.prog Tryz.f130.ntmps (Tryz.f130.body.getD .skip)).getD .skip
def rv130 : List RV := [(.tmp 2)]
theorem hc130 : cCode Tryz.prog Tryz.f130.ntmps (Tryz.f130.body.getD .skip) = some sc130 := by kernel_rfl
theorem hr130 : cRes Tryz.prog Tryz.f130.results.toList = some rv130 := by kernel_rfl

/-- selfstab/lexer.number -/
noncomputable def sc131 : SC := (cCode Tryz.prog Tryz.f131.ntmps (Tryz.f131.body.getD .skip)).getD .skip
def rv131 : List RV := [(.tmp 2), (.tmp 3)]
theorem hc131 : cCode Tryz.prog Tryz.f131.ntmps (Tryz.f131.body.getD .skip) = some sc131 := by kernel_rfl
theorem hr131 : cRes Tryz.prog Tryz.f131.results.toList = some rv131 := by kernel_rfl

/-- selfstab/lexer.sign -/
noncomputable def sc132 : SC := (cCode Tryz.prog Tryz.f132.ntmps (Tryz.f132.body.getD .skip)).getD .skip
def rv132 : List RV := [(.tmp 2)]
theorem hc132 : cCode Tryz.prog Tryz.f132.ntmps (Tryz.f132.body.getD .skip) = some sc132 := by kernel_rfl
theorem hr132 : cRes Tryz.prog Tryz.f132.results.toList = some rv132 := by kernel_rfl

/-- (*selfstab/expr.Reader).Accept -/
noncomputable def sc133 : SC := (cCode Tryz.prog Tryz.f133.ntmps (Tryz.f133.body.getD .skip)).getD .skip
def rv133 : List RV := [(.tmp 4)]
theorem hc133 : cCode Tryz.prog Tryz.f133.ntmps (Tryz.f133.body.getD .skip) = some sc133 := by kernel_rfl
theorem hr133 : cRes Tryz.prog Tryz.f133.results.toList = some rv133 := by kernel_rfl

/-- (*selfstab/expr.Reader).Peek -/
noncomputable def sc134 : SC := (cCode Tryz.prog Tryz.f134.ntmps (Tryz.f134.body.getD .skip)).getD .skip
def rv134 : List RV := [(.tmp 2)]
theorem hc134 : cCode Tryz.prog Tryz.f134.ntmps (Tryz.f134.body.getD .skip) = some sc134 := by kernel_rfl
theorem hr134 : cRes Tryz.prog Tryz.f134.results.toList = some rv134 := by kernel_rfl

/-- (*selfstab/expr.Reader).Kind -/
noncomputable def sc135 : SC := (cCode Tryz.prog Tryz.f135.ntmps (Tryz.f135.body.getD .skip)).getD .skip
def rv135 : List RV := [(.tmp 2)]
theorem hc135 : cCode Tryz.prog Tryz.f135.ntmps (Tryz.f135.body.getD .skip) = some sc135 := by kernel_rfl
theorem hr135 : cRes Tryz.prog Tryz.f135.results.toList = some rv135 := by kernel_rfl

/-- selfstab/lexer.Name -/
noncomputable def sc136 : SC := (cCode Tryz.prog Tryz.f136.ntmps (Tryz.f136.body.getD .skip)).getD .skip
def rv136 : List RV := [(.tmp 2)]
theorem hc136 : cCode Tryz.prog Tryz.f136.ntmps (Tryz.f136.body.getD .skip) = some sc136 := by kernel_rfl
theorem hr136 : cRes Tryz.prog Tryz.f136.results.toList = some rv136 := by kernel_rfl

/-- (*selfstab/expr.Reader).Take -/
noncomputable def sc137 : SC := (cCode Tryz.prog Tryz.f137.ntmps (Tryz.f137.body.getD .skip)).getD .skip
def rv137 : List RV := [(.cell 2 (.some 4))]
theorem hc137 : cCode Tryz.prog Tryz.f137.ntmps (Tryz.f137.body.getD .skip) = some sc137 := by kernel_rfl
theorem hr137 : cRes Tryz.prog Tryz.f137.results.toList = some rv137 := by kernel_rfl

/-- (*selfstab/program.reader).number -/
noncomputable def sc138 : SC := (cCode Tryz.prog Tryz.f138.ntmps (Tryz.f138.body.getD .skip)).getD .skip
def rv138 : List RV := [(.tmp 6)]
theorem hc138 : cCode Tryz.prog Tryz.f138.ntmps (Tryz.f138.body.getD .skip) = some sc138 := by kernel_rfl
theorem hr138 : cRes Tryz.prog Tryz.f138.results.toList = some rv138 := by kernel_rfl

/-- (*selfstab/program.reader).bound -/
noncomputable def sc139 : SC := (cCode Tryz.prog Tryz.f139.ntmps (Tryz.f139.body.getD .skip)).getD .skip
def rv139 : List RV := []
theorem hc139 : cCode Tryz.prog Tryz.f139.ntmps (Tryz.f139.body.getD .skip) = some sc139 := by kernel_rfl
theorem hr139 : cRes Tryz.prog Tryz.f139.results.toList = some rv139 := by kernel_rfl

/-- (*selfstab/expr.Reader).Choice -/
noncomputable def sc140 : SC := (cCode Tryz.prog Tryz.f140.ntmps (Tryz.f140.body.getD .skip)).getD .skip
def rv140 : List RV := [(.tmp 2)]
theorem hc140 : cCode Tryz.prog Tryz.f140.ntmps (Tryz.f140.body.getD .skip) = some sc140 := by kernel_rfl
theorem hr140 : cRes Tryz.prog Tryz.f140.results.toList = some rv140 := by kernel_rfl

/-- (*selfstab/expr.Reader).Variable -/
noncomputable def sc141 : SC := (cCode Tryz.prog Tryz.f141.ntmps (Tryz.f141.body.getD .skip)).getD .skip
def rv141 : List RV := [(.tmp 2)]
theorem hc141 : cCode Tryz.prog Tryz.f141.ntmps (Tryz.f141.body.getD .skip) = some sc141 := by kernel_rfl
theorem hr141 : cRes Tryz.prog Tryz.f141.results.toList = some rv141 := by kernel_rfl

/-- selfstab/types.possible -/
noncomputable def sc142 : SC := (cCode Tryz.prog Tryz.f142.ntmps (Tryz.f142.body.getD .skip)).getD .skip
def rv142 : List RV := [(.tmp 2)]
theorem hc142 : cCode Tryz.prog Tryz.f142.ntmps (Tryz.f142.body.getD .skip) = some sc142 := by kernel_rfl
theorem hr142 : cRes Tryz.prog Tryz.f142.results.toList = some rv142 := by kernel_rfl

/-- selfstab/types.within -/
noncomputable def sc143 : SC := (cCode Tryz.prog Tryz.f143.ntmps (Tryz.f143.body.getD .skip)).getD .skip
def rv143 : List RV := [(.tmp 6)]
theorem hc143 : cCode Tryz.prog Tryz.f143.ntmps (Tryz.f143.body.getD .skip) = some sc143 := by kernel_rfl
theorem hr143 : cRes Tryz.prog Tryz.f143.results.toList = some rv143 := by kernel_rfl

/-- selfstab/term.Valid -/
noncomputable def sc144 : SC := (cCode Tryz.prog Tryz.f144.ntmps (Tryz.f144.body.getD .skip)).getD .skip
def rv144 : List RV := [(.tmp 4)]
theorem hc144 : cCode Tryz.prog Tryz.f144.ntmps (Tryz.f144.body.getD .skip) = some sc144 := by kernel_rfl
theorem hr144 : cRes Tryz.prog Tryz.f144.results.toList = some rv144 := by kernel_rfl

/-- selfstab/types.Of -/
noncomputable def sc145 : SC := (cCode Tryz.prog Tryz.f145.ntmps (Tryz.f145.body.getD .skip)).getD .skip
def rv145 : List RV := [(.tmp 6), (.tmp 7)]
theorem hc145 : cCode Tryz.prog Tryz.f145.ntmps (Tryz.f145.body.getD .skip) = some sc145 := by kernel_rfl
theorem hr145 : cRes Tryz.prog Tryz.f145.results.toList = some rv145 := by kernel_rfl

/-- selfstab/domain.Bounds$1 -/
def sc146 : SC := (so [(o 3 (.box (.t 0))), (o 4 (.box (.t 1))), (o 6 (.asg (ki 0))), (o 7 (.asg (ki 0)))] (.seq (.draw [(.op 0 (fl 8 2 3)), (.op 1 (ld 9 8)), (.op 2 (fl 10 3 3)), (.op 3 (ld 11 10)), (.op 4 (fl 12 4 3)), (.op 5 (ld 13 12)), (.op 6 (fl 14 0 4)), (.op 7 (ld 15 14)), (.op 8 (o 16 (ln 15))), (.op 9 (o 17 (bn .mul (.t 13) (.t 16)))), (.op 10 (o 18 (bn .add (.t 11) (.t 17)))), (.op 11 (fl 19 5 3)), (.op 12 (ld 20 19)), (.op 13 (fl 21 0 4)), (.op 14 (ld 22 21)), (.eff 15 [] [(none, (8, 9)), (none, (10, 11)), (none, (12, 13)), (none, (14, 15)), (none, (19, 20))] (o 23 (.call 147 [(.t 22)]))), (.op 16 (o 24 (bn .mul (.t 20) (.t 23)))), (.op 17 (o 25 (bn .add (.t 18) (.t 24)))), (.eff 18 [] [(none, (10, 11)), (none, (12, 13)), (none, (14, 15)), (none, (19, 20))] (o 6 (at_ 9))), (ef 19 (o 7 (at_ 25)))]) .ret))
def rv146 : List RV := [(.tmp 6), (.tmp 7)]
theorem hc146 : cCode Tryz.prog Tryz.f146.ntmps (Tryz.f146.body.getD .skip) = some sc146 := by kernel_rfl
theorem hr146 : cRes Tryz.prog Tryz.f146.results.toList = some rv146 := by kernel_rfl

/-- slices.Max[[]int,int] -/
def sc147 : SC := (so [(o 2 (.asg (ki 0)))] (.seq (so [(mv 5 0), (o 6 (ln 5)), (o 7 (bn .lss (.t 6) (ki 1)))] (.cond (.t 7) (.cond (.k .nilptr) .skip .skip) .skip)) (so [(mv 9 0), (o 10 (.p (.ixs 1 (.t 9) (ki 0)))), (ld 11 10), (o 3 (at_ 11))] (.seq (so [(o 4 (.asg (ki 1)))] (.block 0 (.loop (.seq (so [(mv 12 4), (mv 13 0), (o 14 (ln 13)), (o 15 (bn .lss (.t 12) (.t 14)))] (.cond (.t 15) .skip (.exit 0))) (.seq (.block 1 (.ops [(mv 18 3), (mv 19 0), (mv 20 4), (o 21 (.p (.ixs 1 (.t 19) (.t 20)))), (ld 22 21), (o 23 (.p (.mx (.t 18) (.t 22)))), (o 3 (at_ 23))])) (.ops [(mv 16 4), (o 17 (bn .add (.t 16) (ki 1))), (o 4 (at_ 17))])))))) (so [(mv 24 3), (o 2 (at_ 24))] .ret)))))
def rv147 : List RV := [(.tmp 2)]
theorem hc147 : cCode Tryz.prog Tryz.f147.ntmps (Tryz.f147.body.getD .skip) = some sc147 := by kernel_rfl
theorem hr147 : cRes Tryz.prog Tryz.f147.results.toList = some rv147 := by kernel_rfl

/-- selfstab/domain.Bounds$2 -/
def sc148 : SC := (so [(o 3 (.box (.t 0))), (o 4 (.box (.t 1))), (o 6 (.asg (ki 0))), (o 7 (.asg (ki 0)))] (so [(o 6 (.asg (ki 0))), (o 7 (.asg (ki 1)))] .ret))
def rv148 : List RV := [(.tmp 6), (.tmp 7)]
theorem hc148 : cCode Tryz.prog Tryz.f148.ntmps (Tryz.f148.body.getD .skip) = some sc148 := by kernel_rfl
theorem hr148 : cRes Tryz.prog Tryz.f148.results.toList = some rv148 := by kernel_rfl

/-- selfstab/domain.Bounds$3 -/
def sc149 : SC := (so [(o 3 (.box (.t 0))), (o 4 (.box (.t 1))), (o 6 (.asg (ki 0))), (o 7 (.asg (ki 0)))] (.seq (.draw [(.op 0 (fl 8 1 4)), (.op 1 (ld 9 8)), (.op 2 (mv 10 2)), (.op 3 (o 11 (.p (.ixs 1 (.t 9) (.t 10))))), (.op 4 (ld 12 11)), (.op 5 (o 13 (ln 12))), (.op 6 (o 14 (bn .sub (.t 13) (ki 1)))), (.eff 7 [] [(none, (8, 9)), (none, (11, 12))] (o 6 (.asg (.k (.int .i64 (-1)))))), (ef 8 (o 7 (at_ 14)))]) .ret))
def rv149 : List RV := [(.tmp 6), (.tmp 7)]
theorem hc149 : cCode Tryz.prog Tryz.f149.ntmps (Tryz.f149.body.getD .skip) = some sc149 := by kernel_rfl
theorem hr149 : cRes Tryz.prog Tryz.f149.results.toList = some rv149 := by kernel_rfl

/-- (*selfstab/eval.Scene).Value -/
def sc150 : SC := (so [(o 8 (.asg (ki 0)))] (so [(mv 12 0), (mv 13 1), (mv 14 2), (mv 15 3), (o 16 (.build [.nilptr, .nilslice, (.int .i64 0), .nilslice] [(0, (1, (.t 12))), (1, (1, (.t 13))), (2, (1, (.t 14))), (3, (1, (.t 15)))])), (o 9 (.alloc [.nilptr, .nilslice, (.int .i64 0), .nilslice])), (on (.store 4 (.t 9) (.t 16)))] (so [(o 18 (.call 164 [(.t 9), (ki 0), (.k (.int .i64 (-1)))])), (mv 17 18), (o 19 (.p (.ext (.t 17) 0))), (o 20 (.p (.ext (.t 17) 1))), (o 10 (at_ 19)), (o 11 (at_ 20))] (so [(mv 21 10), (o 8 (at_ 21))] .ret))))
def rv150 : List RV := [(.tmp 8)]
theorem hc150 : cCode Tryz.prog Tryz.f150.ntmps (Tryz.f150.body.getD .skip) = some sc150 := by kernel_rfl
theorem hr150 : cRes Tryz.prog Tryz.f150.results.toList = some rv150 := by kernel_rfl

/-- selfstab/domain.Bring -/
def sc151 : SC := (so [(o 4 (.box (.t 1))), (o 6 (.asg (ki 0)))] (.seq (.block 0 (so [(mv 8 2), (o 9 (.p (.ixa 2 1 (.t 4) (ki 0)))), (ld 10 9), (o 11 (bn .geq (.t 8) (.t 10))), (mv 12 11), (ot 13 12 (pm 2)), (ot 14 12 (.p (.ixa 2 1 (.t 4) (ki 1)))), (ot 15 12 (.load none (.t 14))), (ot 16 12 (bn .leq (.t 13) (.t 15))), (o 17 (.p (.pick (.t 12) (.t 16) (.k (.bool false))))), (o 7 (at_ 17))] (.cond (.t 7) (so [(mv 18 2), (o 6 (at_ 18))] .ret) (so [(mv 20 0), (o 21 (bn .eql (.t 20) (ki 3))), (o 19 (at_ 21))] (.cond (.t 19) (so [(o 6 (.asg (.k (.int .i64 (-1)))))] .ret) (so [(mv 23 2), (o 24 (.p (.ixa 2 1 (.t 4) (ki 0)))), (ld 25 24), (o 26 (bn .lss (.t 23) (.t 25))), (o 22 (at_ 26))] (.cond (.t 22) (so [(o 27 (.p (.ixa 2 1 (.t 4) (ki 0)))), (ld 28 27), (o 6 (at_ 28))] .ret) .skip))))))) (so [(o 29 (.p (.ixa 2 1 (.t 4) (ki 1)))), (ld 30 29), (o 6 (at_ 30))] .ret)))
def rv151 : List RV := [(.tmp 6)]
theorem hc151 : cCode Tryz.prog Tryz.f151.ntmps (Tryz.f151.body.getD .skip) = some sc151 := by kernel_rfl
theorem hr151 : cRes Tryz.prog Tryz.f151.results.toList = some rv151 := by kernel_rfl

/-- strings.HasPrefix -/
noncomputable def sc152 : SC := (cCode Tryz.prog Tryz.f152.ntmps (Tryz.f152.body.getD .skip)).getD .skip
def rv152 : List RV := [(.tmp 4)]
theorem hc152 : cCode Tryz.prog Tryz.f152.ntmps (Tryz.f152.body.getD .skip) = some sc152 := by kernel_rfl
theorem hr152 : cRes Tryz.prog Tryz.f152.results.toList = some rv152 := by kernel_rfl

/-- strings.IndexByte -/
noncomputable def sc153 : SC := (cCode Tryz.prog Tryz.f153.ntmps (Tryz.f153.body.getD .skip)).getD .skip
def rv153 : List RV := [(.tmp 4)]
theorem hc153 : cCode Tryz.prog Tryz.f153.ntmps (Tryz.f153.body.getD .skip) = some sc153 := by kernel_rfl
theorem hr153 : cRes Tryz.prog Tryz.f153.results.toList = some rv153 := by kernel_rfl

/-- selfstab/lexer.Reserved -/
noncomputable def sc154 : SC := (cCode Tryz.prog Tryz.f154.ntmps (Tryz.f154.body.getD .skip)).getD .skip
def rv154 : List RV := [(.tmp 2)]
theorem hc154 : cCode Tryz.prog Tryz.f154.ntmps (Tryz.f154.body.getD .skip) = some sc154 := by kernel_rfl
theorem hr154 : cRes Tryz.prog Tryz.f154.results.toList = some rv154 := by kernel_rfl

/-- (*selfstab/program.reader).first -/
noncomputable def sc155 : SC := (cCode Tryz.prog Tryz.f155.ntmps (Tryz.f155.body.getD .skip)).getD .skip
def rv155 : List RV := [(.tmp 2)]
theorem hc155 : cCode Tryz.prog Tryz.f155.ntmps (Tryz.f155.body.getD .skip) = some sc155 := by kernel_rfl
theorem hr155 : cRes Tryz.prog Tryz.f155.results.toList = some rv155 := by kernel_rfl

/-- (*selfstab/expr.Reader).binary -/
noncomputable def sc156 : SC := (cCode Tryz.prog Tryz.f156.ntmps (Tryz.f156.body.getD .skip)).getD .skip
def rv156 : List RV := [(.tmp 4)]
theorem hc156 : cCode Tryz.prog Tryz.f156.ntmps (Tryz.f156.body.getD .skip) = some sc156 := by kernel_rfl
theorem hr156 : cRes Tryz.prog Tryz.f156.results.toList = some rv156 := by kernel_rfl

/-- selfstab/expr.operation -/
noncomputable def sc157 : SC := (cCode Tryz.prog Tryz.f157.ntmps (Tryz.f157.body.getD .skip)).getD .skip
def rv157 : List RV := [(.tmp 4)]
theorem hc157 : cCode Tryz.prog Tryz.f157.ntmps (Tryz.f157.body.getD .skip) = some sc157 := by kernel_rfl
theorem hr157 : cRes Tryz.prog Tryz.f157.results.toList = some rv157 := by kernel_rfl

/-- slices.Index[[]string,string] -/
noncomputable def sc158 : SC := (cCode Tryz.prog Tryz.f158.ntmps (Tryz.f158.body.getD .skip)).getD .skip
def rv158 : List RV := [(.tmp 4)]
theorem hc158 : cCode Tryz.prog Tryz.f158.ntmps (Tryz.f158.body.getD .skip) = some sc158 := by kernel_rfl
theorem hr158 : cRes Tryz.prog Tryz.f158.results.toList = some rv158 := by kernel_rfl

/-- selfstab/term.End -/
def sc159 : SC := (so [(o 4 (.asg (ki 0)))] (.seq (so [(mv 7 1), (o 8 (bn .lss (.t 7) (ki 0))), (mv 9 8), (of 10 9 (pm 1)), (of 11 9 (pm 0)), (of 12 9 (ln 11)), (of 13 9 (bn .geq (.t 10) (.t 12))), (o 14 (.p (.pick (.t 9) (.k (.bool true)) (.t 13))))] (.cond (.t 14) (so [(o 4 (.asg (.k (.int .i64 (-1)))))] .ret) .skip)) (.seq (so [(o 5 (.asg (ki 1)))] (.block 0 (.loop (.seq (so [(mv 15 1), (mv 16 0), (o 17 (ln 16)), (o 18 (bn .lss (.t 15) (.t 17)))] (.cond (.t 18) .skip (.exit 0))) (.seq (.block 1 (so [(mv 21 0), (mv 22 1), (o 23 (.p (.ixs 2 (.t 21) (.t 22)))), (fl 24 0 23), (ld 25 24), (o 26 (.call 172 [(.t 25)])), (o 6 (at_ 26))] (.seq (so [(mv 27 6), (o 28 (bn .lss (.t 27) (ki 0)))] (.cond (.t 28) (so [(o 4 (.asg (.k (.int .i64 (-1)))))] .ret) .skip)) (so [(mv 29 5), (mv 30 6), (o 31 (bn .sub (.t 30) (ki 1))), (o 32 (bn .add (.t 29) (.t 31))), (o 5 (at_ 32))] (so [(mv 33 5), (o 34 (bn .eql (.t 33) (ki 0)))] (.cond (.t 34) (so [(mv 35 1), (o 36 (bn .add (.t 35) (ki 1))), (o 4 (at_ 36))] .ret) .skip)))))) (.ops [(mv 19 1), (o 20 (bn .add (.t 19) (ki 1))), (o 1 (at_ 20))])))))) (so [(o 4 (.asg (.k (.int .i64 (-1)))))] .ret))))
def rv159 : List RV := [(.tmp 4)]
theorem hc159 : cCode Tryz.prog Tryz.f159.ntmps (Tryz.f159.body.getD .skip) = some sc159 := by kernel_rfl
theorem hr159 : cRes Tryz.prog Tryz.f159.results.toList = some rv159 := by kernel_rfl

/-- selfstab/term.argument -/
noncomputable def sc160 : SC := (cCode Tryz.prog Tryz.f160.ntmps (Tryz.f160.body.getD .skip)).getD .skip
def rv160 : List RV := [(.tmp 4)]
theorem hc160 : cCode Tryz.prog Tryz.f160.ntmps (Tryz.f160.body.getD .skip) = some sc160 := by kernel_rfl
theorem hr160 : cRes Tryz.prog Tryz.f160.results.toList = some rv160 := by kernel_rfl

/-- selfstab/term.Depth -/
noncomputable def sc161 : SC := (cCode Tryz.prog Tryz.f161.ntmps (Tryz.f161.body.getD .skip)).getD .skip
def rv161 : List RV := [(.tmp 2)]
theorem hc161 : cCode Tryz.prog Tryz.f161.ntmps (Tryz.f161.body.getD .skip) = some sc161 := by kernel_rfl
theorem hr161 : cRes Tryz.prog Tryz.f161.results.toList = some rv161 := by kernel_rfl

/-- selfstab/term.Nest -/
noncomputable def sc162 : SC := (cCode Tryz.prog Tryz.f162.ntmps (Tryz.f162.body.getD .skip)).getD .skip
def rv162 : List RV := [(.tmp 2)]
theorem hc162 : cCode Tryz.prog Tryz.f162.ntmps (Tryz.f162.body.getD .skip) = some sc162 := by kernel_rfl
theorem hr162 : cRes Tryz.prog Tryz.f162.results.toList = some rv162 := by kernel_rfl

/-- (selfstab/types.typer).read -/
noncomputable def sc163 : SC := (cCode Tryz.prog Tryz.f163.ntmps (Tryz.f163.body.getD .skip)).getD .skip
def rv163 : List RV := [(.tmp 6), (.tmp 7)]
theorem hc163 : cCode Tryz.prog Tryz.f163.ntmps (Tryz.f163.body.getD .skip) = some sc163 := by kernel_rfl
theorem hr163 : cRes Tryz.prog Tryz.f163.results.toList = some rv163 := by kernel_rfl

/-- (*selfstab/eval.walk).value -/
def sc164 : SC := (so [(o 6 (.asg (ki 0))), (o 7 (.asg (ki 0)))] (so [(mv 18 0), (nc 19 18), (fl 20 3 19), (ld 21 20), (mv 22 1), (o 23 (.p (.ixs 2 (.t 21) (.t 22)))), (o 24 (.load (.some 2) (.t 23))), (o 8 (.alloc [(.int .i64 0), (.int .i64 0)])), (on (.store 2 (.t 8) (.t 24)))] (.seq (.block 0 (so [(fl 26 0 8), (ld 27 26), (o 28 (bn .leq (.t 27) (ki 17))), (o 25 (at_ 28))] (.cond (.t 25) (so [(mv 29 0), (o 30 (.load (.some 2) (.t 8))), (mv 31 2), (o 32 (.call 180 [(.t 29), (.t 30), (.t 31)])), (mv 33 1), (o 34 (bn .add (.t 33) (ki 1))), (o 6 (at_ 32)), (o 7 (at_ 34))] .ret) (so [(fl 36 0 8), (ld 37 36), (o 38 (bn .leq (.t 37) (ki 19))), (o 35 (at_ 38))] (.cond (.t 35) (so [(mv 40 0), (mv 41 1), (o 42 (bn .add (.t 41) (ki 1))), (mv 43 2), (o 44 (.call 164 [(.t 40), (.t 42), (.t 43)])), (mv 39 44), (o 45 (.p (.ext (.t 39) 0))), (o 46 (.p (.ext (.t 39) 1))), (o 6 (at_ 45)), (o 7 (at_ 46))] (so [(fl 47 0 8), (ld 48 47), (mv 49 6), (o 50 (.call 181 [(.t 48), (.t 49)])), (mv 51 7), (o 6 (at_ 50)), (o 7 (at_ 51))] .ret)) (so [(fl 53 0 8), (ld 54 53), (o 55 (bn .leq (.t 54) (ki 29))), (o 52 (at_ 55))] (.cond (.t 52) (so [(mv 56 0), (fl 57 0 8), (ld 58 57), (mv 59 1), (o 60 (.call 182 [(.t 56), (.t 58), (.t 59)])), (o 61 (.p (.ext (.t 60) 0))), (o 62 (.p (.ext (.t 60) 1))), (o 6 (at_ 61)), (o 7 (at_ 62))] .ret) (so [(fl 64 0 8), (ld 65 64), (o 66 (bn .leq (.t 65) (ki 42))), (o 63 (at_ 66))] (.cond (.t 63) (so [(mv 68 0), (mv 69 1), (o 70 (bn .add (.t 69) (ki 1))), (mv 71 2), (o 72 (.call 164 [(.t 68), (.t 70), (.t 71)])), (mv 67 72), (o 73 (.p (.ext (.t 67) 0))), (o 74 (.p (.ext (.t 67) 1))), (o 9 (at_ 73)), (o 10 (at_ 74))] (so [(mv 76 0), (mv 77 10), (mv 78 2), (o 79 (.call 164 [(.t 76), (.t 77), (.t 78)])), (mv 75 79), (o 80 (.p (.ext (.t 75) 0))), (o 81 (.p (.ext (.t 75) 1))), (o 11 (at_ 80)), (o 12 (at_ 81))] (so [(fl 82 0 8), (ld 83 82), (mv 84 9), (mv 85 11), (o 86 (.call 183 [(.t 83), (.t 84), (.t 85)])), (mv 87 12), (o 6 (at_ 86)), (o 7 (at_ 87))] .ret))) .skip))))))))) (so [(mv 89 0), (mv 90 1), (o 91 (bn .add (.t 90) (ki 1))), (mv 92 2), (o 93 (.call 164 [(.t 89), (.t 91), (.t 92)])), (mv 88 93), (o 94 (.p (.ext (.t 88) 0))), (o 95 (.p (.ext (.t 88) 1))), (o 13 (at_ 94)), (o 14 (at_ 95))] (so [(mv 97 0), (mv 98 14), (mv 99 2), (o 100 (.call 164 [(.t 97), (.t 98), (.t 99)])), (mv 96 100), (o 101 (.p (.ext (.t 96) 0))), (o 102 (.p (.ext (.t 96) 1))), (o 15 (at_ 101)), (o 16 (at_ 102))] (so [(mv 104 0), (mv 105 16), (mv 106 2), (o 107 (.call 164 [(.t 104), (.t 105), (.t 106)])), (mv 103 107), (o 108 (.p (.ext (.t 103) 0))), (o 109 (.p (.ext (.t 103) 1))), (o 17 (at_ 108)), (o 7 (at_ 109))] (.seq (so [(mv 110 13), (o 111 (bn .neq (.t 110) (ki 0)))] (.cond (.t 111) (so [(mv 112 15), (mv 113 7), (o 6 (at_ 112)), (o 7 (at_ 113))] .ret) .skip)) (so [(mv 114 17), (mv 115 7), (o 6 (at_ 114)), (o 7 (at_ 115))] .ret))))))))
def rv164 : List RV := [(.tmp 6), (.tmp 7)]
theorem hc164 : cCode Tryz.prog Tryz.f164.ntmps (Tryz.f164.body.getD .skip) = some sc164 := by kernel_rfl
theorem hr164 : cRes Tryz.prog Tryz.f164.results.toList = some rv164 := by kernel_rfl

/-- internal/stringslite.HasPrefix -/
noncomputable def sc165 : SC := (cCode Tryz.prog Tryz.f165.ntmps (Tryz.f165.body.getD .skip)).getD .skip
def rv165 : List RV := [(.tmp 4)]
theorem hc165 : cCode Tryz.prog Tryz.f165.ntmps (Tryz.f165.body.getD .skip) = some sc165 := by kernel_rfl
theorem hr165 : cRes Tryz.prog Tryz.f165.results.toList = some rv165 := by kernel_rfl

/-- (*selfstab/program.reader).starred -/
noncomputable def sc167 : SC := (cCode Tryz.prog Tryz.f167.ntmps (Tryz.f167.body.getD .skip)).getD .skip
def rv167 : List RV := [(.tmp 2)]
theorem hc167 : cCode Tryz.prog Tryz.f167.ntmps (Tryz.f167.body.getD .skip) = some sc167 := by kernel_rfl
theorem hr167 : cRes Tryz.prog Tryz.f167.results.toList = some rv167 := by kernel_rfl

/-- (*selfstab/expr.Reader).unary -/
noncomputable def sc168 : SC := (cCode Tryz.prog Tryz.f168.ntmps (Tryz.f168.body.getD .skip)).getD .skip
def rv168 : List RV := [(.tmp 2)]
theorem hc168 : cCode Tryz.prog Tryz.f168.ntmps (Tryz.f168.body.getD .skip) = some sc168 := by kernel_rfl
theorem hr168 : cRes Tryz.prog Tryz.f168.results.toList = some rv168 := by kernel_rfl

/-- selfstab/expr.binaryOp -/
noncomputable def sc169 : SC := (cCode Tryz.prog Tryz.f169.ntmps (Tryz.f169.body.getD .skip)).getD .skip
def rv169 : List RV := [(.tmp 2)]
theorem hc169 : cCode Tryz.prog Tryz.f169.ntmps (Tryz.f169.body.getD .skip) = some sc169 := by kernel_rfl
theorem hr169 : cRes Tryz.prog Tryz.f169.results.toList = some rv169 := by kernel_rfl

/-- selfstab/expr.levelOf -/
noncomputable def sc170 : SC := (cCode Tryz.prog Tryz.f170.ntmps (Tryz.f170.body.getD .skip)).getD .skip
def rv170 : List RV := [(.tmp 2)]
theorem hc170 : cCode Tryz.prog Tryz.f170.ntmps (Tryz.f170.body.getD .skip) = some sc170 := by kernel_rfl
theorem hr170 : cRes Tryz.prog Tryz.f170.results.toList = some rv170 := by kernel_rfl

/-- selfstab/expr.leaf -/
noncomputable def sc171 : SC := (cCode Tryz.prog Tryz.f171.ntmps (Tryz.f171.body.getD .skip)).getD .skip
def rv171 : List RV := [(.tmp 4)]
theorem hc171 : cCode Tryz.prog Tryz.f171.ntmps (Tryz.f171.body.getD .skip) = some sc171 := by kernel_rfl
theorem hr171 : cRes Tryz.prog Tryz.f171.results.toList = some rv171 := by kernel_rfl

/-- selfstab/term.Arity -/
def sc172 : SC := (so [(o 2 (.asg (ki 0)))] (.seq (.block 0 (so [(mv 4 0), (o 5 (bn .lss (.t 4) (ki 1))), (mv 6 5), (of 7 6 (pm 0)), (of 8 6 (bn .gtr (.t 7) (ki 43))), (o 9 (.p (.pick (.t 6) (.k (.bool true)) (.t 8)))), (o 3 (at_ 9))] (.cond (.t 3) (so [(o 2 (.asg (.k (.int .i64 (-1)))))] .ret) (so [(mv 11 0), (o 12 (bn .leq (.t 11) (ki 17))), (o 10 (at_ 12))] (.cond (.t 10) (so [(o 2 (.asg (ki 0)))] .ret) (so [(mv 14 0), (o 15 (bn .leq (.t 14) (ki 29))), (o 13 (at_ 15))] (.cond (.t 13) (so [(o 2 (.asg (ki 1)))] .ret) (so [(mv 17 0), (o 18 (bn .leq (.t 17) (ki 42))), (o 16 (at_ 18))] (.cond (.t 16) (so [(o 2 (.asg (ki 2)))] .ret) .skip))))))))) (so [(o 2 (.asg (ki 3)))] .ret)))
def rv172 : List RV := [(.tmp 2)]
theorem hc172 : cCode Tryz.prog Tryz.f172.ntmps (Tryz.f172.body.getD .skip) = some sc172 := by kernel_rfl
theorem hr172 : cRes Tryz.prog Tryz.f172.results.toList = some rv172 := by kernel_rfl

/-- selfstab/term.levels -/
noncomputable def sc173 : SC := (cCode Tryz.prog Tryz.f173.ntmps (Tryz.f173.body.getD .skip)).getD .skip
def rv173 : List RV := [(.tmp 4), (.tmp 5)]
theorem hc173 : cCode Tryz.prog Tryz.f173.ntmps (Tryz.f173.body.getD .skip) = some sc173 := by kernel_rfl
theorem hr173 : cRes Tryz.prog Tryz.f173.results.toList = some rv173 := by kernel_rfl

/-- selfstab/term.Depth$1 -/
noncomputable def sc174 : SC := (cCode Tryz.prog Tryz.f174.ntmps (Tryz.f174.body.getD .skip)).getD .skip
def rv174 : List RV := [(.tmp 4)]
theorem hc174 : cCode Tryz.prog Tryz.f174.ntmps (Tryz.f174.body.getD .skip) = some sc174 := by kernel_rfl
theorem hr174 : cRes Tryz.prog Tryz.f174.results.toList = some rv174 := by kernel_rfl

/-- selfstab/term.Nest$1 -/
noncomputable def sc175 : SC := (cCode Tryz.prog Tryz.f175.ntmps (Tryz.f175.body.getD .skip)).getD .skip
def rv175 : List RV := [(.tmp 4)]
theorem hc175 : cCode Tryz.prog Tryz.f175.ntmps (Tryz.f175.body.getD .skip) = some sc175 := by kernel_rfl
theorem hr175 : cRes Tryz.prog Tryz.f175.results.toList = some rv175 := by kernel_rfl

/-- selfstab/term.Aggregate -/
noncomputable def sc176 : SC := (cCode Tryz.prog Tryz.f176.ntmps (Tryz.f176.body.getD .skip)).getD .skip
def rv176 : List RV := [(.tmp 2)]
theorem hc176 : cCode Tryz.prog Tryz.f176.ntmps (Tryz.f176.body.getD .skip) = some sc176 := by kernel_rfl
theorem hr176 : cRes Tryz.prog Tryz.f176.results.toList = some rv176 := by kernel_rfl

/-- selfstab/term.Near -/
noncomputable def sc177 : SC := (cCode Tryz.prog Tryz.f177.ntmps (Tryz.f177.body.getD .skip)).getD .skip
def rv177 : List RV := [(.tmp 2)]
theorem hc177 : cCode Tryz.prog Tryz.f177.ntmps (Tryz.f177.body.getD .skip) = some sc177 := by kernel_rfl
theorem hr177 : cRes Tryz.prog Tryz.f177.results.toList = some rv177 := by kernel_rfl

/-- (selfstab/types.typer).leaf -/
noncomputable def sc178 : SC := (cCode Tryz.prog Tryz.f178.ntmps (Tryz.f178.body.getD .skip)).getD .skip
def rv178 : List RV := [(.tmp 4)]
theorem hc178 : cCode Tryz.prog Tryz.f178.ntmps (Tryz.f178.body.getD .skip) = some sc178 := by kernel_rfl
theorem hr178 : cRes Tryz.prog Tryz.f178.results.toList = some rv178 := by kernel_rfl

/-- selfstab/types.result -/
noncomputable def sc179 : SC := (cCode Tryz.prog Tryz.f179.ntmps (Tryz.f179.body.getD .skip)).getD .skip
def rv179 : List RV := [(.tmp 4)]
theorem hc179 : cCode Tryz.prog Tryz.f179.ntmps (Tryz.f179.body.getD .skip) = some sc179 := by kernel_rfl
theorem hr179 : cRes Tryz.prog Tryz.f179.results.toList = some rv179 := by kernel_rfl

/-- (*selfstab/eval.walk).leaf -/
def sc180 : SC := (so [(o 4 (.box (.t 1))), (o 6 (.asg (ki 0)))] (.seq (so [(fl 7 0 4), (ld 8 7)] (.block 0 (so [(o 10 (bn .eql (.t 8) (ki 1))), (o 9 (at_ 10))] (.cond (.t 9) (so [(fl 11 1 4), (ld 12 11), (o 6 (at_ 12))] .ret) (so [(o 14 (bn .eql (.t 8) (ki 2))), (o 13 (at_ 14))] (.cond (.t 13) (so [(o 6 (.asg (ki 1)))] .ret) (so [(o 16 (bn .eql (.t 8) (ki 3))), (o 15 (at_ 16))] (.cond (.t 15) (so [(o 6 (.asg (ki 0)))] .ret) (so [(o 18 (bn .eql (.t 8) (ki 4))), (o 17 (at_ 18))] (.cond (.t 17) (so [(o 6 (.asg (.k (.int .i64 (-1)))))] .ret) (so [(o 20 (bn .eql (.t 8) (ki 5))), (o 19 (at_ 20))] (.cond (.t 19) (.seq (.draw [(.op 0 (mv 21 0)), (.op 1 (nc 22 21)), (.op 2 (fl 23 1 22)), (.op 3 (ld 24 23)), (.op 4 (mv 25 0)), (.op 5 (nc 26 25)), (.op 6 (fl 27 2 26)), (.op 7 (ld 28 27)), (.op 8 (o 29 (.p (.ixs 1 (.t 24) (.t 28))))), (.op 9 (ld 30 29)), (.op 10 (fl 31 1 4)), (.op 11 (ld 32 31)), (.op 12 (o 33 (.p (.ixs 1 (.t 30) (.t 32))))), (.op 13 (ld 34 33)), (ef 14 (o 6 (at_ 34)))]) .ret) (so [(o 36 (bn .eql (.t 8) (ki 12))), (o 35 (at_ 36))] (.cond (.t 35) (.seq (.draw [(.op 0 (mv 37 0)), (.op 1 (nc 38 37)), (.op 2 (fl 39 1 38)), (.op 3 (ld 40 39)), (.op 4 (mv 41 0)), (.op 5 (nc 42 41)), (.op 6 (fl 43 0 42)), (.op 7 (ld 44 43)), (.op 8 (nc 45 44)), (.op 9 (fl 46 3 45)), (.op 10 (fl 47 1 46)), (.op 11 (ld 48 47)), (.op 12 (mv 49 0)), (.op 13 (nc 50 49)), (.op 14 (fl 51 2 50)), (.op 15 (ld 52 51)), (.op 16 (o 53 (.p (.ixs 1 (.t 48) (.t 52))))), (.op 17 (ld 54 53)), (.op 18 (mv 55 2)), (.op 19 (o 56 (.p (.ixs 2 (.t 54) (.t 55))))), (.op 20 (fl 57 0 56)), (.op 21 (ld 58 57)), (.op 22 (o 59 (.p (.ixs 1 (.t 40) (.t 58))))), (.op 23 (ld 60 59)), (.op 24 (fl 61 1 4)), (.op 25 (ld 62 61)), (.op 26 (o 63 (.p (.ixs 1 (.t 60) (.t 62))))), (.op 27 (ld 64 63)), (ef 28 (o 6 (at_ 64)))]) .ret) .skip)))))))))))))) (.seq (.draw [(.op 0 (mv 65 0)), (.op 1 (nc 66 65)), (.op 2 (fl 67 0 66)), (.op 3 (ld 68 67)), (.op 4 (fl 69 0 4)), (.op 5 (ld 70 69)), (.op 6 (mv 71 0)), (.op 7 (nc 72 71)), (.op 8 (fl 73 2 72)), (.op 9 (ld 74 73)), (.op 10 (mv 75 2)), (ef 11 (o 76 (.call 189 [(.t 68), (.t 70), (.t 74), (.t 75)]))), (ef 12 (o 6 (at_ 76)))]) .ret)))
def rv180 : List RV := [(.tmp 6)]
theorem hc180 : cCode Tryz.prog Tryz.f180.ntmps (Tryz.f180.body.getD .skip) = some sc180 := by kernel_rfl
theorem hr180 : cRes Tryz.prog Tryz.f180.results.toList = some rv180 := by kernel_rfl

/-- selfstab/eval.unary -/
def sc181 : SC := (so [(o 4 (.asg (ki 0)))] (.seq (so [(mv 5 0), (o 6 (bn .eql (.t 5) (ki 18)))] (.cond (.t 6) (so [(mv 7 1), (o 8 (.p (.un .neg (.t 7)))), (o 4 (at_ 8))] .ret) .skip)) (so [(mv 9 1), (o 10 (bn .eql (.t 9) (ki 0))), (o 11 (.call 190 [(.t 10)])), (o 4 (at_ 11))] .ret)))
def rv181 : List RV := [(.tmp 4)]
theorem hc181 : cCode Tryz.prog Tryz.f181.ntmps (Tryz.f181.body.getD .skip) = some sc181 := by kernel_rfl
theorem hr181 : cRes Tryz.prog Tryz.f181.results.toList = some rv181 := by kernel_rfl

/-- (*selfstab/eval.walk).aggregate -/
def sc182 : SC := (so [(o 6 (.asg (ki 0))), (o 7 (.asg (ki 0)))] (so [(o 8 (.alloca 24 (.int .i64 0)))] (.seq (.draw [(.op 0 (mv 11 0)), (.op 1 (nc 12 11)), (.op 2 (fl 13 0 12)), (.op 3 (ld 14 13)), (.op 4 (nc 15 14)), (.op 5 (fl 16 3 15)), (.op 6 (fl 17 1 16)), (.op 7 (ld 18 17)), (.op 8 (mv 19 0)), (.op 9 (nc 20 19)), (.op 10 (fl 21 2 20)), (.op 11 (ld 22 21)), (.op 12 (o 23 (.p (.ixs 1 (.t 18) (.t 22))))), (.op 13 (ld 24 23)), (.op 14 (o 25 (ln 24))), (ef 15 (o 9 (at_ 25)))]) (.seq (so [(mv 26 9), (o 27 (.p (.mv (ki 0))))] (.block 0 (.loop (so [(o 28 (bn .lss (.t 27) (.t 26)))] (.seq (.cond (.t 28) .skip (.exit 0)) (.seq (.block 1 (so [(mv 29 27), (o 10 (at_ 29))] (.ops [(mv 31 10), (mv 32 0), (mv 33 2), (o 34 (bn .add (.t 33) (ki 1))), (mv 35 10), (o 36 (.call 164 [(.t 32), (.t 34), (.t 35)])), (mv 30 36), (o 37 (.p (.ext (.t 30) 0))), (o 38 (.p (.ext (.t 30) 1))), (o 39 (.p (.ixa 24 1 (.t 8) (.t 31)))), (on (.store 1 (.t 39) (.t 37))), (o 7 (at_ 38))]))) (.ops [(o 40 (bn .add (.t 27) (ki 1))), (mv 27 40)]))))))) (.seq (so [(mv 41 9), (o 42 (bn .eql (.t 41) (ki 0)))] (.cond (.t 42) (.ops [(mv 43 0), (nc 44 43), (fl 45 3 44), (ld 46 45), (mv 47 2), (o 48 (.call 159 [(.t 46), (.t 47)])), (o 7 (at_ 48))]) .skip)) (so [(mv 49 1), (mv 50 9), (o 51 (.xt (Go.Eng.XOp.asl 24 1 (.t 8) (.some (.t 50))))), (o 52 (.call 191 [(.t 49), (.t 51)])), (mv 53 7), (o 6 (at_ 52)), (o 7 (at_ 53))] .ret))))))
def rv182 : List RV := [(.tmp 6), (.tmp 7)]
theorem hc182 : cCode Tryz.prog Tryz.f182.ntmps (Tryz.f182.body.getD .skip) = some sc182 := by kernel_rfl
theorem hr182 : cRes Tryz.prog Tryz.f182.results.toList = some rv182 := by kernel_rfl

/-- selfstab/eval.binary -/
def sc183 : SC := (so [(o 6 (.asg (ki 0)))] (.seq (so [(mv 7 0)] (.block 0 (so [(o 9 (bn .eql (.t 7) (ki 30))), (o 8 (at_ 9))] (.cond (.t 8) (so [(mv 10 1), (mv 11 2), (o 12 (bn .mul (.t 10) (.t 11))), (o 13 (.call 192 [(.t 12)])), (o 6 (at_ 13))] .ret) (so [(o 15 (bn .eql (.t 7) (ki 31))), (o 14 (at_ 15))] (.cond (.t 14) (so [(mv 16 1), (mv 17 2), (o 18 (.call 193 [(.t 16), (.t 17)])), (o 19 (.call 192 [(.t 18)])), (o 6 (at_ 19))] .ret) (so [(o 21 (bn .eql (.t 7) (ki 32))), (o 20 (at_ 21))] (.cond (.t 20) (.seq (so [(mv 22 2), (o 23 (bn .eql (.t 22) (ki 0)))] (.cond (.t 23) (so [(o 6 (.asg (ki 0)))] .ret) .skip)) (so [(mv 24 1), (mv 25 2), (mv 26 1), (mv 27 2), (o 28 (.call 193 [(.t 26), (.t 27)])), (o 29 (bn .mul (.t 25) (.t 28))), (o 30 (bn .sub (.t 24) (.t 29))), (o 31 (.call 192 [(.t 30)])), (o 6 (at_ 31))] .ret)) (so [(o 33 (bn .eql (.t 7) (ki 33))), (o 32 (at_ 33))] (.cond (.t 32) (so [(mv 34 1), (mv 35 2), (o 36 (bn .add (.t 34) (.t 35))), (o 37 (.call 192 [(.t 36)])), (o 6 (at_ 37))] .ret) (so [(o 39 (bn .eql (.t 7) (ki 34))), (o 38 (at_ 39))] (.cond (.t 38) (so [(mv 40 1), (mv 41 2), (o 42 (bn .sub (.t 40) (.t 41))), (o 43 (.call 192 [(.t 42)])), (o 6 (at_ 43))] .ret) (so [(o 45 (bn .eql (.t 7) (ki 41))), (o 44 (at_ 45))] (.cond (.t 44) (so [(mv 46 1), (o 47 (bn .neq (.t 46) (ki 0))), (mv 48 47), (ot 49 48 (pm 2)), (ot 50 48 (bn .neq (.t 49) (ki 0))), (o 51 (.p (.pick (.t 48) (.t 50) (.k (.bool false))))), (o 52 (.call 190 [(.t 51)])), (o 6 (at_ 52))] .ret) (so [(o 54 (bn .eql (.t 7) (ki 42))), (o 53 (at_ 54))] (.cond (.t 53) (so [(mv 55 1), (o 56 (bn .neq (.t 55) (ki 0))), (mv 57 56), (of 58 57 (pm 2)), (of 59 57 (bn .neq (.t 58) (ki 0))), (o 60 (.p (.pick (.t 57) (.k (.bool true)) (.t 59)))), (o 61 (.call 190 [(.t 60)])), (o 6 (at_ 61))] .ret) .skip)))))))))))))))) (so [(mv 62 0), (mv 63 1), (mv 64 2), (o 65 (.call 194 [(.t 62), (.t 63), (.t 64)])), (o 66 (.call 190 [(.t 65)])), (o 6 (at_ 66))] .ret)))
def rv183 : List RV := [(.tmp 6)]
theorem hc183 : cCode Tryz.prog Tryz.f183.ntmps (Tryz.f183.body.getD .skip) = some sc183 := by kernel_rfl
theorem hr183 : cRes Tryz.prog Tryz.f183.results.toList = some rv183 := by kernel_rfl

/-- (*selfstab/expr.Reader).primary -/
noncomputable def sc185 : SC := (cCode Tryz.prog Tryz.f185.ntmps (Tryz.f185.body.getD .skip)).getD .skip
def rv185 : List RV := [(.tmp 2)]
theorem hc185 : cCode Tryz.prog Tryz.f185.ntmps (Tryz.f185.body.getD .skip) = some sc185 := by kernel_rfl
theorem hr185 : cRes Tryz.prog Tryz.f185.results.toList = some rv185 := by kernel_rfl

/-- selfstab/expr.find -/
noncomputable def sc186 : SC := (cCode Tryz.prog Tryz.f186.ntmps (Tryz.f186.body.getD .skip)).getD .skip
def rv186 : List RV := [(.tmp 6)]
theorem hc186 : cCode Tryz.prog Tryz.f186.ntmps (Tryz.f186.body.getD .skip) = some sc186 := by kernel_rfl
theorem hr186 : cRes Tryz.prog Tryz.f186.results.toList = some rv186 := by kernel_rfl

/-- selfstab/expr.binarySigns -/
noncomputable def sc187 : SC := (cCode Tryz.prog Tryz.f187.ntmps (Tryz.f187.body.getD .skip)).getD .skip
def rv187 : List RV := [(.tmp 0)]
theorem hc187 : cCode Tryz.prog Tryz.f187.ntmps (Tryz.f187.body.getD .skip) = some sc187 := by kernel_rfl
theorem hr187 : cRes Tryz.prog Tryz.f187.results.toList = some rv187 := by kernel_rfl

/-- selfstab/types.ifTrue -/
noncomputable def sc188 : SC := (cCode Tryz.prog Tryz.f188.ntmps (Tryz.f188.body.getD .skip)).getD .skip
def rv188 : List RV := [(.tmp 4)]
theorem hc188 : cCode Tryz.prog Tryz.f188.ntmps (Tryz.f188.body.getD .skip) = some sc188 := by kernel_rfl
theorem hr188 : cRes Tryz.prog Tryz.f188.results.toList = some rv188 := by kernel_rfl

/-- (*selfstab/eval.Scene).Fact -/
def sc189 : SC := (so [(o 8 (.asg (ki 0)))] (.seq (so [(mv 10 1)] (.block 0 (so [(o 12 (bn .eql (.t 10) (ki 6))), (o 11 (at_ 12))] (.cond (.t 11) (so [(mv 13 0), (nc 14 13), (fl 15 3 14), (fl 16 0 15), (ld 17 16), (o 18 (ln 17)), (o 8 (at_ 18))] .ret) (so [(o 20 (bn .eql (.t 10) (ki 7))), (o 19 (at_ 20))] (.cond (.t 19) (so [(mv 21 0), (nc 22 21), (fl 23 5 22), (ld 24 23), (o 8 (at_ 24))] .ret) (so [(o 26 (bn .eql (.t 10) (ki 8))), (o 25 (at_ 26))] (.cond (.t 25) (so [(mv 27 0), (nc 28 27), (fl 29 3 28), (fl 30 0 29), (ld 31 30), (mv 32 2), (o 33 (.p (.ixs 1 (.t 31) (.t 32)))), (ld 34 33), (o 8 (at_ 34))] .ret) (so [(o 36 (bn .eql (.t 10) (ki 9))), (o 35 (at_ 36))] (.cond (.t 35) (so [(mv 37 0), (nc 38 37), (fl 39 3 38), (fl 40 1 39), (ld 41 40), (mv 42 2), (o 43 (.p (.ixs 1 (.t 41) (.t 42)))), (ld 44 43), (o 45 (ln 44)), (o 8 (at_ 45))] .ret) (so [(o 47 (bn .eql (.t 10) (ki 10))), (o 46 (at_ 47))] (.cond (.t 46) (so [(mv 48 2), (o 49 (bn .eql (.t 48) (ki 0))), (o 50 (.call 190 [(.t 49)])), (o 8 (at_ 50))] .ret) (so [(o 52 (bn .eql (.t 10) (ki 11))), (o 51 (at_ 52))] (.cond (.t 51) (so [(mv 53 3), (o 8 (at_ 53))] .ret) .skip)))))))))))))) (so [(mv 54 0), (nc 55 54), (fl 56 3 55), (fl 57 1 56), (ld 58 57), (mv 59 2), (o 60 (.p (.ixs 1 (.t 58) (.t 59)))), (ld 61 60), (mv 62 3), (o 63 (.p (.ixs 2 (.t 61) (.t 62)))), (o 64 (.load (.some 2) (.t 63))), (o 9 (.alloc [(.int .i64 0), (.int .i64 0)])), (on (.store 2 (.t 9) (.t 64)))] (.seq (so [(mv 65 1)] (.block 1 (so [(o 67 (bn .eql (.t 65) (ki 13))), (o 66 (at_ 67))] (.cond (.t 66) (.seq (.draw [(.op 0 (mv 68 0)), (.op 1 (nc 69 68)), (.op 2 (fl 70 3 69)), (.op 3 (fl 71 0 70)), (.op 4 (ld 72 71)), (.op 5 (fl 73 0 9)), (.op 6 (ld 74 73)), (.op 7 (o 75 (.p (.ixs 1 (.t 72) (.t 74))))), (.op 8 (ld 76 75)), (ef 9 (o 8 (at_ 76)))]) .ret) (so [(o 78 (bn .eql (.t 65) (ki 14))), (o 77 (at_ 78))] (.cond (.t 77) (.seq (.draw [(.op 0 (mv 79 0)), (.op 1 (nc 80 79)), (.op 2 (fl 81 3 80)), (.op 3 (fl 82 1 81)), (.op 4 (ld 83 82)), (.op 5 (fl 84 0 9)), (.op 6 (ld 85 84)), (.op 7 (o 86 (.p (.ixs 1 (.t 83) (.t 85))))), (.op 8 (ld 87 86)), (.op 9 (o 88 (ln 87))), (ef 10 (o 8 (at_ 88)))]) .ret) (so [(o 90 (bn .eql (.t 65) (ki 15))), (o 89 (at_ 90))] (.cond (.t 89) (so [(fl 91 0 9), (ld 92 91), (o 93 (bn .eql (.t 92) (ki 0))), (o 94 (.call 190 [(.t 93)])), (o 8 (at_ 94))] .ret) (so [(o 96 (bn .eql (.t 65) (ki 16))), (o 95 (at_ 96))] (.cond (.t 95) (so [(fl 97 1 9), (ld 98 97), (o 8 (at_ 98))] .ret) .skip)))))))))) (so [(mv 99 0), (nc 100 99), (fl 101 6 100), (ld 102 101), (mv 103 2), (o 104 (.p (.ixs 1 (.t 102) (.t 103)))), (ld 105 104), (mv 106 3), (o 107 (.p (.ixs 1 (.t 105) (.t 106)))), (ld 108 107), (o 8 (at_ 108))] .ret)))))
def rv189 : List RV := [(.tmp 8)]
theorem hc189 : cCode Tryz.prog Tryz.f189.ntmps (Tryz.f189.body.getD .skip) = some sc189 := by kernel_rfl
theorem hr189 : cRes Tryz.prog Tryz.f189.results.toList = some rv189 := by kernel_rfl

/-- selfstab/eval.truth -/
def sc190 : SC := (so [(o 2 (.asg (ki 0)))] (.seq (so [(mv 3 0)] (.cond (.t 3) (so [(o 2 (.asg (ki 1)))] .ret) .skip)) (so [(o 2 (.asg (ki 0)))] .ret)))
def rv190 : List RV := [(.tmp 2)]
theorem hc190 : cCode Tryz.prog Tryz.f190.ntmps (Tryz.f190.body.getD .skip) = some sc190 := by kernel_rfl
theorem hr190 : cRes Tryz.prog Tryz.f190.results.toList = some rv190 := by kernel_rfl

/-- selfstab/eval.fold -/
def sc191 : SC := (so [(o 4 (.asg (ki 0)))] (.seq (so [(mv 15 0)] (.block 0 (so [(o 17 (bn .eql (.t 15) (ki 20))), (o 16 (at_ 17))] (.cond (.t 16) (so [(mv 18 1), (o 19 (.call 198 [(.t 18)])), (mv 20 1), (o 21 (ln 20)), (o 22 (bn .eql (.t 19) (.t 21))), (o 23 (.call 190 [(.t 22)])), (o 4 (at_ 23))] .ret) (so [(o 25 (bn .eql (.t 15) (ki 21))), (o 24 (at_ 25))] (.cond (.t 24) (so [(mv 26 1), (o 27 (.call 198 [(.t 26)])), (o 28 (bn .gtr (.t 27) (ki 0))), (o 29 (.call 190 [(.t 28)])), (o 4 (at_ 29))] .ret) (so [(o 31 (bn .eql (.t 15) (ki 22))), (o 30 (at_ 31))] (.cond (.t 30) (so [(mv 32 1), (o 33 (.call 198 [(.t 32)])), (o 4 (at_ 33))] .ret) (so [(o 35 (bn .eql (.t 15) (ki 23))), (o 34 (at_ 35))] (.cond (.t 34) (so [(mv 36 1), (o 37 (.call 199 [(.t 36), (.k (.fn (.func 200) false []))])), (o 4 (at_ 37))] .ret) (so [(o 39 (bn .eql (.t 15) (ki 24))), (o 38 (at_ 39))] (.cond (.t 38) (so [(o 5 (.asg (ki 1073741824)))] (.seq (so [(mv 40 1), (o 41 (ln 40)), (o 42 (.p (.mv (ki 0))))] (.block 1 (.loop (so [(o 43 (bn .lss (.t 42) (.t 41)))] (.seq (.cond (.t 43) .skip (.exit 1)) (.seq (.block 2 (so [(o 44 (.p (.ixs 1 (.t 40) (.t 42)))), (ld 45 44), (o 7 (at_ 45))] (.ops [(mv 46 5), (mv 47 7), (o 48 (.p (.mn (.t 46) (.t 47)))), (o 5 (at_ 48))]))) (.ops [(o 49 (bn .add (.t 42) (ki 1))), (mv 42 49)]))))))) (so [(mv 50 5), (o 4 (at_ 50))] .ret))) (so [(o 52 (bn .eql (.t 15) (ki 25))), (o 51 (at_ 52))] (.cond (.t 51) (so [(mv 54 1), (o 55 (.call 201 [(.t 54)])), (mv 53 55), (o 56 (.p (.ext (.t 53) 0))), (o 57 (.p (.ext (.t 53) 1))), (o 8 (at_ 56)), (o 9 (at_ 57))] (so [(mv 58 8), (o 4 (at_ 58))] .ret)) (so [(o 60 (bn .eql (.t 15) (ki 26))), (o 59 (at_ 60))] (.cond (.t 59) (so [(o 10 (.asg (ki 0)))] (.seq (so [(mv 61 1), (o 62 (ln 61)), (o 63 (.p (.mv (ki 0))))] (.block 3 (.loop (so [(o 64 (bn .lss (.t 63) (.t 62)))] (.seq (.cond (.t 64) .skip (.exit 3)) (.seq (.block 4 (so [(o 65 (.p (.ixs 1 (.t 61) (.t 63)))), (ld 66 65), (o 12 (at_ 66))] (.ops [(mv 67 10), (mv 68 12), (o 69 (bn .add (.t 67) (.t 68))), (o 10 (at_ 69))]))) (.ops [(o 70 (bn .add (.t 63) (ki 1))), (mv 63 70)]))))))) (so [(mv 71 10), (o 72 (.call 192 [(.t 71)])), (o 4 (at_ 72))] .ret))) (so [(o 74 (bn .eql (.t 15) (ki 27))), (o 73 (at_ 74))] (.cond (.t 73) (so [(mv 75 1), (o 76 (.call 202 [(.t 75)])), (o 4 (at_ 76))] .ret) (so [(o 78 (bn .eql (.t 15) (ki 28))), (o 77 (at_ 78))] (.cond (.t 77) (so [(mv 80 1), (o 81 (.call 201 [(.t 80)])), (mv 79 81), (o 82 (.p (.ext (.t 79) 0))), (o 83 (.p (.ext (.t 79) 1))), (o 13 (at_ 82)), (o 14 (at_ 83))] (so [(mv 84 14), (o 4 (at_ 84))] .ret)) .skip)))))))))))))))))))) (.seq (so [(mv 85 1), (o 86 (ln 85)), (o 87 (bn .eql (.t 86) (ki 0)))] (.cond (.t 87) (so [(o 4 (.asg (ki 0)))] .ret) .skip)) (so [(mv 88 1), (o 89 (.p (.ixs 1 (.t 88) (ki 0)))), (ld 90 89), (o 4 (at_ 90))] .ret))))
def rv191 : List RV := [(.tmp 4)]
theorem hc191 : cCode Tryz.prog Tryz.f191.ntmps (Tryz.f191.body.getD .skip) = some sc191 := by kernel_rfl
theorem hr191 : cRes Tryz.prog Tryz.f191.results.toList = some rv191 := by kernel_rfl

/-- selfstab/eval.saturated -/
def sc192 : SC := (so [(o 2 (.asg (ki 0)))] (so [(mv 3 0), (o 4 (.p (.mn (.t 3) (ki 1073741824)))), (o 5 (.p (.mx (.k (.int .i64 (-1073741824))) (.t 4)))), (o 2 (at_ 5))] .ret))
def rv192 : List RV := [(.tmp 2)]
theorem hc192 : cCode Tryz.prog Tryz.f192.ntmps (Tryz.f192.body.getD .skip) = some sc192 := by kernel_rfl
theorem hr192 : cRes Tryz.prog Tryz.f192.results.toList = some rv192 := by kernel_rfl

/-- selfstab/eval.quotient -/
def sc193 : SC := (so [(o 4 (.asg (ki 0)))] (.seq (so [(mv 6 1), (o 7 (bn .eql (.t 6) (ki 0)))] (.cond (.t 7) (so [(o 4 (.asg (ki 0)))] .ret) .skip)) (so [(mv 8 0), (mv 9 1), (o 10 (bn .quo (.t 8) (.t 9))), (o 5 (at_ 10))] (.seq (so [(mv 11 0), (mv 12 1), (o 13 (bn .rem (.t 11) (.t 12))), (o 14 (bn .neq (.t 13) (ki 0))), (mv 15 14), (ot 16 15 (pm 0)), (ot 17 15 (bn .lss (.t 16) (ki 0))), (ot 18 15 (pm 1)), (ot 19 15 (bn .lss (.t 18) (ki 0))), (ot 20 15 (.p (.bin .bool .neq (.t 17) (.t 19)))), (o 21 (.p (.pick (.t 15) (.t 20) (.k (.bool false)))))] (.cond (.t 21) (.ops [(mv 22 5), (o 23 (bn .sub (.t 22) (ki 1))), (o 5 (at_ 23))]) .skip)) (so [(mv 24 5), (o 4 (at_ 24))] .ret)))))
def rv193 : List RV := [(.tmp 4)]
theorem hc193 : cCode Tryz.prog Tryz.f193.ntmps (Tryz.f193.body.getD .skip) = some sc193 := by kernel_rfl
theorem hr193 : cRes Tryz.prog Tryz.f193.results.toList = some rv193 := by kernel_rfl

/-- selfstab/eval.compared -/
def sc194 : SC := (so [(o 6 (.asg (.k (.bool false))))] (.seq (so [(mv 7 0)] (.block 0 (so [(o 9 (bn .eql (.t 7) (ki 35))), (o 8 (at_ 9))] (.cond (.t 8) (so [(mv 10 1), (mv 11 2), (o 12 (bn .eql (.t 10) (.t 11))), (o 6 (at_ 12))] .ret) (so [(o 14 (bn .eql (.t 7) (ki 36))), (o 13 (at_ 14))] (.cond (.t 13) (so [(mv 15 1), (mv 16 2), (o 17 (bn .neq (.t 15) (.t 16))), (o 6 (at_ 17))] .ret) (so [(o 19 (bn .eql (.t 7) (ki 37))), (o 18 (at_ 19))] (.cond (.t 18) (so [(mv 20 1), (mv 21 2), (o 22 (bn .lss (.t 20) (.t 21))), (o 6 (at_ 22))] .ret) (so [(o 24 (bn .eql (.t 7) (ki 38))), (o 23 (at_ 24))] (.cond (.t 23) (so [(mv 25 1), (mv 26 2), (o 27 (bn .leq (.t 25) (.t 26))), (o 6 (at_ 27))] .ret) (so [(o 29 (bn .eql (.t 7) (ki 39))), (o 28 (at_ 29))] (.cond (.t 28) (so [(mv 30 1), (mv 31 2), (o 32 (bn .gtr (.t 30) (.t 31))), (o 6 (at_ 32))] .ret) .skip)))))))))))) (so [(mv 33 1), (mv 34 2), (o 35 (bn .geq (.t 33) (.t 34))), (o 6 (at_ 35))] .ret)))
def rv194 : List RV := [(.tmp 6)]
theorem hc194 : cCode Tryz.prog Tryz.f194.ntmps (Tryz.f194.body.getD .skip) = some sc194 := by kernel_rfl
theorem hr194 : cRes Tryz.prog Tryz.f194.results.toList = some rv194 := by kernel_rfl

/-- (*selfstab/expr.Reader).neighbour -/
noncomputable def sc195 : SC := (cCode Tryz.prog Tryz.f195.ntmps (Tryz.f195.body.getD .skip)).getD .skip
def rv195 : List RV := [(.tmp 2)]
theorem hc195 : cCode Tryz.prog Tryz.f195.ntmps (Tryz.f195.body.getD .skip) = some sc195 := by kernel_rfl
theorem hr195 : cRes Tryz.prog Tryz.f195.results.toList = some rv195 := by kernel_rfl

/-- selfstab/expr.constantOp -/
noncomputable def sc196 : SC := (cCode Tryz.prog Tryz.f196.ntmps (Tryz.f196.body.getD .skip)).getD .skip
def rv196 : List RV := [(.tmp 2)]
theorem hc196 : cCode Tryz.prog Tryz.f196.ntmps (Tryz.f196.body.getD .skip) = some sc196 := by kernel_rfl
theorem hr196 : cRes Tryz.prog Tryz.f196.results.toList = some rv196 := by kernel_rfl

/-- selfstab/expr.aggregateOp -/
noncomputable def sc197 : SC := (cCode Tryz.prog Tryz.f197.ntmps (Tryz.f197.body.getD .skip)).getD .skip
def rv197 : List RV := [(.tmp 2)]
theorem hc197 : cCode Tryz.prog Tryz.f197.ntmps (Tryz.f197.body.getD .skip) = some sc197 := by kernel_rfl
theorem hr197 : cRes Tryz.prog Tryz.f197.results.toList = some rv197 := by kernel_rfl

/-- selfstab/eval.count -/
def sc198 : SC := (so [(o 2 (.asg (ki 0)))] (so [(o 3 (.asg (ki 0)))] (.seq (so [(mv 6 0), (o 7 (ln 6)), (o 8 (.p (.mv (ki 0))))] (.block 0 (.loop (so [(o 9 (bn .lss (.t 8) (.t 7)))] (.seq (.cond (.t 9) .skip (.exit 0)) (.seq (.block 1 (so [(o 10 (.p (.ixs 1 (.t 6) (.t 8)))), (ld 11 10), (o 5 (at_ 11))] (so [(mv 12 5), (o 13 (bn .neq (.t 12) (ki 0)))] (.cond (.t 13) (.ops [(mv 14 3), (o 15 (bn .add (.t 14) (ki 1))), (o 3 (at_ 15))]) .skip)))) (.ops [(o 16 (bn .add (.t 8) (ki 1))), (mv 8 16)]))))))) (so [(mv 17 3), (o 2 (at_ 17))] .ret))))
def rv198 : List RV := [(.tmp 2)]
theorem hc198 : cCode Tryz.prog Tryz.f198.ntmps (Tryz.f198.body.getD .skip) = some sc198 := by kernel_rfl
theorem hr198 : cRes Tryz.prog Tryz.f198.results.toList = some rv198 := by kernel_rfl

/-- slices.IndexFunc[[]int,int] -/
def sc199 : SC := (so [(o 4 (.asg (ki 0)))] (.seq (so [(mv 6 0), (o 7 (ln 6)), (o 8 (.p (.mv (ki 0))))] (.block 0 (.loop (so [(o 9 (bn .lss (.t 8) (.t 7)))] (.seq (.cond (.t 9) .skip (.exit 0)) (.seq (.block 1 (so [(mv 10 8), (o 5 (at_ 10))] (so [(mv 11 1), (mv 12 0), (mv 13 5), (o 14 (.p (.ixs 1 (.t 12) (.t 13)))), (ld 15 14), (o 16 (.callv (.t 11) [(.t 15)]))] (.cond (.t 16) (so [(mv 17 5), (o 4 (at_ 17))] .ret) .skip)))) (.ops [(o 18 (bn .add (.t 8) (ki 1))), (mv 8 18)]))))))) (so [(o 4 (.asg (.k (.int .i64 (-1)))))] .ret)))
def rv199 : List RV := [(.tmp 4)]
theorem hc199 : cCode Tryz.prog Tryz.f199.ntmps (Tryz.f199.body.getD .skip) = some sc199 := by kernel_rfl
theorem hr199 : cRes Tryz.prog Tryz.f199.results.toList = some rv199 := by kernel_rfl

/-- selfstab/eval.fold$1 -/
def sc200 : SC := (so [(o 2 (.asg (.k (.bool false))))] (so [(mv 3 0), (o 4 (bn .neq (.t 3) (ki 0))), (o 2 (at_ 4))] .ret))
def rv200 : List RV := [(.tmp 2)]
theorem hc200 : cCode Tryz.prog Tryz.f200.ntmps (Tryz.f200.body.getD .skip) = some sc200 := by kernel_rfl
theorem hr200 : cRes Tryz.prog Tryz.f200.results.toList = some rv200 := by kernel_rfl

/-- selfstab/eval.twoGreatest -/
def sc201 : SC := (so [(o 2 (.asg (ki 0))), (o 3 (.asg (ki 0)))] (so [(o 2 (.asg (.k (.int .i64 (-1073741824))))), (o 3 (.asg (.k (.int .i64 (-1073741824)))))] (.seq (so [(mv 6 0), (o 7 (ln 6)), (o 8 (.p (.mv (ki 0))))] (.block 0 (.loop (so [(o 9 (bn .lss (.t 8) (.t 7)))] (.seq (.cond (.t 9) .skip (.exit 0)) (.seq (.block 1 (so [(o 10 (.p (.ixs 1 (.t 6) (.t 8)))), (ld 11 10), (o 5 (at_ 11))] (so [(mv 12 5), (mv 13 2), (o 14 (bn .gtr (.t 12) (.t 13)))] (.cond (.t 14) (.ops [(mv 15 5), (mv 16 2), (o 2 (at_ 15)), (o 3 (at_ 16))]) (.ops [(mv 17 3), (mv 18 5), (o 19 (.p (.mx (.t 17) (.t 18)))), (o 3 (at_ 19))]))))) (.ops [(o 20 (bn .add (.t 8) (ki 1))), (mv 8 20)]))))))) (so [(mv 21 2), (mv 22 3), (o 2 (at_ 21)), (o 3 (at_ 22))] .ret))))
def rv201 : List RV := [(.tmp 2), (.tmp 3)]
theorem hc201 : cCode Tryz.prog Tryz.f201.ntmps (Tryz.f201.body.getD .skip) = some sc201 := by kernel_rfl
theorem hr201 : cRes Tryz.prog Tryz.f201.results.toList = some rv201 := by kernel_rfl

/-- selfstab/expr.fieldOp -/
noncomputable def sc203 : SC := (cCode Tryz.prog Tryz.f203.ntmps (Tryz.f203.body.getD .skip)).getD .skip
def rv203 : List RV := [(.tmp 2)]
theorem hc203 : cCode Tryz.prog Tryz.f203.ntmps (Tryz.f203.body.getD .skip) = some sc203 := by kernel_rfl
theorem hr203 : cRes Tryz.prog Tryz.f203.results.toList = some rv203 := by kernel_rfl

/-- selfstab/expr.constantWords -/
noncomputable def sc204 : SC := (cCode Tryz.prog Tryz.f204.ntmps (Tryz.f204.body.getD .skip)).getD .skip
def rv204 : List RV := [(.tmp 0)]
theorem hc204 : cCode Tryz.prog Tryz.f204.ntmps (Tryz.f204.body.getD .skip) = some sc204 := by kernel_rfl
theorem hr204 : cRes Tryz.prog Tryz.f204.results.toList = some rv204 := by kernel_rfl

/-- selfstab/expr.aggregateWords -/
noncomputable def sc205 : SC := (cCode Tryz.prog Tryz.f205.ntmps (Tryz.f205.body.getD .skip)).getD .skip
def rv205 : List RV := [(.tmp 0)]
theorem hc205 : cCode Tryz.prog Tryz.f205.ntmps (Tryz.f205.body.getD .skip) = some sc205 := by kernel_rfl
theorem hr205 : cRes Tryz.prog Tryz.f205.results.toList = some rv205 := by kernel_rfl

/-- selfstab/expr.fieldWords -/
noncomputable def sc207 : SC := (cCode Tryz.prog Tryz.f207.ntmps (Tryz.f207.body.getD .skip)).getD .skip
def rv207 : List RV := [(.tmp 0)]
theorem hc207 : cCode Tryz.prog Tryz.f207.ntmps (Tryz.f207.body.getD .skip) = some sc207 := by kernel_rfl
theorem hr207 : cRes Tryz.prog Tryz.f207.results.toList = some rv207 := by kernel_rfl

end Go.Proofs.YtinmenifoebfmaaGreatDoor

