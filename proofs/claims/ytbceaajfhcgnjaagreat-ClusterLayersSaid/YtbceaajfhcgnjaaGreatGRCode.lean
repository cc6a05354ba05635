/-
 The compiled forms of the functions, printed by a program (wip/tools/seat.py), and that the compiler yields just these.
-/
import Derived.Test.YtbceaajfhcgnjaaGreatEngQ
import Derived.Test.YtbceaajfhcgnjaaGreatProg
import Derived.KernelRfl
namespace Go.Proofs.YtbceaajfhcgnjaaGreat
open Go.Eng
set_option maxRecDepth 100000
abbrev o (d:Nat) (x:SOp):SI:=⟨some d,x,none⟩
abbrev on (x:SOp):SI:=⟨none,x,none⟩
abbrev ot (d g:Nat) (x:SOp):SI:=⟨some d,x,some (g,true)⟩
abbrev of (d g:Nat) (x:SOp):SI:=⟨some d,x,some (g,false)⟩
abbrev ki (n:Int):X:=.k (.int .i64 n)
abbrev bn (op:BinOp) (a b:X):SOp:=.p (.bin .num op a b)
abbrev pm (n:Nat):SOp:=.p (.mv (.t n))
abbrev ln (n:Nat):SOp:=.p (.len (.t n))
abbrev at_ (n:Nat):SOp:=.asg (.t n)
abbrev so (l:List SI) (c:SC):SC:=.seq (.ops l) c
abbrev ef (i:Nat) (s:SI):DI:=.eff i [] [] s
abbrev q0 (d a:Nat):SI:=⟨some d,.asg (.t a),none⟩
abbrev q1 (d k a b:Nat):SI:=⟨some d,.p (.ixs k (.t a) (.t b)),none⟩
abbrev q2 (d k a:Nat):SI:=⟨some d,.load (some k) (.t a),none⟩
abbrev q3 (k a b:Nat):SI:=⟨none,.store k (.t a) (.t b),none⟩
abbrev q4 (d a:Nat) (n:Int):SI:=⟨some d,.p (.bin .num .add (.t a) (.k (.int .i64 n))),none⟩
abbrev q5 (d a b:Nat):SI:=⟨some d,.p (.bin .num .lss (.t a) (.t b)),none⟩
abbrev q6 (a n:Nat):SC:=.cond (.t a) .skip (.exit n)
abbrev q7 (d a:Nat):SI:=⟨some d,.box (.t a),none⟩
abbrev q8 (d:Nat) (n:Int):SI:=⟨some d,.asg (.k (.int .i64 n)),none⟩
abbrev q9 (d a n:Nat):SI:=⟨some d,.p (.ext (.t a) n),none⟩
abbrev qa (d a:Nat):SI:=⟨some d,.p (.len (.t a)),none⟩
abbrev qb (d f a:Nat):SI:=⟨some d,.call f [.t a],none⟩
abbrev qc (d f a b:Nat):SI:=⟨some d,.call f [.t a,.t b],none⟩
abbrev qd (d f a b c:Nat):SI:=⟨some d,.call f [.t a,.t b,.t c],none⟩
abbrev qe (i d a:Nat):DI:=.op i (mv d a)
abbrev qf (i d a:Nat):DI:=.op i (ld d a)
abbrev qg (i d n a:Nat):DI:=.op i (fl d n a)
abbrev qh (i d a:Nat):DI:=.op i (nc d a)
abbrev qi (i d k a b:Nat):DI:=.op i (q1 d k a b)
abbrev qj (d a:Nat) (n:Int):SI:=⟨some d,.p (.bin .num .eql (.t a) (.k (.int .i64 n))),none⟩
abbrev qk (d a:Nat) (n:Int):SI:=⟨some d,.p (.bin .num .neq (.t a) (.k (.int .i64 n))),none⟩
abbrev ql (d:Nat) (o:BinOp) (a b:Nat):SI:=⟨some d,.p (.bin .num o (.t a) (.t b)),none⟩
abbrev qm (d:Nat):SI:=⟨some d,.asg (.k .nilslice),none⟩
abbrev qn (d a b:Nat):SI:=⟨some d,.p (.pick (.t a) (.k (.bool true)) (.t b)),none⟩
abbrev qo (d a b:Nat):SI:=⟨some d,.p (.pick (.t a) (.t b) (.k (.bool false))),none⟩
abbrev qp (d:Nat) (b:Bool):SI:=⟨some d,.asg (.k (.bool b)),none⟩
abbrev qt (n:Nat):X:=.t n
noncomputable abbrev cc (f:Func):Option SC:=cCode Tryz.prog f.ntmps (f.body.getD .skip)
noncomputable abbrev ce (f:Func):Option (List RV):=cRes Tryz.prog f.results.toList
noncomputable def cs (f:Func):SC:=(cCode Tryz.prog f.ntmps (f.body.getD .skip)).getD .skip
noncomputable def cr (f:Func):List RV:=(cRes Tryz.prog f.results.toList).getD []
theorem mixed:Tryz.prog.follows .mixedOrders=true:=by kernel_rfl
def sc3:SC:=(so [q7 2 0,qp 4 false] (so [q2 14 6 2,(o 15 (.call 4 [qt 14,(ki 8)])),(o 5 (.alloc [.nilslice,.nilslice])),q3 2 5 15] (.seq (.draw [(.op 0 (q2 16 2 5)),qe 2 18 1,(.eff 1 [] [((.some 2),(5,16))] (o 17 (.call 6 []))),(ef 3 (qd 19 5 16 17 18)),(ef 4 (q0 6 19))]) (so [(o 20 (.call 8 [])),qb 21 7 20,(o 7 (.alloc [(.str (ByteArray.mk (Array.mk []))),.nilslice,.nilslice])),q3 3 7 21] (so [(o 22 (.call 7 [(.k (.str (ByteArray.mk (Array.mk [112,114,111,103,114,97,109,32,99,108,117,115,116,101,114,59,10,118,97,114,32,109,32,58,32,98,111,111,108,59,10,118,97,114,32,104,32,58,32,112,111,114,116,59,10,114,117,108,101,32,112,111,105,110,116,58,32,104,32,33,61,32,40,109,32,63,32,110,111,110,101,32,58,32,102,105,114,115,116,40,113,46,109,41,41,32,45,62,32,104,32,58,61,32,40,109,32,63,32,110,111,110,101,32,58,32,102,105,114,115,116,40,113,46,109,41,41,59,10]))))])),(o 8 (.alloc [(.str (ByteArray.mk (Array.mk []))),.nilslice,.nilslice])),q3 3 8 22] (so [q2 24 3 7,q2 25 3 8,qc 26 9 24 25,mv 23 26,q9 27 23 0,q9 28 23 1,(o 9 (.alloc [(.str (ByteArray.mk (Array.mk []))),.nilslice,.nilslice])),q3 3 9 27,q0 10 28] (so [(o 29 (.call 10 [])),qb 30 7 29,(o 11 (.alloc [(.str (ByteArray.mk (Array.mk []))),.nilslice,.nilslice])),q3 3 11 30] (so [q2 32 3 11,(o 33 (.call 11 [qt 32,(.k (.int .u32 1))])),mv 31 33,q9 34 31 0,q9 35 31 1,(o 12 (.alloc [(.str (ByteArray.mk (Array.mk []))),.nilslice,.nilslice])),q3 3 12 34,q0 13 35] (so [fl 36 0 7,ld 37 36,fl 38 0 12,q3 1 38 37] (.seq (.draw [(ef 0 (o 39 (.call 12 []))),qe 1 40 39,(.op 2 (ot 41 40 (pm 10))),(.op 3 (ot 42 40 (bn .eql (qt 41) (ki 0)))),(.op 4 (qo 43 40 42)),qe 5 44 43,(.op 6 (ot 45 44 (pm 13))),(.op 7 (ot 46 44 (bn .eql (qt 45) (ki 0)))),(.op 8 (qo 47 44 46)),qe 9 48 47,(.op 10 (ot 49 48 (.load (.some 3) (qt 9)))),(.op 11 (ot 50 48 (.load (.some 3) (qt 11)))),(ef 12 (ot 51 48 (.call 13 [qt 49,qt 50]))),(.op 13 (qo 52 48 51)),qe 14 53 52,(.op 15 (ot 54 53 (.load (.some 3) (qt 12)))),(.op 16 (ot 55 53 (.load (.some 3) (qt 7)))),(ef 17 (ot 56 53 (.call 13 [qt 54,qt 55]))),(.op 18 (qo 57 53 56)),qe 19 58 57,(.op 20 (ot 59 58 (.load (.some 3) (qt 11)))),(ef 21 (ot 60 58 (.call 14 [qt 59,(.k (.int .u32 1))]))),(.op 22 (qo 61 58 60)),qe 23 62 61,(.op 24 (ot 63 62 (.load (.some 3) (qt 11)))),(ef 25 (ot 64 62 (.call 14 [qt 63,(.k (.int .u32 2))]))),(.op 26 (ot 65 62 (.p (.un .not (qt 64))))),(.op 27 (qo 66 62 65)),qe 28 67 66,(.op 29 (ot 68 67 (.load (.some 3) (qt 7)))),(.op 30 (ot 69 67 (.load (.some 2) (qt 5)))),(.op 31 (ot 70 67 (pm 6))),(.op 34 (ot 73 67 (.load (.some 3) (qt 11)))),(.op 35 (ot 74 67 (.load (.some 2) (qt 5)))),(.op 36 (ot 75 67 (pm 6))),(.eff 32 [] [((.some 3),(7,68)),((.some 2),(5,69)),((.some 3),(11,73)),((.some 2),(5,74))] (ot 71 67 (.call 16 [qt 70,(.k (.int .u32 1))]))),(.eff 33 [] [((.some 3),(11,73)),((.some 2),(5,74))] (ot 72 67 (.call 15 [qt 68,qt 69,qt 71]))),(ef 37 (ot 76 67 (.call 15 [qt 73,qt 74,qt 75]))),(.op 38 (ot 77 67 (bn .andNot (qt 72) (qt 76)))),(.op 39 (ot 78 67 (bn .eql (qt 77) (.k (.int .u32 0))))),(.op 40 (qo 79 67 78)),(ef 41 (q0 4 79))]) .ret))))))))))
def rv3:List RV:=[(.tmp 4)]
theorem hc3:cc Tryz.f3=some sc3:=by kernel_rfl
theorem hr3:ce Tryz.f3=some rv3:=by kernel_rfl
def sc4:SC:=(so [q7 2 0,(o 4 (.alloc [.nilslice,.nilslice]))] (.seq (so [fl 5 4 2,ld 6 5,(o 7 (.p (.un .not (qt 6))))] (.cond (qt 7) (so [q2 8 6 2,mv 9 1,qc 10 17 8 9,q3 2 4 10] .ret) .skip)) (.seq (.draw [(.op 0 (q2 11 6 2)),(.op 1 (q2 12 6 2)),qe 2 13 1,(.eff 3 [] [((.some 6),(2,11))] (qc 14 19 12 13)),(ef 4 (qc 15 18 11 14)),(ef 5 (q3 2 4 15))]) .ret)))
def rv4:List RV:=[(.cell 4 (.some 2))]
theorem hc4:cc Tryz.f4=some sc4:=by kernel_rfl
theorem hr4:ce Tryz.f4=some rv4:=by kernel_rfl
def sc5:SC:=(so [q7 3 0,qm 6] (so [fl 16 1 3,ld 17 16,qa 18 17,q0 7 18,q8 8 0] (.seq (so [q8 9 0] (.block 0 (.loop (.seq (so [mv 19 9,mv 20 7,q5 21 19 20] (q6 21 0)) (.seq (.block 1 (.ops [mv 24 8,fl 25 0 3,ld 26 25,mv 27 9,q1 28 1 26 27,ld 29 28,(o 30 (.p (.mx (qt 24) (qt 29)))),q0 8 30])) (.ops [mv 22 9,q4 23 22 1,q0 9 23])))))) (so [qm 10] (.seq (so [q8 11 0] (.block 2 (.loop (.seq (so [mv 31 11,mv 32 7,q5 33 31 32] (q6 33 2)) (.seq (.block 3 (so [qm 12] (.seq (so [q8 13 0] (.block 4 (.loop (.seq (so [mv 36 13,mv 37 1,qa 38 37,q5 39 36 38] (q6 39 4)) (.seq (.block 5 (.seq (.draw [qe 0 42 1,qe 1 43 13,qi 2 44 6 42 43,qg 3 45 2 44,qf 4 46 45,qe 5 47 1,qe 6 48 13,qi 7 49 6 47 48,qg 8 50 3 49,qf 9 51 50,qe 10 52 1,qe 11 53 13,qi 12 54 6 52 53,qg 13 55 4 54,qf 14 56 55,qe 15 57 7,(.op 16 (ql 58 .mul 56 57)),(.op 17 (ql 59 .add 51 58)),qe 18 60 1,qe 19 61 13,qi 20 62 6 60 61,qg 21 63 5 62,qf 22 64 63,qe 23 65 8,(.op 24 (ql 66 .mul 64 65)),(.op 25 (ql 67 .add 59 66)),(.eff 26 [] [(none,(50,51)),(none,(55,56)),(none,(63,64))] (q0 14 46)),(ef 27 (q0 15 67))]) (.seq (so [mv 68 1,mv 69 13,q1 70 6 68 69,fl 71 1 70,ld 72 71] (.block 6 (so [qj 74 72 2,q0 73 74] (.cond (qt 73) (.ops [q8 14 0,q8 15 1]) (so [qj 76 72 3,q0 75 76] (.cond (qt 75) (.draw [qg 0 77 1 3,qf 1 78 77,qe 2 79 11,qi 3 80 1 78 79,qf 4 81 80,(.op 5 (qa 82 81)),(.op 6 (o 83 (bn .sub (qt 82) (ki 1)))),(.eff 7 [] [(none,(77,78)),(none,(80,81))] (o 14 (.asg (.k (.int .i64 (-1)))))),(ef 8 (q0 15 83))]) .skip)))))) (.ops [mv 84 12,mv 85 14,mv 86 2,mv 87 11,mv 88 1,qa 89 88,ql 90 .mul 87 89,mv 91 13,ql 92 .add 90 91,qc 93 21 86 92,mv 94 15,mv 95 14,ql 96 .sub 94 95,q4 97 96 1,qc 98 20 93 97,ql 99 .add 85 98,(o 100 (.bslice 1 1 [qt 99])),(o 101 (.app 1 8 (qt 84) (qt 100))),q0 12 101])))) (.ops [mv 40 13,q4 41 40 1,q0 13 41])))))) (.ops [mv 102 10,mv 103 12,(o 104 (.bslice 1 1 [qt 103])),(o 105 (.app 1 24 (qt 102) (qt 104))),q0 10 105])))) (.ops [mv 34 11,q4 35 34 1,q0 11 35])))))) (so [mv 106 10,q0 6 106] .ret))))))
def rv5:List RV:=[(.tmp 6)]
theorem hc5:cc Tryz.f5=some sc5:=by kernel_rfl
theorem hr5:ce Tryz.f5=some rv5:=by kernel_rfl
def sc6:SC:=(so [qm 0] (so [(o 1 (.call 22 [(.k (.str (ByteArray.mk (Array.mk [109]))))])),(o 2 (.call 23 [(.k (.str (ByteArray.mk (Array.mk [104]))))])),(o 3 (.bslice 6 2 [qt 1,qt 2])),q0 0 3] .ret))
def rv6:List RV:=[(.tmp 0)]
theorem hc6:cc Tryz.f6=some sc6:=by kernel_rfl
theorem hr6:ce Tryz.f6=some rv6:=by kernel_rfl
def sc7:SC:=(so [(o 2 (.alloc [(.str (ByteArray.mk (Array.mk []))),.nilslice,.nilslice]))] (so [mv 7 0,qb 8 24 7,mv 6 8,q9 9 6 0,q9 10 6 1,q9 11 6 2,(o 3 (.alloc [(.str (ByteArray.mk (Array.mk []))),.nilslice,.nilslice])),q3 3 3 9,q0 4 10,q0 5 11] (so [q2 12 3 3,q3 3 2 12] .ret)))
def rv7:List RV:=[(.cell 2 (.some 3))]
theorem hc7:cc Tryz.f7=some sc7:=by kernel_rfl
theorem hr7:ce Tryz.f7=some rv7:=by kernel_rfl
def sc12:SC:=(so [qp 0 false] (so [(o 3 (.bslice 1 2 [(ki 0),(ki 1)])),(o 4 (.build [(.int .i64 0),.nilslice,.nilslice,.nilslice,(.bool false),(.bool false)] [(0,(1,(ki 3))),(1,(1,(qt 3)))])),(o 5 (.call 35 [qt 4,(ki 3)])),(o 1 (.alloc [.nilslice,.nilslice])),q3 2 1 5] (so [(o 6 (.bslice 1 2 [(ki 0),(ki 0)])),(o 7 (.bslice 1 2 [(ki 1),(.k (.int .i64 (-1)))])),(o 8 (.bslice 1 2 [(ki 0),(ki 0)])),(o 9 (.bslice 1 3 [qt 6,qt 7,qt 8])),q0 2 9] (so [q2 10 2 1,mv 11 2,qc 12 36 10 11,mv 13 12,(ot 14 13 (.load (.some 2) (qt 1))),ot 15 13 (pm 2),(ot 16 13 (.call 38 [qt 14,qt 15])),(ot 17 13 (.bslice 1 3 [(ki 1),(ki 1),(ki 1)])),(ot 18 13 (.call 37 [qt 16,qt 17])),qo 19 13 18,mv 20 19,(ot 21 20 (.load (.some 2) (qt 1))),(ot 22 20 (.bslice 1 2 [(ki 0),(ki 0)])),(ot 23 20 (.bslice 1 2 [(ki 1),(ki 0)])),(ot 24 20 (.bslice 1 2 [(ki 0),(ki 0)])),(ot 25 20 (.bslice 1 3 [qt 22,qt 23,qt 24])),(ot 26 20 (.call 36 [qt 21,qt 25])),(ot 27 20 (.p (.un .not (qt 26)))),qo 28 20 27,q0 0 28] .ret))))
def rv12:List RV:=[(.tmp 0)]
theorem hc12:cc Tryz.f12=some sc12:=by kernel_rfl
theorem hr12:ce Tryz.f12=some rv12:=by kernel_rfl
def sc15:SC:=(so [q7 3 0,q7 4 1,(o 6 (.asg (.k (.int .u32 0))))] (.seq (so [q2 7 3 3,q2 8 2 4,mv 9 2,qd 10 41 7 8 9,(o 11 (.p (.un .not (qt 10))))] (.cond (qt 11) (so [(o 6 (.asg (.k (.int .u32 0))))] .ret) .skip)) (so [q2 12 3 3,q2 13 2 4,qc 14 42 12 13,mv 15 2,qc 16 43 14 15,q0 6 16] .ret)))
def rv15:List RV:=[(.tmp 6)]
theorem hc15:cc Tryz.f15=some sc15:=by kernel_rfl
theorem hr15:ce Tryz.f15=some rv15:=by kernel_rfl
def sc16:SC:=(so [qm 4] (so [mv 10 0,qa 11 10,(o 12 (.xt (Go.Eng.XOp.mks 1 24 [.nilslice] (qt 11)))),q0 5 12] (.seq (so [mv 13 0,qa 14 13,(o 15 (.p (.mv (ki 0))))] (.block 0 (.loop (so [q5 16 15 14] (.seq (q6 16 0) (.seq (.block 1 (so [mv 17 15,q1 18 1 13 15,ld 19 18,q0 6 17,q0 7 19] (so [mv 20 7,mv 21 7,qa 22 21,(o 23 (.p (.mn (qt 22) (ki 32)))),(o 24 (.p (.slc 1 (qt 20) none (.some (qt 23)) none false))),qa 25 24,(o 26 (.p (.mv (ki 0))))] (.block 2 (.loop (so [q5 27 26 25] (.seq (q6 27 2) (.seq (.block 3 (so [mv 28 26,q1 29 1 24 26,ld 30 29,q0 8 28,q0 9 30] (so [mv 31 1,mv 32 8,ql 33 .shr 31 32,(o 34 (bn .and (qt 33) (.k (.int .u32 1)))),(o 35 (bn .eql (qt 34) (.k (.int .u32 1))))] (.cond (qt 35) (.ops [mv 36 5,mv 37 6,mv 38 5,mv 39 6,q1 40 1 38 39,ld 41 40,mv 42 9,(o 43 (.bslice 1 1 [qt 42])),(o 44 (.app 1 8 (qt 41) (qt 43))),q1 45 1 36 37,q3 1 45 44]) .skip)))) (.ops [q4 46 26 1,mv 26 46]))))))))) (.ops [q4 47 15 1,mv 15 47]))))))) (so [mv 48 5,q0 4 48] .ret))))
def rv16:List RV:=[(.tmp 4)]
theorem hc16:cc Tryz.f16=some sc16:=by kernel_rfl
theorem hr16:ce Tryz.f16=some rv16:=by kernel_rfl
def sc17:SC:=(so [q7 2 0,(o 4 (.alloc [.nilslice,.nilslice]))] (.seq (.draw [(.op 0 (q2 5 6 2)),(.op 1 (q2 6 6 2)),qe 2 7 1,(.eff 3 [] [((.some 6),(2,5))] (qc 8 35 6 7)),(ef 4 (qc 9 18 5 8)),(ef 5 (q3 2 4 9))]) .ret))
def rv17:List RV:=[(.cell 4 (.some 2))]
theorem hc17:cc Tryz.f17=some sc17:=by kernel_rfl
theorem hr17:ce Tryz.f17=some rv17:=by kernel_rfl
def sc18:SC:=(so [q7 2 0,q7 3 1,(o 4 (.alloc [.nilslice,.nilslice]))] (so [fl 7 1 3,ld 8 7,qa 9 8,q0 5 9] (.seq (so [mv 10 5,q0 6 10] (.block 0 (.loop (.seq (so [mv 11 6,q4 12 11 1,fl 13 1 2,ld 14 13,qa 15 14,q5 16 12 15,mv 17 16,ot 18 17 (pm 6),(ot 19 17 (bn .lss (qt 18) (ki 60))),qo 20 17 19] (q6 20 0)) (.seq (.block 1 (.draw [(.op 0 (q2 23 6 2)),(.op 1 (q2 24 2 3)),qg 2 25 1 2,qf 3 26 25,qe 4 27 6,qi 5 28 1 26 27,qf 6 29 28,qe 7 30 5,qg 9 32 1 2,qf 10 33 32,qe 11 34 6,(.op 12 (q4 35 34 1)),qi 13 36 1 33 35,qf 14 37 36,qe 15 38 5,qg 17 40 2 2,qf 18 41 40,qe 19 42 6,(.eff 8 [] [((.some 6),(2,23)),((.some 2),(3,24)),(none,(32,33)),(none,(36,37)),(none,(40,41))] (qc 31 20 29 30)),(.eff 16 [] [((.some 6),(2,23)),((.some 2),(3,24)),(none,(40,41))] (qc 39 20 37 38)),(.eff 20 [] [((.some 6),(2,23)),((.some 2),(3,24))] (qc 43 21 41 42)),(.eff 21 [] [((.some 6),(2,23)),((.some 2),(3,24))] (o 44 (.call 20 [qt 43,(ki 15)]))),(.op 22 (o 45 (bn .add (ki 1) (qt 44)))),(ef 23 (o 46 (.call 44 [qt 23,qt 24,qt 31,qt 39,qt 45])))])) (.ops [mv 21 6,q4 22 21 2,q0 6 22])))))) (so [q2 47 2 3,q3 2 4 47] .ret))))
def rv18:List RV:=[(.cell 4 (.some 2))]
theorem hc18:cc Tryz.f18=some sc18:=by kernel_rfl
theorem hr18:ce Tryz.f18=some rv18:=by kernel_rfl
def sc19:SC:=(so [q7 2 0,(o 4 (.alloc [.nilslice,.nilslice]))] (so [fl 10 0 2,ld 11 10,(o 12 (bn .sub (qt 11) (ki 1))),mv 13 1,qc 14 20 12 13,(o 15 (bn .add (ki 1) (qt 14))),q0 5 15] (so [mv 16 5,(o 17 (.xt (Go.Eng.XOp.mks 1 24 [.nilslice] (qt 16)))),(o 18 (.build [.nilslice,.nilslice] [(1,(1,(qt 17)))])),(o 6 (.alloc [.nilslice,.nilslice])),q3 2 6 18] (.seq (so [q8 7 0] (.block 0 (.loop (.seq (so [mv 19 7,mv 20 5,q5 21 19 20] (q6 21 0)) (.seq (.block 1 (so [fl 24 3 2,ld 25 24,mv 26 7,qc 27 21 25 26,(o 28 (.call 20 [qt 27,(ki 256)])),q0 8 28] (.seq (so [q8 9 0] (.block 2 (.loop (.seq (so [mv 29 9,mv 30 7,q5 31 29 30] (q6 31 2)) (.seq (.block 3 (so [fl 34 0 6,ld 35 34,mv 36 9,q1 37 1 35 36,ld 38 37,mv 39 8,ql 40 .eql 38 39] (.cond (qt 40) (.ops [mv 41 8,q4 42 41 1,(o 43 (bn .rem (qt 42) (ki 256))),q0 8 43,(o 9 (.asg (.k (.int .i64 (-1)))))]) .skip))) (.ops [mv 32 9,q4 33 32 1,q0 9 33])))))) (.ops [fl 44 0 6,ld 45 44,mv 46 8,(o 47 (.bslice 1 1 [qt 46])),(o 48 (.app 1 8 (qt 45) (qt 47))),fl 49 0 6,q3 1 49 48])))) (.ops [mv 22 7,q4 23 22 1,q0 7 23])))))) (so [q2 50 2 6,q3 2 4 50] .ret)))))
def rv19:List RV:=[(.cell 4 (.some 2))]
theorem hc19:cc Tryz.f19=some sc19:=by kernel_rfl
theorem hr19:ce Tryz.f19=some rv19:=by kernel_rfl
def sc20:SC:=(so [q8 4 0] (.seq (so [mv 5 1,(o 6 (bn .lss (qt 5) (ki 1)))] (.cond (qt 6) (so [q8 4 0] .ret) .skip)) (so [mv 7 0,mv 8 1,ql 9 .rem 7 8,q0 0 9] (.seq (so [mv 10 0,(o 11 (bn .lss (qt 10) (ki 0)))] (.cond (qt 11) (.ops [mv 12 0,mv 13 1,ql 14 .add 12 13,q0 0 14]) .skip)) (so [mv 15 0,q0 4 15] .ret)))))
def rv20:List RV:=[(.tmp 4)]
theorem hc20:cc Tryz.f20=some sc20:=by kernel_rfl
theorem hr20:ce Tryz.f20=some rv20:=by kernel_rfl
def sc21:SC:=(so [q8 4 0] (.seq (so [mv 5 1,mv 6 0,qa 7 6,q5 8 5 7] (.cond (qt 8) (so [mv 9 0,mv 10 1,q1 11 1 9 10,ld 12 11,q0 4 12] .ret) .skip)) (so [q8 4 0] .ret)))
def rv21:List RV:=[(.tmp 4)]
theorem hc21:cc Tryz.f21=some sc21:=by kernel_rfl
theorem hr21:ce Tryz.f21=some rv21:=by kernel_rfl
def sc22:SC:=(so [(o 2 (.alloc [(.str (ByteArray.mk (Array.mk []))),(.int .i64 0),(.int .i64 0),(.int .i64 0),(.int .i64 0),(.int .i64 0)]))] (so [mv 3 0,(o 4 (.build [(.str (ByteArray.mk (Array.mk []))),(.int .i64 0),(.int .i64 0),(.int .i64 0),(.int .i64 0),(.int .i64 0)] [(0,(1,(qt 3))),(1,(1,(ki 2)))])),q3 6 2 4] .ret))
def rv22:List RV:=[(.cell 2 (.some 6))]
theorem hc22:cc Tryz.f22=some sc22:=by kernel_rfl
theorem hr22:ce Tryz.f22=some rv22:=by kernel_rfl
def sc23:SC:=(so [(o 2 (.alloc [(.str (ByteArray.mk (Array.mk []))),(.int .i64 0),(.int .i64 0),(.int .i64 0),(.int .i64 0),(.int .i64 0)]))] (so [mv 3 0,(o 4 (.build [(.str (ByteArray.mk (Array.mk []))),(.int .i64 0),(.int .i64 0),(.int .i64 0),(.int .i64 0),(.int .i64 0)] [(0,(1,(qt 3))),(1,(1,(ki 3)))])),q3 6 2 4] .ret))
def rv23:List RV:=[(.cell 2 (.some 6))]
theorem hc23:cc Tryz.f23=some sc23:=by kernel_rfl
theorem hr23:ce Tryz.f23=some rv23:=by kernel_rfl
def sc35:SC:=(so [q7 2 0,(o 4 (.alloc [.nilslice,.nilslice]))] (so [q2 7 6 2,mv 8 1,qc 9 19 7 8,(o 5 (.alloc [.nilslice,.nilslice])),q3 2 5 9] (.seq (so [q8 6 1] (.block 0 (.loop (.seq (so [mv 10 6,fl 11 1 5,ld 12 11,qa 13 12,q5 14 10 13] (q6 14 0)) (.seq (.block 1 (.draw [(.op 0 (q2 17 6 2)),(.op 1 (q2 18 2 5)),qg 2 19 1 2,qf 3 20 19,qe 4 21 6,(.op 5 (o 22 (bn .sub (qt 21) (ki 1)))),qe 7 24 6,qe 9 26 6,qg 10 27 2 2,qf 11 28 27,qe 12 29 6,(.op 13 (o 30 (bn .sub (qt 29) (ki 1)))),(.eff 6 [] [((.some 6),(2,17)),((.some 2),(5,18)),(none,(27,28))] (qc 23 21 20 22)),(.eff 8 [] [((.some 6),(2,17)),((.some 2),(5,18)),(none,(27,28))] (qc 25 20 23 24)),(.eff 14 [] [((.some 6),(2,17)),((.some 2),(5,18))] (qc 31 21 28 30)),(.eff 15 [] [((.some 6),(2,17)),((.some 2),(5,18))] (o 32 (.call 20 [qt 31,(ki 15)]))),(.op 16 (o 33 (bn .add (ki 1) (qt 32)))),(ef 17 (o 34 (.call 44 [qt 17,qt 18,qt 25,qt 26,qt 33])))])) (.ops [mv 15 6,q4 16 15 1,q0 6 16])))))) (so [q2 35 2 5,q3 2 4 35] .ret))))
def rv35:List RV:=[(.cell 4 (.some 2))]
theorem hc35:cc Tryz.f35=some sc35:=by kernel_rfl
theorem hr35:ce Tryz.f35=some rv35:=by kernel_rfl
def sc36:SC:=(so [q7 2 0,q7 3 1,qp 4 false] (.seq (.seq (.draw [(.op 0 (q2 8 2 2)),qf 1 9 3,(ef 2 (qc 10 56 8 9)),(.op 3 (o 11 (.p (.un .not (qt 10))))),qe 4 12 11,(.op 5 (of 13 12 (.load (.some 2) (qt 2)))),(.op 6 (of 14 12 (.load none (qt 3)))),(.eff 7 [] [((.some 2),(2,13))] (of 15 12 (.call 58 [qt 14,(ki 0)]))),(ef 8 (of 16 12 (.call 57 [qt 13,qt 15]))),(.op 9 (of 17 12 (.p (.un .not (qt 16))))),(.op 10 (qn 18 12 17))]) (.cond (qt 18) (so [qp 4 false] .ret) .skip)) (.seq (so [ld 19 3,qa 20 19,(o 21 (.p (.mv (ki 0))))] (.block 0 (.loop (so [q5 22 21 20] (.seq (q6 22 0) (.seq (.block 1 (so [mv 23 21,q1 24 1 19 21,ld 25 24,q0 5 23,q0 6 25] (so [(o 7 (.asg (.k (.int .i64 (-1)))))] (.seq (so [mv 26 6,(o 27 (.p (.ixs 1 (qt 26) (ki 0)))),ld 28 27,qj 29 28 0] (.cond (qt 29) (.ops [q2 30 2 2,mv 31 5,(o 32 (.p (.mkfn (.func 60) false [qt 3]))),qd 33 59 30 31 32,q0 7 33]) .skip)) (so [mv 34 6,(o 35 (.p (.ixs 1 (qt 34) (ki 1)))),ld 36 35,mv 37 7,ql 38 .neq 36 37] (.cond (qt 38) (so [qp 4 false] .ret) .skip)))))) (.ops [q4 39 21 1,mv 21 39]))))))) (so [qp 4 true] .ret))))
def rv36:List RV:=[(.tmp 4)]
theorem hc36:cc Tryz.f36=some sc36:=by kernel_rfl
theorem hr36:ce Tryz.f36=some rv36:=by kernel_rfl
def sc37:SC:=(so [qp 4 false] (.seq (so [mv 6 0,qa 7 6,mv 8 1,qa 9 8,ql 10 .neq 7 9] (.cond (qt 10) (so [qp 4 false] .ret) .skip)) (.seq (so [q8 5 0] (.block 0 (.loop (.seq (so [mv 11 5,mv 12 0,qa 13 12,q5 14 11 13] (q6 14 0)) (.seq (.block 1 (.seq (.draw [qe 0 17 0,qe 1 18 5,qi 2 19 1 17 18,qf 3 20 19,qe 4 21 1,qe 5 22 5,qi 6 23 1 21 22,qf 7 24 23,(.op 8 (ql 25 .neq 20 24))]) (.cond (qt 25) (so [qp 4 false] .ret) .skip))) (.ops [mv 15 5,q4 16 15 1,q0 5 16])))))) (so [qp 4 true] .ret))))
def rv37:List RV:=[(.tmp 4)]
theorem hc37:cc Tryz.f37=some sc37:=by kernel_rfl
theorem hr37:ce Tryz.f37=some rv37:=by kernel_rfl
def sc38:SC:=(so [q7 2 0,qm 4] (.seq (so [q2 8 2 2,mv 9 1,qc 10 56 8 9,(o 11 (.p (.un .not (qt 10))))] (.cond (qt 11) (so [qm 4] .ret) .skip)) (so [q2 12 2 2,mv 13 1,(o 14 (.call 61 [qt 12,qt 13,(ki 1)])),q0 5 14] (.seq (so [mv 15 1,qa 16 15,(o 17 (.p (.mv (ki 0))))] (.block 0 (.loop (so [q5 18 17 16] (.seq (q6 18 0) (.seq (.block 1 (so [mv 19 17,q1 20 1 15 17,ld 21 20,q0 6 19,q0 7 21] (so [mv 22 7,(o 23 (.p (.ixs 1 (qt 22) (ki 0)))),ld 24 23,qj 25 24 1] (.cond (qt 25) (.ops [mv 26 5,mv 27 6,mv 28 6,q1 29 1 26 27,q3 1 29 28]) .skip)))) (.ops [q4 30 17 1,mv 17 30]))))))) (so [mv 31 5,q0 4 31] .ret)))))
def rv38:List RV:=[(.tmp 4)]
theorem hc38:cc Tryz.f38=some sc38:=by kernel_rfl
theorem hr38:ce Tryz.f38=some rv38:=by kernel_rfl
def sc41:SC:=(so [q7 3 0,q7 4 1,qp 6 false] (so [q2 7 3 3,q2 8 2 4,mv 9 2,qd 10 63 7 8 9,qj 11 10 0,q0 6 11] .ret))
def rv41:List RV:=[(.tmp 6)]
theorem hc41:cc Tryz.f41=some sc41:=by kernel_rfl
theorem hr41:ce Tryz.f41=some rv41:=by kernel_rfl
def sc42:SC:=(so [q7 2 0,q7 3 1,(o 4 (.asg (.k .nilptr)))] (.seq (.draw [(.op 0 (q2 5 3 2)),(.op 1 (q2 6 3 2)),(.op 2 (q2 7 2 3)),(.op 4 (q2 9 3 2)),(.op 5 (q2 10 2 3)),(.eff 3 [] [((.some 3),(2,5)),((.some 3),(2,9)),((.some 2),(3,10))] (qc 8 64 6 7)),(.eff 6 [] [((.some 3),(2,5))] (qc 11 65 9 10)),(.op 7 (o 12 (.build [(.str (ByteArray.mk (Array.mk []))),.nilslice,.nilslice,.nilptr,.nilslice] [(0,(3,(qt 5))),(3,(1,(qt 8))),(4,(1,(qt 11)))]))),(.op 8 (q7 13 12)),(ef 9 (q0 4 13))]) .ret))
def rv42:List RV:=[(.tmp 4)]
theorem hc42:cc Tryz.f42=some sc42:=by kernel_rfl
theorem hr42:ce Tryz.f42=some rv42:=by kernel_rfl
def sc43:SC:=(so [q7 2 0,q7 3 1,(o 4 (.asg (.k (.int .u32 0))))] (so [ld 5 2,nc 6 5,fl 7 4 6,ld 8 7,qa 9 8,(o 10 (.p (.mkfn (.func 67) false [qt 2,qt 3]))),qc 11 66 9 10,q0 4 11] .ret))
def rv43:List RV:=[(.tmp 4)]
theorem hc43:cc Tryz.f43=some sc43:=by kernel_rfl
theorem hr43:ce Tryz.f43=some rv43:=by kernel_rfl
def sc44:SC:=(so [q7 5 0,q7 6 1] (.seq (so [mv 12 2,mv 13 3,ql 14 .eql 12 13,mv 15 14,(of 16 15 (.load (.some 2) (qt 6))),of 17 15 (pm 2),of 18 15 (pm 3),(of 19 15 (.call 69 [qt 16,qt 17,qt 18])),qn 20 15 19] (.cond (qt 20) .ret .skip)) (so [mv 21 3,mv 22 4,(o 23 (.build [(.int .i64 0),(.int .i64 0)] [(0,(1,(qt 21))),(1,(1,(qt 22)))])),mv 24 2,mv 25 4,(o 26 (.build [(.int .i64 0),(.int .i64 0)] [(0,(1,(qt 24))),(1,(1,(qt 25)))])),(o 10 (.alloc [(.int .i64 0),(.int .i64 0)])),(o 11 (.alloc [(.int .i64 0),(.int .i64 0)])),q3 2 10 23,q3 2 11 26] (.seq (so [fl 27 5 5,ld 28 27] (.cond (qt 28) (.seq (.draw [qg 0 29 1 6,qf 1 30 29,qe 2 31 2,(.op 3 (q2 32 2 10)),(.op 4 (o 33 (.bslice 2 1 [qt 32]))),qg 5 34 1 6,qf 6 35 34,qe 7 36 2,qi 8 37 1 35 36,qf 9 38 37,(.eff 10 [] [(none,(29,30))] (o 39 (.app 2 16 (qt 33) (qt 38)))),qi 11 40 1 30 31,(ef 12 (q3 1 40 39))]) (.seq (.draw [qg 0 41 1 6,qf 1 42 41,qe 2 43 3,(.op 3 (q2 44 2 11)),(.op 4 (o 45 (.bslice 2 1 [qt 44]))),qg 5 46 1 6,qf 6 47 46,qe 7 48 3,qi 8 49 1 47 48,qf 9 50 49,(.eff 10 [] [(none,(41,42))] (o 51 (.app 2 16 (qt 45) (qt 50)))),qi 11 52 1 42 43,(ef 12 (q3 1 52 51))]) .ret)) .skip)) (.draw [qg 0 53 1 6,qf 1 54 53,qe 2 55 2,qg 3 56 1 6,qf 4 57 56,qe 5 58 3,qg 6 59 1 6,qf 7 60 59,qe 8 61 2,qi 9 62 1 60 61,qf 10 63 62,(.op 11 (q2 64 2 10)),(.op 12 (o 65 (.bslice 2 1 [qt 64]))),qg 14 67 1 6,qf 15 68 67,qe 16 69 3,qi 17 70 1 68 69,qf 18 71 70,(.op 19 (q2 72 2 11)),(.op 20 (o 73 (.bslice 2 1 [qt 72]))),(.eff 13 [73] [(none,(53,54)),(none,(56,57)),(none,(67,68)),(none,(70,71)),((.some 2),(11,72))] (o 66 (.app 2 16 (qt 63) (qt 65)))),(.eff 21 [] [(none,(53,54)),(none,(56,57))] (o 74 (.app 2 16 (qt 71) (qt 73)))),qi 22 75 1 54 55,(.eff 23 [] [(none,(56,57))] (q3 1 75 66)),qi 24 76 1 57 58,(ef 25 (q3 1 76 74))])))))
def rv44:List RV:=[]
theorem hc44:cc Tryz.f44=some sc44:=by kernel_rfl
theorem hr44:ce Tryz.f44=some rv44:=by kernel_rfl
def sc56:SC:=(so [q7 2 0,qp 4 false] (so [q2 5 2 2,qb 6 88 5,mv 7 6,(ot 8 7 (.load (.some 2) (qt 2))),ot 9 7 (pm 1),(ot 10 7 (.bslice 1 2 [(ki 1),(.k (.int .i64 (-1)))])),(ot 11 7 (.call 89 [qt 8,qt 9,qt 10])),qo 12 7 11,q0 4 12] .ret))
def rv56:List RV:=[(.tmp 4)]
theorem hc56:cc Tryz.f56=some sc56:=by kernel_rfl
theorem hr56:ce Tryz.f56=some rv56:=by kernel_rfl
def sc57:SC:=(so [q7 2 0,qp 4 false] (.seq (.draw [(.op 0 (q2 5 2 2)),qe 1 6 1,(.op 3 (q2 8 2 2)),qe 5 10 1,(.eff 2 [] [((.some 2),(2,8))] (qc 7 90 5 6)),(ef 4 (qb 9 91 8)),(.op 6 (o 11 (bn .andNot (qt 9) (qt 10)))),(.op 7 (ql 12 .eql 7 11)),(ef 8 (q0 4 12))]) .ret))
def rv57:List RV:=[(.tmp 4)]
theorem hc57:cc Tryz.f57=some sc57:=by kernel_rfl
theorem hr57:ce Tryz.f57=some rv57:=by kernel_rfl
def sc58:SC:=(so [(o 4 (.asg (.k (.int .u32 0))))] (so [(o 5 (.asg (.k (.int .u32 0))))] (.seq (so [mv 8 0,qa 9 8,(o 10 (.p (.mv (ki 0))))] (.block 0 (.loop (so [q5 11 10 9] (.seq (q6 11 0) (.seq (.block 1 (so [mv 12 10,q1 13 1 8 10,ld 14 13,q0 6 12,q0 7 14] (.ops [mv 15 5,mv 16 7,mv 17 1,q1 18 1 16 17,ld 19 18,(o 20 (.p (.toint .u32 (qt 19)))),mv 21 6,ql 22 .shl 20 21,ql 23 .or 15 22,q0 5 23]))) (.ops [q4 24 10 1,mv 10 24]))))))) (so [mv 25 5,q0 4 25] .ret))))
def rv58:List RV:=[(.tmp 4)]
theorem hc58:cc Tryz.f58=some sc58:=by kernel_rfl
theorem hr58:ce Tryz.f58=some rv58:=by kernel_rfl
def sc59:SC:=(so [q7 3 0,q8 6 0] (.seq (so [fl 9 1 3,ld 10 9,mv 11 1,q1 12 1 10 11,ld 13 12,qa 14 13,(o 15 (.p (.mv (ki 0))))] (.block 0 (.loop (so [q5 16 15 14] (.seq (q6 16 0) (.seq (.block 1 (so [mv 17 15,q1 18 2 13 15,q2 19 2 18,(o 8 (.alloc [(.int .i64 0),(.int .i64 0)])),q0 7 17,q3 2 8 19] (so [mv 20 2,q2 21 2 8,(o 22 (.callv (qt 20) [qt 21]))] (.cond (qt 22) (so [mv 23 7,q0 6 23] .ret) .skip)))) (.ops [q4 24 15 1,mv 15 24]))))))) (so [(o 6 (.asg (.k (.int .i64 (-1)))))] .ret)))
def rv59:List RV:=[(.tmp 6)]
theorem hc59:cc Tryz.f59=some sc59:=by kernel_rfl
theorem hr59:ce Tryz.f59=some rv59:=by kernel_rfl
def sc60:SC:=(so [q7 2 0,qp 3 false] (so [ld 4 1,fl 5 0 2,ld 6 5,q1 7 1 4 6,ld 8 7,(o 9 (.p (.ixs 1 (qt 8) (ki 0)))),ld 10 9,qj 11 10 1,q0 3 11] .ret))
def rv60:List RV:=[(.tmp 3)]
theorem hc60:cc Tryz.f60=some sc60:=by kernel_rfl
theorem hr60:ce Tryz.f60=some rv60:=by kernel_rfl
def sc61:SC:=(so [q7 3 0,qm 6] (so [mv 10 1,qa 11 10,(o 12 (.xt (Go.Eng.XOp.mks 1 8 [(.int .i64 0)] (qt 11)))),q0 7 12] (.seq (so [mv 13 1,qa 14 13,(o 15 (.p (.mv (ki 0))))] (.block 0 (.loop (so [q5 16 15 14] (.seq (q6 16 0) (.seq (.block 1 (so [mv 17 15,q1 18 1 13 15,ld 19 18,q0 8 17,q0 9 19] (so [mv 20 7,mv 21 8,q1 22 1 20 21,(on (.store 1 (qt 22) (.k (.int .i64 (-1)))))] (so [mv 23 9,mv 24 2,q1 25 1 23 24,ld 26 25,(o 27 (bn .geq (qt 26) (ki 0)))] (.cond (qt 27) (.draw [qe 0 28 7,qe 1 29 8,qg 2 30 1 3,qf 3 31 30,qe 4 32 8,qi 5 33 1 31 32,qf 6 34 33,qe 7 35 9,qe 8 36 2,qi 9 37 1 35 36,qf 10 38 37,qi 11 39 2 34 38,qg 12 40 0 39,qf 13 41 40,qi 14 42 1 28 29,(ef 15 (q3 1 42 41))]) .skip))))) (.ops [q4 43 15 1,mv 15 43]))))))) (so [mv 44 7,q0 6 44] .ret))))
def rv61:List RV:=[(.tmp 6)]
theorem hc61:cc Tryz.f61=some sc61:=by kernel_rfl
theorem hr61:ce Tryz.f61=some rv61:=by kernel_rfl
def sc63:SC:=(so [q7 3 0,q7 4 1,q8 6 0] (.seq (so [q2 8 3 3,q2 9 2 4,qc 10 92 8 9,q0 7 10] (so [mv 11 7,qk 12 11 0] (.cond (qt 12) (so [mv 13 7,q0 6 13] .ret) .skip))) (.seq (so [q2 14 3 3,q2 15 2 4,qc 16 65 14 15,mv 17 2,qc 18 93 16 17,(o 19 (.p (.un .not (qt 18))))] (.cond (qt 19) (so [q8 6 10] .ret) .skip)) (so [q8 6 0] .ret))))
def rv63:List RV:=[(.tmp 6)]
theorem hc63:cc Tryz.f63=some sc63:=by kernel_rfl
theorem hr63:ce Tryz.f63=some rv63:=by kernel_rfl
def sc64:SC:=(so [q7 2 0,q7 3 1,(o 4 (.asg (.k .nilptr)))] (.seq (.draw [(.op 0 (q2 10 3 2)),(.op 1 (q2 11 2 3)),qg 2 12 1 3,qf 3 13 12,(.op 4 (qa 14 13)),(.op 5 (o 15 (.xt (Go.Eng.XOp.mks 1 24 [.nilslice] (qt 14))))),(.op 6 (o 16 (.build [(.str (ByteArray.mk (Array.mk []))),.nilslice,.nilslice,.nilslice,.nilslice,(.int .i64 0),.nilslice] [(0,(3,(qt 10))),(3,(2,(qt 11))),(6,(1,(qt 15)))]))),(.op 7 (q7 17 16)),(ef 8 (q0 5 17))]) (.seq (so [fl 18 1 3,ld 19 18,qa 20 19,(o 21 (.p (.mv (ki 0))))] (.block 0 (.loop (so [q5 22 21 20] (.seq (q6 22 0) (.seq (.block 1 (so [mv 23 21,q1 24 1 19 21,ld 25 24,q0 6 23,q0 7 25] (.seq (.draw [qe 0 26 5,qe 1 27 5,qh 2 28 27,qg 3 29 5 28,qf 4 30 29,qg 5 31 0 3,qf 6 32 31,qe 7 33 6,qi 8 34 1 32 33,qf 9 35 34,(.op 10 (o 36 (.p (.mx (qt 30) (qt 35))))),qh 11 37 26,qg 12 38 5 37,(ef 13 (q3 1 38 36))]) (so [mv 39 7,qa 40 39,(o 41 (.p (.mv (ki 0))))] (.block 2 (.loop (so [q5 42 41 40] (.seq (q6 42 2) (.seq (.block 3 (so [q1 43 2 39 41,q2 44 2 43,(o 9 (.alloc [(.int .i64 0),(.int .i64 0)])),q3 2 9 44] (.draw [qe 0 45 5,qh 1 46 45,qg 2 47 6 46,qf 3 48 47,qe 4 49 6,qe 5 50 5,qh 6 51 50,qg 7 52 6 51,qf 8 53 52,qe 9 54 6,qi 10 55 1 53 54,qf 11 56 55,(.op 12 (q2 57 2 3)),qg 13 58 0 9,qf 14 59 58,qe 15 60 6,(.eff 16 [] [(none,(47,48)),(none,(52,53)),(none,(55,56))] (qd 61 94 57 59 60)),(.op 17 (o 62 (.bslice 1 1 [qt 61]))),(.eff 18 [] [(none,(47,48))] (o 63 (.app 1 8 (qt 56) (qt 62)))),qi 19 64 1 48 49,(ef 20 (q3 1 64 63))]))) (.ops [q4 65 41 1,mv 41 65])))))))))) (.ops [q4 66 21 1,mv 21 66]))))))) (so [mv 67 5,q0 4 67] .ret))))
def rv64:List RV:=[(.tmp 4)]
theorem hc64:cc Tryz.f64=some sc64:=by kernel_rfl
theorem hr64:ce Tryz.f64=some rv64:=by kernel_rfl
def sc65:SC:=(so [q7 2 0,q7 3 1,qm 4] (so [fl 9 0 3,ld 10 9,qa 11 10,(o 12 (.xt (Go.Eng.XOp.mks 1 24 [.nilslice] (qt 11)))),q0 5 12] (.seq (so [mv 13 5,qa 14 13,(o 15 (.p (.mv (ki 0))))] (.block 0 (.loop (so [q5 16 15 14] (.seq (q6 16 0) (.seq (.block 1 (so [mv 17 15,q0 6 17] (so [mv 18 5,mv 19 6,fl 20 1 2,ld 21 20,qa 22 21,(o 23 (.xt (Go.Eng.XOp.mks 2 16 [(.int .i64 0),(.int .i64 0)] (qt 22)))),q1 24 1 18 19,q3 1 24 23] (so [fl 25 1 2,ld 26 25,qa 27 26,(o 28 (.p (.mv (ki 0))))] (.block 2 (.loop (so [q5 29 28 27] (.seq (q6 29 2) (.seq (.block 3 (so [mv 30 28,q1 31 6 26 28,q2 32 6 31,(o 8 (.alloc [(.str (ByteArray.mk (Array.mk []))),(.int .i64 0),(.int .i64 0),(.int .i64 0),(.int .i64 0),(.int .i64 0)])),q0 7 30,q3 6 8 32] (.draw [qe 0 34 5,qe 1 35 6,qi 2 36 1 34 35,qf 3 37 36,qe 4 38 7,qe 5 39 5,qe 6 40 6,qi 7 41 1 39 40,qf 8 42 41,qe 9 43 7,(.op 10 (q2 44 6 8)),(.op 11 (q2 45 2 3)),qe 12 46 6,qi 17 50 2 37 38,qi 20 52 2 42 43,(.eff 13 [] [(none,(36,37)),(none,(41,42))] (qd 47 95 44 45 46)),qe 14 33 47,(.op 15 (q9 48 33 0)),(.op 16 (q9 49 33 1)),(.op 18 (o 51 (.p (.ixa 2 1 (qt 50) (ki 0))))),(ef 19 (q3 1 51 48)),(.op 21 (o 53 (.p (.ixa 2 1 (qt 52) (ki 1))))),(ef 22 (q3 1 53 49))]))) (.ops [q4 54 28 1,mv 28 54])))))))))) (.ops [q4 55 15 1,mv 15 55]))))))) (so [mv 56 5,q0 4 56] .ret))))
def rv65:List RV:=[(.tmp 4)]
theorem hc65:cc Tryz.f65=some sc65:=by kernel_rfl
theorem hr65:ce Tryz.f65=some rv65:=by kernel_rfl
def sc66:SC:=(so [(o 4 (.asg (.k (.int .u32 0))))] (so [(o 5 (.asg (.k (.int .u32 0))))] (.seq (so [mv 7 0,(o 8 (.p (.mv (ki 0))))] (.block 0 (.loop (so [q5 9 8 7] (.seq (q6 9 0) (.seq (.block 1 (so [mv 10 8,q0 6 10] (so [mv 11 1,mv 12 6,(o 13 (.callv (qt 11) [qt 12]))] (.cond (qt 13) (.ops [mv 14 5,mv 15 6,(o 16 (bn .shl (.k (.int .u32 1)) (qt 15))),ql 17 .or 14 16,q0 5 17]) .skip)))) (.ops [q4 18 8 1,mv 8 18]))))))) (so [mv 19 5,q0 4 19] .ret))))
def rv66:List RV:=[(.tmp 4)]
theorem hc66:cc Tryz.f66=some sc66:=by kernel_rfl
theorem hr66:ce Tryz.f66=some rv66:=by kernel_rfl
def sc67:SC:=(so [qp 4 false] (so [ld 5 1,ld 6 2,mv 7 0,qd 8 68 5 6 7,(o 9 (bn .geq (qt 8) (ki 0))),q0 4 9] .ret))
def rv67:List RV:=[(.tmp 4)]
theorem hc67:cc Tryz.f67=some sc67:=by kernel_rfl
theorem hr67:ce Tryz.f67=some rv67:=by kernel_rfl
def sc68:SC:=(so [q8 6 0] (.seq (so [mv 8 0,nc 9 8,fl 10 0 9,fl 11 2 10,ld 12 11,qa 13 12,(o 14 (.p (.mv (ki 0))))] (.block 0 (.loop (so [q5 15 14 13] (.seq (q6 15 0) (.seq (.block 1 (so [mv 16 14,q0 7 16] (so [mv 17 0,nc 18 17,fl 19 3 18,ld 20 19,mv 21 1,mv 22 2,mv 23 7,(o 24 (.call 96 [qt 20,qt 21,qt 22,qt 23]))] (.cond (qt 24) (so [mv 25 7,q0 6 25] .ret) .skip)))) (.ops [q4 26 14 1,mv 14 26]))))))) (so [(o 6 (.asg (.k (.int .i64 (-1)))))] .ret)))
def rv68:List RV:=[(.tmp 6)]
theorem hc68:cc Tryz.f68=some sc68:=by kernel_rfl
theorem hr68:ce Tryz.f68=some rv68:=by kernel_rfl
def sc69:SC:=(so [q7 3 0,qp 6 false] (.seq (so [q8 7 0] (.block 0 (.loop (.seq (so [mv 8 7,fl 9 1 3,ld 10 9,mv 11 1,q1 12 1 10 11,ld 13 12,qa 14 13,q5 15 8 14] (q6 15 0)) (.seq (.block 1 (so [fl 18 1 3,ld 19 18,mv 20 1,q1 21 1 19 20,ld 22 21,mv 23 7,q1 24 2 22 23,fl 25 0 24,ld 26 25,mv 27 2,ql 28 .eql 26 27] (.cond (qt 28) (so [qp 6 true] .ret) .skip))) (.ops [mv 16 7,q4 17 16 1,q0 7 17])))))) (so [qp 6 false] .ret)))
def rv69:List RV:=[(.tmp 6)]
theorem hc69:cc Tryz.f69=some sc69:=by kernel_rfl
theorem hr69:ce Tryz.f69=some rv69:=by kernel_rfl
def sc88:SC:=(so [q7 1 0,qp 2 false] (so [q2 3 2 1,qb 4 119 3,q0 2 4] .ret))
def rv88:List RV:=[(.tmp 2)]
theorem hc88:cc Tryz.f88=some sc88:=by kernel_rfl
theorem hr88:ce Tryz.f88=some rv88:=by kernel_rfl
def sc89:SC:=(so [q7 3 0,qp 6 false] (.seq (so [mv 13 1,qa 14 13,fl 15 0 3,ld 16 15,qa 17 16,ql 18 .neq 14 17] (.cond (qt 18) (so [qp 6 false] .ret) .skip)) (.seq (so [mv 19 1,qa 20 19,(o 21 (.p (.mv (ki 0))))] (.block 0 (.loop (so [q5 22 21 20] (.seq (q6 22 0) (.seq (.block 1 (so [mv 23 21,q1 24 1 19 21,ld 25 24,q0 7 23,q0 8 25] (.seq (so [mv 26 8,qa 27 26,mv 28 2,qa 29 28,ql 30 .neq 27 29] (.cond (qt 30) (so [qp 6 false] .ret) .skip)) (so [mv 31 8,qa 32 31,(o 33 (.p (.mv (ki 0))))] (.block 2 (.loop (so [q5 34 33 32] (.seq (q6 34 2) (.seq (.block 3 (so [mv 35 33,q1 36 1 31 33,ld 37 36,q0 9 35,q0 10 37] (.seq (.draw [qe 0 38 2,qe 1 39 9,qi 2 40 1 38 39,qf 3 41 40,(.eff 4 [] [(none,(40,41))] (q8 11 0)),(ef 5 (q0 12 41))]) (.seq (so [mv 42 12,(o 43 (bn .eql (qt 42) (.k (.int .i64 (-1)))))] (.cond (qt 43) (.draw [qg 0 44 1 3,qf 1 45 44,qe 2 46 7,qi 3 47 1 45 46,qf 4 48 47,(.op 5 (qa 49 48)),(.op 6 (o 50 (bn .sub (qt 49) (ki 1)))),(.eff 7 [] [(none,(44,45)),(none,(47,48))] (o 11 (.asg (.k (.int .i64 (-1)))))),(ef 8 (q0 12 50))]) .skip)) (so [mv 51 10,mv 52 11,q5 53 51 52,mv 54 53,of 55 54 (pm 10),of 56 54 (pm 12),(of 57 54 (bn .gtr (qt 55) (qt 56))),qn 58 54 57] (.cond (qt 58) (so [qp 6 false] .ret) .skip)))))) (.ops [q4 59 33 1,mv 33 59])))))))))) (.ops [q4 60 21 1,mv 21 60]))))))) (so [qp 6 true] .ret))))
def rv89:List RV:=[(.tmp 6)]
theorem hc89:cc Tryz.f89=some sc89:=by kernel_rfl
theorem hr89:ce Tryz.f89=some rv89:=by kernel_rfl
def sc90:SC:=(so [q7 2 0,(o 4 (.asg (.k (.int .u32 0))))] (.seq (so [q2 5 2 2,qb 6 119 5,(o 7 (.p (.un .not (qt 6))))] (.cond (qt 7) (so [(o 4 (.asg (.k (.int .u32 0))))] .ret) .skip)) (so [q2 8 2 2,mv 9 1,qc 10 120 8 9,q0 4 10] .ret)))
def rv90:List RV:=[(.tmp 4)]
theorem hc90:cc Tryz.f90=some sc90:=by kernel_rfl
theorem hr90:ce Tryz.f90=some rv90:=by kernel_rfl
def sc91:SC:=(so [q7 1 0,(o 2 (.asg (.k (.int .u32 0))))] (so [fl 3 0 1,ld 4 3,qa 5 4,(o 6 (bn .shl (.k (.int .u32 1)) (qt 5))),(o 7 (bn .sub (qt 6) (.k (.int .u32 1)))),q0 2 7] .ret))
def rv91:List RV:=[(.tmp 2)]
theorem hc91:cc Tryz.f91=some sc91:=by kernel_rfl
theorem hr91:ce Tryz.f91=some rv91:=by kernel_rfl
def sc92:SC:=(so [q7 2 0,q7 3 1,q8 4 0] (.seq (so [q2 9 3 2,qb 10 25 9,(o 11 (.p (.un .not (qt 10))))] (.cond (qt 11) (so [q8 4 8] .ret) .skip)) (.seq (so [q2 12 2 3,qb 13 119 12,(o 14 (.p (.un .not (qt 13))))] (.cond (qt 14) (so [q8 4 1] .ret) .skip)) (.seq (so [fl 15 1 2,ld 16 15,qa 17 16,(o 18 (.p (.mv (ki 0))))] (.block 0 (.loop (so [q5 19 18 17] (.seq (q6 19 0) (.seq (.block 1 (so [q1 20 6 16 18,q2 21 6 20,(o 6 (.alloc [(.str (ByteArray.mk (Array.mk []))),(.int .i64 0),(.int .i64 0),(.int .i64 0),(.int .i64 0),(.int .i64 0)])),q3 6 6 21] (.seq (so [fl 22 1 6,ld 23 22,qk 24 23 1] (.cond (qt 24) (.exit 1) .skip)) (so [q2 26 6 6,q2 27 2 3,(o 28 (.call 95 [qt 26,qt 27,(ki 0)])),mv 25 28,q9 29 25 0,q9 30 25 1,q0 7 29,q0 8 30] (so [mv 31 8,mv 32 7,q5 33 31 32,mv 34 33,of 35 34 (pm 8),of 36 34 (pm 7),(of 37 34 (bn .sub (qt 35) (qt 36))),(of 38 34 (bn .add (qt 37) (ki 1))),(of 39 34 (bn .gtr (qt 38) (ki 4096))),qn 40 34 39] (.cond (qt 40) (so [q8 4 9] .ret) .skip)))))) (.ops [q4 41 18 1,mv 18 41]))))))) (so [q8 4 0] .ret)))))
def rv92:List RV:=[(.tmp 4)]
theorem hc92:cc Tryz.f92=some sc92:=by kernel_rfl
theorem hr92:ce Tryz.f92=some rv92:=by kernel_rfl
def sc93:SC:=(so [qp 4 false] (.seq (so [mv 7 1,qa 8 7,mv 9 0,qa 10 9,ql 11 .neq 8 10] (.cond (qt 11) (so [qp 4 false] .ret) .skip)) (.seq (so [mv 12 0,qa 13 12,(o 14 (.p (.mv (ki 0))))] (.block 0 (.loop (so [q5 15 14 13] (.seq (q6 15 0) (.seq (.block 1 (so [mv 16 14,q1 17 1 12 14,ld 18 17,q0 5 16,q0 6 18] (so [mv 19 6,mv 20 1,mv 21 5,q1 22 1 20 21,ld 23 22,qc 24 121 19 23,(o 25 (.p (.un .not (qt 24))))] (.cond (qt 25) (so [qp 4 false] .ret) .skip)))) (.ops [q4 26 14 1,mv 14 26]))))))) (so [qp 4 true] .ret))))
def rv93:List RV:=[(.tmp 4)]
theorem hc93:cc Tryz.f93=some sc93:=by kernel_rfl
theorem hr93:ce Tryz.f93=some rv93:=by kernel_rfl
def sc94:SC:=(so [q7 3 0,q8 6 0] (.seq (so [fl 9 1 3,ld 10 9,mv 11 1,q1 12 1 10 11,ld 13 12,qa 14 13,(o 15 (.p (.mv (ki 0))))] (.block 0 (.loop (so [q5 16 15 14] (.seq (q6 16 0) (.seq (.block 1 (so [mv 17 15,q1 18 2 13 15,q2 19 2 18,(o 8 (.alloc [(.int .i64 0),(.int .i64 0)])),q0 7 17,q3 2 8 19] (so [fl 20 0 8,ld 21 20,mv 22 2,ql 23 .eql 21 22] (.cond (qt 23) (so [mv 24 7,q0 6 24] .ret) .skip)))) (.ops [q4 25 15 1,mv 15 25]))))))) (so [(o 6 (.asg (.k (.int .i64 (-1)))))] .ret)))
def rv94:List RV:=[(.tmp 6)]
theorem hc94:cc Tryz.f94=some sc94:=by kernel_rfl
theorem hr94:ce Tryz.f94=some rv94:=by kernel_rfl
def sc95:SC:=(so [q7 3 0,q7 4 1,q8 6 0,q8 7 0] (so [(o 11 (.build [(.int .i64 0),.nilfunc] [(0,(1,(ki 1))),(1,(1,(.k (.fn (.func 122) false []))))])),(o 12 (.build [(.int .i64 0),.nilfunc] [(0,(1,(ki 2))),(1,(1,(.k (.fn (.func 124) false []))))])),(o 13 (.build [(.int .i64 0),.nilfunc] [(0,(1,(ki 3))),(1,(1,(.k (.fn (.func 125) false []))))])),(o 14 (.bslice 2 3 [qt 11,qt 12,qt 13])),q0 8 14] (.seq (so [mv 15 8,qa 16 15,(o 17 (.p (.mv (ki 0))))] (.block 0 (.loop (so [q5 18 17 16] (.seq (q6 18 0) (.seq (.block 1 (so [q1 19 2 15 17,q2 20 2 19,(o 10 (.alloc [(.int .i64 0),.nilfunc])),q3 2 10 20] (so [fl 21 0 10,ld 22 21,fl 23 1 3,ld 24 23,ql 25 .eql 22 24] (.cond (qt 25) (so [fl 26 1 10,ld 27 26,q2 28 6 3,q2 29 2 4,mv 30 2,(o 31 (.callv (qt 27) [qt 28,qt 29,qt 30])),q9 32 31 0,q9 33 31 1,q0 6 32,q0 7 33] .ret) .skip)))) (.ops [q4 34 17 1,mv 17 34]))))))) (so [q8 6 0,(o 7 (.asg (.k (.int .i64 (-1)))))] .ret))))
def rv95:List RV:=[(.tmp 6),(.tmp 7)]
theorem hc95:cc Tryz.f95=some sc95:=by kernel_rfl
theorem hr95:ce Tryz.f95=some rv95:=by kernel_rfl
def sc96:SC:=(so [qp 8 false] (so [mv 9 0,mv 10 1,mv 11 2,mv 12 0,nc 13 12,fl 14 0 13,fl 15 2 14,ld 16 15,mv 17 3,q1 18 3 16 17,fl 19 1 18,ld 20 19,(o 21 (.call 126 [qt 9,qt 10,qt 11,qt 20])),qk 22 21 0,q0 8 22] .ret))
def rv96:List RV:=[(.tmp 8)]
theorem hc96:cc Tryz.f96=some sc96:=by kernel_rfl
theorem hr96:ce Tryz.f96=some rv96:=by kernel_rfl
def sc115:SC:=(so [q8 4 0] (.seq (so [mv 7 1,(o 8 (bn .lss (qt 7) (ki 0))),mv 9 8,of 10 9 (pm 1),of 11 9 (pm 0),of 12 9 (ln 11),(of 13 9 (bn .geq (qt 10) (qt 12))),qn 14 9 13] (.cond (qt 14) (so [(o 4 (.asg (.k (.int .i64 (-1)))))] .ret) .skip)) (.seq (so [q8 5 1] (.block 0 (.loop (.seq (so [mv 15 1,mv 16 0,qa 17 16,q5 18 15 17] (q6 18 0)) (.seq (.block 1 (so [mv 21 0,mv 22 1,q1 23 2 21 22,fl 24 0 23,ld 25 24,qb 26 135 25,q0 6 26] (.seq (so [mv 27 6,(o 28 (bn .lss (qt 27) (ki 0)))] (.cond (qt 28) (so [(o 4 (.asg (.k (.int .i64 (-1)))))] .ret) .skip)) (so [mv 29 5,mv 30 6,(o 31 (bn .sub (qt 30) (ki 1))),ql 32 .add 29 31,q0 5 32] (so [mv 33 5,qj 34 33 0] (.cond (qt 34) (so [mv 35 1,q4 36 35 1,q0 4 36] .ret) .skip)))))) (.ops [mv 19 1,q4 20 19 1,q0 1 20])))))) (so [(o 4 (.asg (.k (.int .i64 (-1)))))] .ret))))
def rv115:List RV:=[(.tmp 4)]
theorem hc115:cc Tryz.f115=some sc115:=by kernel_rfl
theorem hr115:ce Tryz.f115=some rv115:=by kernel_rfl
def sc119:SC:=(so [q7 1 0,qp 2 false] (so [fl 4 0 1,ld 5 4,qa 6 5,q0 3 6] (.seq (so [mv 7 3,(o 8 (bn .lss (qt 7) (ki 1))),mv 9 8,of 10 9 (pm 3),(of 11 9 (bn .gtr (qt 10) (ki 24))),qn 12 9 11,mv 13 12,(of 14 13 (.p (.fld 1 (qt 1)))),(of 15 13 (.load none (qt 14))),of 16 13 (ln 15),of 17 13 (pm 3),(of 18 13 (bn .neq (qt 16) (qt 17))),qn 19 13 18] (.cond (qt 19) (so [qp 2 false] .ret) .skip)) (so [fl 20 0 1,ld 21 20,qb 22 140 21,mv 23 22,(ot 24 23 (.p (.fld 1 (qt 1)))),(ot 25 23 (.load none (qt 24))),(ot 26 23 (.call 141 [qt 25])),qo 27 23 26,q0 2 27] .ret))))
def rv119:List RV:=[(.tmp 2)]
theorem hc119:cc Tryz.f119=some sc119:=by kernel_rfl
theorem hr119:ce Tryz.f119=some rv119:=by kernel_rfl
def sc120:SC:=(so [q7 2 0,(o 4 (.asg (.k (.int .u32 0))))] (so [(o 5 (.asg (.k (.int .u32 0))))] (.seq (so [fl 10 1 2,ld 11 10,qa 12 11,(o 13 (.p (.mv (ki 0))))] (.block 0 (.loop (so [q5 14 13 12] (.seq (q6 14 0) (.seq (.block 1 (so [mv 15 13,q1 16 1 11 13,ld 17 16,q0 6 15,q0 7 17] (so [mv 18 7,qa 19 18,(o 20 (.p (.mv (ki 0))))] (.block 2 (.loop (so [q5 21 20 19] (.seq (q6 21 2) (.seq (.block 3 (so [q1 22 2 18 20,q2 23 2 22,(o 9 (.alloc [(.int .i64 0),(.int .i64 0)])),q3 2 9 23] (so [mv 24 1,fl 25 0 9,ld 26 25,ql 27 .shr 24 26,(o 28 (bn .and (qt 27) (.k (.int .u32 1)))),(o 29 (bn .eql (qt 28) (.k (.int .u32 1))))] (.cond (qt 29) (.ops [mv 30 5,mv 31 6,(o 32 (bn .shl (.k (.int .u32 1)) (qt 31))),ql 33 .or 30 32,q0 5 33]) .skip)))) (.ops [q4 34 20 1,mv 20 34]))))))))) (.ops [q4 35 13 1,mv 13 35]))))))) (so [mv 36 5,q0 4 36] .ret))))
def rv120:List RV:=[(.tmp 4)]
theorem hc120:cc Tryz.f120=some sc120:=by kernel_rfl
theorem hr120:ce Tryz.f120=some rv120:=by kernel_rfl
def sc121:SC:=(so [qp 4 false] (.seq (so [mv 7 1,qa 8 7,mv 9 0,qa 10 9,ql 11 .neq 8 10] (.cond (qt 11) (so [qp 4 false] .ret) .skip)) (.seq (so [mv 12 1,qa 13 12,(o 14 (.p (.mv (ki 0))))] (.block 0 (.loop (so [q5 15 14 13] (.seq (q6 15 0) (.seq (.block 1 (so [mv 16 14,q1 17 1 12 14,ld 18 17,q0 5 16,q0 6 18] (so [mv 19 6,mv 20 0,mv 21 5,q1 22 2 20 21,(o 23 (.p (.ixa 2 1 (qt 22) (ki 0)))),ld 24 23,q5 25 19 24,mv 26 25,of 27 26 (pm 6),of 28 26 (pm 0),of 29 26 (pm 5),(of 30 26 (.p (.ixs 2 (qt 28) (qt 29)))),(of 31 26 (.p (.ixa 2 1 (qt 30) (ki 1)))),(of 32 26 (.load none (qt 31))),(of 33 26 (bn .gtr (qt 27) (qt 32))),qn 34 26 33] (.cond (qt 34) (so [qp 4 false] .ret) .skip)))) (.ops [q4 35 14 1,mv 14 35]))))))) (so [qp 4 true] .ret))))
def rv121:List RV:=[(.tmp 4)]
theorem hc121:cc Tryz.f121=some sc121:=by kernel_rfl
theorem hr121:ce Tryz.f121=some rv121:=by kernel_rfl
def sc122:SC:=(so [q7 3 0,q7 4 1,q8 6 0,q8 7 0] (.seq (.draw [qg 0 8 2 3,qf 1 9 8,qg 2 10 3 3,qf 3 11 10,qg 4 12 4 3,qf 5 13 12,qg 6 14 0 4,qf 7 15 14,(.op 8 (qa 16 15)),(.op 9 (ql 17 .mul 13 16)),(.op 10 (ql 18 .add 11 17)),qg 11 19 5 3,qf 12 20 19,qg 13 21 0 4,qf 14 22 21,(.eff 15 [] [(none,(8,9)),(none,(10,11)),(none,(12,13)),(none,(14,15)),(none,(19,20))] (qb 23 123 22)),(.op 16 (ql 24 .mul 20 23)),(.op 17 (ql 25 .add 18 24)),(.eff 18 [] [(none,(10,11)),(none,(12,13)),(none,(14,15)),(none,(19,20))] (q0 6 9)),(ef 19 (q0 7 25))]) .ret))
def rv122:List RV:=[(.tmp 6),(.tmp 7)]
theorem hc122:cc Tryz.f122=some sc122:=by kernel_rfl
theorem hr122:ce Tryz.f122=some rv122:=by kernel_rfl
def sc123:SC:=(so [q8 2 0] (.seq (so [mv 5 0,qa 6 5,(o 7 (bn .lss (qt 6) (ki 1)))] (.cond (qt 7) (.cond (.k .nilptr) .skip .skip) .skip)) (so [mv 9 0,(o 10 (.p (.ixs 1 (qt 9) (ki 0)))),ld 11 10,q0 3 11] (.seq (so [q8 4 1] (.block 0 (.loop (.seq (so [mv 12 4,mv 13 0,qa 14 13,q5 15 12 14] (q6 15 0)) (.seq (.block 1 (.ops [mv 18 3,mv 19 0,mv 20 4,q1 21 1 19 20,ld 22 21,(o 23 (.p (.mx (qt 18) (qt 22)))),q0 3 23])) (.ops [mv 16 4,q4 17 16 1,q0 4 17])))))) (so [mv 24 3,q0 2 24] .ret)))))
def rv123:List RV:=[(.tmp 2)]
theorem hc123:cc Tryz.f123=some sc123:=by kernel_rfl
theorem hr123:ce Tryz.f123=some rv123:=by kernel_rfl
def sc124:SC:=(so [q7 3 0,q7 4 1,q8 6 0,q8 7 0] (so [q8 6 0,q8 7 1] .ret))
def rv124:List RV:=[(.tmp 6),(.tmp 7)]
theorem hc124:cc Tryz.f124=some sc124:=by kernel_rfl
theorem hr124:ce Tryz.f124=some rv124:=by kernel_rfl
def sc125:SC:=(so [q7 3 0,q7 4 1,q8 6 0,q8 7 0] (.seq (.draw [qg 0 8 1 4,qf 1 9 8,qe 2 10 2,qi 3 11 1 9 10,qf 4 12 11,(.op 5 (qa 13 12)),(.op 6 (o 14 (bn .sub (qt 13) (ki 1)))),(.eff 7 [] [(none,(8,9)),(none,(11,12))] (o 6 (.asg (.k (.int .i64 (-1)))))),(ef 8 (q0 7 14))]) .ret))
def rv125:List RV:=[(.tmp 6),(.tmp 7)]
theorem hc125:cc Tryz.f125=some sc125:=by kernel_rfl
theorem hr125:ce Tryz.f125=some rv125:=by kernel_rfl
def sc126:SC:=(so [q8 8 0] (so [mv 12 0,mv 13 1,mv 14 2,mv 15 3,(o 16 (.build [.nilptr,.nilslice,(.int .i64 0),.nilslice] [(0,(1,(qt 12))),(1,(1,(qt 13))),(2,(1,(qt 14))),(3,(1,(qt 15)))])),(o 9 (.alloc [.nilptr,.nilslice,(.int .i64 0),.nilslice])),q3 4 9 16] (so [(o 18 (.call 142 [qt 9,(ki 0),(.k (.int .i64 (-1)))])),mv 17 18,q9 19 17 0,q9 20 17 1,q0 10 19,q0 11 20] (so [mv 21 10,q0 8 21] .ret))))
def rv126:List RV:=[(.tmp 8)]
theorem hc126:cc Tryz.f126=some sc126:=by kernel_rfl
theorem hr126:ce Tryz.f126=some rv126:=by kernel_rfl
def sc135:SC:=(so [q8 2 0] (.seq (.block 0 (so [mv 4 0,(o 5 (bn .lss (qt 4) (ki 1))),mv 6 5,of 7 6 (pm 0),(of 8 6 (bn .gtr (qt 7) (ki 43))),qn 9 6 8,q0 3 9] (.cond (qt 3) (so [(o 2 (.asg (.k (.int .i64 (-1)))))] .ret) (so [mv 11 0,(o 12 (bn .leq (qt 11) (ki 17))),q0 10 12] (.cond (qt 10) (so [q8 2 0] .ret) (so [mv 14 0,(o 15 (bn .leq (qt 14) (ki 29))),q0 13 15] (.cond (qt 13) (so [q8 2 1] .ret) (so [mv 17 0,(o 18 (bn .leq (qt 17) (ki 42))),q0 16 18] (.cond (qt 16) (so [q8 2 2] .ret) .skip))))))))) (so [q8 2 3] .ret)))
def rv135:List RV:=[(.tmp 2)]
theorem hc135:cc Tryz.f135=some sc135:=by kernel_rfl
theorem hr135:ce Tryz.f135=some rv135:=by kernel_rfl
def sc140:SC:=(so [qp 2 false] (so [(o 3 (.alloca 256 (.bool false)))] (.seq (so [mv 6 0,qa 7 6,(o 8 (.p (.mv (ki 0))))] (.block 0 (.loop (so [q5 9 8 7] (.seq (q6 9 0) (.seq (.block 1 (so [q1 10 1 6 8,ld 11 10,q0 5 11] (.seq (so [mv 12 5,(o 13 (bn .lss (qt 12) (ki 0))),mv 14 13,of 15 14 (pm 5),(of 16 14 (bn .gtr (qt 15) (ki 255))),qn 17 14 16,mv 18 17,of 19 18 (pm 5),(of 20 18 (.p (.ixa 256 1 (qt 3) (qt 19)))),(of 21 18 (.load none (qt 20))),qn 22 18 21] (.cond (qt 22) (so [qp 2 false] .ret) .skip)) (.ops [mv 23 5,(o 24 (.p (.ixa 256 1 (qt 3) (qt 23)))),(on (.store 1 (qt 24) (.k (.bool true))))])))) (.ops [q4 25 8 1,mv 8 25]))))))) (so [qp 2 true] .ret))))
def rv140:List RV:=[(.tmp 2)]
theorem hc140:cc Tryz.f140=some sc140:=by kernel_rfl
theorem hr140:ce Tryz.f140=some rv140:=by kernel_rfl
def sc141:SC:=(so [qp 2 false] (so [(o 13 (.xt (Go.Eng.XOp.mkmap (Go.Eng.MKd.pair .i64)))),q0 3 13] (.seq (so [mv 14 0,qa 15 14,(o 16 (.p (.mv (ki 0))))] (.block 0 (.loop (so [q5 17 16 15] (.seq (q6 17 0) (.seq (.block 1 (so [mv 18 16,q1 19 1 14 16,ld 20 19,q0 4 18,q0 5 20] (so [mv 21 5,qa 22 21,(o 23 (.p (.mv (ki 0))))] (.block 2 (.loop (so [q5 24 23 22] (.seq (q6 24 2) (.seq (.block 3 (so [q1 25 2 21 23,q2 26 2 25,(o 7 (.alloc [(.int .i64 0),(.int .i64 0)])),q3 2 7 26] (.seq (so [fl 27 0 7,ld 28 27,(o 29 (bn .lss (qt 28) (ki 0))),mv 30 29,(of 31 30 (.p (.fld 0 (qt 7)))),(of 32 30 (.load none (qt 31))),of 33 30 (pm 0),of 34 30 (ln 33),(of 35 30 (bn .geq (qt 32) (qt 34))),qn 36 30 35,mv 37 36,(of 38 37 (.p (.fld 0 (qt 7)))),(of 39 37 (.load none (qt 38))),of 40 37 (pm 4),(of 41 37 (bn .eql (qt 39) (qt 40))),qn 42 37 41] (.cond (qt 42) (so [qp 2 false] .ret) .skip)) (.seq (so [fl 43 1 7,ld 44 43,(o 45 (bn .lss (qt 44) (ki 1))),mv 46 45,(of 47 46 (.p (.fld 1 (qt 7)))),(of 48 46 (.load none (qt 47))),(of 49 46 (bn .gtr (qt 48) (ki 15))),qn 50 46 49] (.cond (qt 50) (so [qp 2 false] .ret) .skip)) (so [mv 51 4,fl 52 0 7,ld 53 52,(o 54 (.build [(.int .i64 0),(.int .i64 0)] [(0,(1,(qt 51))),(1,(1,(qt 53)))])),(o 8 (.alloc [(.int .i64 0),(.int .i64 0)])),q3 2 8 54] (.seq (so [mv 56 3,q2 57 2 8,(o 58 (.xt (Go.Eng.XOp.mget (Go.Eng.MKd.pair .i64) (.int .i64 0) true (qt 56) (qt 57)))),mv 55 58,q9 59 55 0,q9 60 55 1,q0 9 59,q0 10 60] (so [mv 61 10] (.cond (qt 61) (so [qp 2 false] .ret) .skip))) (.ops [mv 62 3,q2 63 2 8,fl 64 1 7,ld 65 64,(on (.xt (Go.Eng.XOp.mput (Go.Eng.MKd.pair .i64) (qt 62) (qt 63) (qt 65))))]))))))) (.ops [q4 66 23 1,mv 23 66]))))))))) (.ops [q4 67 16 1,mv 16 67]))))))) (.seq (so [mv 68 3,(o 69 (.xt (Go.Eng.XOp.mrng (qt 68))))] (.block 4 (.loop (so [(o 70 (.xt (Go.Eng.XOp.mnxt (qt 69)))),q9 71 70 0] (.seq (q6 71 4) (.block 5 (so [(o 72 (.xt (Go.Eng.XOp.ment (qt 69)))),q9 73 72 0,q9 74 72 1,(o 11 (.alloc [(.int .i64 0),(.int .i64 0)])),q3 2 11 73,q0 12 74] (so [mv 75 3,(o 76 (.p (.ixa 2 1 (qt 11) (ki 1)))),ld 77 76,(o 78 (.p (.ixa 2 1 (qt 11) (ki 0)))),ld 79 78,(o 80 (.build [(.int .i64 0),(.int .i64 0)] [(0,(1,(qt 77))),(1,(1,(qt 79)))])),(o 81 (.xt (Go.Eng.XOp.mget (Go.Eng.MKd.pair .i64) (.int .i64 0) false (qt 75) (qt 80)))),mv 82 12,ql 83 .neq 81 82] (.cond (qt 83) (so [qp 2 false] .ret) .skip))))))))) (so [qp 2 true] .ret)))))
def rv141:List RV:=[(.tmp 2)]
theorem hc141:cc Tryz.f141=some sc141:=by kernel_rfl
theorem hr141:ce Tryz.f141=some rv141:=by kernel_rfl
def sc142:SC:=(so [q8 6 0,q8 7 0] (so [mv 18 0,nc 19 18,fl 20 3 19,ld 21 20,mv 22 1,q1 23 2 21 22,q2 24 2 23,(o 8 (.alloc [(.int .i64 0),(.int .i64 0)])),q3 2 8 24] (.seq (.block 0 (so [fl 26 0 8,ld 27 26,(o 28 (bn .leq (qt 27) (ki 17))),q0 25 28] (.cond (qt 25) (so [mv 29 0,q2 30 2 8,mv 31 2,qd 32 153 29 30 31,mv 33 1,q4 34 33 1,q0 6 32,q0 7 34] .ret) (so [fl 36 0 8,ld 37 36,(o 38 (bn .leq (qt 37) (ki 19))),q0 35 38] (.cond (qt 35) (so [mv 40 0,mv 41 1,q4 42 41 1,mv 43 2,qd 44 142 40 42 43,mv 39 44,q9 45 39 0,q9 46 39 1,q0 6 45,q0 7 46] (so [fl 47 0 8,ld 48 47,mv 49 6,qc 50 154 48 49,mv 51 7,q0 6 50,q0 7 51] .ret)) (so [fl 53 0 8,ld 54 53,(o 55 (bn .leq (qt 54) (ki 29))),q0 52 55] (.cond (qt 52) (so [mv 56 0,fl 57 0 8,ld 58 57,mv 59 1,qd 60 155 56 58 59,q9 61 60 0,q9 62 60 1,q0 6 61,q0 7 62] .ret) (so [fl 64 0 8,ld 65 64,(o 66 (bn .leq (qt 65) (ki 42))),q0 63 66] (.cond (qt 63) (so [mv 68 0,mv 69 1,q4 70 69 1,mv 71 2,qd 72 142 68 70 71,mv 67 72,q9 73 67 0,q9 74 67 1,q0 9 73,q0 10 74] (so [mv 76 0,mv 77 10,mv 78 2,qd 79 142 76 77 78,mv 75 79,q9 80 75 0,q9 81 75 1,q0 11 80,q0 12 81] (so [fl 82 0 8,ld 83 82,mv 84 9,mv 85 11,qd 86 156 83 84 85,mv 87 12,q0 6 86,q0 7 87] .ret))) .skip))))))))) (so [mv 89 0,mv 90 1,q4 91 90 1,mv 92 2,qd 93 142 89 91 92,mv 88 93,q9 94 88 0,q9 95 88 1,q0 13 94,q0 14 95] (so [mv 97 0,mv 98 14,mv 99 2,qd 100 142 97 98 99,mv 96 100,q9 101 96 0,q9 102 96 1,q0 15 101,q0 16 102] (so [mv 104 0,mv 105 16,mv 106 2,qd 107 142 104 105 106,mv 103 107,q9 108 103 0,q9 109 103 1,q0 17 108,q0 7 109] (.seq (so [mv 110 13,qk 111 110 0] (.cond (qt 111) (so [mv 112 15,mv 113 7,q0 6 112,q0 7 113] .ret) .skip)) (so [mv 114 17,mv 115 7,q0 6 114,q0 7 115] .ret))))))))
def rv142:List RV:=[(.tmp 6),(.tmp 7)]
theorem hc142:cc Tryz.f142=some sc142:=by kernel_rfl
theorem hr142:ce Tryz.f142=some rv142:=by kernel_rfl
def sc153:SC:=(so [q7 4 1,q8 6 0] (.seq (so [fl 7 0 4,ld 8 7] (.block 0 (so [qj 10 8 1,q0 9 10] (.cond (qt 9) (so [fl 11 1 4,ld 12 11,q0 6 12] .ret) (so [qj 14 8 2,q0 13 14] (.cond (qt 13) (so [q8 6 1] .ret) (so [qj 16 8 3,q0 15 16] (.cond (qt 15) (so [q8 6 0] .ret) (so [qj 18 8 4,q0 17 18] (.cond (qt 17) (so [(o 6 (.asg (.k (.int .i64 (-1)))))] .ret) (so [qj 20 8 5,q0 19 20] (.cond (qt 19) (.seq (.draw [qe 0 21 0,qh 1 22 21,qg 2 23 1 22,qf 3 24 23,qe 4 25 0,qh 5 26 25,qg 6 27 2 26,qf 7 28 27,qi 8 29 1 24 28,qf 9 30 29,qg 10 31 1 4,qf 11 32 31,qi 12 33 1 30 32,qf 13 34 33,(ef 14 (q0 6 34))]) .ret) (so [qj 36 8 12,q0 35 36] (.cond (qt 35) (.seq (.draw [qe 0 37 0,qh 1 38 37,qg 2 39 1 38,qf 3 40 39,qe 4 41 0,qh 5 42 41,qg 6 43 0 42,qf 7 44 43,qh 8 45 44,qg 9 46 3 45,qg 10 47 1 46,qf 11 48 47,qe 12 49 0,qh 13 50 49,qg 14 51 2 50,qf 15 52 51,qi 16 53 1 48 52,qf 17 54 53,qe 18 55 2,qi 19 56 2 54 55,qg 20 57 0 56,qf 21 58 57,qi 22 59 1 40 58,qf 23 60 59,qg 24 61 1 4,qf 25 62 61,qi 26 63 1 60 62,qf 27 64 63,(ef 28 (q0 6 64))]) .ret) .skip)))))))))))))) (.seq (.draw [qe 0 65 0,qh 1 66 65,qg 2 67 0 66,qf 3 68 67,qg 4 69 0 4,qf 5 70 69,qe 6 71 0,qh 7 72 71,qg 8 73 2 72,qf 9 74 73,qe 10 75 2,(ef 11 (o 76 (.call 162 [qt 68,qt 70,qt 74,qt 75]))),(ef 12 (q0 6 76))]) .ret)))
def rv153:List RV:=[(.tmp 6)]
theorem hc153:cc Tryz.f153=some sc153:=by kernel_rfl
theorem hr153:ce Tryz.f153=some rv153:=by kernel_rfl
def sc154:SC:=(so [q8 4 0] (.seq (so [mv 5 0,qj 6 5 18] (.cond (qt 6) (so [mv 7 1,(o 8 (.p (.un .neg (qt 7)))),q0 4 8] .ret) .skip)) (so [mv 9 1,qj 10 9 0,qb 11 163 10,q0 4 11] .ret)))
def rv154:List RV:=[(.tmp 4)]
theorem hc154:cc Tryz.f154=some sc154:=by kernel_rfl
theorem hr154:ce Tryz.f154=some rv154:=by kernel_rfl
def sc155:SC:=(so [q8 6 0,q8 7 0] (so [(o 8 (.alloca 24 (.int .i64 0)))] (.seq (.draw [qe 0 11 0,qh 1 12 11,qg 2 13 0 12,qf 3 14 13,qh 4 15 14,qg 5 16 3 15,qg 6 17 1 16,qf 7 18 17,qe 8 19 0,qh 9 20 19,qg 10 21 2 20,qf 11 22 21,qi 12 23 1 18 22,qf 13 24 23,(.op 14 (qa 25 24)),(ef 15 (q0 9 25))]) (.seq (so [mv 26 9,(o 27 (.p (.mv (ki 0))))] (.block 0 (.loop (so [q5 28 27 26] (.seq (q6 28 0) (.seq (.block 1 (so [mv 29 27,q0 10 29] (.ops [mv 31 10,mv 32 0,mv 33 2,q4 34 33 1,mv 35 10,qd 36 142 32 34 35,mv 30 36,q9 37 30 0,q9 38 30 1,(o 39 (.p (.ixa 24 1 (qt 8) (qt 31)))),q3 1 39 37,q0 7 38]))) (.ops [q4 40 27 1,mv 27 40]))))))) (.seq (so [mv 41 9,qj 42 41 0] (.cond (qt 42) (.ops [mv 43 0,nc 44 43,fl 45 3 44,ld 46 45,mv 47 2,qc 48 115 46 47,q0 7 48]) .skip)) (so [mv 49 1,mv 50 9,(o 51 (.xt (Go.Eng.XOp.asl 24 1 (qt 8) (.some (qt 50))))),qc 52 164 49 51,mv 53 7,q0 6 52,q0 7 53] .ret))))))
def rv155:List RV:=[(.tmp 6),(.tmp 7)]
theorem hc155:cc Tryz.f155=some sc155:=by kernel_rfl
theorem hr155:ce Tryz.f155=some rv155:=by kernel_rfl
def sc156:SC:=(so [q8 6 0] (.seq (so [mv 7 0] (.block 0 (so [qj 9 7 30,q0 8 9] (.cond (qt 8) (so [mv 10 1,mv 11 2,ql 12 .mul 10 11,qb 13 165 12,q0 6 13] .ret) (so [qj 15 7 31,q0 14 15] (.cond (qt 14) (so [mv 16 1,mv 17 2,qc 18 166 16 17,qb 19 165 18,q0 6 19] .ret) (so [qj 21 7 32,q0 20 21] (.cond (qt 20) (.seq (so [mv 22 2,qj 23 22 0] (.cond (qt 23) (so [q8 6 0] .ret) .skip)) (so [mv 24 1,mv 25 2,mv 26 1,mv 27 2,qc 28 166 26 27,ql 29 .mul 25 28,ql 30 .sub 24 29,qb 31 165 30,q0 6 31] .ret)) (so [qj 33 7 33,q0 32 33] (.cond (qt 32) (so [mv 34 1,mv 35 2,ql 36 .add 34 35,qb 37 165 36,q0 6 37] .ret) (so [qj 39 7 34,q0 38 39] (.cond (qt 38) (so [mv 40 1,mv 41 2,ql 42 .sub 40 41,qb 43 165 42,q0 6 43] .ret) (so [qj 45 7 41,q0 44 45] (.cond (qt 44) (so [mv 46 1,qk 47 46 0,mv 48 47,ot 49 48 (pm 2),(ot 50 48 (bn .neq (qt 49) (ki 0))),qo 51 48 50,qb 52 163 51,q0 6 52] .ret) (so [qj 54 7 42,q0 53 54] (.cond (qt 53) (so [mv 55 1,qk 56 55 0,mv 57 56,of 58 57 (pm 2),(of 59 57 (bn .neq (qt 58) (ki 0))),qn 60 57 59,qb 61 163 60,q0 6 61] .ret) .skip)))))))))))))))) (so [mv 62 0,mv 63 1,mv 64 2,qd 65 167 62 63 64,qb 66 163 65,q0 6 66] .ret)))
def rv156:List RV:=[(.tmp 6)]
theorem hc156:cc Tryz.f156=some sc156:=by kernel_rfl
theorem hr156:ce Tryz.f156=some rv156:=by kernel_rfl
def sc162:SC:=(so [q8 8 0] (.seq (so [mv 10 1] (.block 0 (so [qj 12 10 6,q0 11 12] (.cond (qt 11) (so [mv 13 0,nc 14 13,fl 15 3 14,fl 16 0 15,ld 17 16,qa 18 17,q0 8 18] .ret) (so [qj 20 10 7,q0 19 20] (.cond (qt 19) (so [mv 21 0,nc 22 21,fl 23 5 22,ld 24 23,q0 8 24] .ret) (so [qj 26 10 8,q0 25 26] (.cond (qt 25) (so [mv 27 0,nc 28 27,fl 29 3 28,fl 30 0 29,ld 31 30,mv 32 2,q1 33 1 31 32,ld 34 33,q0 8 34] .ret) (so [qj 36 10 9,q0 35 36] (.cond (qt 35) (so [mv 37 0,nc 38 37,fl 39 3 38,fl 40 1 39,ld 41 40,mv 42 2,q1 43 1 41 42,ld 44 43,qa 45 44,q0 8 45] .ret) (so [qj 47 10 10,q0 46 47] (.cond (qt 46) (so [mv 48 2,qj 49 48 0,qb 50 163 49,q0 8 50] .ret) (so [qj 52 10 11,q0 51 52] (.cond (qt 51) (so [mv 53 3,q0 8 53] .ret) .skip)))))))))))))) (so [mv 54 0,nc 55 54,fl 56 3 55,fl 57 1 56,ld 58 57,mv 59 2,q1 60 1 58 59,ld 61 60,mv 62 3,q1 63 2 61 62,q2 64 2 63,(o 9 (.alloc [(.int .i64 0),(.int .i64 0)])),q3 2 9 64] (.seq (so [mv 65 1] (.block 1 (so [qj 67 65 13,q0 66 67] (.cond (qt 66) (.seq (.draw [qe 0 68 0,qh 1 69 68,qg 2 70 3 69,qg 3 71 0 70,qf 4 72 71,qg 5 73 0 9,qf 6 74 73,qi 7 75 1 72 74,qf 8 76 75,(ef 9 (q0 8 76))]) .ret) (so [qj 78 65 14,q0 77 78] (.cond (qt 77) (.seq (.draw [qe 0 79 0,qh 1 80 79,qg 2 81 3 80,qg 3 82 1 81,qf 4 83 82,qg 5 84 0 9,qf 6 85 84,qi 7 86 1 83 85,qf 8 87 86,(.op 9 (qa 88 87)),(ef 10 (q0 8 88))]) .ret) (so [qj 90 65 15,q0 89 90] (.cond (qt 89) (so [fl 91 0 9,ld 92 91,qj 93 92 0,qb 94 163 93,q0 8 94] .ret) (so [qj 96 65 16,q0 95 96] (.cond (qt 95) (so [fl 97 1 9,ld 98 97,q0 8 98] .ret) .skip)))))))))) (so [mv 99 0,nc 100 99,fl 101 6 100,ld 102 101,mv 103 2,q1 104 1 102 103,ld 105 104,mv 106 3,q1 107 1 105 106,ld 108 107,q0 8 108] .ret)))))
def rv162:List RV:=[(.tmp 8)]
theorem hc162:cc Tryz.f162=some sc162:=by kernel_rfl
theorem hr162:ce Tryz.f162=some rv162:=by kernel_rfl
def sc163:SC:=(so [q8 2 0] (.seq (so [mv 3 0] (.cond (qt 3) (so [q8 2 1] .ret) .skip)) (so [q8 2 0] .ret)))
def rv163:List RV:=[(.tmp 2)]
theorem hc163:cc Tryz.f163=some sc163:=by kernel_rfl
theorem hr163:ce Tryz.f163=some rv163:=by kernel_rfl
def sc164:SC:=(so [q8 4 0] (.seq (so [mv 15 0] (.block 0 (so [qj 17 15 20,q0 16 17] (.cond (qt 16) (so [mv 18 1,qb 19 171 18,mv 20 1,qa 21 20,ql 22 .eql 19 21,qb 23 163 22,q0 4 23] .ret) (so [qj 25 15 21,q0 24 25] (.cond (qt 24) (so [mv 26 1,qb 27 171 26,(o 28 (bn .gtr (qt 27) (ki 0))),qb 29 163 28,q0 4 29] .ret) (so [qj 31 15 22,q0 30 31] (.cond (qt 30) (so [mv 32 1,qb 33 171 32,q0 4 33] .ret) (so [qj 35 15 23,q0 34 35] (.cond (qt 34) (so [mv 36 1,(o 37 (.call 172 [qt 36,(.k (.fn (.func 173) false []))])),q0 4 37] .ret) (so [qj 39 15 24,q0 38 39] (.cond (qt 38) (so [q8 5 1073741824] (.seq (so [mv 40 1,qa 41 40,(o 42 (.p (.mv (ki 0))))] (.block 1 (.loop (so [q5 43 42 41] (.seq (q6 43 1) (.seq (.block 2 (so [q1 44 1 40 42,ld 45 44,q0 7 45] (.ops [mv 46 5,mv 47 7,(o 48 (.p (.mn (qt 46) (qt 47)))),q0 5 48]))) (.ops [q4 49 42 1,mv 42 49]))))))) (so [mv 50 5,q0 4 50] .ret))) (so [qj 52 15 25,q0 51 52] (.cond (qt 51) (so [mv 54 1,qb 55 174 54,mv 53 55,q9 56 53 0,q9 57 53 1,q0 8 56,q0 9 57] (so [mv 58 8,q0 4 58] .ret)) (so [qj 60 15 26,q0 59 60] (.cond (qt 59) (so [q8 10 0] (.seq (so [mv 61 1,qa 62 61,(o 63 (.p (.mv (ki 0))))] (.block 3 (.loop (so [q5 64 63 62] (.seq (q6 64 3) (.seq (.block 4 (so [q1 65 1 61 63,ld 66 65,q0 12 66] (.ops [mv 67 10,mv 68 12,ql 69 .add 67 68,q0 10 69]))) (.ops [q4 70 63 1,mv 63 70]))))))) (so [mv 71 10,qb 72 165 71,q0 4 72] .ret))) (so [qj 74 15 27,q0 73 74] (.cond (qt 73) (so [mv 75 1,qb 76 175 75,q0 4 76] .ret) (so [qj 78 15 28,q0 77 78] (.cond (qt 77) (so [mv 80 1,qb 81 174 80,mv 79 81,q9 82 79 0,q9 83 79 1,q0 13 82,q0 14 83] (so [mv 84 14,q0 4 84] .ret)) .skip)))))))))))))))))))) (.seq (so [mv 85 1,qa 86 85,qj 87 86 0] (.cond (qt 87) (so [q8 4 0] .ret) .skip)) (so [mv 88 1,(o 89 (.p (.ixs 1 (qt 88) (ki 0)))),ld 90 89,q0 4 90] .ret))))
def rv164:List RV:=[(.tmp 4)]
theorem hc164:cc Tryz.f164=some sc164:=by kernel_rfl
theorem hr164:ce Tryz.f164=some rv164:=by kernel_rfl
def sc165:SC:=(so [q8 2 0] (so [mv 3 0,(o 4 (.p (.mn (qt 3) (ki 1073741824)))),(o 5 (.p (.mx (.k (.int .i64 (-1073741824))) (qt 4)))),q0 2 5] .ret))
def rv165:List RV:=[(.tmp 2)]
theorem hc165:cc Tryz.f165=some sc165:=by kernel_rfl
theorem hr165:ce Tryz.f165=some rv165:=by kernel_rfl
def sc166:SC:=(so [q8 4 0] (.seq (so [mv 6 1,qj 7 6 0] (.cond (qt 7) (so [q8 4 0] .ret) .skip)) (so [mv 8 0,mv 9 1,ql 10 .quo 8 9,q0 5 10] (.seq (so [mv 11 0,mv 12 1,ql 13 .rem 11 12,qk 14 13 0,mv 15 14,ot 16 15 (pm 0),(ot 17 15 (bn .lss (qt 16) (ki 0))),ot 18 15 (pm 1),(ot 19 15 (bn .lss (qt 18) (ki 0))),(ot 20 15 (.p (.bin .bool .neq (qt 17) (qt 19)))),qo 21 15 20] (.cond (qt 21) (.ops [mv 22 5,(o 23 (bn .sub (qt 22) (ki 1))),q0 5 23]) .skip)) (so [mv 24 5,q0 4 24] .ret)))))
def rv166:List RV:=[(.tmp 4)]
theorem hc166:cc Tryz.f166=some sc166:=by kernel_rfl
theorem hr166:ce Tryz.f166=some rv166:=by kernel_rfl
def sc167:SC:=(so [qp 6 false] (.seq (so [mv 7 0] (.block 0 (so [qj 9 7 35,q0 8 9] (.cond (qt 8) (so [mv 10 1,mv 11 2,ql 12 .eql 10 11,q0 6 12] .ret) (so [qj 14 7 36,q0 13 14] (.cond (qt 13) (so [mv 15 1,mv 16 2,ql 17 .neq 15 16,q0 6 17] .ret) (so [qj 19 7 37,q0 18 19] (.cond (qt 18) (so [mv 20 1,mv 21 2,q5 22 20 21,q0 6 22] .ret) (so [qj 24 7 38,q0 23 24] (.cond (qt 23) (so [mv 25 1,mv 26 2,ql 27 .leq 25 26,q0 6 27] .ret) (so [qj 29 7 39,q0 28 29] (.cond (qt 28) (so [mv 30 1,mv 31 2,ql 32 .gtr 30 31,q0 6 32] .ret) .skip)))))))))))) (so [mv 33 1,mv 34 2,ql 35 .geq 33 34,q0 6 35] .ret)))
def rv167:List RV:=[(.tmp 6)]
theorem hc167:cc Tryz.f167=some sc167:=by kernel_rfl
theorem hr167:ce Tryz.f167=some rv167:=by kernel_rfl
def sc171:SC:=(so [q8 2 0] (so [q8 3 0] (.seq (so [mv 6 0,qa 7 6,(o 8 (.p (.mv (ki 0))))] (.block 0 (.loop (so [q5 9 8 7] (.seq (q6 9 0) (.seq (.block 1 (so [q1 10 1 6 8,ld 11 10,q0 5 11] (so [mv 12 5,qk 13 12 0] (.cond (qt 13) (.ops [mv 14 3,q4 15 14 1,q0 3 15]) .skip)))) (.ops [q4 16 8 1,mv 8 16]))))))) (so [mv 17 3,q0 2 17] .ret))))
def rv171:List RV:=[(.tmp 2)]
theorem hc171:cc Tryz.f171=some sc171:=by kernel_rfl
theorem hr171:ce Tryz.f171=some rv171:=by kernel_rfl
def sc172:SC:=(so [q8 4 0] (.seq (so [mv 6 0,qa 7 6,(o 8 (.p (.mv (ki 0))))] (.block 0 (.loop (so [q5 9 8 7] (.seq (q6 9 0) (.seq (.block 1 (so [mv 10 8,q0 5 10] (so [mv 11 1,mv 12 0,mv 13 5,q1 14 1 12 13,ld 15 14,(o 16 (.callv (qt 11) [qt 15]))] (.cond (qt 16) (so [mv 17 5,q0 4 17] .ret) .skip)))) (.ops [q4 18 8 1,mv 8 18]))))))) (so [(o 4 (.asg (.k (.int .i64 (-1)))))] .ret)))
def rv172:List RV:=[(.tmp 4)]
theorem hc172:cc Tryz.f172=some sc172:=by kernel_rfl
theorem hr172:ce Tryz.f172=some rv172:=by kernel_rfl
def sc173:SC:=(so [qp 2 false] (so [mv 3 0,qk 4 3 0,q0 2 4] .ret))
def rv173:List RV:=[(.tmp 2)]
theorem hc173:cc Tryz.f173=some sc173:=by kernel_rfl
theorem hr173:ce Tryz.f173=some rv173:=by kernel_rfl
def sc174:SC:=(so [q8 2 0,q8 3 0] (so [(o 2 (.asg (.k (.int .i64 (-1073741824))))),(o 3 (.asg (.k (.int .i64 (-1073741824)))))] (.seq (so [mv 6 0,qa 7 6,(o 8 (.p (.mv (ki 0))))] (.block 0 (.loop (so [q5 9 8 7] (.seq (q6 9 0) (.seq (.block 1 (so [q1 10 1 6 8,ld 11 10,q0 5 11] (so [mv 12 5,mv 13 2,ql 14 .gtr 12 13] (.cond (qt 14) (.ops [mv 15 5,mv 16 2,q0 2 15,q0 3 16]) (.ops [mv 17 3,mv 18 5,(o 19 (.p (.mx (qt 17) (qt 18)))),q0 3 19]))))) (.ops [q4 20 8 1,mv 8 20]))))))) (so [mv 21 2,mv 22 3,q0 2 21,q0 3 22] .ret))))
def rv174:List RV:=[(.tmp 2),(.tmp 3)]
theorem hc174:cc Tryz.f174=some sc174:=by kernel_rfl
theorem hr174:ce Tryz.f174=some rv174:=by kernel_rfl
end Go.Proofs.YtbceaajfhcgnjaaGreat
