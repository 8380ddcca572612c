/- VI, part RF: the table of functions is the program's. Printed by wip/vi/gen/ftok.py. -/
import Derived.Test.YtkjeigdiojdfnaaVZ
import Derived.Test.YtkjeigdiojdfnaaRB
import Derived.Test.YtkjeigdiojdfnaaChecked
import Derived.KernelRfl
set_option linter.unusedVariables false
set_option maxRecDepth 100000
namespace Go.VI
theorem fc3 : compF Go.Proofs.Try.prog 3 = some (139, r3, c3) := by rfl
theorem fn3 : (Go.Proofs.Try.prog.funcs[3]?).all (fun fn => !(fn.name == "runtime.NumGoroutine")) = true := by kernel_rfl
theorem fc4 : compF Go.Proofs.Try.prog 4 = some (94, r4, c4) := by rfl
theorem fn4 : (Go.Proofs.Try.prog.funcs[4]?).all (fun fn => !(fn.name == "runtime.NumGoroutine")) = true := by kernel_rfl
theorem fc5 : compF Go.Proofs.Try.prog 5 = some (109, r5, c5) := by rfl
theorem fn5 : (Go.Proofs.Try.prog.funcs[5]?).all (fun fn => !(fn.name == "runtime.NumGoroutine")) = true := by kernel_rfl
theorem fc6 : compF Go.Proofs.Try.prog 6 = some (125, r6, c6) := by rfl
theorem fn6 : (Go.Proofs.Try.prog.funcs[6]?).all (fun fn => !(fn.name == "runtime.NumGoroutine")) = true := by kernel_rfl
theorem fc7 : compF Go.Proofs.Try.prog 7 = some (133, r7, c7) := by rfl
theorem fn7 : (Go.Proofs.Try.prog.funcs[7]?).all (fun fn => !(fn.name == "runtime.NumGoroutine")) = true := by kernel_rfl
theorem fc8 : compF Go.Proofs.Try.prog 8 = some (99, r8, c8) := by rfl
theorem fn8 : (Go.Proofs.Try.prog.funcs[8]?).all (fun fn => !(fn.name == "runtime.NumGoroutine")) = true := by kernel_rfl
theorem fc9 : compF Go.Proofs.Try.prog 9 = some (103, r9, c9) := by rfl
theorem fn9 : (Go.Proofs.Try.prog.funcs[9]?).all (fun fn => !(fn.name == "runtime.NumGoroutine")) = true := by kernel_rfl
theorem fc10 : compF Go.Proofs.Try.prog 10 = some (114, r10, c10) := by rfl
theorem fn10 : (Go.Proofs.Try.prog.funcs[10]?).all (fun fn => !(fn.name == "runtime.NumGoroutine")) = true := by kernel_rfl
theorem fc12 : compF Go.Proofs.Try.prog 12 = some (93, r12, c12) := by rfl
theorem fn12 : (Go.Proofs.Try.prog.funcs[12]?).all (fun fn => !(fn.name == "runtime.NumGoroutine")) = true := by kernel_rfl
theorem fc13 : compF Go.Proofs.Try.prog 13 = some (31, r13, c13) := by rfl
theorem fn13 : (Go.Proofs.Try.prog.funcs[13]?).all (fun fn => !(fn.name == "runtime.NumGoroutine")) = true := by kernel_rfl
theorem fc14 : compF Go.Proofs.Try.prog 14 = some (156, r14, c14) := by rfl
theorem fn14 : (Go.Proofs.Try.prog.funcs[14]?).all (fun fn => !(fn.name == "runtime.NumGoroutine")) = true := by kernel_rfl
theorem fc15 : compF Go.Proofs.Try.prog 15 = some (49, r15, c15) := by rfl
theorem fn15 : (Go.Proofs.Try.prog.funcs[15]?).all (fun fn => !(fn.name == "runtime.NumGoroutine")) = true := by kernel_rfl
theorem fc16 : compF Go.Proofs.Try.prog 16 = some (14, r16, c16) := by rfl
theorem fn16 : (Go.Proofs.Try.prog.funcs[16]?).all (fun fn => !(fn.name == "runtime.NumGoroutine")) = true := by kernel_rfl
theorem fc17 : compF Go.Proofs.Try.prog 17 = some (4, r17, c17) := by rfl
theorem fn17 : (Go.Proofs.Try.prog.funcs[17]?).all (fun fn => !(fn.name == "runtime.NumGoroutine")) = true := by kernel_rfl
theorem fc18 : compF Go.Proofs.Try.prog 18 = some (102, r18, c18) := by rfl
theorem fn18 : (Go.Proofs.Try.prog.funcs[18]?).all (fun fn => !(fn.name == "runtime.NumGoroutine")) = true := by kernel_rfl
theorem fc19 : compF Go.Proofs.Try.prog 19 = some (14, r19, c19) := by rfl
theorem fn19 : (Go.Proofs.Try.prog.funcs[19]?).all (fun fn => !(fn.name == "runtime.NumGoroutine")) = true := by kernel_rfl
theorem fc20 : compF Go.Proofs.Try.prog 20 = some (56, r20, c20) := by rfl
theorem fn20 : (Go.Proofs.Try.prog.funcs[20]?).all (fun fn => !(fn.name == "runtime.NumGoroutine")) = true := by kernel_rfl
theorem fc21 : compF Go.Proofs.Try.prog 21 = some (29, r21, c21) := by rfl
theorem fn21 : (Go.Proofs.Try.prog.funcs[21]?).all (fun fn => !(fn.name == "runtime.NumGoroutine")) = true := by kernel_rfl
theorem fc22 : compF Go.Proofs.Try.prog 22 = some (172, r22, c22) := by rfl
theorem fn22 : (Go.Proofs.Try.prog.funcs[22]?).all (fun fn => !(fn.name == "runtime.NumGoroutine")) = true := by kernel_rfl
theorem fc23 : compF Go.Proofs.Try.prog 23 = some (33, r23, c23) := by rfl
theorem fn23 : (Go.Proofs.Try.prog.funcs[23]?).all (fun fn => !(fn.name == "runtime.NumGoroutine")) = true := by kernel_rfl
theorem fc24 : compF Go.Proofs.Try.prog 24 = some (57, r24, c24) := by rfl
theorem fn24 : (Go.Proofs.Try.prog.funcs[24]?).all (fun fn => !(fn.name == "runtime.NumGoroutine")) = true := by kernel_rfl
theorem fc25 : compF Go.Proofs.Try.prog 25 = some (46, r25, c25) := by rfl
theorem fn25 : (Go.Proofs.Try.prog.funcs[25]?).all (fun fn => !(fn.name == "runtime.NumGoroutine")) = true := by kernel_rfl
theorem fc26 : compF Go.Proofs.Try.prog 26 = some (131, r26, c26) := by rfl
theorem fn26 : (Go.Proofs.Try.prog.funcs[26]?).all (fun fn => !(fn.name == "runtime.NumGoroutine")) = true := by kernel_rfl
theorem fc27 : compF Go.Proofs.Try.prog 27 = some (51, r27, c27) := by rfl
theorem fn27 : (Go.Proofs.Try.prog.funcs[27]?).all (fun fn => !(fn.name == "runtime.NumGoroutine")) = true := by kernel_rfl
theorem fc29 : compF Go.Proofs.Try.prog 29 = some (33, r29, c29) := by rfl
theorem fn29 : (Go.Proofs.Try.prog.funcs[29]?).all (fun fn => !(fn.name == "runtime.NumGoroutine")) = true := by kernel_rfl
theorem fc30 : compF Go.Proofs.Try.prog 30 = some (11, r30, c30) := by rfl
theorem fn30 : (Go.Proofs.Try.prog.funcs[30]?).all (fun fn => !(fn.name == "runtime.NumGoroutine")) = true := by kernel_rfl
theorem fc31 : compF Go.Proofs.Try.prog 31 = some (63, r31, c31) := by rfl
theorem fn31 : (Go.Proofs.Try.prog.funcs[31]?).all (fun fn => !(fn.name == "runtime.NumGoroutine")) = true := by kernel_rfl
theorem fc32 : compF Go.Proofs.Try.prog 32 = some (44, r32, c32) := by rfl
theorem fn32 : (Go.Proofs.Try.prog.funcs[32]?).all (fun fn => !(fn.name == "runtime.NumGoroutine")) = true := by kernel_rfl
theorem fc33 : compF Go.Proofs.Try.prog 33 = some (21, r33, c33) := by rfl
theorem fn33 : (Go.Proofs.Try.prog.funcs[33]?).all (fun fn => !(fn.name == "runtime.NumGoroutine")) = true := by kernel_rfl
theorem fc34 : compF Go.Proofs.Try.prog 34 = some (21, r34, c34) := by rfl
theorem fn34 : (Go.Proofs.Try.prog.funcs[34]?).all (fun fn => !(fn.name == "runtime.NumGoroutine")) = true := by kernel_rfl
theorem fc35 : compF Go.Proofs.Try.prog 35 = some (21, r35, c35) := by rfl
theorem fn35 : (Go.Proofs.Try.prog.funcs[35]?).all (fun fn => !(fn.name == "runtime.NumGoroutine")) = true := by kernel_rfl
theorem fc36 : compF Go.Proofs.Try.prog 36 = some (21, r36, c36) := by rfl
theorem fn36 : (Go.Proofs.Try.prog.funcs[36]?).all (fun fn => !(fn.name == "runtime.NumGoroutine")) = true := by kernel_rfl
theorem fc37 : compF Go.Proofs.Try.prog 37 = some (59, r37, c37) := by rfl
theorem fn37 : (Go.Proofs.Try.prog.funcs[37]?).all (fun fn => !(fn.name == "runtime.NumGoroutine")) = true := by kernel_rfl
theorem fc38 : compF Go.Proofs.Try.prog 38 = some (17, r38, c38) := by rfl
theorem fn38 : (Go.Proofs.Try.prog.funcs[38]?).all (fun fn => !(fn.name == "runtime.NumGoroutine")) = true := by kernel_rfl
theorem fc39 : compF Go.Proofs.Try.prog 39 = some (8, r39, c39) := by rfl
theorem fn39 : (Go.Proofs.Try.prog.funcs[39]?).all (fun fn => !(fn.name == "runtime.NumGoroutine")) = true := by kernel_rfl
theorem fc40 : compF Go.Proofs.Try.prog 40 = some (8, r40, c40) := by rfl
theorem fn40 : (Go.Proofs.Try.prog.funcs[40]?).all (fun fn => !(fn.name == "runtime.NumGoroutine")) = true := by kernel_rfl
theorem fc41 : compF Go.Proofs.Try.prog 41 = some (59, r41, c41) := by rfl
theorem fn41 : (Go.Proofs.Try.prog.funcs[41]?).all (fun fn => !(fn.name == "runtime.NumGoroutine")) = true := by kernel_rfl
theorem fc42 : compF Go.Proofs.Try.prog 42 = some (18, r42, c42) := by rfl
theorem fn42 : (Go.Proofs.Try.prog.funcs[42]?).all (fun fn => !(fn.name == "runtime.NumGoroutine")) = true := by kernel_rfl
theorem fc43 : compF Go.Proofs.Try.prog 43 = some (12, r43, c43) := by rfl
theorem fn43 : (Go.Proofs.Try.prog.funcs[43]?).all (fun fn => !(fn.name == "runtime.NumGoroutine")) = true := by kernel_rfl
theorem fc44 : compF Go.Proofs.Try.prog 44 = some (27, r44, c44) := by rfl
theorem fn44 : (Go.Proofs.Try.prog.funcs[44]?).all (fun fn => !(fn.name == "runtime.NumGoroutine")) = true := by kernel_rfl
theorem fc45 : compF Go.Proofs.Try.prog 45 = some (16, r45, c45) := by rfl
theorem fn45 : (Go.Proofs.Try.prog.funcs[45]?).all (fun fn => !(fn.name == "runtime.NumGoroutine")) = true := by kernel_rfl
theorem fc46 : compF Go.Proofs.Try.prog 46 = some (26, r46, c46) := by rfl
theorem fn46 : (Go.Proofs.Try.prog.funcs[46]?).all (fun fn => !(fn.name == "runtime.NumGoroutine")) = true := by kernel_rfl
theorem fc47 : compF Go.Proofs.Try.prog 47 = some (40, r47, c47) := by rfl
theorem fn47 : (Go.Proofs.Try.prog.funcs[47]?).all (fun fn => !(fn.name == "runtime.NumGoroutine")) = true := by kernel_rfl
theorem fc48 : compF Go.Proofs.Try.prog 48 = some (11, r48, c48) := by rfl
theorem fn48 : (Go.Proofs.Try.prog.funcs[48]?).all (fun fn => !(fn.name == "runtime.NumGoroutine")) = true := by kernel_rfl
theorem fc49 : compF Go.Proofs.Try.prog 49 = some (33, r49, c49) := by rfl
theorem fn49 : (Go.Proofs.Try.prog.funcs[49]?).all (fun fn => !(fn.name == "runtime.NumGoroutine")) = true := by kernel_rfl
theorem fc50 : compF Go.Proofs.Try.prog 50 = some (25, r50, c50) := by rfl
theorem fn50 : (Go.Proofs.Try.prog.funcs[50]?).all (fun fn => !(fn.name == "runtime.NumGoroutine")) = true := by kernel_rfl
theorem fc51 : compF Go.Proofs.Try.prog 51 = some (17, r51, c51) := by rfl
theorem fn51 : (Go.Proofs.Try.prog.funcs[51]?).all (fun fn => !(fn.name == "runtime.NumGoroutine")) = true := by kernel_rfl
theorem fc52 : compF Go.Proofs.Try.prog 52 = some (85, r52, c52) := by rfl
theorem fn52 : (Go.Proofs.Try.prog.funcs[52]?).all (fun fn => !(fn.name == "runtime.NumGoroutine")) = true := by kernel_rfl
theorem fc53 : compF Go.Proofs.Try.prog 53 = some (40, r53, c53) := by rfl
theorem fn53 : (Go.Proofs.Try.prog.funcs[53]?).all (fun fn => !(fn.name == "runtime.NumGoroutine")) = true := by kernel_rfl
theorem fc54 : compF Go.Proofs.Try.prog 54 = some (32, r54, c54) := by rfl
theorem fn54 : (Go.Proofs.Try.prog.funcs[54]?).all (fun fn => !(fn.name == "runtime.NumGoroutine")) = true := by kernel_rfl
theorem fc55 : compF Go.Proofs.Try.prog 55 = some (84, r55, c55) := by rfl
theorem fn55 : (Go.Proofs.Try.prog.funcs[55]?).all (fun fn => !(fn.name == "runtime.NumGoroutine")) = true := by kernel_rfl
theorem fc56 : compF Go.Proofs.Try.prog 56 = some (48, r56, c56) := by rfl
theorem fn56 : (Go.Proofs.Try.prog.funcs[56]?).all (fun fn => !(fn.name == "runtime.NumGoroutine")) = true := by kernel_rfl
theorem fc57 : compF Go.Proofs.Try.prog 57 = some (62, r57, c57) := by rfl
theorem fn57 : (Go.Proofs.Try.prog.funcs[57]?).all (fun fn => !(fn.name == "runtime.NumGoroutine")) = true := by kernel_rfl
theorem fc58 : compF Go.Proofs.Try.prog 58 = some (27, r58, c58) := by rfl
theorem fn58 : (Go.Proofs.Try.prog.funcs[58]?).all (fun fn => !(fn.name == "runtime.NumGoroutine")) = true := by kernel_rfl
theorem fc59 : compF Go.Proofs.Try.prog 59 = some (56, r59, c59) := by rfl
theorem fn59 : (Go.Proofs.Try.prog.funcs[59]?).all (fun fn => !(fn.name == "runtime.NumGoroutine")) = true := by kernel_rfl
theorem fc60 : compF Go.Proofs.Try.prog 60 = some (12, r60, c60) := by rfl
theorem fn60 : (Go.Proofs.Try.prog.funcs[60]?).all (fun fn => !(fn.name == "runtime.NumGoroutine")) = true := by kernel_rfl
theorem fc61 : compF Go.Proofs.Try.prog 61 = some (8, r61, c61) := by rfl
theorem fn61 : (Go.Proofs.Try.prog.funcs[61]?).all (fun fn => !(fn.name == "runtime.NumGoroutine")) = true := by kernel_rfl
theorem fc62 : compF Go.Proofs.Try.prog 62 = some (113, r62, c62) := by rfl
theorem fn62 : (Go.Proofs.Try.prog.funcs[62]?).all (fun fn => !(fn.name == "runtime.NumGoroutine")) = true := by kernel_rfl
theorem fc63 : compF Go.Proofs.Try.prog 63 = some (48, r63, c63) := by rfl
theorem fn63 : (Go.Proofs.Try.prog.funcs[63]?).all (fun fn => !(fn.name == "runtime.NumGoroutine")) = true := by kernel_rfl
theorem fc64 : compF Go.Proofs.Try.prog 64 = some (33, r64, c64) := by rfl
theorem fn64 : (Go.Proofs.Try.prog.funcs[64]?).all (fun fn => !(fn.name == "runtime.NumGoroutine")) = true := by kernel_rfl
theorem fc65 : compF Go.Proofs.Try.prog 65 = some (8, r65, c65) := by rfl
theorem fn65 : (Go.Proofs.Try.prog.funcs[65]?).all (fun fn => !(fn.name == "runtime.NumGoroutine")) = true := by kernel_rfl
theorem fc66 : compF Go.Proofs.Try.prog 66 = some (49, r66, c66) := by rfl
theorem fn66 : (Go.Proofs.Try.prog.funcs[66]?).all (fun fn => !(fn.name == "runtime.NumGoroutine")) = true := by kernel_rfl
theorem fc67 : compF Go.Proofs.Try.prog 67 = some (9, r67, c67) := by rfl
theorem fn67 : (Go.Proofs.Try.prog.funcs[67]?).all (fun fn => !(fn.name == "runtime.NumGoroutine")) = true := by kernel_rfl
theorem fc68 : compF Go.Proofs.Try.prog 68 = some (106, r68, c68) := by rfl
theorem fn68 : (Go.Proofs.Try.prog.funcs[68]?).all (fun fn => !(fn.name == "runtime.NumGoroutine")) = true := by kernel_rfl
theorem fc70 : compF Go.Proofs.Try.prog 70 = some (38, r70, c70) := by rfl
theorem fn70 : (Go.Proofs.Try.prog.funcs[70]?).all (fun fn => !(fn.name == "runtime.NumGoroutine")) = true := by kernel_rfl
theorem fc71 : compF Go.Proofs.Try.prog 71 = some (31, r71, c71) := by rfl
theorem fn71 : (Go.Proofs.Try.prog.funcs[71]?).all (fun fn => !(fn.name == "runtime.NumGoroutine")) = true := by kernel_rfl
theorem ft_ok : FTOk Go.Proofs.Try.prog ft := by
  intro k d h
  unfold ft at h
  split at h
  · cases h; exact go_ok fc3 fn3
  · cases h; exact go_ok fc4 fn4
  · cases h; exact go_ok fc5 fn5
  · cases h; exact go_ok fc6 fn6
  · cases h; exact go_ok fc7 fn7
  · cases h; exact go_ok fc8 fn8
  · cases h; exact go_ok fc9 fn9
  · cases h; exact go_ok fc10 fn10
  · cases h; exact go_ok fc12 fn12
  · cases h; exact go_ok fc13 fn13
  · cases h; exact go_ok fc14 fn14
  · cases h; exact go_ok fc15 fn15
  · cases h; exact go_ok fc16 fn16
  · cases h; exact go_ok fc17 fn17
  · cases h; exact go_ok fc18 fn18
  · cases h; exact go_ok fc19 fn19
  · cases h; exact go_ok fc20 fn20
  · cases h; exact go_ok fc21 fn21
  · cases h; exact go_ok fc22 fn22
  · cases h; exact go_ok fc23 fn23
  · cases h; exact go_ok fc24 fn24
  · cases h; exact go_ok fc25 fn25
  · cases h; exact go_ok fc26 fn26
  · cases h; exact go_ok fc27 fn27
  · cases h; exact go_ok fc29 fn29
  · cases h; exact go_ok fc30 fn30
  · cases h; exact go_ok fc31 fn31
  · cases h; exact go_ok fc32 fn32
  · cases h; exact go_ok fc33 fn33
  · cases h; exact go_ok fc34 fn34
  · cases h; exact go_ok fc35 fn35
  · cases h; exact go_ok fc36 fn36
  · cases h; exact go_ok fc37 fn37
  · cases h; exact go_ok fc38 fn38
  · cases h; exact go_ok fc39 fn39
  · cases h; exact go_ok fc40 fn40
  · cases h; exact go_ok fc41 fn41
  · cases h; exact go_ok fc42 fn42
  · cases h; exact go_ok fc43 fn43
  · cases h; exact go_ok fc44 fn44
  · cases h; exact go_ok fc45 fn45
  · cases h; exact go_ok fc46 fn46
  · cases h; exact go_ok fc47 fn47
  · cases h; exact go_ok fc48 fn48
  · cases h; exact go_ok fc49 fn49
  · cases h; exact go_ok fc50 fn50
  · cases h; exact go_ok fc51 fn51
  · cases h; exact go_ok fc52 fn52
  · cases h; exact go_ok fc53 fn53
  · cases h; exact go_ok fc54 fn54
  · cases h; exact go_ok fc55 fn55
  · cases h; exact go_ok fc56 fn56
  · cases h; exact go_ok fc57 fn57
  · cases h; exact go_ok fc58 fn58
  · cases h; exact go_ok fc59 fn59
  · cases h; exact go_ok fc60 fn60
  · cases h; exact go_ok fc61 fn61
  · cases h; exact go_ok fc62 fn62
  · cases h; exact go_ok fc63 fn63
  · cases h; exact go_ok fc64 fn64
  · cases h; exact go_ok fc65 fn65
  · cases h; exact go_ok fc66 fn66
  · cases h; exact go_ok fc67 fn67
  · cases h; exact go_ok fc68 fn68
  · cases h; exact go_ok fc70 fn70
  · cases h; exact go_ok fc71 fn71
  · cases h; exact cmp_ok Go.Proofs.Try.func69 (by kernel_rfl) (by kernel_rfl) (by kernel_rfl) (by kernel_rfl)
  · cases h
theorem follows : Go.Proofs.Try.prog.follows .mixedOrders = true := by kernel_rfl
end Go.VI
