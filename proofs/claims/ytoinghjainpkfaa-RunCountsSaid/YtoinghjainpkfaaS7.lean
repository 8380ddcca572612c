import Derived.Test.YtoinghjainpkfaaS6
import Derived.KernelRfl
import Derived.Test.YtoinghjainpkfaaChecked
import Derived.OpenShut
/- What the claim hangs on, part 7: RSM RF4 RGA RG4. -/
set_option linter.unusedVariables false
set_option linter.unusedSimpArgs false
set_option maxRecDepth 100000
namespace Go.VI
open Go.Sort Go.Proofs Go.Shelf
attribute [local congr] AW_congr OW_congr DW_congr NW_congr VW_congr GW_congr PW_congr KW_congr ite_congr' GV_congr CV_congr
def c180L0 : ACode := (.block 1 (.seq (.region [⟨(some 21), (.mov (.tmp 2)), none⟩, ⟨(some 22), (.mov (.tmp 1)), none⟩, ⟨(some 23), (.bin .sub 3 (.tmp 21) (.tmp 22)), none⟩, ⟨(some 12), (.mov (.tmp 23)), none⟩] false []) (.seq (.seq (.region [⟨(some 24), (.mov (.tmp 12)), none⟩, ⟨(some 25), (.bin .leq 3 (.tmp 24) (.const (.int .i64 12))), none⟩] false []) (.cond (.tmp 25) (.seq (.region [⟨(some 26), (.mov (.tmp 0)), none⟩, ⟨(some 27), (.mov (.tmp 1)), none⟩, ⟨(some 28), (.mov (.tmp 2)), none⟩, ⟨(some 29), (.mov (.tmp 4)), none⟩, ⟨(some 30), (.call (.func 190) [(.tmp 26), (.tmp 27), (.tmp 28), (.tmp 29)]), none⟩] false []) .ret) .skip)) (.seq (.seq (.region [⟨(some 31), (.mov (.tmp 3)), none⟩, ⟨(some 32), (.bin .eql 3 (.tmp 31) (.const (.int .i64 0))), none⟩] false []) (.cond (.tmp 32) (.seq (.region [⟨(some 33), (.mov (.tmp 0)), none⟩, ⟨(some 34), (.mov (.tmp 1)), none⟩, ⟨(some 35), (.mov (.tmp 2)), none⟩, ⟨(some 36), (.mov (.tmp 4)), none⟩, ⟨(some 37), (.call (.func 191) [(.tmp 33), (.tmp 34), (.tmp 35), (.tmp 36)]), none⟩] false []) .ret) .skip)) (.seq (.seq (.region [⟨(some 38), (.mov (.tmp 10)), none⟩, ⟨(some 39), (.un .not (.tmp 38)), none⟩] false []) (.cond (.tmp 39) (.seq (.region [⟨(some 40), (.mov (.tmp 0)), none⟩, ⟨(some 41), (.mov (.tmp 1)), none⟩, ⟨(some 42), (.mov (.tmp 2)), none⟩, ⟨(some 43), (.mov (.tmp 4)), none⟩, ⟨(some 44), (.call (.func 192) [(.tmp 40), (.tmp 41), (.tmp 42), (.tmp 43)]), none⟩] false []) (.region [⟨(some 45), (.mov (.tmp 3)), none⟩, ⟨(some 46), (.bin .sub 3 (.tmp 45) (.const (.int .i64 1))), none⟩, ⟨(some 3), (.mov (.tmp 46)), none⟩] false [])) .skip)) (.seq (.region [⟨(some 48), (.mov (.tmp 0)), none⟩, ⟨(some 49), (.mov (.tmp 1)), none⟩, ⟨(some 50), (.mov (.tmp 2)), none⟩, ⟨(some 51), (.mov (.tmp 4)), none⟩, ⟨(some 52), (.call (.func 193) [(.tmp 48), (.tmp 49), (.tmp 50), (.tmp 51)]), none⟩, ⟨(some 47), (.mov (.tmp 52)), none⟩, ⟨(some 53), (.ext (.tmp 47) 0), none⟩, ⟨(some 54), (.ext (.tmp 47) 1), none⟩, ⟨(some 13), (.mov (.tmp 53)), none⟩, ⟨(some 14), (.mov (.tmp 54)), none⟩] false []) (.seq (.seq (.region [⟨(some 55), (.mov (.tmp 14)), none⟩, ⟨(some 56), (.bin .eql 225 (.tmp 55) (.const (.int .i64 2))), none⟩] false []) (.cond (.tmp 56) (.seq (.region [⟨(some 57), (.mov (.tmp 0)), none⟩, ⟨(some 58), (.mov (.tmp 1)), none⟩, ⟨(some 59), (.mov (.tmp 2)), none⟩, ⟨(some 60), (.mov (.tmp 4)), none⟩, ⟨(some 61), (.call (.func 194) [(.tmp 57), (.tmp 58), (.tmp 59), (.tmp 60)]), none⟩] false []) (.seq (.region [⟨(some 62), (.mov (.tmp 2)), none⟩, ⟨(some 63), (.bin .sub 3 (.tmp 62) (.const (.int .i64 1))), none⟩, ⟨(some 64), (.mov (.tmp 13)), none⟩, ⟨(some 65), (.mov (.tmp 1)), none⟩, ⟨(some 66), (.bin .sub 3 (.tmp 64) (.tmp 65)), none⟩, ⟨(some 67), (.bin .sub 3 (.tmp 63) (.tmp 66)), none⟩, ⟨(some 13), (.mov (.tmp 67)), none⟩] false []) (.region [⟨(some 14), (.mov (.const (.int .i64 1))), none⟩] false []))) .skip)) (.seq (.seq (.region [⟨(some 68), (.mov (.tmp 10)), none⟩, ⟨(some 69), (.mov (.tmp 68)), none⟩, ⟨(some 70), (.mov (.tmp 11)), (some ((some 69), true))⟩, ⟨(some 71), (.pick (.tmp 69) (.tmp 70) (.const (.bool false))), none⟩, ⟨(some 72), (.mov (.tmp 71)), none⟩, ⟨(some 73), (.mov (.tmp 14)), (some ((some 72), true))⟩, ⟨(some 74), (.bin .eql 225 (.tmp 73) (.const (.int .i64 1))), (some ((some 72), true))⟩, ⟨(some 75), (.pick (.tmp 72) (.tmp 74) (.const (.bool false))), none⟩] false []) (.cond (.tmp 75) (.seq (.region [⟨(some 76), (.mov (.tmp 0)), none⟩, ⟨(some 77), (.mov (.tmp 1)), none⟩, ⟨(some 78), (.mov (.tmp 2)), none⟩, ⟨(some 79), (.mov (.tmp 4)), none⟩, ⟨(some 80), (.call (.func 195) [(.tmp 76), (.tmp 77), (.tmp 78), (.tmp 79)]), none⟩] false []) (.cond (.tmp 80) .ret .skip)) .skip)) (.seq (.seq (.region [⟨(some 81), (.mov (.tmp 1)), none⟩, ⟨(some 82), (.bin .gtr 3 (.tmp 81) (.const (.int .i64 0))), none⟩, ⟨(some 83), (.mov (.tmp 82)), none⟩, ⟨(some 84), (.mov (.tmp 4)), (some ((some 83), true))⟩, ⟨(some 85), (.mov (.tmp 0)), (some ((some 83), true))⟩, ⟨(some 86), (.mov (.tmp 1)), (some ((some 83), true))⟩, ⟨(some 87), (.bin .sub 3 (.tmp 86) (.const (.int .i64 1))), (some ((some 83), true))⟩, ⟨(some 88), (.iaddr none 2 (.tmp 85) (.tmp 87)), (some ((some 83), true))⟩, ⟨(some 89), (.load true 2 (.tmp 88)), (some ((some 83), true))⟩, ⟨(some 90), (.mov (.tmp 0)), (some ((some 83), true))⟩, ⟨(some 91), (.mov (.tmp 13)), (some ((some 83), true))⟩, ⟨(some 92), (.iaddr none 2 (.tmp 90) (.tmp 91)), (some ((some 83), true))⟩, ⟨(some 93), (.load true 2 (.tmp 92)), (some ((some 83), true))⟩, ⟨(some 94), (.call (.tmp 84) [(.tmp 89), (.tmp 93)]), (some ((some 83), true))⟩, ⟨(some 95), (.bin .lss 3 (.tmp 94) (.const (.int .i64 0))), (some ((some 83), true))⟩, ⟨(some 96), (.un .not (.tmp 95)), (some ((some 83), true))⟩, ⟨(some 97), (.pick (.tmp 83) (.tmp 96) (.const (.bool false))), none⟩] true []) (.cond (.tmp 97) (.seq (.region [⟨(some 98), (.mov (.tmp 0)), none⟩, ⟨(some 99), (.mov (.tmp 1)), none⟩, ⟨(some 100), (.mov (.tmp 2)), none⟩, ⟨(some 101), (.mov (.tmp 13)), none⟩, ⟨(some 102), (.mov (.tmp 4)), none⟩, ⟨(some 103), (.call (.func 196) [(.tmp 98), (.tmp 99), (.tmp 100), (.tmp 101), (.tmp 102)]), none⟩, ⟨(some 15), (.mov (.tmp 103)), none⟩] false []) (.seq (.region [⟨(some 104), (.mov (.tmp 15)), none⟩, ⟨(some 1), (.mov (.tmp 104)), none⟩] false []) (.exit 1))) .skip)) (.seq (.region [⟨(some 106), (.mov (.tmp 0)), none⟩, ⟨(some 107), (.mov (.tmp 1)), none⟩, ⟨(some 108), (.mov (.tmp 2)), none⟩, ⟨(some 109), (.mov (.tmp 13)), none⟩, ⟨(some 110), (.mov (.tmp 4)), none⟩, ⟨(some 111), (.call (.func 197) [(.tmp 106), (.tmp 107), (.tmp 108), (.tmp 109), (.tmp 110)]), none⟩, ⟨(some 105), (.mov (.tmp 111)), none⟩, ⟨(some 112), (.ext (.tmp 105) 0), none⟩, ⟨(some 113), (.ext (.tmp 105) 1), none⟩, ⟨(some 16), (.mov (.tmp 112)), none⟩, ⟨(some 17), (.mov (.tmp 113)), none⟩] false []) (.seq (.region [⟨(some 114), (.mov (.tmp 17)), none⟩, ⟨(some 11), (.mov (.tmp 114)), none⟩] false []) (.seq (.region [⟨(some 115), (.mov (.tmp 16)), none⟩, ⟨(some 116), (.mov (.tmp 1)), none⟩, ⟨(some 117), (.bin .sub 3 (.tmp 115) (.tmp 116)), none⟩, ⟨(some 118), (.mov (.tmp 2)), none⟩, ⟨(some 119), (.mov (.tmp 16)), none⟩, ⟨(some 120), (.bin .sub 3 (.tmp 118) (.tmp 119)), none⟩, ⟨(some 18), (.mov (.tmp 117)), none⟩, ⟨(some 19), (.mov (.tmp 120)), none⟩] false []) (.seq (.region [⟨(some 121), (.mov (.tmp 12)), none⟩, ⟨(some 122), (.bin .quo 3 (.tmp 121) (.const (.int .i64 8))), none⟩, ⟨(some 20), (.mov (.tmp 122)), none⟩] false []) (.seq (.region [⟨(some 123), (.mov (.tmp 18)), none⟩, ⟨(some 124), (.mov (.tmp 19)), none⟩, ⟨(some 125), (.bin .lss 3 (.tmp 123) (.tmp 124)), none⟩] false []) (.cond (.tmp 125) (.seq (.region [⟨(some 126), (.mov (.tmp 18)), none⟩, ⟨(some 127), (.mov (.tmp 20)), none⟩, ⟨(some 128), (.bin .geq 3 (.tmp 126) (.tmp 127)), none⟩, ⟨(some 10), (.mov (.tmp 128)), none⟩] false []) (.seq (.region [⟨(some 129), (.mov (.tmp 0)), none⟩, ⟨(some 130), (.mov (.tmp 1)), none⟩, ⟨(some 131), (.mov (.tmp 16)), none⟩, ⟨(some 132), (.mov (.tmp 3)), none⟩, ⟨(some 133), (.mov (.tmp 4)), none⟩, ⟨(some 134), (.call (.func 180) [(.tmp 129), (.tmp 130), (.tmp 131), (.tmp 132), (.tmp 133)]), none⟩] false []) (.region [⟨(some 135), (.mov (.tmp 16)), none⟩, ⟨(some 136), (.bin .add 3 (.tmp 135) (.const (.int .i64 1))), none⟩, ⟨(some 1), (.mov (.tmp 136)), none⟩] false []))) (.seq (.region [⟨(some 137), (.mov (.tmp 19)), none⟩, ⟨(some 138), (.mov (.tmp 20)), none⟩, ⟨(some 139), (.bin .geq 3 (.tmp 137) (.tmp 138)), none⟩, ⟨(some 10), (.mov (.tmp 139)), none⟩] false []) (.seq (.region [⟨(some 140), (.mov (.tmp 0)), none⟩, ⟨(some 141), (.mov (.tmp 16)), none⟩, ⟨(some 142), (.bin .add 3 (.tmp 141) (.const (.int .i64 1))), none⟩, ⟨(some 143), (.mov (.tmp 2)), none⟩, ⟨(some 144), (.mov (.tmp 3)), none⟩, ⟨(some 145), (.mov (.tmp 4)), none⟩, ⟨(some 146), (.call (.func 180) [(.tmp 140), (.tmp 142), (.tmp 143), (.tmp 144), (.tmp 145)]), none⟩] false []) (.region [⟨(some 147), (.mov (.tmp 16)), none⟩, ⟨(some 2), (.mov (.tmp 147)), none⟩] false []))))))))))))))))))
def c180 : ACode := (.seq (.region [⟨(some 10), (.mov (.const (.bool true))), none⟩] false []) (.seq (.region [⟨(some 11), (.mov (.const (.bool true))), none⟩] false []) (.block 0 (.loop c180L0))))
def r180 : List ARes := []
def c190L0 : ACode := (.seq (.seq (.region [⟨(some 18), (.mov (.tmp 9)), none⟩, ⟨(some 19), (.mov (.tmp 1)), none⟩, ⟨(some 20), (.bin .gtr 3 (.tmp 18) (.tmp 19)), none⟩, ⟨(some 21), (.mov (.tmp 20)), none⟩, ⟨(some 22), (.mov (.tmp 3)), (some ((some 21), true))⟩, ⟨(some 23), (.mov (.tmp 0)), (some ((some 21), true))⟩, ⟨(some 24), (.mov (.tmp 9)), (some ((some 21), true))⟩, ⟨(some 25), (.iaddr none 2 (.tmp 23) (.tmp 24)), (some ((some 21), true))⟩, ⟨(some 26), (.load true 2 (.tmp 25)), (some ((some 21), true))⟩, ⟨(some 27), (.mov (.tmp 0)), (some ((some 21), true))⟩, ⟨(some 28), (.mov (.tmp 9)), (some ((some 21), true))⟩, ⟨(some 29), (.bin .sub 3 (.tmp 28) (.const (.int .i64 1))), (some ((some 21), true))⟩, ⟨(some 30), (.iaddr none 2 (.tmp 27) (.tmp 29)), (some ((some 21), true))⟩, ⟨(some 31), (.load true 2 (.tmp 30)), (some ((some 21), true))⟩, ⟨(some 32), (.call (.tmp 22) [(.tmp 26), (.tmp 31)]), (some ((some 21), true))⟩, ⟨(some 33), (.bin .lss 3 (.tmp 32) (.const (.int .i64 0))), (some ((some 21), true))⟩, ⟨(some 34), (.pick (.tmp 21) (.tmp 33) (.const (.bool false))), none⟩] true []) (.cond (.tmp 34) .skip (.exit 2))) (.seq (.block 3 (.region [⟨(some 37), (.mov (.tmp 0)), none⟩, ⟨(some 38), (.mov (.tmp 9)), none⟩, ⟨(some 39), (.mov (.tmp 0)), none⟩, ⟨(some 40), (.mov (.tmp 9)), none⟩, ⟨(some 41), (.bin .sub 3 (.tmp 40) (.const (.int .i64 1))), none⟩, ⟨(some 42), (.mov (.tmp 0)), none⟩, ⟨(some 43), (.mov (.tmp 9)), none⟩, ⟨(some 44), (.bin .sub 3 (.tmp 43) (.const (.int .i64 1))), none⟩, ⟨(some 45), (.iaddr none 2 (.tmp 42) (.tmp 44)), none⟩, ⟨(some 46), (.load true 2 (.tmp 45)), none⟩, ⟨(some 47), (.mov (.tmp 0)), none⟩, ⟨(some 48), (.mov (.tmp 9)), none⟩, ⟨(some 49), (.iaddr none 2 (.tmp 47) (.tmp 48)), none⟩, ⟨(some 50), (.load true 2 (.tmp 49)), none⟩, ⟨(some 51), (.iaddr none 2 (.tmp 37) (.tmp 38)), none⟩, ⟨none, (.store 2 (.tmp 51) (.tmp 46)), none⟩, ⟨(some 52), (.iaddr none 2 (.tmp 39) (.tmp 41)), none⟩, ⟨none, (.store 2 (.tmp 52) (.tmp 50)), none⟩] true [])) (.region [⟨(some 35), (.mov (.tmp 9)), none⟩, ⟨(some 36), (.bin .sub 3 (.tmp 35) (.const (.int .i64 1))), none⟩, ⟨(some 9), (.mov (.tmp 36)), none⟩] false [])))
def c190R1 : ACode := (.region [⟨(some 15), (.mov (.tmp 8)), none⟩, ⟨(some 16), (.bin .add 3 (.tmp 15) (.const (.int .i64 1))), none⟩, ⟨(some 8), (.mov (.tmp 16)), none⟩] false [])
def c190L2 : ACode := (.seq (.seq (.region [⟨(some 12), (.mov (.tmp 8)), none⟩, ⟨(some 13), (.mov (.tmp 2)), none⟩, ⟨(some 14), (.bin .lss 3 (.tmp 12) (.tmp 13)), none⟩] false []) (.cond (.tmp 14) .skip (.exit 0))) (.seq (.block 1 (.seq (.region [⟨(some 17), (.mov (.tmp 8)), none⟩, ⟨(some 9), (.mov (.tmp 17)), none⟩] false []) (.block 2 (.loop c190L0)))) c190R1))
def c190 : ACode := (.seq (.region [⟨(some 10), (.mov (.tmp 1)), none⟩, ⟨(some 11), (.bin .add 3 (.tmp 10) (.const (.int .i64 1))), none⟩, ⟨(some 8), (.mov (.tmp 11)), none⟩] false []) (.block 0 (.loop c190L2)))
def r190 : List ARes := []
theorem clos0 (a1 a2 b1 b2 : Int) (W : World) : Calls Go.Proofs.Try.prog 160 #[.agg #[.int .i64 a1, .int .i64 a2], .agg #[.int .i64 b1, .int .i64 b2]] W fun e w' => e = .returned (.int .i64 (IntKind.i64.wrap (a1 - b1))) ∧ ∃ q os', w' = grow (W.drewN q) os' := by
  go_enter Try.func160, Try.ntmps160
  go_wp2_with (fail)
  go_ret
  refine ⟨?_, 0, _, by rw [alloc_eq_grow, alloc_eq_grow, grow_grow]; rfl⟩
  rw [Go.IntWalk.i64_left]
  rfl
theorem closR (x y : SR) (W : World) : Calls Go.Proofs.Try.prog 160 #[.agg (srE x).toArray, .agg (srE y).toArray] W fun e w' => e = .returned (.int .i64 (srCf x y)) ∧ ∃ q os', w' = grow (W.drewN q) os' := by
  have wr : IntKind.i64.wrap (x.1.1 - y.1.1) = srCf x y := by
    have h1 := x.2
    have h2 := y.2
    unfold srCf
    exact wrap_i64 (by omega)
  rw [← wr]
  exact clos0 x.1.1 x.1.2 y.1.1 y.1.2 W
def lenP : List AV → Option AV
  | [.sc (.int .u64 0)] => some (.sc (.int .i64 0))
  | _ => none
theorem lenP_ok : PPrimOk Go.Proofs.Try.prog 181 lenP := by
  intro args r h m F H w vs hI hl hv
  unfold lenP at h
  split at h
  · cases h
    have h0 := (vr_sc (m := m) (.fz (hv 0 _ rfl))).1
    obtain rfl : vs = #[.int .u64 0] := by
      refine Array.ext (by simpa using hl) fun i h1 h2 => ?_
      simp at h2
      subst h2
      simpa [Array.getD_eq_getD_getElem?, h1] using h0
    refine .inl ⟨enters_of Try.func181 (by kernel_rfl) rfl _ _, ?_⟩
    have hb := Any.bits_Len (SlLaysF0.n15.bits (P := Go.Proofs.Try.prog) (ρ := Try.sortRun_ren) { Try.sortRun with }) 0 w (by omega) (by omega)
    refine hb.mono fun e w' ⟨he, hw⟩ => ?_
    subst hw
    exact ⟨_, m, F, he, .fz (.sc rfl), hI, Ext.refl m F _, Grew.refl m H⟩
  · cases h
/-- The table by which the sort of an empty row is reckoned. -/
def ftZ : FT
  | 159 => some (.go true 14 r159 c159)
  | 180 => some (.go true 148 r180 c180)
  | 190 => some (.go true 53 r190 c190)
  | 181 => some (.pprim lenP)
  | _ => none
theorem fcZ159 : compF Go.Proofs.Try.prog 159 = some (14, r159, c159) := by rfl
theorem fcZ180 : compF Go.Proofs.Try.prog 180 = some (148, r180, c180) := by rfl
theorem fcZ190 : compF Go.Proofs.Try.prog 190 = some (53, r190, c190) := by rfl
theorem fnZ159 : (Go.Proofs.Try.prog.funcs[159]?).all (fun fn => !(fn.name == "runtime.NumGoroutine")) = true := by kernel_rfl
theorem fnZ180 : (Go.Proofs.Try.prog.funcs[180]?).all (fun fn => !(fn.name == "runtime.NumGoroutine")) = true := by kernel_rfl
theorem fnZ190 : (Go.Proofs.Try.prog.funcs[190]?).all (fun fn => !(fn.name == "runtime.NumGoroutine")) = true := by kernel_rfl
theorem ftZ_ok : FTOk Go.Proofs.Try.prog ftZ := by
  intro k d h
  unfold ftZ at h
  split at h
  · cases h; exact go_ok fcZ159 fnZ159
  · cases h; exact go_ok fcZ180 fnZ180
  · cases h; exact go_ok fcZ190 fnZ190
  · cases h; exact lenP_ok
  · cases h
def clF : AV := .fn (.func 160) [] []
theorem e190 (H : Heap) : callL ftZ (.fn (.func 190) [] []) [.lst [], int 0, int 0, clF] H = some (.tup [], H) := by
  refine call_p (as' := [.lst [], int 0, int 0, clF]) rfl rfl (by simp) ?_
  unfold c190 r190
  have w01 : IntKind.i64.wrap (0 + 1) = 1 := rfl
  have z0 : frz FZ (hx Heap.empty []) (retV []) = some (.tup [], hx Heap.empty []) := rfl
  simp only [↓vp, vq0, vq1, vq2, vq3, vr0, vr1, vr2, vr3, vr4, vr5, vr6, vr7, vr8, vr9, vr10, vr11, vr12, vr13, vr14, vr15, vr16, vr17, vr18, vr19, vr20, vr21, vr22, vr23, vr24, vr25, vr26, vr27, vr28, vr29, vr30, vr31, vr32, vr33, vr34, opS, fpS, extO, okP, pack, nAl, allocA, shId, leaves, fillA, fillR, splice, Nat.reduceLT, Nat.reduceEqDiff, Nat.reduceLeDiff, Nat.reduceAdd, Nat.reduceSub, Nat.reduceMul, Int.reduceBEq, Int.reduceBNe, Int.reduceLT, Int.reduceLE, Int.reduceEq, reduceIte, reduceCtorEq, da, int, boolA]
  rw [AW_loop]
  unfold c190L2
  simp only [↓vp, vq0, vq1, vq2, vq3, vr0, vr1, vr2, vr3, vr4, vr5, vr6, vr7, vr8, vr9, vr10, vr11, vr12, vr13, vr14, vr15, vr16, vr17, vr18, vr19, vr20, vr21, vr22, vr23, vr24, vr25, vr26, vr27, vr28, vr29, vr30, vr31, vr32, vr33, vr34, opS, fpS, extO, okP, pack, nAl, allocA, shId, leaves, fillA, fillR, splice, Nat.reduceLT, Nat.reduceEqDiff, Nat.reduceLeDiff, Nat.reduceAdd, Nat.reduceSub, Nat.reduceMul, Int.reduceBEq, Int.reduceBNe, Int.reduceLT, Int.reduceLE, Int.reduceEq, reduceIte, reduceCtorEq, da, int, boolA, w01]
  exact ⟨rfl, _, _, rfl, rfl⟩
theorem e180 (H : Heap) : callL ftZ (.fn (.func 180) [] []) [.lst [], int 0, int 0, int 0, clF] H = some (.tup [], H) := by
  refine call_p (as' := [.lst [], int 0, int 0, int 0, clF]) rfl rfl (by simp) ?_
  unfold c180 r180
  have w00 : IntKind.i64.wrap (0 - 0) = 0 := rfl
  have k190 := fun K L Q => @KW_of ftZ _ _ _ Q _ _ (e190 (hx K L))
  simp only [int] at k190
  simp only [↓vp, vq0, vq1, vq2, vq3, vr0, vr1, vr2, vr3, vr4, vr5, vr6, vr7, vr8, vr9, vr10, vr11, vr12, vr13, vr14, vr15, vr16, vr17, vr18, vr19, vr20, vr21, vr22, vr23, vr24, vr25, vr26, vr27, vr28, vr29, vr30, vr31, vr32, vr33, vr34, opS, fpS, extO, okP, pack, nAl, allocA, shId, leaves, fillA, fillR, splice, Nat.reduceLT, Nat.reduceEqDiff, Nat.reduceLeDiff, Nat.reduceAdd, Nat.reduceSub, Nat.reduceMul, Int.reduceBEq, Int.reduceBNe, Int.reduceLT, Int.reduceLE, Int.reduceEq, reduceIte, reduceCtorEq, da, int, boolA]
  rw [AW_loop]
  unfold c180L0
  simp only [↓vp, vq0, vq1, vq2, vq3, vr0, vr1, vr2, vr3, vr4, vr5, vr6, vr7, vr8, vr9, vr10, vr11, vr12, vr13, vr14, vr15, vr16, vr17, vr18, vr19, vr20, vr21, vr22, vr23, vr24, vr25, vr26, vr27, vr28, vr29, vr30, vr31, vr32, vr33, vr34, opS, fpS, extO, okP, pack, nAl, allocA, shId, leaves, fillA, fillR, splice, Nat.reduceLT, Nat.reduceEqDiff, Nat.reduceLeDiff, Nat.reduceAdd, Nat.reduceSub, Nat.reduceMul, Int.reduceBEq, Int.reduceBNe, Int.reduceLT, Int.reduceLE, Int.reduceEq, reduceIte, reduceCtorEq, da, int, boolA, w00, k190]
  exact ⟨rfl, _, _, rfl, rfl⟩
theorem e159 (H : Heap) : callL ftZ (.fn (.func 159) [] []) [.lst [], clF] H = some (.tup [], H) := by
  refine call_p (as' := [.lst [], clF]) rfl rfl (by simp) ?_
  unfold c159 r159
  have k180 := fun K L Q => @KW_of ftZ _ _ _ Q _ _ (e180 (hx K L))
  have k181 : ∀ K L Q, KW ftZ (.fn (.func 181) [] []) [.sc (.int .u64 0)] (hx K L) Q ↔ Q (.sc (.int .i64 0)) (hx K L) := fun K L Q => KW_of (call_pprim (p := lenP) rfl rfl rfl)
  have l0 : ∀ H, lenV H 0 (.lst []) = some (.sc (.int .i64 0), H) := fun _ => rfl
  simp only [int] at k180
  simp only [↓vp, vq0, vq1, vq2, vq3, vr0, vr1, vr2, vr3, vr4, vr5, vr6, vr7, vr8, vr9, vr10, vr11, vr12, vr13, vr14, vr15, vr16, vr17, vr18, vr19, vr20, vr21, vr22, vr23, vr24, vr25, vr26, vr27, vr28, vr29, vr30, vr31, vr32, vr33, vr34, opS, fpS, extO, okP, pack, nAl, allocA, shId, leaves, fillA, fillR, splice, Nat.reduceLT, Nat.reduceEqDiff, Nat.reduceLeDiff, Nat.reduceAdd, Nat.reduceSub, Nat.reduceMul, Int.reduceBEq, Int.reduceBNe, Int.reduceLT, Int.reduceLE, Int.reduceEq, reduceIte, reduceCtorEq, da, int, boolA, l0, (show IntKind.u64.wrap 0 = 0 from rfl), k181, k180]
  exact ⟨rfl, _, _, rfl, rfl⟩
theorem sort159 : PrimOk Go.Proofs.Try.prog 159 (sortP 160) := by
  refine sortP_ok Try.sortRun rfl (fun w => ?_) (fun w => ?_) ?_ ?_ closR (goP_ok (k := 159) (by kernel_rfl) ftZ_ok ⟨_, _, _, rfl⟩) ?_
  · exact Go.Proofs.Try.isAgg83 w
  · exact Go.Proofs.Try.sizeOf83 w
  · exact Try.sortRun.f6.enters rfl
  · exact enters_of Try.func160 (by kernel_rfl) rfl
  · unfold goP
    have hc : closedL [.lst [], .fn (.func 160) [] []] = true := rfl
    rw [if_pos hc]
    have := e159 Heap.empty
    unfold clF at this
    rw [this]
    rfl
end Go.VI

set_option linter.unusedVariables false
set_option maxRecDepth 100000
namespace Go.VI
theorem fc35 : compF Go.Proofs.Try.prog 35 = some (25, r35, c35) := by rfl
theorem fn35 : (Go.Proofs.Try.prog.funcs[35]?).all (fun fn => !(fn.name == "runtime.NumGoroutine")) = true := by kernel_rfl
theorem fc37 : compF Go.Proofs.Try.prog 37 = some (49, r37, c37) := by rfl
theorem fn37 : (Go.Proofs.Try.prog.funcs[37]?).all (fun fn => !(fn.name == "runtime.NumGoroutine")) = true := by kernel_rfl
theorem fc38 : compF Go.Proofs.Try.prog 38 = some (29, r38, c38) := by rfl
theorem fn38 : (Go.Proofs.Try.prog.funcs[38]?).all (fun fn => !(fn.name == "runtime.NumGoroutine")) = true := by kernel_rfl
theorem fc39 : compF Go.Proofs.Try.prog 39 = some (18, r39, c39) := by rfl
theorem fn39 : (Go.Proofs.Try.prog.funcs[39]?).all (fun fn => !(fn.name == "runtime.NumGoroutine")) = true := by kernel_rfl
theorem fc40 : compF Go.Proofs.Try.prog 40 = some (31, r40, c40) := by rfl
theorem fn40 : (Go.Proofs.Try.prog.funcs[40]?).all (fun fn => !(fn.name == "runtime.NumGoroutine")) = true := by kernel_rfl
theorem fc41 : compF Go.Proofs.Try.prog 41 = some (42, r41, c41) := by rfl
theorem fn41 : (Go.Proofs.Try.prog.funcs[41]?).all (fun fn => !(fn.name == "runtime.NumGoroutine")) = true := by kernel_rfl
theorem fc42 : compF Go.Proofs.Try.prog 42 = some (19, r42, c42) := by rfl
theorem fn42 : (Go.Proofs.Try.prog.funcs[42]?).all (fun fn => !(fn.name == "runtime.NumGoroutine")) = true := by kernel_rfl
theorem fc43 : compF Go.Proofs.Try.prog 43 = some (15, r43, c43) := by rfl
theorem fn43 : (Go.Proofs.Try.prog.funcs[43]?).all (fun fn => !(fn.name == "runtime.NumGoroutine")) = true := by kernel_rfl
theorem fc44 : compF Go.Proofs.Try.prog 44 = some (17, r44, c44) := by rfl
theorem fn44 : (Go.Proofs.Try.prog.funcs[44]?).all (fun fn => !(fn.name == "runtime.NumGoroutine")) = true := by kernel_rfl
theorem fc45 : compF Go.Proofs.Try.prog 45 = some (26, r45, c45) := by kernel_rfl
theorem fn45 : (Go.Proofs.Try.prog.funcs[45]?).all (fun fn => !(fn.name == "runtime.NumGoroutine")) = true := by kernel_rfl
theorem fc46 : compF Go.Proofs.Try.prog 46 = some (18, r46, c46) := by rfl
theorem fn46 : (Go.Proofs.Try.prog.funcs[46]?).all (fun fn => !(fn.name == "runtime.NumGoroutine")) = true := by kernel_rfl
theorem fc47 : compF Go.Proofs.Try.prog 47 = some (24, r47, c47) := by rfl
theorem fn47 : (Go.Proofs.Try.prog.funcs[47]?).all (fun fn => !(fn.name == "runtime.NumGoroutine")) = true := by kernel_rfl
theorem fc49 : compF Go.Proofs.Try.prog 49 = some (29, r49, c49) := by rfl
theorem fn49 : (Go.Proofs.Try.prog.funcs[49]?).all (fun fn => !(fn.name == "runtime.NumGoroutine")) = true := by kernel_rfl
theorem fc50 : compF Go.Proofs.Try.prog 50 = some (25, r50, c50) := by rfl
theorem fn50 : (Go.Proofs.Try.prog.funcs[50]?).all (fun fn => !(fn.name == "runtime.NumGoroutine")) = true := by kernel_rfl
theorem fc51 : compF Go.Proofs.Try.prog 51 = some (91, r51, c51) := by kernel_rfl
theorem fn51 : (Go.Proofs.Try.prog.funcs[51]?).all (fun fn => !(fn.name == "runtime.NumGoroutine")) = true := by kernel_rfl
theorem fc52 : compF Go.Proofs.Try.prog 52 = some (12, r52, c52) := by rfl
theorem fn52 : (Go.Proofs.Try.prog.funcs[52]?).all (fun fn => !(fn.name == "runtime.NumGoroutine")) = true := by kernel_rfl
theorem fc53 : compF Go.Proofs.Try.prog 53 = some (11, r53, c53) := by rfl
theorem fn53 : (Go.Proofs.Try.prog.funcs[53]?).all (fun fn => !(fn.name == "runtime.NumGoroutine")) = true := by kernel_rfl
theorem fc54 : compF Go.Proofs.Try.prog 54 = some (35, r54, c54) := by rfl
theorem fn54 : (Go.Proofs.Try.prog.funcs[54]?).all (fun fn => !(fn.name == "runtime.NumGoroutine")) = true := by kernel_rfl
theorem fc105 : compF Go.Proofs.Try.prog 105 = some (7, r105, c105) := by rfl
theorem fn105 : (Go.Proofs.Try.prog.funcs[105]?).all (fun fn => !(fn.name == "runtime.NumGoroutine")) = true := by kernel_rfl
theorem fc106 : compF Go.Proofs.Try.prog 106 = some (24, r106, c106) := by rfl
theorem fn106 : (Go.Proofs.Try.prog.funcs[106]?).all (fun fn => !(fn.name == "runtime.NumGoroutine")) = true := by kernel_rfl
theorem fc107 : compF Go.Proofs.Try.prog 107 = some (8, r107, c107) := by rfl
theorem fn107 : (Go.Proofs.Try.prog.funcs[107]?).all (fun fn => !(fn.name == "runtime.NumGoroutine")) = true := by kernel_rfl
theorem fc108 : compF Go.Proofs.Try.prog 108 = some (15, r108, c108) := by rfl
theorem fn108 : (Go.Proofs.Try.prog.funcs[108]?).all (fun fn => !(fn.name == "runtime.NumGoroutine")) = true := by kernel_rfl
theorem fc110 : compF Go.Proofs.Try.prog 110 = some (57, r110, c110) := by rfl
theorem fn110 : (Go.Proofs.Try.prog.funcs[110]?).all (fun fn => !(fn.name == "runtime.NumGoroutine")) = true := by kernel_rfl
theorem fc113 : compF Go.Proofs.Try.prog 113 = some (36, r113, c113) := by rfl
theorem fn113 : (Go.Proofs.Try.prog.funcs[113]?).all (fun fn => !(fn.name == "runtime.NumGoroutine")) = true := by kernel_rfl
theorem fc114 : compF Go.Proofs.Try.prog 114 = some (9, r114, c114) := by rfl
theorem fn114 : (Go.Proofs.Try.prog.funcs[114]?).all (fun fn => !(fn.name == "runtime.NumGoroutine")) = true := by kernel_rfl
theorem fc115 : compF Go.Proofs.Try.prog 115 = some (8, r115, c115) := by rfl
theorem fn115 : (Go.Proofs.Try.prog.funcs[115]?).all (fun fn => !(fn.name == "runtime.NumGoroutine")) = true := by kernel_rfl
theorem fc116 : compF Go.Proofs.Try.prog 116 = some (19, r116, c116) := by rfl
theorem fn116 : (Go.Proofs.Try.prog.funcs[116]?).all (fun fn => !(fn.name == "runtime.NumGoroutine")) = true := by kernel_rfl
theorem fc117 : compF Go.Proofs.Try.prog 117 = some (12, r117, c117) := by rfl
theorem fn117 : (Go.Proofs.Try.prog.funcs[117]?).all (fun fn => !(fn.name == "runtime.NumGoroutine")) = true := by kernel_rfl
theorem fc158 : compF Go.Proofs.Try.prog 158 = some (16, r158, c158) := by rfl
theorem fn158 : (Go.Proofs.Try.prog.funcs[158]?).all (fun fn => !(fn.name == "runtime.NumGoroutine")) = true := by kernel_rfl
theorem fc160 : compF Go.Proofs.Try.prog 160 = some (10, r160, c160) := by rfl
theorem fn160 : (Go.Proofs.Try.prog.funcs[160]?).all (fun fn => !(fn.name == "runtime.NumGoroutine")) = true := by kernel_rfl
theorem fc165 : compF Go.Proofs.Try.prog 165 = some (27, r165, c165) := by rfl
theorem fn165 : (Go.Proofs.Try.prog.funcs[165]?).all (fun fn => !(fn.name == "runtime.NumGoroutine")) = true := by kernel_rfl
theorem fc109 : compF Go.Proofs.Try.prog 109 = some (8, r109, c109) := by rfl
theorem fn109 : (Go.Proofs.Try.prog.funcs[109]?).all (fun fn => !(fn.name == "runtime.NumGoroutine")) = true := by kernel_rfl
theorem fc36 : compF Go.Proofs.Try.prog 36 = some (111, r36, c36) := by kernel_rfl
theorem fn36 : (Go.Proofs.Try.prog.funcs[36]?).all (fun fn => !(fn.name == "runtime.NumGoroutine")) = true := by kernel_rfl
theorem fc48 : compF Go.Proofs.Try.prog 48 = some (51, r48, c48) := by rfl
theorem fn48 : (Go.Proofs.Try.prog.funcs[48]?).all (fun fn => !(fn.name == "runtime.NumGoroutine")) = true := by kernel_rfl
theorem fc6 : compF Go.Proofs.Try.prog 6 = some (135, r6, c6) := by rfl
theorem fn6 : (Go.Proofs.Try.prog.funcs[6]?).all (fun fn => !(fn.name == "runtime.NumGoroutine")) = true := by kernel_rfl
theorem fc7 : compF Go.Proofs.Try.prog 7 = some (141, r7, c7) := by rfl
theorem fn7 : (Go.Proofs.Try.prog.funcs[7]?).all (fun fn => !(fn.name == "runtime.NumGoroutine")) = true := by kernel_rfl
theorem fc8 : compF Go.Proofs.Try.prog 8 = some (88, r8, c8) := by rfl
theorem fn8 : (Go.Proofs.Try.prog.funcs[8]?).all (fun fn => !(fn.name == "runtime.NumGoroutine")) = true := by kernel_rfl
theorem fc10 : compF Go.Proofs.Try.prog 10 = some (74, r10, c10) := by rfl
theorem fn10 : (Go.Proofs.Try.prog.funcs[10]?).all (fun fn => !(fn.name == "runtime.NumGoroutine")) = true := by kernel_rfl
theorem fc11 : compF Go.Proofs.Try.prog 11 = some (74, r11, c11) := by rfl
theorem fn11 : (Go.Proofs.Try.prog.funcs[11]?).all (fun fn => !(fn.name == "runtime.NumGoroutine")) = true := by kernel_rfl
theorem fc12 : compF Go.Proofs.Try.prog 12 = some (71, r12, c12) := by rfl
theorem fn12 : (Go.Proofs.Try.prog.funcs[12]?).all (fun fn => !(fn.name == "runtime.NumGoroutine")) = true := by kernel_rfl
theorem fc9 : compF Go.Proofs.Try.prog 9 = some (93, r9, c9) := by rfl
theorem fn9 : (Go.Proofs.Try.prog.funcs[9]?).all (fun fn => !(fn.name == "runtime.NumGoroutine")) = true := by kernel_rfl
theorem follows : Go.Proofs.Try.prog.follows .mixedOrders = true := by kernel_rfl
theorem ov162 : PrimOk Go.Proofs.Try.prog 162 ovP := ovP_ok ⟨_, 68, 4, _, _, Go.Proofs.Try.func162, by kernel_rfl, by kernel_rfl, by kernel_rfl, by kernel_rfl, Go.Proofs.Try.underlying68, rfl⟩
theorem fc161 : compF Go.Proofs.Try.prog 161 = some (95, r161, c161) := by rfl
theorem fn161 : (Go.Proofs.Try.prog.funcs[161]?).all (fun fn => !(fn.name == "runtime.NumGoroutine")) = true := by kernel_rfl
theorem g161 : GoFn Go.Proofs.Try.prog 161 95 [.tmp 6] (insC 2 16 zR 162 163) := by
  have h := go_ok fc161 fn161
  rw [t_insR] at h
  exact h
theorem fc112 : compF Go.Proofs.Try.prog 112 = some (224, r112, c112) := by rfl
theorem fn112 : (Go.Proofs.Try.prog.funcs[112]?).all (fun fn => !(fn.name == "runtime.NumGoroutine")) = true := by kernel_rfl
theorem g112 : GoFn Go.Proofs.Try.prog 112 224 [.tmp 8] (repC 2 16 zR 161 162 163 164) := by
  have h := go_ok fc112 fn112
  rw [t_repR] at h
  exact h
theorem fc111 : compF Go.Proofs.Try.prog 111 = some (8, r111, c111) := by rfl
theorem fn111 : (Go.Proofs.Try.prog.funcs[111]?).all (fun fn => !(fn.name == "runtime.NumGoroutine")) = true := by kernel_rfl
theorem g111 : GoFn Go.Proofs.Try.prog 111 8 [.tmp 2] (cloC 2 16 zR) := by
  have h := go_ok fc111 fn111
  rw [t_cloR] at h
  exact h
def ftP : FT
  | 162 => some (.prim ovP)
  | _ => none
theorem ftP_ok : FTOk Go.Proofs.Try.prog ftP := by
  intro k d h
  unfold ftP at h
  split at h
  · cases h; exact ov162
  · cases h
theorem p161 : PrimOk Go.Proofs.Try.prog 161 (insP 2 16) := slP_ok follows ftP_ok g161 (insP_sl (ft := ftP) rfl rfl (by decide))
def ftP2 : FT
  | 162 => some (.prim ovP)
  | 161 => some (.prim (insP 2 16))
  | _ => none
theorem ftP2_ok : FTOk Go.Proofs.Try.prog ftP2 := by
  intro k d h
  unfold ftP2 at h
  split at h
  · cases h; exact ov162
  · cases h; exact p161
  · cases h
theorem p112 : PrimOk Go.Proofs.Try.prog 112 (repP 2 16) := slP_ok follows ftP2_ok g112 (repP_sl (ft := ftP2) rfl rfl rfl (by decide))
theorem ft_ok : FTOk Go.Proofs.Try.prog ft := by
  intro k d h
  unfold ft at h
  split at h
  · cases h; exact go_ok fc35 fn35
  · cases h; exact go_ok fc37 fn37
  · cases h; exact go_ok fc38 fn38
  · cases h; exact go_ok fc39 fn39
  · cases h; exact go_ok fc40 fn40
  · cases h; exact go_ok fc41 fn41
  · cases h; exact go_ok fc42 fn42
  · cases h; exact go_ok fc43 fn43
  · cases h; exact go_ok fc44 fn44
  · cases h; exact go_ok fc45 fn45
  · cases h; exact go_ok fc46 fn46
  · cases h; exact go_ok fc47 fn47
  · cases h; exact go_ok fc49 fn49
  · cases h; exact go_ok fc50 fn50
  · cases h; exact go_ok fc51 fn51
  · cases h; exact go_ok fc52 fn52
  · cases h; exact go_ok fc53 fn53
  · cases h; exact go_ok fc54 fn54
  · cases h; exact go_ok fc105 fn105
  · cases h; exact go_ok fc106 fn106
  · cases h; exact go_ok fc107 fn107
  · cases h; exact go_ok fc108 fn108
  · cases h; exact go_ok fc110 fn110
  · cases h; exact go_ok fc113 fn113
  · cases h; exact go_ok fc114 fn114
  · cases h; exact go_ok fc115 fn115
  · cases h; exact go_ok fc116 fn116
  · cases h; exact go_ok fc117 fn117
  · cases h; exact go_ok fc158 fn158
  · cases h; exact sort159
  · cases h; exact go_ok fc160 fn160
  · cases h; exact go_ok fc165 fn165
  · cases h; exact ecloP_ok follows g111
  · cases h; exact ov162
  · cases h; exact p161
  · cases h; exact p112
  · cases h
theorem ftO_ok : FTOk Go.Proofs.Try.prog ftO := by
  intro k d h
  unfold ftO at h
  split at h
  · cases h; exact go_ok fc109 fn109
  · exact ft_ok _ _ h
theorem ftM_ok : FTOk Go.Proofs.Try.prog ftM := by
  intro k d h
  unfold ftM at h
  split at h
  · cases h; exact roP_ok (goP_ok follows ftO_ok ⟨_, _, _, rfl⟩)
  · cases h; exact go_ok fc36 fn36
  · exact ft_ok _ _ h
theorem ftX_ok : FTOk Go.Proofs.Try.prog ftX := by
  intro k d h
  unfold ftX at h
  split at h
  · cases h; exact go_ok fc48 fn48
  · cases h; exact go_ok fc6 fn6
  · cases h; exact go_ok fc7 fn7
  · cases h; exact go_ok fc8 fn8
  · cases h; exact go_ok fc10 fn10
  · cases h; exact go_ok fc11 fn11
  · cases h; exact go_ok fc12 fn12
  · exact ftM_ok _ _ h
theorem ftT_ok : FTOk Go.Proofs.Try.prog ftT := by
  intro k d h
  unfold ftT at h
  split at h
  · cases h; exact go_ok fc48 fn48
  · cases h; exact go_ok fc9 fn9
  · exact ftM_ok _ _ h
end Go.VI

set_option linter.unusedVariables false
set_option linter.unusedSimpArgs false
namespace Go.VI
theorem RD.mono {P : Program} {W : World} {t : TypeId} {E E' : List AV → Prop} (h : RD P W t E) (hE : ∀ xs, E xs → E' xs) : RD P W t E' := fun H enc base spare held fuel cs x hx hw => by
  obtain ⟨xs, h1, h2⟩ := h H enc base spare held fuel cs x hx hw
  exact ⟨xs, hE xs h1, h2⟩
theorem rows_map {α : Type} {g : α → List AV} {p : α → Prop} : ∀ {rows : List (List AV)}, (∀ r ∈ rows, ∃ x, r = g x ∧ p x) → ∃ l : List α, rows = l.map g ∧ ∀ x ∈ l, p x
  | [], _ => ⟨[], rfl, by simp⟩
  | r :: rows, h => by
    obtain ⟨x, rfl, hx⟩ := h r List.mem_cons_self
    obtain ⟨l, rfl, hl⟩ := rows_map fun r hr => h r (List.mem_cons_of_mem _ hr)
    exact ⟨x :: l, rfl, fun y hy => by
      rcases List.mem_cons.1 hy with rfl | hy
      · exact hx
      · exact hl y hy⟩
theorem CVF.append {F : Fz} {a b : List AV} {cs : List Value} {n : Nat} (hn : n ≤ cs.length) (ha : CVF F a (cs.take n)) (hb : CVF F b (cs.drop n)) : CVF F (a ++ b) cs := by
  have hla : a.length = n := by rw [ha.1, List.length_take]; omega
  refine ⟨by rw [List.length_append, hb.1, hla, List.length_drop]; omega, fun i c h => ?_⟩
  by_cases hi : i < n
  · rw [List.getElem?_append_left (by omega)] at h
    obtain ⟨h1, h2⟩ := ha.2 i c h
    refine ⟨h1, ?_⟩
    rwa [List.getD_eq_getElem?_getD, List.getElem?_take_of_lt hi, ← List.getD_eq_getElem?_getD] at h2
  · rw [List.getElem?_append_right (by omega)] at h
    obtain ⟨h1, h2⟩ := hb.2 _ c h
    refine ⟨h1, ?_⟩
    rw [List.getD_eq_getElem?_getD, List.getElem?_drop] at h2
    rw [List.getD_eq_getElem?_getD]
    rwa [show n + (i - a.length) = i by omega] at h2
theorem okWide_stc {P : Program} {w : World} {r : Reach} {base : Nat} {t : TypeId} {fs : Array Field} {v : Value} (ht : P.underlying t = some (.struct fs)) (h : Value.okWide P w r base t v) : ∃ cs, v = .agg cs := by
  unfold Value.okWide at h
  rw [ht] at h
  obtain ⟨cs, h1, _⟩ := h
  exact ⟨cs, h1⟩
/-- Arguments: aggregates among them. -/
def CVA (F : Fz) (xs : List AV) (cs : List Value) : Prop := xs.length = cs.length ∧ ∀ i c, xs[i]? = some c → VF F c (cs.getD i undef)
theorem CVF.cva {F : Fz} {xs : List AV} {cs : List Value} (h : CVF F xs cs) : CVA F xs cs := ⟨h.1, fun i c hc => (h.2 i c hc).2⟩
theorem CVA.one {F : Fz} {a : AV} {v : Value} (h : VF F a v) : CVA F [a] [v] := ⟨rfl, fun i c hc => by
  cases i with
  | zero => cases hc; exact h
  | succ i => simp at hc⟩
theorem CVA.cons {F : Fz} {a : AV} {v : Value} {l : List AV} {vs : List Value} (h : CVA F [a] [v]) (ht : CVA F l vs) : CVA F (a :: l) (v :: vs) := ⟨by simp [ht.1], fun i c hc => by
  cases i with
  | zero => exact h.2 0 c hc
  | succ i => exact ht.2 i c hc⟩
theorem CVA.agg {F : Fz} {xs : List AV} {cs : Array Value} (h : CVF F xs cs.toList) : CVA F [.agg xs] [.agg cs] :=
  .one (.agg (by have := h.1; simpa using this.symm) (fun i c hc => (h.2 i c hc).1) (fun i c hc => by
    have := (h.2 i c hc).2
    rwa [List.getD_eq_getElem?_getD, Array.getElem?_toList, ← Array.getD_eq_getD_getElem?] at this))
theorem vrs_ofA {F : Fz} {m : Mp} {args : List AV} {vs : List Value} (h : CVA F args vs) : VRs m F args vs.toArray := by
  refine ⟨?_, ?_⟩
  · simp [h.1]
  · intro i c hc
    have := h.2 i c hc
    simpa using VR.fz this
end Go.VI

set_option linter.unusedVariables false
set_option linter.unusedSimpArgs false
namespace Go.VI
open Go.Proofs
def okR (l : List RunM) : Prop := True
def okN (l : List Int) : Prop := True
def okRn (x : RunM) : Prop := True
variable (W : World)
theorem rdInt : RD Try.prog W 3 fun xs => ∃ n, xs = [int n] ∧ (Lit.int .i64 n).wf = true := rd_int Try.underlying3
theorem rdRn : RD Try.prog W 79 fun xs => ∃ x : RunM, xs = runC x ∧ okRn x :=
  (rd_struct (Es := [_, _]) Try.underlying79 (by kernel_rfl) ⟨rdInt W, rdInt W, trivial⟩).mono fun xs h => by
    obtain ⟨_, _, rfl, ⟨a, rfl, _⟩, _, _, rfl, ⟨b, rfl, _⟩, rfl⟩ := h
    exact ⟨(a, b), rfl, trivial⟩
theorem rdR : RD Try.prog W 62 fun xs => ∃ l : List RunM, xs = [encR l] ∧ okR l :=
  (rd_slice (sz := 2) (B := 16) Try.underlying62 (by kernel_rfl) (by decide) (by kernel_rfl) (rdRn W)).mono fun xs ⟨rows, h1, h2, h3⟩ => by
    obtain ⟨l, rfl, hl⟩ := rows_map (g := runC) (p := okRn) fun r hr => (h2 r hr).1
    exact ⟨l, h1, trivial⟩
theorem rdN : RD Try.prog W 63 fun xs => ∃ l : List Int, xs = [encN l] ∧ okN l :=
  (rd_slice (sz := 1) (B := 8) Try.underlying63 (by kernel_rfl) (by decide) (by kernel_rfl) (rdInt W)).mono fun xs ⟨rows, h1, h2, h3⟩ => by
    obtain ⟨l, rfl, hl⟩ := rows_map (g := numC) (p := fun n => (Lit.int .i64 n).wf = true) fun r hr => (h2 r hr).1
    exact ⟨l, h1, trivial⟩
end Go.VI
