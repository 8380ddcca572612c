/- VI, part SU: alive. -/
import Derived.Test.YtkjeigdiojdfnaaST
set_option linter.unusedVariables false
set_option linter.unusedSimpArgs false
set_option maxRecDepth 100000
namespace Go.VI
attribute [local congr] AW_congr OW_congr DW_congr NW_congr VW_congr GW_congr PW_congr KW_congr ite_congr' GV_congr CV_congr

/-- A call that freezes what it gets. -/
theorem callL_fz {ft : FT} {k : FuncId} {n : Nat} {rs : List ARes} {body : ACode} {as bs : List AV} {H H1 : Heap} (hk : ft k = some (.go true n rs body)) (h : frzCells H as = some (bs, H1)) (h' : frzCells H1 bs = some (bs, H1)) :
    callL ft (.fn (.func k) [] []) as H = callL ft (.fn (.func k) [] []) bs H1 := by
  rw [callL_fn, callL_fn]
  simp only [List.nil_append, List.append_nil]
  unfold callF
  simp only [hk, h, h']
theorem KW_eq {ft : FT} {f : AV} {as bs : List AV} {H H1 : Heap} {Q : AV → Heap → Prop} (h : callL ft f as H = callL ft f bs H1) : KW ft f as H Q ↔ KW ft f bs H1 Q := by
  unfold KW
  rw [h]
theorem fz_sl1 {H : Heap} {id len sz : Nat} {rows : List (List AV)} (h : H.get id = some (.row false sz rows)) (hl : rows.length = len) (n : Nat) : frz (n + 1) H (.sl id 0 len) = some (.lst rows, H.set id (.row true sz rows)) := by
  subst hl
  rw [frz_sl, h]
  simp
theorem fz_src (H : Heap) (l : List NamedM) (n : Nat) : frz (n + 4) H (srcF l) = some (srcF l, H) := rfl
theorem x16 {l : List NamedM} {root : Int} {K : Heap} {L : List Blk} {id : Nat} {b : Int} {Q : AV → Heap → Prop} (h : (hx K L).get id = some (.row false 1 [[.sc (.int .u8 b)]])) :
    KW ft (.fn (.func 16) [] []) [srcF l, .sc (.int .i64 root), .sl id 0 1] (hx K L) Q ↔ KW ft (.fn (.func 16) [] []) [srcF l, .sc (.int .i64 root), encB [b]] ((hx K L).set id (.row true 1 [[.sc (.int .u8 b)]])) Q :=
  KW_eq (callL_fz rfl (by simp only [frzCells_eq, frzL_cons, frzL_nil, fz_src, frz_int, fz_sl1 (len := 1) h rfl, Option.bind_some]; rfl) rfl)
theorem x24 {l : List NamedM} {root : Int} {K : Heap} {L : List Blk} {id : Nat} {b : Int} {Q : AV → Heap → Prop} (h : (hx K L).get id = some (.row false 1 [[.sc (.int .u8 b)]])) :
    KW ft (.fn (.func 24) [] []) [srcF l, .sc (.int .i64 root), .sl id 0 1] (hx K L) Q ↔ KW ft (.fn (.func 24) [] []) [srcF l, .sc (.int .i64 root), encB [b]] ((hx K L).set id (.row true 1 [[.sc (.int .u8 b)]])) Q :=
  KW_eq (callL_fz rfl (by simp only [frzCells_eq, frzL_cons, frzL_nil, fz_src, frz_int, fz_sl1 (len := 1) h rfl, Option.bind_some]; rfl) rfl)
theorem x26 {K : Heap} {L : List Blk} {id : Nat} {Q : AV → Heap → Prop} (h : (hx K L).get id = some (.row false 4 [[.lst [[.sc (.int .u8 97)]], .lst [], .sc (.int .i64 0), .sc (.int .i64 0)], [.lst [[.sc (.int .u8 98)]], .lst [], .sc (.int .i64 0), .sc (.int .i64 0)]])) :
    KW ft (.fn (.func 26) [] []) [.sl id 0 2, .sc (.int .i64 1), .sc (.int .i64 2)] (hx K L) Q ↔ Q (.tup [encL two, int 4]) ((hx K L).set id (.row true 4 [itemC aItem, itemC bItem])) :=
  (KW_eq (callL_fz (bs := [encI [aItem, bItem], int 1, int 2]) rfl (by simp only [frzCells_eq, frzL_cons, frzL_nil, frz_int, fz_sl1 (len := 2) h rfl, Option.bind_some]; rfl) rfl)).trans (KW_of (s26 _))
theorem y16 {K : Heap} {L : List Blk} {Q : AV → Heap → Prop} {P : List StepM × Int} (hP : wayM (pathK [98]) two 4 = P) : KW ft (.fn (.func 16) [] []) [srcF two, .sc (.int .i64 4), encB [98]] (hx K L) Q ↔ Q (.tup [encS P.1, int P.2]) (hx K L) := by
  subst hP
  exact k16 two_ok two_tiny ⟨by decide, rfl⟩
theorem y24 {K : Heap} {L : List Blk} {Q : AV → Heap → Prop} : KW ft (.fn (.func 24) [] []) [srcF two, .sc (.int .i64 4), encB [98]] (hx K L) Q ↔ Q (.tup [.agg (itemC bItem), boolA true, int 0]) (hx K L) :=
  KW_of ((s24 two two_ok two_tiny 4 [98] ⟨by decide, rfl⟩ _).trans (by rw [two_get]))
theorem y24n {K : Heap} {L : List Blk} {Q : AV → Heap → Prop} : KW ft (.fn (.func 24) [] []) [srcF two, .sc (.int .i64 4), encB [99]] (hx K L) Q ↔ Q (.tup [.agg (itemC noItem), boolA false, int 0]) (hx K L) :=
  KW_of ((s24 two two_ok two_tiny 4 [99] ⟨by decide, rfl⟩ _).trans (by rw [two_not]))
theorem y21 {K : Heap} {L : List Blk} {Q : AV → Heap → Prop} : KW ft (.fn (.func 21) [] []) [srcF two, .sc (.int .i64 4)] (hx K L) Q ↔ Q (.tup [.agg [encI [aItem, bItem], encN [4, 2, 3], int 2], int 0]) (hx K L) :=
  KW_of ((s21 two two_ok two_tiny (by decide) 4 _).trans (by rw [two_all]; rfl))
theorem y21n {K : Heap} {L : List Blk} {Q : AV → Heap → Prop} : KW ft (.fn (.func 21) [] []) [.sc .nilFunc, .sc (.int .i64 4)] (hx K L) Q ↔ Q (.tup [.agg [encI [], encN [], int 0], int 1]) (hx K L) := KW_of (s21n 4 _)
theorem y19 {K : Heap} {L : List Blk} {Q : AV → Heap → Prop} {P : List StepM × Int} (hP : wayM (edgeK false) two 4 = P) : KW ft (.fn (.func 19) [] []) [srcF two, .sc (.int .i64 4), .sc (.bool false)] (hx K L) Q ↔ Q (.tup [encS P.1, int P.2]) (hx K L) := by
  subst hP
  exact k19 two_ok two_tiny
theorem lenN (H : Heap) (l : List Int) : lenV H 0 (encN l) = some (.sc (.int .i64 (l.length : Int)), H) := by simp [lenV, lenOfA, encN]
theorem at0N (H : Heap) (x : Int) (l : List Int) : iaddrA H none 1 (encN (x :: l)) 0 = some (.pim (intC x :: l.map intC) 0 0) := rfl
theorem c0N (H : Heap) (x : Int) (l : List (List AV)) : cellsAt H (.pim (intC x :: l) 0 0) 1 = some [.sc (.int .i64 x)] := rfl
theorem one_N (l : List Int) : (encN l).one = true := rfl
theorem cs_N (l : List Int) : (encN l).cells = [encN l] := rfl
theorem s14 (H : Heap) : callL ft (.fn (.func 14) [] []) [] H = some (boolA true, H) := by
  refine call_p (as' := []) rfl rfl (by simp) ?_
  obtain ⟨sp, hp⟩ := two_path
  obtain ⟨se, he⟩ := two_edge
  have a0 := fun H => atS (l := [⟨4, ⟨false, [], [⟨[], 2⟩, ⟨[98], 3⟩]⟩, 1⟩, sp]) (i := 0) (H := H) (by simp)
  have a1 := fun H => atS (l := [se, ⟨2, ⟨true, [aItem], []⟩, 0⟩]) (i := 1) (H := H) (by simp)
  have b0 := fun H off n => cS (l := [⟨4, ⟨false, [], [⟨[], 2⟩, ⟨[98], 3⟩]⟩, 1⟩, sp]) (i := 0) (H := H) (off := off) (n := n) (by simp)
  have b1 := fun H off n => cS (l := [se, ⟨2, ⟨true, [aItem], []⟩, 0⟩]) (i := 1) (H := H) (off := off) (n := n) (by simp)
  simp only [Int.cast_ofNat_Int, Int.natCast_zero, Int.natCast_one, List.map_cons, List.map_nil, List.getElem_cons_zero, List.getElem_cons_succ] at a0 a1 b0 b1
  have rB : ∀ H, rowsOf H (encB bItem.key) = some [[.sc (.int .u8 98)]] := fun _ => rfl
  have bR : bytesOfRows [[.sc (.int .u8 98)]] = some [98] := rfl
  have sE : binA .eql 9 (.sc (.string (strOfNums [98]))) (.sc (.string ⟨#[98]⟩)) = some (.sc (.bool true)) := by
    have h : strOfNums [98] = ⟨#[98]⟩ := by simp [strOfNums]
    rw [h]
    simp [binA, binOp, Op.stringOp, pureRun, ofScalar, isSc, pure]
  unfold c14 r14
  simp only [↓vp, vq0, vq1, vq2, vq3, vr0, vr1, vr2, vr3, vr4, vr5, vr6, vr7, vr8, vr9, vr10, vr11, vr12, vr13, vr14, vr15, vr16, vr17, vr18, vr19, vr20, vr21, vr22, vr23, vr24, vr25, vr26, vr27, vr28, vr29, vr30, vr31, vr32, vr33, vr34, opS, fpS, okP, pack, nAl, allocA, shId, leaves, fillA, fillR, splice, Nat.reduceLT, Nat.reduceEqDiff, Nat.reduceLeDiff, Nat.reduceAdd, Nat.reduceSub, Nat.reduceMul, Int.reduceBEq, Int.reduceBNe, Int.reduceLT, Int.reduceLE, Int.reduceEq, reduceIte, reduceCtorEq, da, int, boolA, RetP_go, resT, resC, resN, retV1, retV2, retV3, retV0, frzFZ, takeM, Option.some.injEq, clIt, rsz, x16 (b := 98), x24 (b := 98), x24 (b := 99), x26, y16 hp, y24, y24n, y21, y21n, y19 he, k17, lenN, at0N, c0N, one_N, cs_N, rB, bR, sE, a0, a1, b0, b1, Int.cast_ofNat_Int, Int.natCast_zero, Int.natCast_one, Int.ofNat_one, Int.ofNat_zero]
theorem alive14 : Alive 14 := fun K L Q => KW_of (s14 _)
theorem t3 (l : List NamedM) (hl : okL l) (root : Int) (key : Bytes) (hk : okB key) (H : Heap) : callL ft (.fn (.func 3) [] []) [encL l, int root, encB key] H = some (boolA true, H) := s3 alive14 l hl root key hk H
end Go.VI
