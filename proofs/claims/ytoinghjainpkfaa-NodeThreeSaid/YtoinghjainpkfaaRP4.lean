/- The law NodeThree holds: for every input true is told, and the arguments read as before. No condition beyond the row's own. -/
import Derived.Test.YtoinghjainpkfaaRows
import Derived.Test.YtoinghjainpkfaaS7
import Derived.WalkKit
import Derived.ProofKit
import Derived.OpenShut
import Derived.ShutString
import Derived.ChangeOld
import Derived.Below
import Derived.SizedLaws
import Derived.Carry
import Derived.JoinedOf
namespace Go.Proofs.Ytoinghjainpkfaa.nodeThree
open Go.ChangeShapes Go.WideShapes Go.ChangeAt Go.RowKit Go.VI
set_option linter.unusedVariables false
theorem own : ownKnob Try.prog.godebug = none := by kernel_rfl
theorem laidOut : laidOutB Try.prog = true := by kernel_rfl
set_option maxRecDepth 100000 in
theorem lifted (os : Os) (started : os.Started) (H : Type) (enc : TypeId × Value → H) :
    ReturnsInHanded {} Try.checked os 4 .any (Rows.nodeThreeSpec.pre6 enc Try.prog Try.f4 Rows.nodeThreeRow.domain false) (Rows.nodeThreeSpec.post enc Try.prog Try.f4 false true false false) := by
  refine returnsInHanded_of_change_sized (C := Try.checked) own started (by kernel_rfl) Try.func4
    (ChangeSpec.witness6 (enc := enc) (C := Try.checked) false ⟨#[], #[.agg #[.bool false, .slice none 0 0, .slice none 0 0], .agg #[.slice none 0 0, .slice none 0 0, .int .i64 0, .int .i64 0], .agg #[.int .i64 0, .int .i64 0, .int .i64 0]], []⟩ 8 (by kernel_rfl) (by kernel_rfl) (by kernel_rfl) (by kernel_rfl)) ?_
  intro W base args ds gs before hval0 hW hcnd hsz0 _
  have hsz : (DataW.weightsEach Try.prog (Try.f4.params.toList ++ Rows.nodeThreeSpec.plain.varTypes Try.prog) (ds ++ gs)).all (· ≤ reachBytes) = true := hsz0
  have hval : ∀ (j : Nat) t v, Try.f4.params[j]? = some t → args[j]? = some v → Value.okWide Try.prog W .any base t v := hval0
  have hW' := hW
  obtain ⟨p, q, hA0, hV, rfl, hfz, hnd⟩ := hW
  have hA : DataW.TrodAll enc Try.prog W 0 (fun _ => true) true Try.f4.params.toList args.toList ds p := hA0
  rw [Try.params4] at hA hval hsz
  obtain ⟨v0, vs0, d0, ds0, p0, q0, hargs, rfl, rfl, h0, r0⟩ := trodAll_cons hA
  obtain ⟨v1, vs1, d1, ds1, p1, q1, rfl, rfl, rfl, h1, r1⟩ := trodAll_cons r0
  obtain ⟨v2, vs2, d2, ds2, p2, q2, rfl, rfl, rfl, h2, r2⟩ := trodAll_cons r1
  obtain ⟨rfl, rfl, rfl⟩ := trodAll_nil r2
  obtain rfl : args = #[v0, v1, v2] := by cases args; simp_all
  obtain ⟨rfl, rfl⟩ := trodVars_none hV
  have w0 : ∀ n ∈ d0.weights Try.prog 25, n ≤ reachBytes := fun n hn => of_decide_eq_true (List.all_eq_true.1 hsz n (DataW.weights_mem_each (j := 0) rfl rfl n hn))
  obtain ⟨a0, rfl⟩ := okWide_stc Try.underlying25 (hval 0 25 v0 rfl rfl)
  have k0 := h0
  have lt0 : ∀ x ∈ p0, x.block < W.heap.size := by obtain ⟨m, hm⟩ := k0; exact DataW.trod_lt m _ _ _ hm
  obtain ⟨l0, o0, c0⟩ : ∃ l, okN l ∧ CVA (frzW W) [.agg (nodeC l)] [.agg a0] := by
    obtain ⟨fuel, hf⟩ := h0
    obtain ⟨xs, ⟨l, rfl, ho⟩, hc⟩ := rdNode W H enc 0 _ true fuel _ _ hf w0
    exact ⟨l, ho, .agg hc⟩
  have w1 : ∀ n ∈ d1.weights Try.prog 52, n ≤ reachBytes := fun n hn => of_decide_eq_true (List.all_eq_true.1 hsz n (DataW.weights_mem_each (j := 1) rfl rfl n hn))
  obtain ⟨a1, rfl⟩ := okWide_stc Try.underlying52 (hval 1 52 v1 rfl rfl)
  have k1 := h1
  have lt1 : ∀ x ∈ p1, x.block < W.heap.size := by obtain ⟨m, hm⟩ := k1; exact DataW.trod_lt m _ _ _ hm
  obtain ⟨l1, o1, c1⟩ : ∃ l, okIt l ∧ CVA (frzW W) [.agg (itemC l)] [.agg a1] := by
    obtain ⟨fuel, hf⟩ := h1
    obtain ⟨xs, ⟨l, rfl, ho⟩, hc⟩ := rdIt W H enc 0 _ true fuel _ _ hf w1
    exact ⟨l, ho, .agg hc⟩
  have w2 : ∀ n ∈ d2.weights Try.prog 53, n ≤ reachBytes := fun n hn => of_decide_eq_true (List.all_eq_true.1 hsz n (DataW.weights_mem_each (j := 2) rfl rfl n hn))
  obtain ⟨a2, rfl⟩ := okWide_agg Try.underlying53 (hval 2 53 v2 rfl rfl)
  have k2 := h2
  have lt2 : ∀ x ∈ p2, x.block < W.heap.size := by obtain ⟨m, hm⟩ := k2; exact DataW.trod_lt m _ _ _ hm
  obtain ⟨l2, o2, c2⟩ : ∃ l, okA3 l ∧ CVA (frzW W) [.agg (encA3 l)] [.agg a2] := by
    obtain ⟨fuel, hf⟩ := h2
    obtain ⟨xs, ⟨l, rfl, ho⟩, hc⟩ := rdA3 W H enc 0 _ true fuel _ _ hf w2
    exact ⟨l, ho, .agg hc⟩
  clear hA0 hval0 hsz0 hsz
  refine (law_calls follows ftX_ok ⟨_, _, _, _, rfl⟩ (s4 l0 l1 l2.1 l2.2.1 l2.2.2 o0 o1 Heap.empty) (vrs_ofA (c0.cons (c1.cons c2)))).mono fun e W' ⟨he, bel⟩ => ?_
  subst he
  exact ⟨_, rfl, _, _, _, [], _, [], hW', trodAll_mk1 (shut_bool Try.underlying4 _), (trodAll_cons_mk (Below.trod laidOut (by kernel_rfl) (of_decide_eq_true (by kernel_rfl)) k0 bel lt0) (trodAll_cons_mk (Below.trod laidOut (by kernel_rfl) (of_decide_eq_true (by kernel_rfl)) k1 bel lt1) (trodAll_cons_mk (Below.trod laidOut (by kernel_rfl) (of_decide_eq_true (by kernel_rfl)) k2 bel lt2) trodAll_mk0))), rfl, bel.frame _, fun h => by cases h⟩
theorem over : Rows.nodeThreeRow.holds Try.pinned (OpenSpec.ofChange Rows.nodeThreeSpec) :=
  OpenClaim.holds_of_wide 4 Try.f4 rfl rfl rfl rfl rfl rfl rfl ⟨rfl, rfl, rfl, rfl, rfl⟩ rfl rfl rfl rfl rfl (by kernel_rfl) Try.func4 (by kernel_rfl)
    (of_decide_eq_true (by kernel_rfl)) (by unfold Func.isWrapper; first | (rw [if_pos (by decide +kernel)]; kernel_rfl) | (rw [if_neg (by decide +kernel)]; exact ⟨rfl, rfl⟩))
    (fun os started H enc _ => lifted os started H enc)
end Go.Proofs.Ytoinghjainpkfaa.nodeThree
namespace Go.Proofs.Ytoinghjainpkfaa
/-- The row, under a short name, for the claim. -/
theorem nodeThree_holds : Rows.NodeThreeSaid := nodeThree.over
#print axioms nodeThree_holds
end Go.Proofs.Ytoinghjainpkfaa
