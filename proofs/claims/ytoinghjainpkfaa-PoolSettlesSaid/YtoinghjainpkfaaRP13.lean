/- The law PoolSettles holds: for every input true is told, and the arguments read as before. No condition beyond the row's own. -/
import Derived.Test.YtoinghjainpkfaaRows
import Derived.Test.YtoinghjainpkfaaS7
import Derived.WalkKit
import Derived.ProofKit
import Derived.OpenShut
import Derived.ShutString
import Derived.ChangeOld
import Derived.Below
import Derived.SizedLaws
import Derived.Carry
import Derived.JoinedOf
namespace Go.Proofs.Ytoinghjainpkfaa.poolSettles
open Go.ChangeShapes Go.WideShapes Go.ChangeAt Go.RowKit Go.VI
set_option linter.unusedVariables false
theorem own : ownKnob Try.prog.godebug = none := by kernel_rfl
theorem laidOut : laidOutB Try.prog = true := by kernel_rfl
set_option maxRecDepth 100000 in
theorem lifted (os : Os) (started : os.Started) (H : Type) (enc : TypeId × Value → H) :
    ReturnsInHanded {} Try.checked os 15 .any (Rows.poolSettlesSpec.pre6 enc Try.prog Try.f15 Rows.poolSettlesRow.domain false) (Rows.poolSettlesSpec.post enc Try.prog Try.f15 false true false false) := by
  refine returnsInHanded_of_change_sized (C := Try.checked) own started (by kernel_rfl) Try.func15
    (ChangeSpec.witness6 (enc := enc) (C := Try.checked) false ⟨#[], #[.int .i64 0, .int .i64 0, .agg #[.int .i64 0, .int .i64 0]], []⟩ 8 (by kernel_rfl) (by kernel_rfl) (by kernel_rfl) (by kernel_rfl)) ?_
  intro W base args ds gs before hval0 hW hcnd hsz0 _
  have hsz : (DataW.weightsEach Try.prog (Try.f15.params.toList ++ Rows.poolSettlesSpec.plain.varTypes Try.prog) (ds ++ gs)).all (· ≤ reachBytes) = true := hsz0
  have hval : ∀ (j : Nat) t v, Try.f15.params[j]? = some t → args[j]? = some v → Value.okWide Try.prog W .any base t v := hval0
  have hW' := hW
  obtain ⟨p, q, hA0, hV, rfl, hfz, hnd⟩ := hW
  have hA : DataW.TrodAll enc Try.prog W 0 (fun _ => true) true Try.f15.params.toList args.toList ds p := hA0
  rw [Try.params15] at hA hval hsz
  obtain ⟨v0, vs0, d0, ds0, p0, q0, hargs, rfl, rfl, h0, r0⟩ := trodAll_cons hA
  obtain ⟨v1, vs1, d1, ds1, p1, q1, rfl, rfl, rfl, h1, r1⟩ := trodAll_cons r0
  obtain ⟨v2, vs2, d2, ds2, p2, q2, rfl, rfl, rfl, h2, r2⟩ := trodAll_cons r1
  obtain ⟨rfl, rfl, rfl⟩ := trodAll_nil r2
  obtain rfl : args = #[v0, v1, v2] := by cases args; simp_all
  obtain ⟨rfl, rfl⟩ := trodVars_none hV
  have w0 : ∀ n ∈ d0.weights Try.prog 3, n ≤ reachBytes := fun n hn => of_decide_eq_true (List.all_eq_true.1 hsz n (DataW.weights_mem_each (j := 0) rfl rfl n hn))
  obtain ⟨l0, rfl, rfl, rfl, o0⟩ := open_int Try.underlying3 (hval 0 3 v0 rfl rfl) h0
  have c0 : CVF (frzW W) [int l0] [.int .i64 l0] := .one rfl (.sc rfl)
  have w1 : ∀ n ∈ d1.weights Try.prog 3, n ≤ reachBytes := fun n hn => of_decide_eq_true (List.all_eq_true.1 hsz n (DataW.weights_mem_each (j := 1) rfl rfl n hn))
  obtain ⟨l1, rfl, rfl, rfl, o1⟩ := open_int Try.underlying3 (hval 1 3 v1 rfl rfl) h1
  have c1 : CVF (frzW W) [int l1] [.int .i64 l1] := .one rfl (.sc rfl)
  have w2 : ∀ n ∈ d2.weights Try.prog 109, n ≤ reachBytes := fun n hn => of_decide_eq_true (List.all_eq_true.1 hsz n (DataW.weights_mem_each (j := 2) rfl rfl n hn))
  obtain ⟨a2, rfl⟩ := okWide_agg Try.underlying109 (hval 2 109 v2 rfl rfl)
  have k2 := h2
  have lt2 : ∀ x ∈ p2, x.block < W.heap.size := by obtain ⟨m, hm⟩ := k2; exact DataW.trod_lt m _ _ _ hm
  obtain ⟨l2, o2, c2⟩ : ∃ l, okA2 l ∧ CVA (frzW W) [.agg (encA2 l)] [.agg a2] := by
    obtain ⟨fuel, hf⟩ := h2
    obtain ⟨xs, ⟨l, rfl, ho⟩, hc⟩ := rdA2 W H enc 0 _ true fuel _ _ hf w2
    exact ⟨l, ho, .agg hc⟩
  clear hA0 hval0 hsz0 hsz
  refine (law_calls follows ftB15_ok ⟨_, _, _, _, rfl⟩ (s15 l0 l1 l2.1 l2.2 Heap.empty) (vrs_ofA (c0.cva.cons (c1.cva.cons c2)))).mono fun e W' ⟨he, bel⟩ => ?_
  subst he
  exact ⟨_, rfl, _, _, _, [], _, [], hW', trodAll_mk1 (shut_bool Try.underlying4 _), (trodAll_cons_mk (shut_int Try.underlying3 o0) (trodAll_cons_mk (shut_int Try.underlying3 o1) (trodAll_cons_mk (Below.trod laidOut (by kernel_rfl) (of_decide_eq_true (by kernel_rfl)) k2 bel lt2) trodAll_mk0))), rfl, bel.frame _, fun h => by cases h⟩
theorem over : Rows.poolSettlesRow.holds Try.pinned (OpenSpec.ofChange Rows.poolSettlesSpec) :=
  OpenClaim.holds_of_wide 15 Try.f15 rfl rfl rfl rfl rfl rfl rfl ⟨rfl, rfl, rfl, rfl, rfl⟩ rfl rfl rfl rfl rfl (by kernel_rfl) Try.func15 (by kernel_rfl)
    (of_decide_eq_true (by kernel_rfl)) (by unfold Func.isWrapper; first | (rw [if_pos (by decide +kernel)]; kernel_rfl) | (rw [if_neg (by decide +kernel)]; exact ⟨rfl, rfl⟩))
    (fun os started H enc _ => lifted os started H enc)
end Go.Proofs.Ytoinghjainpkfaa.poolSettles
namespace Go.Proofs.Ytoinghjainpkfaa
/-- The row, under a short name, for the claim. -/
theorem poolSettles_holds : Rows.PoolSettlesSaid := poolSettles.over
#print axioms poolSettles_holds
end Go.Proofs.Ytoinghjainpkfaa
