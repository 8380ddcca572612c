/- The law ShelfNeeds holds: for every input true is told, and the arguments read as before. No condition beyond the row's own. -/
import Derived.Test.YtoinghjainpkfaaGreatRows
import Derived.Test.YtoinghjainpkfaaGreatS6
import Derived.WalkKit
import Derived.ProofKit
import Derived.OpenShut
import Derived.ShutString
import Derived.ChangeOld
import Derived.Below
import Derived.SizedLaws
import Derived.Carry
import Derived.JoinedOf
namespace Go.Proofs.YtoinghjainpkfaaGreat.shelfNeeds
open Go.ChangeShapes Go.WideShapes Go.ChangeAt Go.RowKit Go.VI
set_option linter.unusedVariables false
theorem own : ownKnob Tryz.prog.godebug = none := by kernel_rfl
theorem laidOut : laidOutB Tryz.prog = true := by kernel_rfl
set_option maxRecDepth 100000 in
theorem lifted (os : Os) (started : os.Started) (H : Type) (enc : TypeId × Value → H) :
    ReturnsInHanded {} Tryz.checked os 7 .any (Rows.shelfNeedsSpec.pre6 enc Tryz.prog Tryz.f7 Rows.shelfNeedsRow.domain false) (Rows.shelfNeedsSpec.post enc Tryz.prog Tryz.f7 false true false false) := by
  refine returnsInHanded_of_change_sized (C := Tryz.checked) own started (by kernel_rfl) Tryz.func7
    (ChangeSpec.witness6 (enc := enc) (C := Tryz.checked) false ⟨#[], #[.int .i64 0, .agg #[.slice none 0 0, .slice none 0 0], .int .i64 0], []⟩ 8 (by kernel_rfl) (by kernel_rfl) (by kernel_rfl) (by kernel_rfl)) ?_
  intro W base args ds gs before hval0 hW hcnd hsz0 _
  have hsz : (DataW.weightsEach Tryz.prog (Tryz.f7.params.toList ++ Rows.shelfNeedsSpec.plain.varTypes Tryz.prog) (ds ++ gs)).all (· ≤ reachBytes) = true := hsz0
  have hval : ∀ (j : Nat) t v, Tryz.f7.params[j]? = some t → args[j]? = some v → Value.okWide Tryz.prog W .any base t v := hval0
  have hW' := hW
  obtain ⟨p, q, hA0, hV, rfl, hfz, hnd⟩ := hW
  have hA : DataW.TrodAll enc Tryz.prog W 0 (fun _ => true) true Tryz.f7.params.toList args.toList ds p := hA0
  rw [Tryz.params7] at hA hval hsz
  obtain ⟨v0, vs0, d0, ds0, p0, q0, hargs, rfl, rfl, h0, r0⟩ := trodAll_cons hA
  obtain ⟨v1, vs1, d1, ds1, p1, q1, rfl, rfl, rfl, h1, r1⟩ := trodAll_cons r0
  obtain ⟨v2, vs2, d2, ds2, p2, q2, rfl, rfl, rfl, h2, r2⟩ := trodAll_cons r1
  obtain ⟨rfl, rfl, rfl⟩ := trodAll_nil r2
  obtain rfl : args = #[v0, v1, v2] := by cases args; simp_all
  obtain ⟨rfl, rfl⟩ := trodVars_none hV
  have w0 : ∀ n ∈ d0.weights Tryz.prog 3, n ≤ reachBytes := fun n hn => of_decide_eq_true (List.all_eq_true.1 hsz n (DataW.weights_mem_each (j := 0) rfl rfl n hn))
  obtain ⟨l0, rfl, rfl, rfl, o0⟩ := open_int Tryz.underlying3 (hval 0 3 v0 rfl rfl) h0
  have c0 : CVF (frzW W) [int l0] [.int .i64 l0] := .one rfl (.sc rfl)
  have w1 : ∀ n ∈ d1.weights Tryz.prog 38, n ≤ reachBytes := fun n hn => of_decide_eq_true (List.all_eq_true.1 hsz n (DataW.weights_mem_each (j := 1) rfl rfl n hn))
  obtain ⟨a1, rfl⟩ := okWide_stc Tryz.underlying38 (hval 1 38 v1 rfl rfl)
  have k1 := h1
  have lt1 : ∀ x ∈ p1, x.block < W.heap.size := by obtain ⟨m, hm⟩ := k1; exact DataW.trod_lt m _ _ _ hm
  obtain ⟨l1, o1, c1⟩ : ∃ l, okSt l ∧ CVA (frzW W) [.agg (encSt l)] [.agg a1] := by
    obtain ⟨fuel, hf⟩ := h1
    obtain ⟨xs, ⟨l, rfl, ho⟩, hc⟩ := rdSt W H enc 0 _ true fuel _ _ hf w1
    exact ⟨l, ho, .agg hc⟩
  have w2 : ∀ n ∈ d2.weights Tryz.prog 3, n ≤ reachBytes := fun n hn => of_decide_eq_true (List.all_eq_true.1 hsz n (DataW.weights_mem_each (j := 2) rfl rfl n hn))
  obtain ⟨l2, rfl, rfl, rfl, o2⟩ := open_int Tryz.underlying3 (hval 2 3 v2 rfl rfl) h2
  have c2 : CVF (frzW W) [int l2] [.int .i64 l2] := .one rfl (.sc rfl)
  clear hA0 hval0 hsz0 hsz
  refine (law_calls follows ftG7_ok ⟨_, _, _, _, rfl⟩ (s7 l0 l2 l1.1 l1.2 o1.1 o1.2 Heap.empty) (vrs_ofA (c0.cva.cons (c1.cons c2.cva)))).mono fun e W' ⟨he, bel⟩ => ?_
  subst he
  exact ⟨_, rfl, _, _, _, [], _, [], hW', trodAll_mk1 (shut_bool Tryz.underlying4 _), (trodAll_cons_mk (shut_int Tryz.underlying3 o0) (trodAll_cons_mk (Below.trod laidOut (by kernel_rfl) (of_decide_eq_true (by kernel_rfl)) k1 bel lt1) (trodAll_cons_mk (shut_int Tryz.underlying3 o2) trodAll_mk0))), rfl, bel.frame _, fun h => by cases h⟩
theorem over : Rows.shelfNeedsRow.holds Tryz.pinned (OpenSpec.ofChange Rows.shelfNeedsSpec) :=
  OpenClaim.holds_of_wide 7 Tryz.f7 rfl rfl rfl rfl rfl rfl rfl ⟨rfl, rfl, rfl, rfl, rfl⟩ rfl rfl rfl rfl rfl (by kernel_rfl) Tryz.func7 (by kernel_rfl)
    (of_decide_eq_true (by kernel_rfl)) (by unfold Func.isWrapper; first | (rw [if_pos (by decide +kernel)]; kernel_rfl) | (rw [if_neg (by decide +kernel)]; exact ⟨rfl, rfl⟩))
    (fun os started H enc _ => lifted os started H enc)
end Go.Proofs.YtoinghjainpkfaaGreat.shelfNeeds
namespace Go.Proofs.YtoinghjainpkfaaGreat
/-- The row, under a short name, for the claim. -/
theorem shelfNeeds_holds : Rows.ShelfNeedsSaid := shelfNeeds.over
#print axioms shelfNeeds_holds
end Go.Proofs.YtoinghjainpkfaaGreat
