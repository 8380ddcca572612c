/- VI, part SM: law TreePaths, walked. -/
import Derived.Test.YtkjeigdiojdfnaaSL
set_option linter.unusedVariables false
set_option linter.unusedSimpArgs false
set_option maxRecDepth 100000
namespace Go.VI
attribute [local congr] AW_congr OW_congr DW_congr NW_congr VW_congr GW_congr PW_congr KW_congr ite_congr' GV_congr CV_congr

theorem sameI_refl (x : ItemM) : sameI x x = true := by simp [sameI, cmpB_refl]
theorem sameIs_refl : ∀ l, sameIs l l = true
  | [] => rfl
  | x :: l => by rw [sameIs, sameI_refl, sameIs_refl l]; rfl
theorem sameKs_refl : ∀ l, sameKs l l = true
  | [] => rfl
  | x :: l => by rw [sameKs, sameK, cmpB_refl, sameKs_refl l]; simp
theorem sameN_refl (n : NodeM) : sameN n n = true := by simp [sameN, sameIs_refl, sameKs_refl]
theorem stepsM_refl (l : List StepM) : stepsM l l = true := by
  have : ∀ l, sameSs l l = true := by
    intro l
    induction l with
    | nil => rfl
    | cons x l ih => rw [sameSs, sameS, sameN_refl, ih]; simp
  simp [stepsM, this]
theorem sumM_ge : ∀ (l : List NamedM) (s : Int), 0 ≤ s → s + l.length * 281474976710656 < 9223372036854775807 → (∀ x ∈ l, x.n.items.length < MX ∧ x.n.kids.length < MX) →
    s ≤ sumM s l ∧ ∀ x ∈ l, s + x.n.items.length + x.n.kids.length ≤ sumM s l
  | [], s, _, _, _ => ⟨Int.le_refl _, by simp⟩
  | y :: l, s, hs, hb, h => by
    obtain ⟨h1, h2⟩ := h y List.mem_cons_self
    unfold MX at h1 h2
    simp only [List.length_cons] at hb
    have e1 : IntKind.i64.wrap ((y.n.items.length : Int) + y.n.kids.length) = (y.n.items.length : Int) + y.n.kids.length := wrap_i64 (by omega)
    have e2 : IntKind.i64.wrap (s + ((y.n.items.length : Int) + y.n.kids.length)) = s + ((y.n.items.length : Int) + y.n.kids.length) := wrap_i64 (by omega)
    rw [sumM, e1, e2]
    obtain ⟨a, b⟩ := sumM_ge l (s + ((y.n.items.length : Int) + y.n.kids.length)) (by omega) (by omega) (fun x hx => h x (List.mem_cons_of_mem _ hx))
    refine ⟨by omega, fun x hx => ?_⟩
    rcases List.mem_cons.1 hx with rfl | hx
    · omega
    · have := b x hx
      omega
theorem few_tiny {l : List NamedM} (hl : okL l) (h : fewM l = true) : tinyL l := by
  simp only [fewM, Bool.and_eq_true, decide_eq_true_eq] at h
  obtain ⟨_, b⟩ := sumM_ge l 0 (Int.le_refl _) (by omega) (fun x hx => ⟨(hl.h x hx).i.n, (hl.h x hx).k.n⟩)
  intro x hx
  have := b x hx
  omega
end Go.VI
