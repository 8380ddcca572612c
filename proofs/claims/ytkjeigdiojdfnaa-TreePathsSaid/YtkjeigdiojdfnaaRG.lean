/- VI, part RG: what the arguments of this seat's laws stand for. -/
import Derived.Test.YtkjeigdiojdfnaaRF
import Derived.Test.YtkjeigdiojdfnaaSB
set_option linter.unusedVariables false
set_option linter.unusedSimpArgs false
namespace Go.VI
open Go.Proofs

theorem RD.mono {P : Program} {W : World} {t : TypeId} {E E' : List AV → Prop} (h : RD P W t E) (hE : ∀ xs, E xs → E' xs) : RD P W t E' := fun H enc base spare held fuel cs x hx hw => by
  obtain ⟨xs, h1, h2⟩ := h H enc base spare held fuel cs x hx hw
  exact ⟨xs, hE xs h1, h2⟩
theorem rows_map {α : Type} {g : α → List AV} {p : α → Prop} : ∀ {rows : List (List AV)}, (∀ r ∈ rows, ∃ x, r = g x ∧ p x) → ∃ l : List α, rows = l.map g ∧ ∀ x ∈ l, p x
  | [], _ => ⟨[], rfl, by simp⟩
  | r :: rows, h => by
    obtain ⟨x, rfl, hx⟩ := h r List.mem_cons_self
    obtain ⟨l, rfl, hl⟩ := rows_map fun r hr => h r (List.mem_cons_of_mem _ hr)
    exact ⟨x :: l, rfl, fun y hy => by
      rcases List.mem_cons.1 hy with rfl | hy
      · exact hx
      · exact hl y hy⟩
variable (W : World)
theorem rdB : RD Try.prog W 23 fun xs => ∃ l : Bytes, xs = [encB l] ∧ okB l :=
  (rd_slice (sz := 1) (B := 1) Try.underlying23 (by kernel_rfl) (by decide) (by kernel_rfl) (rd_int Try.underlying5)).mono fun xs ⟨rows, h1, h2, h3⟩ => by
    obtain ⟨l, rfl, hl⟩ := rows_map (g := byteC) (p := fun n => (Lit.int .u8 n).wf = true) fun r hr => (h2 r hr).1
    refine ⟨l, h1, ?_, ?_⟩
    · simp only [List.length_map, reachBytes] at h3
      unfold MX
      omega
    · unfold byteR
      rw [List.all_eq_true]
      intro n hn
      have := hl n hn
      simp only [Lit.wf, IntKind.min, IntKind.max, IntKind.signed, IntKind.bits] at this
      simp at this
      simp
      omega
theorem rdN : RD Try.prog W 3 fun xs => ∃ n, xs = [int n] ∧ (Lit.int .i64 n).wf = true := rd_int Try.underlying3
theorem rdIt : RD Try.prog W 59 fun xs => ∃ x : ItemM, xs = itemC x ∧ okIt x :=
  (rd_struct (Es := [_, _, _, _]) Try.underlying59 (by kernel_rfl) ⟨rdB W, rdB W, rdN W, rdN W, trivial⟩).mono fun xs h => by
    obtain ⟨_, _, rfl, ⟨k, rfl, hk⟩, _, _, rfl, ⟨v, rfl, hv⟩, _, _, rfl, ⟨s, rfl, _⟩, _, _, rfl, ⟨r, rfl, _⟩, rfl⟩ := h
    exact ⟨⟨k, v, s, r⟩, rfl, hk, hv⟩
theorem rdI : RD Try.prog W 26 fun xs => ∃ l : List ItemM, xs = [encI l] ∧ okI l :=
  (rd_slice (sz := 4) (B := 64) Try.underlying26 (by kernel_rfl) (by decide) (by kernel_rfl) (rdIt W)).mono fun xs ⟨rows, h1, h2, h3⟩ => by
    obtain ⟨l, rfl, hl⟩ := rows_map (g := itemC) (p := okIt) fun r hr => (h2 r hr).1
    refine ⟨l, h1, ?_, hl⟩
    simp only [List.length_map, reachBytes] at h3
    unfold MX
    omega
theorem rdKd : RD Try.prog W 93 fun xs => ∃ x : KidM, xs = kidC x ∧ okB x.key :=
  (rd_struct (Es := [_, _]) Try.underlying93 (by kernel_rfl) ⟨rdB W, rdN W, trivial⟩).mono fun xs h => by
    obtain ⟨_, _, rfl, ⟨k, rfl, hk⟩, _, _, rfl, ⟨r, rfl, _⟩, rfl⟩ := h
    exact ⟨⟨k, r⟩, rfl, hk⟩
theorem rdK : RD Try.prog W 27 fun xs => ∃ l : List KidM, xs = [encK l] ∧ okK l :=
  (rd_slice (sz := 2) (B := 32) Try.underlying27 (by kernel_rfl) (by decide) (by kernel_rfl) (rdKd W)).mono fun xs ⟨rows, h1, h2, h3⟩ => by
    obtain ⟨l, rfl, hl⟩ := rows_map (g := kidC) (p := fun x => okB x.key) fun r hr => (h2 r hr).1
    refine ⟨l, h1, ?_, hl⟩
    simp only [List.length_map, reachBytes] at h3
    unfold MX
    omega
theorem rdNode : RD Try.prog W 29 fun xs => ∃ x : NodeM, xs = nodeC x ∧ okN x :=
  (rd_struct (Es := [_, _, _]) Try.underlying29 (by kernel_rfl) ⟨rd_bool Try.underlying4, rdI W, rdK W, trivial⟩).mono fun xs h => by
    obtain ⟨_, _, rfl, ⟨b, rfl⟩, _, _, rfl, ⟨i, rfl, hi⟩, _, _, rfl, ⟨k, rfl, hk⟩, rfl⟩ := h
    exact ⟨⟨b, i, k⟩, rfl, hi, hk⟩
theorem rdNm : RD Try.prog W 31 fun xs => ∃ x : NamedM, xs = namedC x ∧ okN x.n :=
  (rd_struct (Es := [_, _]) Try.underlying31 (by kernel_rfl) ⟨rdN W, rdNode W, trivial⟩).mono fun xs h => by
    obtain ⟨_, _, rfl, ⟨r, rfl, _⟩, _, _, rfl, ⟨n, rfl, hn⟩, rfl⟩ := h
    exact ⟨⟨r, n⟩, by simp [namedC], hn⟩
theorem rdL : RD Try.prog W 22 fun xs => ∃ l : List NamedM, xs = [encL l] ∧ okL l :=
  (rd_slice (sz := 4) (B := 64) Try.underlying22 (by kernel_rfl) (by decide) (by kernel_rfl) (rdNm W)).mono fun xs ⟨rows, h1, h2, h3⟩ => by
    obtain ⟨l, rfl, hl⟩ := rows_map (g := namedC) (p := fun x => okN x.n) fun r hr => (h2 r hr).1
    refine ⟨l, h1, ?_, hl⟩
    simp only [List.length_map, reachBytes] at h3
    unfold MX
    omega
end Go.VI
