/- VI, part RB: from a reckoned call to the machine's call: true is told, and all that was there is as it was. -/
import Derived.Test.YtkjeigdiojdfnaaRA
import Derived.Test.YtkjeigdiojdfnaaVW
import Derived.Below
set_option linter.unusedVariables false
set_option linter.unusedSimpArgs false
namespace Go.VI
open Go.RowKit

def m0 : Mp := fun _ => none
theorem inv0 (W : World) : Inv m0 (frzW W) Heap.empty W :=
  ⟨fun b o v h => h, fun id mb h => absurd h (by simp [m0]), fun id mb B h => absurd h (by simp [m0]), fun id id' mb mb' h => absurd h (by simp [m0])⟩
theorem below_of {F' : Fz} {m' : Mp} {W W' : World} (h : Ext m0 (frzW W) W m' F' W') : Below W.heap.size W W' :=
  ⟨h.os, h.tape, h.out, h.sz, fun k hk => h.blk k hk fun id mb hm => absurd hm (by simp [m0])⟩
theorem law_calls {P : Program} (hP : P.follows .mixedOrders = true) {ft : FT} (hft : FTOk P ft) {k : FuncId} {args : List AV} {vs : Array Value} {W : World} {H' : Heap} (hgo : ∃ p n rs body, ft k = some (.go p n rs body))
    (h : callL ft (.fn (.func k) [] []) args Heap.empty = some (.sc (.bool true), H')) (hv : VRs m0 (frzW W) args vs) :
    Calls P k vs W fun e W' => e = .returned (.bool true) ∧ Below W.heap.size W W' := by
  obtain ⟨n, hn⟩ := callL_some.1 h
  have hn' : callF ft (exec ft n) k args Heap.empty = some (.sc (.bool true), H') := by simpa [callV] using hn
  refine (callF_sound hP hft n hn' (inv0 W) hv hgo).mono fun e W' he => ?_
  obtain ⟨u, m', F', rfl, hu, _, hx, _⟩ := he
  refine ⟨?_, below_of hx⟩
  cases hu with
  | fz hu => cases hu; rfl
theorem go_ok {P : Program} {k : FuncId} {n : Nat} {rs : List ARes} {body : ACode} (h : compF P k = some (n, rs, body)) (hn : (P.funcs[k]?).all (fun fn => !(fn.name == "runtime.NumGoroutine")) = true) :
    ∃ fn c, P.funcs[k]? = some fn ∧ (fn.name == "runtime.NumGoroutine") = false ∧ fn.body = some c ∧ compC P c = some body ∧ fn.ntmps = n ∧ fn.results.toList.mapM (compRes P) = some rs := by
  unfold compF at h
  simp only [Option.bind_eq_some_iff, Option.map_eq_some_iff, Prod.mk.injEq] at h
  obtain ⟨fn, h1, b, h2, c, h3, rs', h4, rfl, rfl, rfl⟩ := h
  rw [h1] at hn
  exact ⟨fn, b, h1, by simpa using hn, h2, h3, rfl, h4⟩
theorem vrs_of {F : Fz} {m : Mp} {args : List AV} {vs : List Value} (h : CVF F args vs) : VRs m F args vs.toArray := by
  refine ⟨?_, ?_⟩
  · simp [h.1]
  · intro i c hc
    have := (h.2 i c hc).2
    simpa using VR.fz this
end Go.VI
