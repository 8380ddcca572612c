/- VI, part O: slices cut, copied, measured; bytes; maps; equal structs. -/
import Derived.Test.YtkjeigdiojdfnaaVN
set_option linter.unusedVariables false
set_option linter.unusedSimpArgs false
namespace Go.VI

section
variable {P : Program} {m : Mp} {F : Fz} {H : Heap} {w : World} {e : Env} {a : Act} {co : Oper} {nid : Nat} {al : Option Nat}

theorem sim_app (hn : Free m H nid) (hs : Sit m F H w e a) {c : Call} {s x : Operand} {t u : TypeId} (ho : co.op = .call c) (hc : c.callee = .builtin .append) (ha : c.args = #[s, x]) (ht : c.argTypes = #[t, u]) {el : TypeId} (hel : elemA P t = some el) (hu2 : ∃ el2, P.underlying u = some (.slice el2))
    {i : Nat × Nat × List AV} (hi : infoA P el = some i) {v : AV} {H' : Heap} (h : opS nid e H (.app i.1 i.2.1 s x) = some (v, H')) : OpOk P co a (some nid) m F w v H' := by
  obtain ⟨ti, z, i1, i2, rfl, i3, i4, hpos, hby⟩ := infoA_some hi
  simp only [opS, Option.bind_eq_some_iff] at h
  obtain ⟨xs, hxs, h⟩ := h
  obtain ⟨r, m', F', w', hr, hv, hI, hE⟩ := appA_sound (ty := co.type) hn hs.inv (elemA_some hel) hu2 i1 i2 i4 hby (hs.ev s) (hs.ev x) hxs h
  refine ⟨_, r, m', F', w', ?_, .inl rfl, hv, hI, hE⟩
  simp [execOp, ho, resolve, hc, ha, ht, invoke, builtin, hr]

theorem sim_len (hs : Sit m F H w e a) {c : Call} {x : Operand} {t : TypeId} (ho : co.op = .call c) (hc : c.callee = .builtin .len) (ha : c.args = #[x]) (ht : c.argTypes = #[t]) {kd : Nat}
    (hk : (kd = 0 ∧ ∃ el, P.underlying t = some (.slice el)) ∨ (kd = 1 ∧ P.underlying t = some .string) ∨ (kd = 2 ∧ ∃ k el, P.underlying t = some (.map k el)))
    {v : AV} {H' : Heap} (h : opS nid e H (.len kd x) = some (v, H')) : OpOk P co a al m F w v H' := by
  have hx := hs.ev x
  simp only [opS] at h
  split at h
  · rename_i id hxx
    rw [hxx] at hx
    obtain ⟨mb, hm, he⟩ := vr_mp hx
    split at h
    rotate_left
    · cases h
    rename_i hkd
    subst hkd
    have hk : ∃ k el, P.underlying t = some (.map k el) := by
      rcases hk with ⟨h, _⟩ | ⟨h, _⟩ | ⟨_, h⟩
      · cases h
      · cases h
      · exact h
    obtain ⟨k, el, hk⟩ := hk
    split at h
    · rename_i es hg
      cases h
      obtain ⟨ens, ck, h1, h2, h3⟩ := hs.inv.blk id mb _ hm hg
      refine OpOk.still hs.inv ?_ (.fz (.sc rfl))
      simp [execOp, ho, resolve, hc, ha, ht, invoke, builtin, Builtin.len_, run_under' hk, he, getObj, Sem.run, h1, h2, goInt]
    · cases h
  · simp only [Option.map_eq_some_iff] at h
    obtain ⟨n, hn, h⟩ := h
    cases h
    refine OpOk.still (u := .int .i64 n) hs.inv ?_ (.fz (.sc rfl))
    unfold lenOfA at hn
    split at hn
    · rename_i hxx
      cases hn
      rw [hxx] at hx
      obtain ⟨he, _⟩ := vr_sc hx
      have hk : ∃ el, P.underlying t = some (.slice el) := by
        rcases hk with ⟨_, h⟩ | ⟨h, _⟩ | ⟨h, _⟩
        · exact h
        · cases h
        · cases h
      obtain ⟨el, hk⟩ := hk
      simp [execOp, ho, resolve, hc, ha, ht, invoke, builtin, Builtin.len_, run_under' hk, he, goInt]
    · rename_i rows hxx
      cases hn
      rw [hxx] at hx
      have hp := vr_lst hx
      generalize hq : a.eval x = q at hp
      have hk : ∃ el, P.underlying t = some (.slice el) := by
        rcases hk with ⟨_, h⟩ | ⟨h, _⟩ | ⟨h, _⟩
        · exact h
        · cases h
        · cases h
      obtain ⟨el, hk⟩ := hk
      cases hp
      simp [execOp, ho, resolve, hc, ha, ht, invoke, builtin, Builtin.len_, run_under' hk, hq, goInt]
    · rename_i id off len hxx
      cases hn
      rw [hxx] at hx
      obtain ⟨mb, cap, _, he, _⟩ := vr_sl hx
      have hk : ∃ el, P.underlying t = some (.slice el) := by
        rcases hk with ⟨_, h⟩ | ⟨h, _⟩ | ⟨h, _⟩
        · exact h
        · cases h
        · cases h
      obtain ⟨el, hk⟩ := hk
      simp [execOp, ho, resolve, hc, ha, ht, invoke, builtin, Builtin.len_, run_under' hk, he, goInt]
    · rename_i s hxx
      cases hn
      rw [hxx] at hx
      obtain ⟨he, _⟩ := vr_sc hx
      have hk : P.underlying t = some .string := by
        rcases hk with ⟨h, _⟩ | ⟨_, h⟩ | ⟨h, _⟩
        · cases h
        · exact h
        · cases h
      simp [execOp, ho, resolve, hc, ha, ht, invoke, builtin, Builtin.len_, run_under' hk, he, goInt]
    · cases hn

theorem boundsA_some {n : Nat} {lo hi mx : Option Int} {l h : Nat} (hb : boundsA n lo hi mx = some (l, h)) :
    0 ≤ lo.getD 0 ∧ (lo.getD 0).toNat = l ∧ (hi.getD n).toNat = h ∧ 0 ≤ hi.getD n ∧ l ≤ h ∧ h ≤ n ∧ lo.getD 0 ≤ hi.getD n ∧ hi.getD n ≤ mx.getD n ∧ mx.getD n ≤ n := by
  unfold boundsA at hb
  simp only at hb
  split at hb
  · simp only [Option.some.injEq, Prod.mk.injEq] at hb
    omega
  · cases hb

theorem optI_some {o : Option Operand} {r : Option Int} (h : optI e o = some r) (hs : Sit m F H w e a) : (o = none ∧ r = none) ∨ ∃ x k n, o = some x ∧ a.eval x = .int k n ∧ r = some n := by
  cases o with
  | none => simp [optI] at h; exact .inl ⟨rfl, h.symm⟩
  | some x =>
    simp only [optI, Option.map_eq_some_iff] at h
    obtain ⟨n, hn, rfl⟩ := h
    obtain ⟨k, hk⟩ := toI_some hn (hs.ev x)
    exact .inr ⟨x, k, n, rfl, hk, rfl⟩

/-- The bounds of a slice expression, as the machine takes them. -/
theorem run_bounds (hs : Sit m F H w e a) {lo hi mx : Option Operand} {lr hr mr : Option Int} (h1 : optI e lo = some lr) (h2 : optI e hi = some hr) (h3 : optI e mx = some mr) {n cap l h : Nat} (hb : boundsA n lr hr mr = some (l, h)) (hc : n ≤ cap) (hmx : mx.isSome → hi.isSome) (sl : Bool) :
    ∃ cm, (Instr.sliceBounds sl n cap (lo.map a.eval) (hi.map a.eval) (mx.map a.eval)).run P w = .ok (l, h, cm) w ∧ h ≤ cm ∧ cm ≤ cap := by
  obtain ⟨b1, b2, b3, b4, b5, b6, b7, b8, b9⟩ := boundsA_some hb
  rcases optI_some h1 hs with ⟨rfl, rfl⟩ | ⟨xl, kl, nl, rfl, el, rfl⟩ <;> rcases optI_some h2 hs with ⟨rfl, rfl⟩ | ⟨xh, kh, nh, rfl, eh, rfl⟩ <;> rcases optI_some h3 hs with ⟨rfl, rfl⟩ | ⟨xm, km, nm, rfl, em, rfl⟩ <;>
    simp only [Option.getD_none, Option.getD_some] at b1 b2 b3 b4 b5 b6 b7 b8 b9
  · exact ⟨cap, by simp [Instr.sliceBounds]; omega, by omega, Nat.le_refl _⟩
  · simp at hmx
  · refine ⟨cap, ?_, by omega, Nat.le_refl _⟩
    simp only [Instr.sliceBounds, Option.map_some, Option.map_none, Sem.run_bind, Sem.run_pure, Result.andThen_ok, eh]
    rw [run_sliceBound (h0 := b4) (h1 := by omega)]
    simp
    omega
  · refine ⟨nm.toNat, ?_, by omega, by omega⟩
    simp only [Instr.sliceBounds, Option.map_some, Option.map_none, Sem.run_bind, Sem.run_pure, Result.andThen_ok, eh, em]
    rw [run_sliceBound (h0 := by omega) (h1 := by omega)]
    simp only [Result.andThen_ok]
    rw [run_sliceBound (h0 := b4) (h1 := by omega)]
    simp
    omega
  · refine ⟨cap, ?_, by omega, Nat.le_refl _⟩
    simp only [Instr.sliceBounds, Option.map_some, Option.map_none, Sem.run_bind, Sem.run_pure, Result.andThen_ok, el]
    rw [run_sliceBound (h0 := b1) (h1 := by omega)]
    simp
    omega
  · simp at hmx
  · refine ⟨cap, ?_, by omega, Nat.le_refl _⟩
    simp only [Instr.sliceBounds, Option.map_some, Option.map_none, Sem.run_bind, Sem.run_pure, Result.andThen_ok, el, eh]
    rw [run_sliceBound (h0 := b4) (h1 := by omega)]
    simp only [Result.andThen_ok]
    rw [run_sliceBound (h0 := b1) (h1 := by omega)]
    simp
    omega
  · refine ⟨nm.toNat, ?_, by omega, by omega⟩
    simp only [Instr.sliceBounds, Option.map_some, Option.map_none, Sem.run_bind, Sem.run_pure, Result.andThen_ok, el, eh, em]
    rw [run_sliceBound (h0 := by omega) (h1 := by omega)]
    simp only [Result.andThen_ok]
    rw [run_sliceBound (h0 := b4) (h1 := by omega)]
    simp only [Result.andThen_ok]
    rw [run_sliceBound (h0 := b1) (h1 := by omega)]
    simp
    omega
end
end Go.VI
