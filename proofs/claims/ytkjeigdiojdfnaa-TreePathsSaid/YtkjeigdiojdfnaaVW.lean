/- VI, part W: no fuel: what the interpreter comes to, as equations. -/
import Derived.Test.YtkjeigdiojdfnaaVV
set_option linter.unusedVariables false
set_option linter.unusedSimpArgs false
namespace Go.VI

def CLe (cf cf' : CF) : Prop := ∀ f args H r, cf f args H = some r → cf' f args H = some r

theorem opC_mono {cf cf' : CF} (h : CLe cf cf') {nid : Nat} {e : Env} {H : Heap} {o : AOp} {r : AV × Heap} (hr : opC cf nid e H o = some r) : opC cf' nid e H o = some r := by
  unfold opC at hr ⊢
  split at hr
  · exact h _ _ _ _ hr
  · exact hr
theorem oper_mono {cf cf' : CF} (h : CLe cf cf') {nid : Nat} {e : Env} {H : Heap} {o : AOper} {r : Env × Heap} (hr : oper cf nid o e H = some r) : oper cf' nid o e H = some r := by
  unfold oper at hr ⊢
  split at hr
  · split at hr
    · simp only [Option.map_eq_some_iff] at hr
      obtain ⟨p, hp, rfl⟩ := hr
      rw [if_pos ‹_›, if_pos ‹_›, opC_mono h hp]
      rfl
    · rw [if_pos ‹_›, if_neg ‹_›]
      exact hr
  · cases hr
theorem opers_mono {cf cf' : CF} (h : CLe cf cf') : ∀ (os : List AOper) (e : Env) (H : Heap) (r : Env × Heap), opers cf os e H = some r → opers cf' os e H = some r
  | [], e, H, r, hr => hr
  | o :: os, e, H, r, hr => by
    simp only [opers, Option.bind_eq_some_iff] at hr ⊢
    obtain ⟨p, hp, hr⟩ := hr
    exact ⟨p, oper_mono h hp, opers_mono h os _ _ _ hr⟩
theorem runs_mono {cf cf' : CF} (h : CLe cf cf') {pv : AV → List AV → Bool} : ∀ (os : List AOper) (nid : Nat) (e : Env) (H : Heap) (r : List FP × Env × Heap), runs cf pv nid os e H = some r → runs cf' pv nid os e H = some r
  | [], nid, e, H, r, hr => hr
  | o :: os, nid, e, H, r, hr => by
    simp only [runs, Option.bind_eq_some_iff, Option.map_eq_some_iff] at hr ⊢
    obtain ⟨p, hp, q, hq, rfl⟩ := hr
    exact ⟨p, oper_mono h hp, q, runs_mono h os _ _ _ _ hq, rfl⟩
theorem drawn_mono {cf cf' : CF} (h : CLe cf cf') {pv : AV → List AV → Bool} {os : List AOper} {prs : List (Nat × Nat)} {e : Env} {H : Heap} {r : Env × Heap} (hr : drawn cf pv os prs e H = some r) : drawn cf' pv os prs e H = some r := by
  simp only [drawn, Option.bind_eq_some_iff] at hr ⊢
  obtain ⟨p, hp, hr⟩ := hr
  exact ⟨p, runs_mono h _ _ _ _ _ hp, hr⟩

def ELe (ex ex' : EX) : Prop := ∀ c e H r, ex c e H = some r → ex' c e H = some r
theorem callF_mono {ft : FT} {ex ex' : EX} (h : ELe ex ex') {k : FuncId} {args : List AV} {H : Heap} {r : AV × Heap} (hr : callF ft ex k args H = some r) : callF ft ex' k args H = some r := by
  unfold callF at hr ⊢
  split at hr
  · cases hr
  · exact hr
  · exact hr
  · simp only [Option.bind_eq_some_iff] at hr ⊢
    obtain ⟨p, hp, q, hq, hr⟩ := hr
    exact ⟨p, hp, q, h _ _ _ _ hq, hr⟩
  · simp only [Option.bind_eq_some_iff] at hr ⊢
    obtain ⟨q, hq, hr⟩ := hr
    exact ⟨q, h _ _ _ _ hq, hr⟩
theorem callV_mono {ft : FT} {ex ex' : EX} (h : ELe ex ex') : CLe (callV ft ex) (callV ft ex') := by
  intro f args H r hr
  unfold callV at hr ⊢
  split at hr
  · exact callF_mono h hr
  · cases hr
theorem exec_mono1 (ft : FT) : ∀ n, ELe (exec ft n) (exec ft (n + 1)) := by
  intro n
  induction n with
  | zero => intro c e H r h; simp [exec] at h
  | succ n ih =>
    intro c e H r h
    rw [exec.eq_def] at h ⊢
    simp only at h ⊢
    cases c with
    | skip => exact h
    | exit id => exact h
    | ret => exact h
    | region os draw prs =>
      simp only at h ⊢
      split at h
      · rename_i hd
        rw [if_pos hd]
        simp only [Option.map_eq_some_iff] at h ⊢
        obtain ⟨p, hp, hr⟩ := h
        exact ⟨p, drawn_mono (callV_mono ih) hp, hr⟩
      · rename_i hd
        rw [if_neg hd]
        simp only [Option.map_eq_some_iff] at h ⊢
        obtain ⟨p, hp, hr⟩ := h
        exact ⟨p, opers_mono (callV_mono ih) _ _ _ _ hp, hr⟩
    | seq a b =>
      simp only [Option.bind_eq_some_iff] at h ⊢
      obtain ⟨⟨x, e1, H1⟩, hp, hr⟩ := h
      refine ⟨(x, e1, H1), ih _ _ _ _ hp, ?_⟩
      cases x with
      | normal => exact ih _ _ _ _ hr
      | exit id => exact hr
      | ret => exact hr
    | cond o a b =>
      simp only [Option.bind_eq_some_iff] at h ⊢
      obtain ⟨t, ht, hr⟩ := h
      refine ⟨t, ht, ?_⟩
      cases t with
      | true => exact ih _ _ _ _ hr
      | false => exact ih _ _ _ _ hr
    | block id c =>
      simp only [Option.map_eq_some_iff] at h ⊢
      obtain ⟨p, hp, hr⟩ := h
      exact ⟨p, ih _ _ _ _ hp, hr⟩
    | loop c =>
      simp only [Option.bind_eq_some_iff] at h ⊢
      obtain ⟨⟨x, e1, H1⟩, hp, hr⟩ := h
      refine ⟨(x, e1, H1), ih _ _ _ _ hp, ?_⟩
      cases x with
      | normal => exact ih _ _ _ _ hr
      | exit id => exact hr
      | ret => exact hr
theorem exec_mono (ft : FT) {n m : Nat} (h : n ≤ m) : ELe (exec ft n) (exec ft m) := by
  induction h with
  | refl => exact fun _ _ _ _ h => h
  | step _ ih => exact fun c e H r h => exec_mono1 ft _ _ _ _ _ (ih _ _ _ _ h)

/-! ### the limits -/
open Classical in
/-- What a growing row of answers comes to. -/
noncomputable def lim {α : Type} (f : Nat → Option α) : Option α := if h : ∃ r, ∃ n, f n = some r then some (Classical.choose h) else none
theorem lim_eq {α : Type} {f : Nat → Option α} (hm : ∀ n m r, n ≤ m → f n = some r → f m = some r) (r : α) : lim f = some r ↔ ∃ n, f n = some r := by
  unfold lim
  constructor
  · intro h
    split at h
    · rename_i hx
      cases h
      exact Classical.choose_spec hx
    · cases h
  · rintro ⟨n, hn⟩
    have hx : ∃ r, ∃ n, f n = some r := ⟨r, n, hn⟩
    rw [dif_pos hx]
    obtain ⟨m, hm'⟩ := Classical.choose_spec hx
    have h1 := hm n (max n m) r (Nat.le_max_left _ _) hn
    have h2 := hm m (max n m) _ (Nat.le_max_right _ _) hm'
    rw [h1] at h2
    exact h2.symm
theorem opt_ext {α : Type} {a b : Option α} (h : ∀ r, a = some r ↔ b = some r) : a = b := by
  cases a with
  | none =>
    cases b with
    | none => rfl
    | some b => exact absurd ((h b).2 rfl) (by simp)
  | some a => exact ((h a).1 rfl).symm

noncomputable def execL (ft : FT) : EX := fun c e H => lim fun n => exec ft n c e H
noncomputable def callL (ft : FT) : CF := callV ft (execL ft)
theorem execL_some {ft : FT} {c : ACode} {e : Env} {H : Heap} {r : AExit × Env × Heap} : execL ft c e H = some r ↔ ∃ n, exec ft n c e H = some r :=
  lim_eq (fun n m r h => exec_mono ft h c e H r) r
theorem exec_L (ft : FT) (n : Nat) : ELe (exec ft n) (execL ft) := fun c e H r h => execL_some.2 ⟨n, h⟩
theorem callF_L {ft : FT} {k : FuncId} {args : List AV} {H : Heap} {r : AV × Heap} (h : callF ft (execL ft) k args H = some r) : ∃ n, callF ft (exec ft n) k args H = some r := by
  unfold callF at h ⊢
  split at h
  · cases h
  · exact ⟨0, h⟩
  · exact ⟨0, h⟩
  · simp only [Option.bind_eq_some_iff] at h ⊢
    obtain ⟨p, hp, q, hq, hr⟩ := h
    obtain ⟨n, hn⟩ := execL_some.1 hq
    exact ⟨n, p, hp, q, hn, hr⟩
  · simp only [Option.bind_eq_some_iff] at h ⊢
    obtain ⟨q, hq, hr⟩ := h
    obtain ⟨n, hn⟩ := execL_some.1 hq
    exact ⟨n, q, hn, hr⟩
theorem callL_some {ft : FT} {f : AV} {args : List AV} {H : Heap} {r : AV × Heap} : callL ft f args H = some r ↔ ∃ n, callV ft (exec ft n) f args H = some r := by
  constructor
  · intro h
    unfold callL callV at h
    unfold callV
    split at h
    · exact callF_L h
    · cases h
  · rintro ⟨n, h⟩
    exact callV_mono (exec_L ft n) _ _ _ _ h

section
variable {ft : FT}
theorem oper_L {nid : Nat} {o : AOper} {e : Env} {H : Heap} {r : Env × Heap} (h : oper (callL ft) nid o e H = some r) : ∃ n, oper (callV ft (exec ft n)) nid o e H = some r := by
  unfold oper at h ⊢
  split at h
  rotate_left
  · cases h
  rename_i hk
  simp only [if_pos hk]
  split at h
  · rename_i hw
    simp only [if_pos hw]
    simp only [Option.map_eq_some_iff] at h ⊢
    obtain ⟨p, hp, hr⟩ := h
    unfold opC at hp ⊢
    split at hp
    · obtain ⟨n, hn⟩ := callL_some.1 hp
      exact ⟨n, p, hn, hr⟩
    · exact ⟨0, p, hp, hr⟩
  · rename_i hw
    simp only [if_neg hw]
    exact ⟨0, h⟩
theorem opers_L : ∀ (os : List AOper) (e : Env) (H : Heap) (r : Env × Heap), opers (callL ft) os e H = some r → ∃ n, opers (callV ft (exec ft n)) os e H = some r
  | [], e, H, r, h => ⟨0, h⟩
  | o :: os, e, H, r, h => by
    simp only [opers, Option.bind_eq_some_iff] at h ⊢
    obtain ⟨p, hp, h⟩ := h
    obtain ⟨n, hn⟩ := oper_L hp
    obtain ⟨m, hm⟩ := opers_L os _ _ _ h
    exact ⟨max n m, p, oper_mono (callV_mono (exec_mono ft (Nat.le_max_left _ _))) hn, opers_mono (callV_mono (exec_mono ft (Nat.le_max_right _ _))) _ _ _ _ hm⟩
theorem runs_L {pv : AV → List AV → Bool} : ∀ (os : List AOper) (nid : Nat) (e : Env) (H : Heap) (r : List FP × Env × Heap), runs (callL ft) pv nid os e H = some r → ∃ n, runs (callV ft (exec ft n)) pv nid os e H = some r
  | [], nid, e, H, r, h => ⟨0, h⟩
  | o :: os, nid, e, H, r, h => by
    simp only [runs, Option.bind_eq_some_iff, Option.map_eq_some_iff] at h ⊢
    obtain ⟨p, hp, q, hq, rfl⟩ := h
    obtain ⟨n, hn⟩ := oper_L hp
    obtain ⟨m, hm⟩ := runs_L os _ _ _ _ hq
    exact ⟨max n m, p, oper_mono (callV_mono (exec_mono ft (Nat.le_max_left _ _))) hn, q, runs_mono (callV_mono (exec_mono ft (Nat.le_max_right _ _))) _ _ _ _ _ hm, rfl⟩

theorem exec_at {n : Nat} {c : ACode} {e : Env} {H : Heap} {r : AExit × Env × Heap} (h : exec ft n c e H = some r) : exec ft (n + 1) c e H = some r := exec_mono1 ft n _ _ _ _ h

theorem execL_skip (e : Env) (H : Heap) : execL ft .skip e H = some (.normal, e, H) := execL_some.2 ⟨1, rfl⟩
theorem execL_exit (id : Nat) (e : Env) (H : Heap) : execL ft (.exit id) e H = some (.exit id, e, H) := execL_some.2 ⟨1, rfl⟩
theorem execL_ret (e : Env) (H : Heap) : execL ft .ret e H = some (.ret, e, H) := execL_some.2 ⟨1, rfl⟩
theorem execL_region (os : List AOper) (e : Env) (H : Heap) : execL ft (.region os false []) e H = (opers (callL ft) os e H).map fun (e, H) => (.normal, e, H) := by
  refine opt_ext fun r => ?_
  rw [execL_some]
  constructor
  · rintro ⟨n, h⟩
    have h := exec_at h
    simp only [exec, Bool.false_eq_true, if_false, Option.map_eq_some_iff] at h ⊢
    obtain ⟨p, hp, hr⟩ := h
    exact ⟨p, opers_mono (callV_mono (exec_L ft n)) _ _ _ _ hp, hr⟩
  · intro h
    simp only [Option.map_eq_some_iff] at h
    obtain ⟨p, hp, hr⟩ := h
    obtain ⟨n, hn⟩ := opers_L _ _ _ _ hp
    exact ⟨n + 1, by simp only [exec, Bool.false_eq_true, if_false, hn, Option.map_some]; exact congrArg some hr⟩
theorem execL_drawn (os : List AOper) (prs : List (Nat × Nat)) (e : Env) (H : Heap) : execL ft (.region os true prs) e H = (drawn (callL ft) (pureV ft) os prs e H).map fun (e, H) => (.normal, e, H) := by
  refine opt_ext fun r => ?_
  rw [execL_some]
  constructor
  · rintro ⟨n, h⟩
    have h := exec_at h
    simp only [exec, if_true, Option.map_eq_some_iff] at h ⊢
    obtain ⟨p, hp, hr⟩ := h
    exact ⟨p, drawn_mono (callV_mono (exec_L ft n)) hp, hr⟩
  · intro h
    simp only [Option.map_eq_some_iff] at h
    obtain ⟨p, hp, hr⟩ := h
    simp only [drawn, Option.bind_eq_some_iff] at hp
    obtain ⟨q, hq, hp⟩ := hp
    obtain ⟨n, hn⟩ := runs_L _ _ _ _ _ hq
    refine ⟨n + 1, ?_⟩
    simp only [exec, if_true, drawn, hn, Option.bind_some]
    rw [hp]
    exact congrArg some hr
theorem execL_seq (a b : ACode) (e : Env) (H : Heap) : execL ft (.seq a b) e H = (execL ft a e H).bind fun (x, e, H) => match x with
    | .normal => execL ft b e H
    | x => some (x, e, H) := by
  refine opt_ext fun r => ?_
  rw [execL_some]
  constructor
  · rintro ⟨n, h⟩
    have h := exec_at h
    simp only [exec, Option.bind_eq_some_iff] at h ⊢
    obtain ⟨⟨x, e1, H1⟩, hp, hr⟩ := h
    refine ⟨(x, e1, H1), exec_L ft n _ _ _ _ hp, ?_⟩
    cases x with
    | normal => exact exec_L ft n _ _ _ _ hr
    | exit id => exact hr
    | ret => exact hr
  · intro h
    simp only [Option.bind_eq_some_iff] at h
    obtain ⟨⟨x, e1, H1⟩, hp, hr⟩ := h
    obtain ⟨n, hn⟩ := execL_some.1 hp
    cases x with
    | normal =>
      obtain ⟨m, hm⟩ := execL_some.1 hr
      refine ⟨max n m + 1, ?_⟩
      simp only [exec, exec_mono ft (Nat.le_max_left n m) _ _ _ _ hn, Option.bind_some]
      exact exec_mono ft (Nat.le_max_right n m) _ _ _ _ hm
    | exit id => exact ⟨n + 1, by simp only [exec, hn, Option.bind_some]; exact hr⟩
    | ret => exact ⟨n + 1, by simp only [exec, hn, Option.bind_some]; exact hr⟩
theorem execL_cond (c : Operand) (a b : ACode) (e : Env) (H : Heap) : execL ft (.cond c a b) e H = (toB (ev e c)).bind fun t => if t then execL ft a e H else execL ft b e H := by
  refine opt_ext fun r => ?_
  rw [execL_some]
  constructor
  · rintro ⟨n, h⟩
    have h := exec_at h
    simp only [exec, Option.bind_eq_some_iff] at h ⊢
    obtain ⟨t, ht, hr⟩ := h
    refine ⟨t, ht, ?_⟩
    cases t with
    | true => exact exec_L ft n _ _ _ _ hr
    | false => exact exec_L ft n _ _ _ _ hr
  · intro h
    simp only [Option.bind_eq_some_iff] at h
    obtain ⟨t, ht, hr⟩ := h
    cases t with
    | true =>
      obtain ⟨m, hm⟩ := execL_some.1 hr
      exact ⟨m + 1, by simp only [exec, ht, Option.bind_some]; exact hm⟩
    | false =>
      obtain ⟨m, hm⟩ := execL_some.1 hr
      exact ⟨m + 1, by simp only [exec, ht, Option.bind_some]; exact hm⟩
theorem execL_block (id : Nat) (c : ACode) (e : Env) (H : Heap) : execL ft (.block id c) e H = (execL ft c e H).map fun (x, e, H) => (if x = .exit id then .normal else x, e, H) := by
  refine opt_ext fun r => ?_
  rw [execL_some]
  constructor
  · rintro ⟨n, h⟩
    have h := exec_at h
    simp only [exec, Option.map_eq_some_iff] at h ⊢
    obtain ⟨p, hp, hr⟩ := h
    exact ⟨p, exec_L ft n _ _ _ _ hp, hr⟩
  · intro h
    simp only [Option.map_eq_some_iff] at h
    obtain ⟨p, hp, hr⟩ := h
    obtain ⟨n, hn⟩ := execL_some.1 hp
    exact ⟨n + 1, by simp only [exec, hn, Option.map_some]; exact congrArg some hr⟩
theorem execL_loop (c : ACode) (e : Env) (H : Heap) : execL ft (.loop c) e H = (execL ft c e H).bind fun (x, e, H) => match x with
    | .normal => execL ft (.loop c) e H
    | x => some (x, e, H) := by
  refine opt_ext fun r => ?_
  rw [execL_some]
  constructor
  · rintro ⟨n, h⟩
    have h := exec_at h
    simp only [exec, Option.bind_eq_some_iff] at h ⊢
    obtain ⟨⟨x, e1, H1⟩, hp, hr⟩ := h
    refine ⟨(x, e1, H1), exec_L ft n _ _ _ _ hp, ?_⟩
    cases x with
    | normal => exact exec_L ft n _ _ _ _ hr
    | exit id => exact hr
    | ret => exact hr
  · intro h
    simp only [Option.bind_eq_some_iff] at h
    obtain ⟨⟨x, e1, H1⟩, hp, hr⟩ := h
    obtain ⟨n, hn⟩ := execL_some.1 hp
    cases x with
    | normal =>
      obtain ⟨m, hm⟩ := execL_some.1 hr
      refine ⟨max n m + 1, ?_⟩
      simp only [exec, exec_mono ft (Nat.le_max_left n m) _ _ _ _ hn, Option.bind_some]
      exact exec_mono ft (Nat.le_max_right n m) _ _ _ _ hm
    | exit id => exact ⟨n + 1, by simp only [exec, hn, Option.bind_some]; exact hr⟩
    | ret => exact ⟨n + 1, by simp only [exec, hn, Option.bind_some]; exact hr⟩
end
end Go.VI
