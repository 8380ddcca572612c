/- VI, part K: tests, numbers, literals. -/
import Derived.Test.YtkjeigdiojdfnaaVJ
import Derived.Laws.StructEq
import Derived.WalkSpells
set_option linter.unusedVariables false
set_option linter.unusedSimpArgs false
namespace Go.VI

section
variable {P : Program} {m : Mp} {F : Fz} {H : Heap} {w : World} {e : Env} {a : Act} {co : Oper} {nid : Nat} {al : Option Nat}

theorem toV_some {x : AV} {v u : Value} (h : toV x = some u) (hv : VR m F x v) : v = u := by
  unfold toV at h
  split at h
  · cases h
    exact (vr_sc hv).1
  · cases h

theorem run_guard {op : BinOp} {t : TypeId} {x y : Operand} {u v : Value} (h : u ≠ .nilIface) (h2 : ∀ cs, u ≠ .agg cs) (w : World) : (eqGuard op t x y u v).run P w = .ok () w := by
  cases op <;> cases u <;> first
    | rfl
    | exact absurd rfl h
    | exact absurd rfl (h2 _)

theorem sim_bin (hs : Sit m F H w e a) {op : BinOp} {t ty : TypeId} {x y : Operand} (ho : co.op = .binOp op t x y ty) {v : AV} (h : binA op t (ev e x) (ev e y) = some v) : OpOk P co a al m F w v H := by
  have hx := hs.ev x
  have hy := hs.ev y
  unfold binA at h
  split at h
  · cases h
  · rename_i u v' hnil e1 e2
    rw [e1] at hx
    rw [e2] at hy
    obtain ⟨ex, hx'⟩ := vr_sc hx
    obtain ⟨ey, hy'⟩ := vr_sc hy
    simp only [Option.bind_eq_some_iff] at h
    obtain ⟨r, hr, h⟩ := h
    obtain ⟨rfl, hsc⟩ := ofScalar_some h
    refine OpOk.still hs.inv ?_ (.fz (.sc hsc))
    have := run_guard (P := P) (op := op) (t := t) (x := x) (y := y) (u := u) (v := v') hnil (fun cs h0 => by subst h0; simp [isSc] at hx') w
    simp [execOp, ho, ex, ey, this, pureRun_some hr P w]
  · cases h

theorem sim_eqb (hs : Sit m F H w e a) {op : BinOp} {t ty : TypeId} {x y : Operand} (ho : co.op = .binOp op t x y ty) (hop : op = .eql ∨ op = .neq) (ht : P.underlying t = some .bool) {b c : Bool} (hb : toB (ev e x) = some b) (hc : toB (ev e y) = some c) :
    OpOk P co a al m F w (.sc (.bool ((b == c) != (isNeq op)))) H := by
  have ex := toB_some hb (hs.ev x)
  have ey := toB_some hc (hs.ev y)
  refine OpOk.still hs.inv ?_ (.fz (.sc rfl))
  rcases hop with rfl | rfl
  · simp [execOp, ho, ex, ey, eqGuard, run_eql_bool w t b c ht, isNeq]
  · simp [execOp, ho, ex, ey, eqGuard, run_neq_bool w t b c ht, isNeq]

theorem sim_un (hs : Sit m F H w e a) {op : UnOp} {t : TypeId} {x : Operand} (ho : co.op = .unOp op t x) {u r : Value} (hu : toV (ev e x) = some u) (hr : pureRun (Op.unary op u) = some r) {v : AV} (h : ofScalar r = some v) : OpOk P co a al m F w v H := by
  have ex := toV_some hu (hs.ev x)
  obtain ⟨rfl, hsc⟩ := ofScalar_some h
  refine OpOk.still hs.inv ?_ (.fz (.sc hsc))
  simp [execOp, ho, ex, pureRun_some hr P w]

theorem sim_conv (hs : Sit m F H w e a) {s d : TypeId} {x : Operand} (ho : co.op = .convert s d x) {k j : IntKind} (h1 : P.underlying s = some (.int j)) (h2 : P.underlying d = some (.int k)) {n : Int} (hn : toI (ev e x) = some n) : OpOk P co a al m F w (.sc (.int k (k.wrap n))) H := by
  obtain ⟨kk, ex⟩ := toI_some hn (hs.ev x)
  refine OpOk.still hs.inv ?_ (.fz (.sc rfl))
  simp [execOp, ho, ex, convert, run_under' h1, run_under' h2, Conv.intToInt]

def nilV : Nat → Value
  | 0 => .slice none 0 0
  | 1 => .pointer none
  | 2 => .map none
  | _ => .nilFunc
theorem isNilC_some {k : Nat} {x : Operand} (h : isNilC k x = true) : a.eval x = nilV k := by
  unfold isNilC at h
  split at h <;> simp_all [Act.eval, nilV]
/-- A value of the kind, nil or not. -/
def ofKind : Nat → Bool → Value → Prop
  | 0, b, v => ∃ ad n c, v = .slice ad n c ∧ b = ad.isNone
  | 1, b, v => ∃ ad, v = .pointer ad ∧ b = ad.isNone
  | 2, b, v => ∃ r, v = .map r ∧ b = r.isNone
  | 3, b, v => (b = true ∧ v = .nilFunc) ∨ (b = false ∧ ∃ f g c, v = .func f g c)
  | _, _, _ => False
theorem isnil_sound {k : Nat} {x : AV} {v : Value} (hv : VR m F x v) {b : Bool} (h : isnilA k x = some b) : ofKind k b v := by
  unfold isnilA at h
  split at h <;> first
    | (cases h; obtain ⟨rfl, _⟩ := vr_sc hv; simp [ofKind]; done)
    | (cases h; obtain ⟨vf, vc, rfl, _⟩ := vr_fn hv; exact .inr ⟨rfl, _, _, _, rfl⟩)
    | (cases h; obtain ⟨mb, hm, rfl⟩ := vr_ptr hv; exact ⟨_, rfl, rfl⟩)
    | (cases h; have hp := vr_pim hv; cases hp; exact ⟨_, rfl, rfl⟩)
    | (cases h; obtain ⟨mb, hm, rfl⟩ := vr_mp hv; exact ⟨_, rfl, rfl⟩)
    | (cases h; obtain ⟨mb, cap, hm, rfl, _⟩ := vr_sl hv; exact ⟨_, _, _, rfl, rfl⟩)
    | (cases h; have hp := vr_lst hv; cases hp with | lst cv hcap hA hr h1 hc hh => exact ⟨_, _, _, rfl, by rw [hA (by simp)]; rfl⟩)
    | cases h
theorem nilable_some {t : TypeId} {k : Nat} (h : nilable P t = some k) : (k = 0 ∧ ∃ e, P.underlying t = some (.slice e)) ∨ (k = 1 ∧ ∃ e, P.underlying t = some (.pointer e)) ∨ (k = 2 ∧ ∃ e f, P.underlying t = some (.map e f)) ∨
    (k = 3 ∧ ∃ x y z, P.underlying t = some (.func x y z)) := by
  unfold nilable at h
  split at h <;> cases h <;> simp_all
theorem run_nil_eq {t : TypeId} {k : Nat} (ht : nilable P t = some k) {b : Bool} {v : Value} (hv : ofKind k b v) (d : Nat) : (Op.equalIn (d + 1) t v (nilV k)).run P w = .ok b w ∧ (Op.equalIn (d + 1) t (nilV k) v).run P w = .ok b w := by
  rcases nilable_some ht with ⟨rfl, e, he⟩ | ⟨rfl, e, he⟩ | ⟨rfl, e, f, he⟩ | ⟨rfl, x, y, z, he⟩
  · obtain ⟨ad, n, c, rfl, rfl⟩ := hv
    cases ad <;> exact ⟨by simp [Op.equalIn, run_under' he, nilV], by simp [Op.equalIn, run_under' he, nilV]⟩
  · obtain ⟨ad, rfl, rfl⟩ := hv
    cases ad <;> exact ⟨by simp [Op.equalIn, run_under' he, nilV], by simp [Op.equalIn, run_under' he, nilV]⟩
  · obtain ⟨ad, rfl, rfl⟩ := hv
    cases ad <;> exact ⟨by simp [Op.equalIn, run_under' he, nilV], by simp [Op.equalIn, run_under' he, nilV]⟩
  · rcases hv with ⟨rfl, rfl⟩ | ⟨rfl, f, g, c, rfl⟩
    · exact ⟨by simp [Op.equalIn, run_under' he, nilV], by simp [Op.equalIn, run_under' he, nilV]⟩
    · exact ⟨by simp [Op.equalIn, run_under' he, nilV], by simp [Op.equalIn, run_under' he, nilV]⟩
theorem run_nil_bin {op : BinOp} (hop : op = .eql ∨ op = .neq) {t : TypeId} {k : Nat} (ht : nilable P t = some k) {b : Bool} {v : Value} (hv : ofKind k b v) :
    (binOp op t v (nilV k)).run P w = .ok (.bool (b != (isNeq op))) w ∧ (binOp op t (nilV k) v).run P w = .ok (.bool (b != (isNeq op))) w := by
  obtain ⟨h1, h2⟩ := run_nil_eq (w := w) ht hv 9999
  have hk : k = 0 ∨ k = 1 ∨ k = 2 ∨ k = 3 := by
    rcases nilable_some ht with ⟨rfl, _⟩ | ⟨rfl, _⟩ | ⟨rfl, _⟩ | ⟨rfl, _⟩ <;> simp
  have h3 : (Op.equal t v (nilV k)).run P w = .ok b w := h1
  have h4 : (Op.equal t (nilV k) v).run P w = .ok b w := h2
  have hb : (b != true) = !b := by cases b <;> rfl
  have hb2 : (b != false) = b := by cases b <;> rfl
  have gen : ∀ x y : Value, (∀ op : BinOp, op = .eql ∨ op = .neq → binOp op t x y = (match op with | .eql => (do pure (.bool (← Op.equal t x y))) | _ => (do pure (.bool (!(← Op.equal t x y))) : Sem Value))) →
      (Op.equal t x y).run P w = .ok b w → (binOp op t x y).run P w = .ok (.bool (b != (isNeq op))) w := by
    intro x y hxy he
    rw [hxy op hop]
    rcases hop with rfl | rfl
    · simp [he, isNeq]
    · simp [he, isNeq]
  rcases hk with rfl | rfl | rfl | rfl
  · obtain ⟨ad, n, c, rfl, _⟩ := hv
    exact ⟨gen _ _ (by rintro op (rfl | rfl) <;> rfl) h3, gen _ _ (by rintro op (rfl | rfl) <;> rfl) h4⟩
  · obtain ⟨ad, rfl, _⟩ := hv
    exact ⟨gen _ _ (by rintro op (rfl | rfl) <;> rfl) h3, gen _ _ (by rintro op (rfl | rfl) <;> rfl) h4⟩
  · obtain ⟨ad, rfl, _⟩ := hv
    exact ⟨gen _ _ (by rintro op (rfl | rfl) <;> rfl) h3, gen _ _ (by rintro op (rfl | rfl) <;> rfl) h4⟩
  · rcases hv with ⟨_, rfl⟩ | ⟨_, f, g, c, rfl⟩
    · exact ⟨gen _ _ (by rintro op (rfl | rfl) <;> rfl) h3, gen _ _ (by rintro op (rfl | rfl) <;> rfl) h4⟩
    · exact ⟨gen _ _ (by rintro op (rfl | rfl) <;> rfl) h3, gen _ _ (by rintro op (rfl | rfl) <;> rfl) h4⟩
theorem ofKind_plain {k : Nat} {b : Bool} {v : Value} (h : ofKind k b v) : v ≠ .nilIface ∧ ∀ cs, v ≠ .agg cs := by
  unfold ofKind at h
  split at h
  · obtain ⟨_, _, _, rfl, _⟩ := h; simp
  · obtain ⟨_, rfl, _⟩ := h; simp
  · obtain ⟨_, rfl, _⟩ := h; simp
  · rcases h with ⟨_, rfl⟩ | ⟨_, _, _, _, rfl⟩ <;> simp
  · cases h
theorem nilV_plain (k : Nat) : nilV k ≠ .nilIface ∧ ∀ cs, nilV k ≠ .agg cs := by
  unfold nilV
  split <;> simp

theorem sim_isnil (hs : Sit m F H w e a) {op : BinOp} {t ty : TypeId} {x y z : Operand} (ho : co.op = .binOp op t x y ty) (hop : op = .eql ∨ op = .neq) {k : Nat} (ht : nilable P t = some k) (hz : (z = x ∧ isNilC k y = true) ∨ (z = y ∧ isNilC k x = true)) {b : Bool}
    (hb : isnilA k (ev e z) = some b) : OpOk P co a al m F w (.sc (.bool (b != (isNeq op)))) H := by
  have hk := isnil_sound (hs.ev z) hb
  refine OpOk.still hs.inv ?_ (.fz (.sc rfl))
  rcases hz with ⟨rfl, hn⟩ | ⟨rfl, hn⟩
  · have := run_guard (P := P) (op := op) (t := t) (x := z) (y := y) (u := a.eval z) (v := nilV k) (ofKind_plain hk).1 (ofKind_plain hk).2 w
    simp only [execOp, ho, isNilC_some (a := a) hn, Sem.run_bind, this, Result.andThen_ok, (run_nil_bin (w := w) hop ht hk).1, Sem.run_pure]
  · have := run_guard (P := P) (op := op) (t := t) (x := x) (y := z) (u := nilV k) (v := a.eval z) (nilV_plain k).1 (nilV_plain k).2 w
    simp only [execOp, ho, isNilC_some (a := a) hn, Sem.run_bind, this, Result.andThen_ok, (run_nil_bin (w := w) hop ht hk).2, Sem.run_pure]

theorem sim_mx (hs : Sit m F H w e a) {c : Call} {x y : Operand} (ho : co.op = .call c) (hc : c.callee = .builtin .max) (ha : c.args = #[x, y]) {k k' : IntKind} {p q : Int} (hx : ev e x = .sc (.int k p)) (hy : ev e y = .sc (.int k' q)) :
    OpOk P co a al m F w (.sc (.int k (if q > p then q else p))) H := by
  have ex := (vr_sc (hx ▸ hs.ev x)).1
  have ey := (vr_sc (hy ▸ hs.ev y)).1
  refine OpOk.still hs.inv ?_ (.fz (.sc rfl))
  simp [execOp, ho, resolve, hc, ha, invoke, builtin, ex, ey, Builtin.max_, Builtin.max2]
theorem sim_mn (hs : Sit m F H w e a) {c : Call} {x y : Operand} (ho : co.op = .call c) (hc : c.callee = .builtin .min) (ha : c.args = #[x, y]) {k k' : IntKind} {p q : Int} (hx : ev e x = .sc (.int k p)) (hy : ev e y = .sc (.int k' q)) :
    OpOk P co a al m F w (.sc (.int k (if q < p then q else p))) H := by
  have ex := (vr_sc (hx ▸ hs.ev x)).1
  have ey := (vr_sc (hy ▸ hs.ev y)).1
  refine OpOk.still hs.inv ?_ (.fz (.sc rfl))
  simp [execOp, ho, resolve, hc, ha, invoke, builtin, ex, ey, Builtin.min_, Builtin.min2]
end
end Go.VI
