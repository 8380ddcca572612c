/- VI, part T: copy; equal structs; every operation. -/
import Derived.Test.YtkjeigdiojdfnaaVS
set_option linter.unusedVariables false
set_option linter.unusedSimpArgs false
namespace Go.VI

section
variable {P : Program} {m : Mp} {F : Fz} {H : Heap} {w : World} {e : Env} {a : Act} {co : Oper} {nid : Nat} {al : Option Nat}

theorem sim_copy (hs : Sit m F H w e a) {c : Call} {d x : Operand} {t u : TypeId} (ho : co.op = .call c) (hc : c.callee = .builtin .copy) (ha : c.args = #[d, x]) (ht : c.argTypes = #[t, u]) {el : TypeId} (hel : elemA P t = some el)
    {i : Nat × Nat × List AV} (hi : infoA P el = some i) {v : AV} {H' : Heap} (h : opS nid e H (.copy i.1 d x) = some (v, H')) : OpOk P co a al m F w v H' := by
  obtain ⟨ti, z, i1, i2, rfl, i3, i4, hpos, hby⟩ := infoA_some hi
  simp only [opS, Option.bind_eq_some_iff] at h
  obtain ⟨xs, hxs, h⟩ := h
  simp only [Option.map_eq_some_iff] at h
  obtain ⟨⟨n, H1⟩, h, h'⟩ := h
  cases h'
  obtain ⟨A, cap, hxe, hrows⟩ := rowsOf_sound hs.inv (hs.ev x) hxs
  unfold copyA at h
  split at h
  · rename_i id off len hd
    split at h
    rotate_left
    · cases h
    rename_i sz rs hg
    split at h
    rotate_left
    · cases h
    rename_i hh
    obtain ⟨rfl, hle, hall⟩ := hh
    cases h
    obtain ⟨us, hul, hucell, huone, hur, hua⟩ := hrows ti.size hall
    obtain ⟨mb, dcap, hm, hde, hcap, hlen⟩ := vr_sl (hd ▸ hs.ev d)
    obtain ⟨vs, hcb, hsz, hcn, hfit, hrl, hrc, hF, _⟩ := hs.inv.blk id mb _ hm hg
    have hnl : min xs.length len * ti.size ≤ us.length := by rw [hul]; exact Nat.mul_le_mul_right _ (Nat.min_le_left _ _)
    have htake : (us.take (min xs.length len * ti.size)).length = min xs.length len * ti.size := by simp; omega
    have hf := run_first (P := P) (w := w) (len := xs.length) (cap := cap) (A := A) htake (fun j u hj => hucell j u (by
      rw [List.getElem?_take] at hj
      split at hj
      · exact hj
      · cases hj))
    have hlen2 : off + min xs.length len ≤ rs.length := by omega
    have hmul : (off + min xs.length len) * ti.size ≤ mb.cn * ti.size := Nat.mul_le_mul_right _ (by omega)
    rw [Nat.add_mul] at hmul
    obtain ⟨w', vs', hst, hw⟩ := run_stores P mb.cb (mb.base + off * mb.sz) (us.take (min xs.length len * ti.size)) 0 w vs hcb (by rw [hsz, htake]; omega) (fun u hu => huone u (List.mem_of_mem_take hu))
    simp only [Nat.add_zero] at hw
    have hxl : (xs.take (min xs.length len)).length = min xs.length len := by rw [List.length_take]; omega
    have key : BlkR m F w' mb (.row false ti.size (splice rs off (xs.take (min xs.length len)))) := by
      refine ⟨vs', hw.cb, hsz, by rw [length_splice (by omega)]; exact hcn, by rw [hw.size]; exact hfit, fun k r hr => ?_, fun k r j c hr hj => ?_, fun _ o => hF rfl o, by simp⟩
      · rw [getElem?_splice (by omega)] at hr
        split at hr
        · rw [List.getElem?_take] at hr
          split at hr
          · exact hur.len _ r hr
          · cases hr
        · exact hrl k r hr
      · rw [getElem?_splice (by omega)] at hr
        split at hr
        · rename_i hk
          rw [List.getElem?_take] at hr
          split at hr
          rotate_left
          · cases hr
          rename_i hk2
          obtain ⟨b1, b2⟩ := hur.cell _ r j c hr hj
          refine ⟨b1, ?_⟩
          have hjl := (List.getElem?_eq_some_iff.1 hj).1
          rw [hur.len _ r hr] at hjl
          have hlt : (k - off) * ti.size + j < min xs.length len * ti.size := ij_lt hk2 hjl
          have := hw.at_ ((k - off) * ti.size + j) (by rw [htake]; exact hlt)
          have he : (k - off) * ti.size + off * ti.size = k * ti.size := by rw [← Nat.add_mul, Nat.sub_add_cancel hk.1]
          rw [hsz, show mb.base + off * ti.size + ((k - off) * ti.size + j) = mb.base + k * ti.size + j by omega] at this
          rw [this]
          have h2 : (us.take (min xs.length len * ti.size)).getD ((k - off) * ti.size + j) undef = us.toArray.getD ((k - off) * ti.size + j) undef := by
            simp only [List.getD_eq_getElem?_getD, Array.getD_eq_getD_getElem?, List.getElem?_toArray]
            rw [List.getElem?_take_of_lt hlt]
          rw [h2]
          exact b2
        · rename_i hk
          obtain ⟨b1, b2⟩ := hrc k r j c hr hj
          have hjl := (List.getElem?_eq_some_iff.1 hj).1
          rw [hrl k r hr] at hjl
          rw [hw.ne _ ?_]
          · exact ⟨b1, b2⟩
          · rw [hsz, htake]
            rcases Nat.lt_or_ge k off with h5 | h5
            · left
              have := ij_lt h5 hjl
              omega
            · right
              have h6 : (off + min xs.length len) * ti.size ≤ k * ti.size := Nat.mul_le_mul_right _ (by omega)
              rw [Nat.add_mul] at h6
              omega
    obtain ⟨b1, b2⟩ := hs.inv.write hm (live_of hg (by simp)) hw (hF rfl) _ key
    refine ⟨_, .int .i64 (min xs.length len : Nat), m, F, w', ?_, .inl rfl, .fz (.sc rfl), b1, b2, Dom.refl al m⟩
    have hf' : (Builtin.firstCells ti.size (min xs.length len) (.slice A xs.length cap)).run P w = .ok (us.take (min xs.length len * ti.size)).toArray w := hf
    have hnat : Nat.min xs.length len = min xs.length len := rfl
    simp only [execOp, ho, resolve, hc, ha, ht, invoke, builtin, Sem.run_bind, Sem.run_pure, Result.andThen_ok, Builtin.copy_, List.getElem?_toArray, List.getElem?_cons_zero, List.getElem?_cons_succ, List.map_toArray, List.map_cons, List.map_nil,
      run_under' (elemA_some hel), hde, hxe, Builtin.lenOf, hnat, run_sizeOf' i1, hf', hst, goInt]
  · split at h
    rotate_left
    · cases h
    rename_i hl0
    cases h
    have hde : ∃ B c0, a.eval d = .slice B 0 c0 := by
      have hd := hs.ev d
      unfold lenOfA at hl0
      split at hl0
      · rename_i hxx
        rw [hxx] at hd
        exact ⟨none, 0, (vr_sc hd).1⟩
      · rename_i rows hxx
        rw [hxx] at hd
        have hp := vr_lst hd
        generalize a.eval d = q at hp
        cases hp
        simp at hl0
        exact ⟨_, _, by rw [hl0]; rfl⟩
      · rename_i id off len hxx
        rw [hxx] at hd
        obtain ⟨mb, c0, _, h, _⟩ := vr_sl hd
        simp at hl0
        subst hl0
        exact ⟨_, _, h⟩
      · cases ‹(0 : Nat) = 1›
      · cases hl0
    obtain ⟨B, c0, hde⟩ := hde
    refine OpOk.still (u := .int .i64 (0 : Nat)) hs.inv ?_ (.fz (.sc rfl))
    have hnat : Nat.min xs.length 0 = 0 := Nat.min_eq_right (Nat.zero_le _)
    have hf : (Builtin.firstCells ti.size 0 (.slice A xs.length cap)).run P w = .ok #[] w := by
      cases A with
      | none => rfl
      | some ad => simp [Builtin.firstCells, loadCells, loadCellsFrom]
    simp only [execOp, ho, resolve, hc, ha, ht, invoke, builtin, Sem.run_bind, Sem.run_pure, Result.andThen_ok, Builtin.copy_, List.getElem?_toArray, List.getElem?_cons_zero, List.getElem?_cons_succ, List.map_toArray, List.map_cons, List.map_nil,
      run_under' (elemA_some hel), hde, hxe, Builtin.lenOf, hnat, run_sizeOf' i1, hf, goInt]
    cases B with
    | none => rfl
    | some b => rfl

theorem kindS_some {t : TypeId} {k : Nat} (h : kindS P t = some k) : (k = 0 ∧ ∃ j, P.underlying t = some (.int j)) ∨ (k = 1 ∧ P.underlying t = some .bool) ∨ (k = 2 ∧ P.underlying t = some .string) := by
  unfold kindS at h
  split at h <;> cases h <;> simp_all

theorem scEq_sound {t : TypeId} {k : Nat} (hk : kindS P t = some k) {x y : AV} {u v : Value} (hx : VR m F x u) (hy : VR m F y v) {r : Bool} (h : scEq k x y = some r) (d : Nat) : (Op.equalIn (d + 1) t u v).run P w = .ok r w ∧ u.oneCell' = true ∧ v.oneCell' = true := by
  unfold scEq at h
  split at h
  · split at h
    · rename_i hjk
      subst hjk
      cases h
      obtain ⟨rfl, _⟩ := vr_sc hx
      obtain ⟨rfl, _⟩ := vr_sc hy
      rcases kindS_some hk with ⟨_, j, hu⟩ | ⟨h, _⟩ | ⟨h, _⟩
      · exact ⟨run_equalIn_int w d t _ j _ _ hu, rfl, rfl⟩
      · cases h
      · cases h
    · cases h
  · cases h
    obtain ⟨rfl, _⟩ := vr_sc hx
    obtain ⟨rfl, _⟩ := vr_sc hy
    rcases kindS_some hk with ⟨h, _⟩ | ⟨_, hu⟩ | ⟨h, _⟩
    · cases h
    · exact ⟨run_equalIn_bool' w d t _ _ hu, rfl, rfl⟩
    · cases h
  · cases h
    obtain ⟨rfl, _⟩ := vr_sc hx
    obtain ⟨rfl, _⟩ := vr_sc hy
    rcases kindS_some hk with ⟨h, _⟩ | ⟨h, _⟩ | ⟨_, hu⟩
    · cases h
    · cases h
    · exact ⟨run_equalIn_string w d t _ _ hu, rfl, rfl⟩
  · cases h

theorem kindS_agg {t : TypeId} {k : Nat} (hk : kindS P t = some k) : (isAgg t).run P w = .ok false w := by
  rcases kindS_some hk with ⟨_, j, hu⟩ | ⟨_, hu⟩ | ⟨_, hu⟩ <;> simp [isAgg, run_under' hu]

theorem eqsA_sound (d : Nat) (xs ys : Array Value) : ∀ (fs : List Field) (ks : List Nat) (i : Nat) (as bs : List AV) (r : Bool), kindsF P i fs = some ks → eqsA ks as bs = some r → xs.size = i + as.length → ys.size = i + bs.length →
    (∀ (j : Nat) (c : AV), as[j]? = some c → VR m F c (xs.getD (i + j) undef)) → (∀ (j : Nat) (c : AV), bs[j]? = some c → VR m F c (ys.getD (i + j) undef)) →
    (Op.eqFields (d + 1) xs ys fs).run P w = .ok r w
  | [], ks, i, as, bs, r, hk, h, hx, hy, ha, hb => by
    simp [kindsF] at hk
    subst hk
    unfold eqsA at h
    split at h
    · cases h; rfl
    · cases ‹([] : List Nat) = _ :: _›
    · cases h
  | f :: fs, ks, i, as, bs, r, hk, h, hx, hy, ha, hb => by
    simp only [kindsF] at hk
    split at hk
    rotate_left
    · cases hk
    rename_i hh
    obtain ⟨hn, ho⟩ := hh
    simp only [Option.bind_eq_some_iff, Option.map_eq_some_iff] at hk
    obtain ⟨k, hk1, ks', hk2, rfl⟩ := hk
    unfold eqsA at h
    split at h
    · cases ‹_ :: _ = []›
    · rename_i k' ks2 x as' y bs' heq
      cases heq
      simp only [Option.bind_eq_some_iff] at h
      obtain ⟨b, hb0, h⟩ := h
      have hx0 := ha 0 x rfl
      have hy0 := hb 0 y rfl
      obtain ⟨he, ox, oy⟩ := scEq_sound (w := w) hk1 hx0 hy0 hb0 d
      simp only [List.length_cons] at hx hy
      have hxi : xs[i]? = some (xs.getD i undef) := by
        have h9 : i < xs.size := by omega
        simp [h9]
      have hyi : ys[i]? = some (ys.getD i undef) := by
        have h9 : i < ys.size := by omega
        simp [h9]
      have hpx : (part f.type xs f.offset).run P w = .ok (xs.getD i undef) w := by
        simp only [part, Sem.run_bind, kindS_agg hk1, Result.andThen_ok, ho, hxi]
        rfl
      have hpy : (part f.type ys f.offset).run P w = .ok (ys.getD i undef) w := by
        simp only [part, Sem.run_bind, kindS_agg hk1, Result.andThen_ok, ho, hyi]
        rfl
      have hne : f.name ≠ "_" := by simpa using hn
      simp only [Op.eqFields, hne, ne_eq, not_false_eq_true, if_true, Sem.run_bind, hpx, hpy, Result.andThen_ok]
      simp only [Nat.add_zero] at he
      rw [he]
      cases b with
      | true =>
        simp only [if_true] at h
        simp only [Result.andThen_ok, Bool.not_true, Bool.false_eq_true, if_false]
        exact eqsA_sound d xs ys fs ks' (i + 1) as' bs' r hk2 h (by omega) (by omega) (fun j c hj => by
          have := ha (j + 1) c (by simpa using hj)
          rw [show i + 1 + j = i + (j + 1) by omega]
          exact this) (fun j c hj => by
          have := hb (j + 1) c (by simpa using hj)
          rw [show i + 1 + j = i + (j + 1) by omega]
          exact this)
      | false =>
        simp only [Bool.false_eq_true, if_false] at h
        split at h
        · cases h
          rfl
        · cases h
    · cases h

theorem sim_eqs (hs : Sit m F H w e a) {op : BinOp} {t ty : TypeId} {x y : Operand} (ho : co.op = .binOp op t x y ty) (hop : op = .eql ∨ op = .neq) {ks : List Nat} (hf : flatS P t = some ks) {as bs : List AV} (hx : ev e x = .agg as) (hy : ev e y = .agg bs) {r : Bool} (h : eqsA ks as bs = some r) :
    OpOk P co a al m F w (.sc (.bool (r != isNeq op))) H := by
  obtain ⟨us, ex, ul, _, hu⟩ := vr_agg (hx ▸ hs.ev x)
  obtain ⟨vs, ey, vl, _, hv⟩ := vr_agg (hy ▸ hs.ev y)
  unfold flatS at hf
  split at hf
  rotate_left
  · cases hf
  rename_i fs hun
  split at hf
  · cases hf
  rename_i hst
  have hfo : P.fieldsOf t = fs := by simp [Program.fieldsOf, hun]
  have hst' : P.stoodInHeld t = false := by simpa using hst
  have heq : (Op.equal t (.agg us) (.agg vs)).run P w = .ok r w := by
    have := run_equalIn_struct (P := P) w 9999 t us vs (by rw [hfo]; exact hun) hst'
    show (Op.equalIn (9999 + 1) t (.agg us) (.agg vs)).run P w = _
    rw [this, hfo]
    exact eqsA_sound (m := m) (F := F) 9998 us vs fs.toList ks 0 as bs r hf h (by simpa using ul) (by simpa using vl) (fun j c hj => by simpa using hu j c hj) (fun j c hj => by simpa using hv j c hj)
  have hgt : P.eqGuardType P.depth t = false := by
    have hfs : ∀ (d i : Nat) (fs : List Field) (ks : List Nat), kindsF P i fs = some ks → ∀ f ∈ fs, P.eqGuardType (d + 1) f.type = false := by
      intro d i fs
      induction fs generalizing i with
      | nil => intro ks _ f hf; cases hf
      | cons g fs ih =>
        intro ks hk f hf
        simp only [kindsF] at hk
        split at hk
        rotate_left
        · cases hk
        simp only [Option.bind_eq_some_iff, Option.map_eq_some_iff] at hk
        obtain ⟨k, hk1, ks', hk2, rfl⟩ := hk
        cases hf with
        | head => rcases kindS_some hk1 with ⟨_, j, hu⟩ | ⟨_, hu⟩ | ⟨_, hu⟩ <;> simp [Program.eqGuardType, hu]
        | tail _ hf => exact ih (i + 1) ks' hk2 f hf
    show P.eqGuardType (2 * (P.types.size + Made.depth) + 1 + 1) t = false
    unfold Program.eqGuardType
    simp only [hun]
    rw [Array.any_eq_false]
    intro i hi
    have := hfs (2 * (P.types.size + Made.depth)) 0 fs.toList ks hf fs[i] (by simp)
    simp [this]
  have hguard : (eqGuard op t x y (.agg us) (.agg vs)).run P w = .ok () w := by
    rcases hop with rfl | rfl <;> simp [eqGuard, hgt]
  refine OpOk.still hs.inv ?_ (.fz (.sc rfl))
  rcases hop with rfl | rfl
  · simp only [execOp, ho, Sem.run_bind, ex, ey, hguard, Result.andThen_ok, binOp, heq, Sem.run_pure]
    cases r <;> rfl
  · simp only [execOp, ho, Sem.run_bind, ex, ey, hguard, Result.andThen_ok, binOp, heq, Sem.run_pure]
    cases r <;> rfl

theorem isBoolT_some {t : TypeId} (h : isBoolT P t = true) : P.underlying t = some .bool := by
  unfold isBoolT at h
  split at h
  · assumption
  · cases h
theorem isU8_some {t : TypeId} (h : isU8 P t = true) : P.underlying t = some (.int .u8) := by
  unfold isU8 at h
  split at h
  · assumption
  · cases h
theorem scalarT_some {t : TypeId} (h : scalarT P t = true) : True := trivial

def alOf (nid : Nat) (ao : AOp) : Option Nat := match allocA ao with
  | true => some nid
  | false => none
theorem opS_sound (hs : Sit m F H w e a) {ao : AOp} (hfr : allocA ao = true → Free m H nid) (hc : compOp P co.type co.op = some ao) (hnc : ∀ f args, ao ≠ .call f args) {v : AV} {H' : Heap} (h : opS nid e H ao = some (v, H')) : OpOk P co a (alOf nid ao) m F w v H' := by
  generalize hop : co.op = op at hc
  cases op with
  | move x =>
    simp only [compOp, Option.some.injEq] at hc; subst hc
    simp only [opS, Option.some.injEq, Prod.mk.injEq] at h
    obtain ⟨rfl, rfl⟩ := h
    exact sim_mov hs (.inl hop)
  | assign x =>
    simp only [compOp, Option.some.injEq] at hc; subst hc
    simp only [opS, Option.some.injEq, Prod.mk.injEq] at h
    obtain ⟨rfl, rfl⟩ := h
    exact sim_mov hs (.inr hop)
  | pick c x y =>
    simp only [compOp, Option.some.injEq] at hc; subst hc
    simp only [opS, Option.map_eq_some_iff, Prod.mk.injEq] at h
    obtain ⟨t, ht, rfl, rfl⟩ := h
    exact sim_pick hs hop ht
  | alloc t =>
    simp only [compOp, Option.map_eq_some_iff] at hc
    obtain ⟨i, hi, rfl⟩ := hc
    simp only [opS, Option.some.injEq, Prod.mk.injEq] at h
    obtain ⟨rfl, rfl⟩ := h
    exact sim_alloc (hfr rfl) hs hop hi
  | box t x =>
    simp only [compOp, Option.map_eq_some_iff] at hc
    obtain ⟨i, hi, rfl⟩ := hc
    simp only [opS] at h
    split at h
    · rename_i hh
      simp only [Option.some.injEq, Prod.mk.injEq] at h
      obtain ⟨rfl, rfl⟩ := h
      exact sim_box (hfr rfl) hs hop hh.2
    · cases h
  | build t parts => exact sim_build hs hop hc h
  | buildSlice t len parts =>
    simp only [compOp, Option.bind_eq_some_iff] at hc
    obtain ⟨el, hel, i, hi, hc⟩ := hc
    split at hc
    · rename_i hl
      cases hc
      exact sim_bslice (hfr rfl) hs hop hel hi hl h
    · cases hc
  | load t x =>
    simp only [compOp, Option.bind_eq_some_iff, Option.map_eq_some_iff] at hc
    obtain ⟨g, hg, i, hi, rfl⟩ := hc
    simp only [opS, Option.bind_eq_some_iff, Option.map_eq_some_iff, Prod.mk.injEq] at h
    obtain ⟨cs, hcs, r, hr, rfl, rfl⟩ := h
    exact sim_load hs hop hg hi hcs hr
  | store t p x =>
    simp only [compOp, Option.map_eq_some_iff] at hc
    obtain ⟨i, hi, rfl⟩ := hc
    simp only [opS, Option.map_eq_some_iff, Prod.mk.injEq] at h
    obtain ⟨H1, h1, rfl, rfl⟩ := h
    exact sim_store hs hop hi h1
  | nilCheck x =>
    simp only [compOp, Option.some.injEq] at hc; subst hc
    exact sim_nilck hs hop h
  | binOp bop t x y ty =>
    have gen : ∀ bop', bop = bop' → some (AOp.bin bop' t x y) = some ao → OpOk P co a (alOf nid ao) m F w v H' := by
      rintro bop' rfl hc
      simp only [Option.some.injEq] at hc; subst hc
      simp only [opS, Option.map_eq_some_iff, Prod.mk.injEq] at h
      obtain ⟨r, hr, rfl, rfl⟩ := h
      exact sim_bin hs hop hr
    have eqs : (bop = .eql ∨ bop = .neq) → (if isBoolT P t then some (AOp.eqb (isNeq bop) x y) else if scalarT P t then some (.bin bop t x y) else match nilable P t with
        | some kd => if isNilC kd y then some (.isnil (isNeq bop) kd x) else if isNilC kd x then some (.isnil (isNeq bop) kd y) else none
        | none => (flatS P t).map fun ks => .eqs (isNeq bop) ks x y) = some ao → OpOk P co a (alOf nid ao) m F w v H' := by
      intro hbop hc
      split at hc
      · rename_i hb
        cases hc
        simp only [opS, Option.bind_eq_some_iff, Option.map_eq_some_iff, Prod.mk.injEq] at h
        obtain ⟨b, h1, c, h2, rfl, rfl⟩ := h
        exact sim_eqb hs hop hbop (isBoolT_some hb) h1 h2
      · split at hc
        · exact gen bop rfl hc
        · split at hc
          · rename_i kd hkd
            split at hc
            · rename_i hn
              cases hc
              simp only [opS, Option.map_eq_some_iff, Prod.mk.injEq] at h
              obtain ⟨b, hb, rfl, rfl⟩ := h
              exact sim_isnil hs hop hbop hkd (.inl ⟨rfl, hn⟩) hb
            · split at hc
              · rename_i hn
                cases hc
                simp only [opS, Option.map_eq_some_iff, Prod.mk.injEq] at h
                obtain ⟨b, hb, rfl, rfl⟩ := h
                exact sim_isnil hs hop hbop hkd (.inr ⟨rfl, hn⟩) hb
              · cases hc
          · simp only [Option.map_eq_some_iff] at hc
            obtain ⟨ks, hks, rfl⟩ := hc
            simp only [opS] at h
            split at h
            · rename_i as bs hx hy
              simp only [Option.map_eq_some_iff, Prod.mk.injEq] at h
              obtain ⟨r, hr, rfl, rfl⟩ := h
              exact sim_eqs hs hop hbop hks hx hy hr
            · cases h
    cases bop with
    | eql => exact eqs (.inl rfl) hc
    | neq => exact eqs (.inr rfl) hc
    | _ => exact gen _ rfl hc
  | unOp uop t x =>
    simp only [compOp, Option.some.injEq] at hc; subst hc
    simp only [opS, Option.bind_eq_some_iff, Option.map_eq_some_iff, Prod.mk.injEq] at h
    obtain ⟨u, hu, r, hr, q, hq, rfl, rfl⟩ := h
    exact sim_un hs hop hu hr hq
  | convert s d x =>
    simp only [compOp] at hc
    split at hc
    · rename_i j k h1 h2
      cases hc
      simp only [opS, Option.map_eq_some_iff, Prod.mk.injEq] at h
      obtain ⟨n, hn, rfl, rfl⟩ := h
      exact sim_conv hs hop h1 h2 hn
    · rename_i el2 el h1 h2
      split at hc
      · rename_i hh
        cases hc
        exact sim_stringish hs hop h1 h2 hh.1 (isU8_some hh.2) h
      · cases hc
    · rename_i el h1 h2
      split at hc
      · rename_i hh
        cases hc
        simp only [opS, Option.bind_eq_some_iff, Option.map_eq_some_iff, Prod.mk.injEq] at h
        obtain ⟨rs, hr, l, hl, rfl, rfl⟩ := h
        exact sim_tostr hs hop h1 h2 (isU8_some hh) hr hl
      · cases hc
    · cases hc
  | makeFunc f first caps =>
    simp only [compOp, Option.some.injEq] at hc; subst hc
    simp only [opS, Option.some.injEq, Prod.mk.injEq] at h
    obtain ⟨rfl, rfl⟩ := h
    exact sim_mkfn hs hop
  | makeSlice t l c =>
    simp only [compOp, Option.bind_eq_some_iff, Option.map_eq_some_iff] at hc
    obtain ⟨el, hel, i, hi, rfl⟩ := hc
    exact sim_mkslice (hfr rfl) hs hop hel hi h
  | slice t x lo hi mx =>
    simp only [compOp] at hc
    split at hc
    · rename_i el hu
      split at hc
      · cases hc
      · rename_i hmx
        simp only [Option.map_eq_some_iff] at hc
        obtain ⟨i, hi', rfl⟩ := hc
        refine sim_slice hs hop hu hi' (fun hm => ?_) h
        cases hi with
        | none => exact absurd (by simp [hm]) hmx
        | some q => rfl
    · rename_i hu
      split at hc
      · rename_i hmx
        cases hc
        cases mx with
        | none => exact sim_slstr hs hop hu h
        | some q => simp at hmx
      · cases hc
    · cases hc
  | fieldAddr t x i =>
    simp only [compOp, Option.bind_eq_some_iff, Option.map_eq_some_iff] at hc
    obtain ⟨fs, hfs, f, hf, j, hj, rfl⟩ := hc
    exact sim_faddr hs hop hfs hf hj h
  | field t x i =>
    simp only [compOp, Option.bind_eq_some_iff, Option.map_eq_some_iff] at hc
    obtain ⟨fs, hfs, f, hf, g, hg, j, hj, rfl⟩ := hc
    simp only [opS] at h
    split at h
    · rename_i cs hx
      split at h
      · rename_i hle
        simp only [Option.map_eq_some_iff, Prod.mk.injEq] at h
        obtain ⟨r, hr, rfl, rfl⟩ := h
        exact sim_field hs hop hfs hf hg hj hx hle hr
      · cases h
    · cases h
  | indexAddr t x ix =>
    simp only [compOp] at hc
    split at hc
    · rename_i el hu
      simp only [Option.map_eq_some_iff] at hc
      obtain ⟨i, hi, rfl⟩ := hc
      simp only [opS, Option.bind_eq_some_iff, Option.map_eq_some_iff, Prod.mk.injEq] at h
      obtain ⟨k, hk, r, hr, rfl, rfl⟩ := h
      exact sim_iaddr (arr := none) hs hop hu hi hk hr
    · rename_i n el hu
      simp only [Option.map_eq_some_iff] at hc
      obtain ⟨i, hi, rfl⟩ := hc
      simp only [opS, Option.bind_eq_some_iff, Option.map_eq_some_iff, Prod.mk.injEq] at h
      obtain ⟨k, hk, r, hr, rfl, rfl⟩ := h
      exact sim_iaddr (arr := some n) hs hop hu hi hk hr
    · cases hc
  | index t x ix =>
    simp only [compOp] at hc
    split at hc
    · rename_i n el hu
      simp only [Option.bind_eq_some_iff, Option.map_eq_some_iff] at hc
      obtain ⟨g, hg, i, hi, rfl⟩ := hc
      simp only [opS, Option.bind_eq_some_iff] at h
      obtain ⟨k, hk, h⟩ := h
      split at h
      · rename_i cs hx
        split at h
        · rename_i hb
          simp only [Option.map_eq_some_iff, Prod.mk.injEq] at h
          obtain ⟨r, hr, rfl, rfl⟩ := h
          exact sim_index hs hop hu hg hi hk hx hb hr
        · cases h
      · cases h
    · cases hc
  | extract x i =>
    simp only [compOp, Option.some.injEq] at hc; subst hc
    simp only [opS] at h
    split at h
    · rename_i vs hx
      simp only [Option.map_eq_some_iff, Prod.mk.injEq] at h
      obtain ⟨r, hr, rfl, rfl⟩ := h
      exact sim_ext hs hop hx hr
    · cases h
  | makeMap t r =>
    cases r with
    | none =>
      simp only [compOp, Option.map_eq_some_iff] at hc
      obtain ⟨kd, hkd, rfl⟩ := hc
      simp only [opS, Option.some.injEq, Prod.mk.injEq] at h
      obtain ⟨rfl, rfl⟩ := h
      exact sim_mkmap (hfr rfl) hs hop kd.1
    | some r => simp [compOp] at hc
  | lookup t mo ko ok =>
    simp only [compOp, Option.bind_eq_some_iff] at hc
    obtain ⟨kd, hkd, g, hg, hc⟩ := hc
    split at hc
    · cases hc
    · simp only [Option.bind_eq_some_iff] at hc
      obtain ⟨ti, hti, z, hz, hc⟩ := hc
      split at hc
      · rename_i hsc
        cases hc
        exact sim_look hs hop hkd (run_zero' hti hz w) hsc h
      · cases hc
  | mapUpdate t mo ko vo =>
    simp only [compOp, Option.map_eq_some_iff] at hc
    obtain ⟨kd, hkd, rfl⟩ := hc
    exact sim_mput hs (.inl hop) hkd h
  | insert t mo ko vo =>
    simp only [compOp, Option.map_eq_some_iff] at hc
    obtain ⟨kd, hkd, rfl⟩ := hc
    exact sim_mput hs (.inr hop) hkd h
  | call c =>
    simp only [compOp] at hc
    split at hc
    · cases hc
      exact absurd rfl (hnc _ _)
    · cases hc
    · rename_i b hcal
      have hargs : ∀ {xs : List Operand}, c.args.toList = xs → c.args = xs.toArray := fun h => by rw [← h]
      have htys : ∀ {xs : List TypeId}, c.argTypes.toList = xs → c.argTypes = xs.toArray := fun h => by rw [← h]
      split at hc
      · rename_i x t ha ht
        split at hc
        · rename_i el hu
          cases hc
          exact sim_len hs hop hcal (hargs ha) (htys ht) (.inl ⟨rfl, el, hu⟩) h
        · rename_i hu
          cases hc
          exact sim_len hs hop hcal (hargs ha) (htys ht) (.inr (.inl ⟨rfl, hu⟩)) h
        · rename_i k el hu
          cases hc
          exact sim_len hs hop hcal (hargs ha) (htys ht) (.inr (.inr ⟨rfl, k, el, hu⟩)) h
        · cases hc
      · rename_i s x t u ha ht
        simp only [Option.bind_eq_some_iff] at hc
        obtain ⟨el, hel, i, hi, hc⟩ := hc
        split at hc
        · rename_i el2 hu2
          cases hc
          exact sim_app (hfr rfl) hs hop hcal (hargs ha) (htys ht) hel ⟨el2, hu2⟩ hi h
        · cases hc
      · rename_i d x t u ha ht
        simp only [Option.bind_eq_some_iff] at hc
        obtain ⟨el, hel, i, hi, hc⟩ := hc
        split at hc
        · rename_i el2 hu2
          cases hc
          exact sim_copy hs hop hcal (hargs ha) (htys ht) hel hi h
        · cases hc
      · rename_i x y _ ha
        split at hc
        · cases hc
          simp only [opS] at h
          split at h
          · rename_i k p k' q hx hy
            simp only [Option.some.injEq, Prod.mk.injEq] at h
            obtain ⟨rfl, rfl⟩ := h
            exact sim_mx hs hop hcal (hargs ha) hx hy
          · cases h
        · cases hc
      · rename_i x y _ ha
        split at hc
        · cases hc
          simp only [opS] at h
          split at h
          · rename_i k p k' q hx hy
            simp only [Option.some.injEq, Prod.mk.injEq] at h
            obtain ⟨rfl, rfl⟩ := h
            exact sim_mn hs hop hcal (hargs ha) hx hy
          · cases h
        · cases hc
      · cases hc
  | _ => simp [compOp] at hc
end
end Go.VI
