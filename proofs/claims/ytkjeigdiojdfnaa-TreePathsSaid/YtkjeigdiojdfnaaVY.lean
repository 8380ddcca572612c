/- VI, part Y: rules by which operations are reckoned. -/
import Derived.Test.YtkjeigdiojdfnaaVX
set_option linter.unusedVariables false
set_option linter.unusedSimpArgs false
namespace Go.VI

/-- An answer, and what follows. -/
def PW {α : Type} (o : Option (α × Heap)) (K : α → Heap → Prop) : Prop := ∃ v H', o = some (v, H') ∧ K v H'
theorem PW_some {α : Type} {v : α} {H : Heap} {K : α → Heap → Prop} : PW (some (v, H)) K ↔ K v H := by
  constructor
  · rintro ⟨v', H', h, hk⟩
    cases h
    exact hk
  · intro h; exact ⟨v, H, rfl, h⟩
theorem PW_ite {α : Type} {c : Prop} [Decidable c] {a b : Option (α × Heap)} {K : α → Heap → Prop} : PW (if c then a else b) K ↔ if c then PW a K else PW b K := by
  split <;> rfl
theorem PW_none {α : Type} {K : α → Heap → Prop} : PW (none : Option (α × Heap)) K ↔ False := by
  constructor
  · rintro ⟨v', H', h, hk⟩
    cases h
  · intro h; cases h
section
variable {ft : FT} {e : Env} {H : Heap} {nid : Nat} {K : AV → Heap → Prop}
theorem VW_mov (x : Operand) : VW ft nid e H (.mov x) K ↔ K (ev e x) H := VW_op rfl
theorem VW_pick (c a b : Operand) : VW ft nid e H (.pick c a b) K ↔ PW (opS nid e H (.pick c a b)) K := Iff.rfl
theorem VW_alloc (z : List AV) : VW ft nid e H (.alloc z) K ↔ K (.ptr nid 0 0) (H.put nid (.box false z)) := VW_op rfl
theorem VW_box (n : Nat) (x : Operand) : VW ft nid e H (.box n x) K ↔ PW (opS nid e H (.box n x)) K := Iff.rfl
theorem VW_build (z : List AV) (ps : List (Nat × Nat × Operand)) : VW ft nid e H (.build z ps) K ↔ PW (opS nid e H (.build z ps)) K := Iff.rfl
theorem VW_bslice (sz : Nat) (z : List AV) (len : Nat) (ps : List (Nat × Operand)) : VW ft nid e H (.bslice sz z len ps) K ↔ PW (opS nid e H (.bslice sz z len ps)) K := Iff.rfl
theorem VW_load (g : Bool) (n : Nat) (a : Operand) : VW ft nid e H (.load g n a) K ↔ PW (opS nid e H (.load g n a)) K := Iff.rfl
theorem VW_store (n : Nat) (a x : Operand) : VW ft nid e H (.store n a x) K ↔ PW (opS nid e H (.store n a x)) K := Iff.rfl
theorem VW_nilck (x : Operand) : VW ft nid e H (.nilck x) K ↔ PW (opS nid e H (.nilck x)) K := Iff.rfl
theorem VW_bin (op : BinOp) (t : TypeId) (x y : Operand) : VW ft nid e H (.bin op t x y) K ↔ PW (opS nid e H (.bin op t x y)) K := Iff.rfl
theorem VW_isnil (a : Bool) (b : Nat) (x : Operand) : VW ft nid e H (.isnil a b x) K ↔ PW (opS nid e H (.isnil a b x)) K := Iff.rfl
theorem VW_eqs (a : Bool) (b : List Nat) (x y : Operand) : VW ft nid e H (.eqs a b x y) K ↔ PW (opS nid e H (.eqs a b x y)) K := Iff.rfl
theorem VW_eqb (a : Bool) (x y : Operand) : VW ft nid e H (.eqb a x y) K ↔ PW (opS nid e H (.eqb a x y)) K := Iff.rfl
theorem VW_un (a : UnOp) (x : Operand) : VW ft nid e H (.un a x) K ↔ PW (opS nid e H (.un a x)) K := Iff.rfl
theorem VW_conv (a : IntKind) (x : Operand) : VW ft nid e H (.conv a x) K ↔ PW (opS nid e H (.conv a x)) K := Iff.rfl
theorem VW_stringish (x : Operand) : VW ft nid e H (.stringish x) K ↔ PW (opS nid e H (.stringish x)) K := Iff.rfl
theorem VW_tostr (x : Operand) : VW ft nid e H (.tostr x) K ↔ PW (opS nid e H (.tostr x)) K := Iff.rfl
theorem VW_mkfn (f : Fn) (a b : List Operand) : VW ft nid e H (.mkfn f a b) K ↔ K (.fn f (a.map (ev e)) (b.map (ev e))) H := VW_op rfl
theorem VW_mkslice (a b : Nat) (z : List AV) (x y : Operand) : VW ft nid e H (.mkslice a b z x y) K ↔ PW (opS nid e H (.mkslice a b z x y)) K := Iff.rfl
theorem VW_slice (a : Nat) (x : Operand) (b c d : Option Operand) : VW ft nid e H (.slice a x b c d) K ↔ PW (opS nid e H (.slice a x b c d)) K := Iff.rfl
theorem VW_slstr (x : Operand) (b c : Option Operand) : VW ft nid e H (.slstr x b c) K ↔ PW (opS nid e H (.slstr x b c)) K := Iff.rfl
theorem VW_faddr (a : Nat) (x : Operand) : VW ft nid e H (.faddr a x) K ↔ PW (opS nid e H (.faddr a x)) K := Iff.rfl
theorem VW_field (g : Bool) (a b : Nat) (x : Operand) : VW ft nid e H (.field g a b x) K ↔ PW (opS nid e H (.field g a b x)) K := Iff.rfl
theorem VW_iaddr (a : Option Nat) (b : Nat) (x y : Operand) : VW ft nid e H (.iaddr a b x y) K ↔ PW (opS nid e H (.iaddr a b x y)) K := Iff.rfl
theorem VW_index (a : Nat) (g : Bool) (b : Nat) (x y : Operand) : VW ft nid e H (.index a g b x y) K ↔ PW (opS nid e H (.index a g b x y)) K := Iff.rfl
theorem VW_ext (x : Operand) (i : Nat) : VW ft nid e H (.ext x i) K ↔ PW (opS nid e H (.ext x i)) K := Iff.rfl
theorem VW_len (k : Nat) (x : Operand) : VW ft nid e H (.len k x) K ↔ PW (opS nid e H (.len k x)) K := Iff.rfl
theorem VW_mx2 (x y : Operand) : VW ft nid e H (.mx2 x y) K ↔ PW (opS nid e H (.mx2 x y)) K := Iff.rfl
theorem VW_mn2 (x y : Operand) : VW ft nid e H (.mn2 x y) K ↔ PW (opS nid e H (.mn2 x y)) K := Iff.rfl
theorem VW_app (a b : Nat) (x y : Operand) : VW ft nid e H (.app a b x y) K ↔ PW (opS nid e H (.app a b x y)) K := Iff.rfl
theorem VW_copy (a : Nat) (x y : Operand) : VW ft nid e H (.copy a x y) K ↔ PW (opS nid e H (.copy a x y)) K := Iff.rfl
theorem VW_mkmap (k : Option IntKind) : VW ft nid e H (.mkmap k) K ↔ K (.mp nid) (H.put nid (.mpb k [])) := VW_op rfl
theorem VW_look (k : Option IntKind) (z : AV) (x y : Operand) (b : Bool) : VW ft nid e H (.look k z x y b) K ↔ PW (opS nid e H (.look k z x y b)) K := Iff.rfl
theorem VW_mput (k : Option IntKind) (x y z : Operand) : VW ft nid e H (.mput k x y z) K ↔ PW (opS nid e H (.mput k x y z)) K := Iff.rfl
end

/-! ### where to reckon -/
theorem AW_congr {ft : FT} {c : ACode} {e e' : Env} {H H' : Heap} {Q : AExit → Env → Heap → Prop} (h1 : e = e') (h2 : H = H') : AW ft c e H Q = AW ft c e' H' Q := by rw [h1, h2]
theorem OW_congr {ft : FT} {os : List AOper} {e e' : Env} {H H' : Heap} {Q : Env → Heap → Prop} (h1 : e = e') (h2 : H = H') : OW ft os e H Q = OW ft os e' H' Q := by rw [h1, h2]
theorem DW_congr {ft : FT} {nid nid' : Nat} {os : List AOper} {fs fs' : List FP} {e e' : Env} {H H' : Heap} {Q : List FP → Env → Heap → Prop} (h0 : nid = nid') (h3 : fs = fs') (h1 : e = e') (h2 : H = H') : DW ft nid os fs e H Q = DW ft nid' os fs' e' H' Q := by rw [h0, h1, h2, h3]
theorem VW_congr {ft : FT} {nid nid' : Nat} {o : AOp} {e e' : Env} {H H' : Heap} {K : AV → Heap → Prop} (h0 : nid = nid') (h1 : e = e') (h2 : H = H') : VW ft nid e H o K = VW ft nid' e' H' o K := by rw [h0, h1, h2]
theorem GW_congr {g g' : Option (Option Nat × Bool)} {e e' : Env} {a b : Prop} (h0 : g = g') (h1 : e = e') : GW g e a b = GW g' e' a b := by rw [h0, h1]
theorem PW_congr {α : Type} {o o' : Option (α × Heap)} {K : α → Heap → Prop} (h : o = o') : PW o K = PW o' K := by rw [h]
theorem KW_congr {ft : FT} {f f' : AV} {args args' : List AV} {H H' : Heap} {K : AV → Heap → Prop} (h1 : f = f') (h2 : args = args') (h3 : H = H') : KW ft f args H K = KW ft f' args' H' K := by rw [h1, h2, h3]
theorem ite_congr' {α : Sort _} {c c' : Prop} [Decidable c] [Decidable c'] {a b : α} (h : c = c') : ite c a b = ite c' a b := by
  subst h
  congr

/-- A guard, resolved. -/
def GV (v : AV) (b : Bool) (yes no : Prop) : Prop := (∃ c, v = .sc (.bool c) ∧ if c = b then yes else no) ∨ (v = .tup [] ∧ no)
theorem GW_tmp {t : Nat} {b : Bool} {e : Env} {yes no : Prop} : GW (some (some t, b)) e yes no ↔ GV (ev e (.tmp t)) b yes no := by
  constructor
  · rintro ⟨h1, h2⟩
    simp only [knownA] at h1
    split at h1
    · rename_i c hc
      refine .inl ⟨c, hc, ?_⟩
      simp only [wantA, hc] at h2
      cases b <;> cases c <;> simpa using h2
    · rename_i hc
      refine .inr ⟨hc, ?_⟩
      simp only [wantA, hc] at h2
      simpa using h2
    · cases h1
  · rintro (⟨c, hc, h⟩ | ⟨hc, h⟩)
    · exact (GW_some hc).2 h
    · have hc' : e.getD t .bad = .tup [] := hc
      unfold GW knownA wantA
      simp only [hc']
      simpa using h
theorem GV_true {c : Bool} {yes no : Prop} : GV (.sc (.bool c)) true yes no ↔ if c = true then yes else no := by simp [GV]
theorem GV_false {c : Bool} {yes no : Prop} : GV (.sc (.bool c)) false yes no ↔ if c = true then no else yes := by cases c <;> simp [GV]
theorem GV_skip {b : Bool} {yes no : Prop} : GV (.tup []) b yes no ↔ no := by simp [GV]
theorem GV_congr {v v' : AV} {b : Bool} {x y : Prop} (h : v = v') : GV v b x y = GV v' b x y := by rw [h]
/-- A condition, resolved. -/
def CV (v : AV) (yes no : Prop) : Prop := ∃ c, v = .sc (.bool c) ∧ if c = true then yes else no
theorem AW_cond' {ft : FT} {c : Operand} {a b : ACode} {e : Env} {H : Heap} {Q : AExit → Env → Heap → Prop} : AW ft (.cond c a b) e H Q ↔ CV (ev e c) (AW ft a e H Q) (AW ft b e H Q) := by
  constructor
  · rintro ⟨x, e', H', h, hq⟩
    rw [execL_cond, Option.bind_eq_some_iff] at h
    obtain ⟨t, ht, h⟩ := h
    unfold toB at ht
    split at ht
    · rename_i q hv
      cases ht
      refine ⟨t, hv, ?_⟩
      cases t with
      | true => exact ⟨x, e', H', h, hq⟩
      | false => exact ⟨x, e', H', h, hq⟩
    · cases ht
  · rintro ⟨t, ht, h⟩
    exact (AW_cond ht).2 h
theorem CV_bool {c : Bool} {yes no : Prop} : CV (.sc (.bool c)) yes no ↔ if c = true then yes else no := by simp [CV]
theorem CV_congr {v v' : AV} {x y : Prop} (h : v = v') : CV v x y = CV v' x y := by rw [h]

/-! ### values -/
theorem ofC_int (k : IntKind) (n : Int) : ofC (.int k n) = .sc (.int k n) := rfl
theorem ofC_bool (b : Bool) : ofC (.bool b) = .sc (.bool b) := rfl
theorem ofC_slice : ofC (.slice none 0 0) = .sc (.slice none 0 0) := rfl
theorem ofC_str (s : ByteArray) : ofC (.string s) = .sc (.string s) := rfl
theorem ofC_nilF : ofC .nilFunc = .sc .nilFunc := rfl
theorem ofC_nilP : ofC (.pointer none) = .sc (.pointer none) := rfl
theorem ofC_nilM : ofC (.map none) = .sc (.map none) := rfl
theorem toI_sc (k : IntKind) (n : Int) : toI (.sc (.int k n)) = some n := rfl
theorem toB_sc (b : Bool) : toB (.sc (.bool b)) = some b := rfl

section
variable {k : IntKind} {t : TypeId} {a b : Int}
theorem bin_add : binA .add t (.sc (.int k a)) (.sc (.int k b)) = some (.sc (.int k (k.wrap (a + b)))) := by
  simp [binA, binOp, Op.intArith, Op.intCmp, pureRun, ofScalar, isSc, pure]
theorem bin_sub : binA .sub t (.sc (.int k a)) (.sc (.int k b)) = some (.sc (.int k (k.wrap (a - b)))) := by
  simp [binA, binOp, Op.intArith, Op.intCmp, pureRun, ofScalar, isSc, pure]
theorem bin_mul : binA .mul t (.sc (.int k a)) (.sc (.int k b)) = some (.sc (.int k (k.wrap (a * b)))) := by
  simp [binA, binOp, Op.intArith, Op.intCmp, pureRun, ofScalar, isSc, pure]
theorem bin_lss : binA .lss t (.sc (.int k a)) (.sc (.int k b)) = some (.sc (.bool (decide (a < b)))) := by
  simp [binA, binOp, Op.intArith, Op.intCmp, pureRun, ofScalar, isSc, pure]
theorem bin_leq : binA .leq t (.sc (.int k a)) (.sc (.int k b)) = some (.sc (.bool (decide (a ≤ b)))) := by
  simp [binA, binOp, Op.intArith, Op.intCmp, pureRun, ofScalar, isSc, pure]
theorem bin_gtr : binA .gtr t (.sc (.int k a)) (.sc (.int k b)) = some (.sc (.bool (decide (a > b)))) := by
  simp [binA, binOp, Op.intArith, Op.intCmp, pureRun, ofScalar, isSc, pure]
theorem bin_geq : binA .geq t (.sc (.int k a)) (.sc (.int k b)) = some (.sc (.bool (decide (a ≥ b)))) := by
  simp [binA, binOp, Op.intArith, Op.intCmp, pureRun, ofScalar, isSc, pure]
theorem bin_eql : binA .eql t (.sc (.int k a)) (.sc (.int k b)) = some (.sc (.bool (a == b))) := by
  simp [binA, binOp, Op.intArith, Op.intCmp, pureRun, ofScalar, isSc, pure]
theorem bin_neq : binA .neq t (.sc (.int k a)) (.sc (.int k b)) = some (.sc (.bool (a != b))) := by
  simp [binA, binOp, Op.intArith, Op.intCmp, pureRun, ofScalar, isSc, pure]
end

/-! ### rows of what is encoded -/
section
variable {α : Type} {g : α → List AV} {l : List α} {H : Heap} {sz i off n : Nat}
theorem iaddr_map (hi : i < l.length) (hg : ∀ x, (g x).length = sz) : iaddrA H none sz (.lst (l.map g)) (i : Int) = some (.pim (l.map g) i 0) := by
  unfold iaddrA
  simp [hi, hg]
theorem cells_map (hi : i < l.length) : cellsAt H (.pim (l.map g) i off) n = if off + n ≤ (g l[i]).length then some (((g l[i]).drop off).take n) else none := by
  unfold cellsAt
  simp [hi]
end
theorem wrap_i64 {n : Int} (h : -9223372036854775808 ≤ n ∧ n ≤ 9223372036854775807) : IntKind.i64.wrap n = n := IntWalk.i64_in _ (by omega)
theorem wrap_succ {i : Nat} (h : i < 9223372036854775807) : IntKind.i64.wrap ((i : Int) + 1) = ((i + 1 : Nat) : Int) := by
  rw [wrap_i64 (by omega)]
  rfl
theorem frz_lst (n : Nat) (H : Heap) (rows : List (List AV)) : frz (n + 1) H (.lst rows) = some (.lst rows, H) := rfl
theorem frz_pim (n : Nat) (H : Heap) (rows : List (List AV)) (i off : Nat) : frz (n + 1) H (.pim rows i off) = some (.pim rows i off, H) := rfl
theorem frz_int (n : Nat) (H : Heap) (k : IntKind) (x : Int) : frz (n + 1) H (.sc (.int k x)) = some (.sc (.int k x), H) := rfl
theorem frz_bool (n : Nat) (H : Heap) (x : Bool) : frz (n + 1) H (.sc (.bool x)) = some (.sc (.bool x), H) := rfl
theorem frz_str (n : Nat) (H : Heap) (x : ByteArray) : frz (n + 1) H (.sc (.string x)) = some (.sc (.string x), H) := rfl
theorem frz_nils (n : Nat) (H : Heap) : frz (n + 1) H (.sc (.slice none 0 0)) = some (.lst [], H) := rfl
theorem frz_nilf (n : Nat) (H : Heap) : frz (n + 1) H (.sc .nilFunc) = some (.sc .nilFunc, H) := rfl
theorem frzL_nil (n : Nat) (H : Heap) : frz.frzL (n + 1) H [] = some ([], H) := rfl
theorem frzL_cons (n : Nat) (H : Heap) (c : AV) (cs : List AV) : frz.frzL (n + 1) H (c :: cs) = (frz n H c).bind fun p => (frz.frzL n p.2 cs).bind fun q => some (p.1 :: q.1, q.2) := rfl
end Go.VI
