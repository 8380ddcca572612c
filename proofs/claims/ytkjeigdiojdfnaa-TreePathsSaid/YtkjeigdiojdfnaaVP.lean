/- VI, part P: what the library's entries come to: bytealg.Compare. -/
import Derived.Test.YtkjeigdiojdfnaaVYA
import Derived.Lib.BytesEntry
set_option linter.unusedVariables false
set_option linter.unusedSimpArgs false
namespace Go.VI

def cmpB : List Int → List Int → Int
  | x :: a, y :: b => if x < y then -1 else if y < x then 1 else cmpB a b
  | [], _ :: _ => -1
  | _ :: _, [] => 1
  | [], [] => 0
def byteR (l : List Int) : Bool := l.all fun n => decide (0 ≤ n) && decide (n < 256)
def cmpP : List AV → Option AV
  | [.lst r, .lst s] => (bytesOfRows r).bind fun l => (bytesOfRows s).bind fun k => if byteR l && byteR k then some (.sc (.int .i64 (cmpB l k))) else none
  | _ => none

theorem compareBytes_cmpB : ∀ (l k : List Int), byteR l = true → byteR k = true → Lib.compareBytes (Lib.bytesOf l) (Lib.bytesOf k) = cmpB l k
  | [], [], _, _ => rfl
  | [], _ :: _, _, _ => rfl
  | _ :: _, [], _, _ => rfl
  | x :: l, y :: k, hl, hk => by
    simp only [byteR, List.all_cons, Bool.and_eq_true, decide_eq_true_eq] at hl hk
    have ih := compareBytes_cmpB l k hl.2 hk.2
    have hx : (UInt8.ofNat x.toNat).toNat = x.toNat := by
      rw [UInt8.toNat_ofNat']; omega
    have hy : (UInt8.ofNat y.toNat).toNat = y.toNat := by
      rw [UInt8.toNat_ofNat']; omega
    have h1 : (UInt8.ofNat x.toNat < UInt8.ofNat y.toNat) ↔ x < y := by
      rw [UInt8.lt_iff_toNat_lt, hx, hy]; omega
    have h2 : (UInt8.ofNat y.toNat < UInt8.ofNat x.toNat) ↔ y < x := by
      rw [UInt8.lt_iff_toNat_lt, hx, hy]; omega
    simp only [Lib.bytesOf, List.map_cons, Lib.compareBytes, cmpB, h1, h2]
    simp only [Lib.bytesOf] at ih
    rw [ih]

section
variable {P : Program} {m : Mp} {F : Fz} {H : Heap} {w : World}
theorem run_bytesOfA (hI : Inv m F H w) {rows : List (List AV)} {v : Value} (hv : VF F (.lst rows) v) {l : List Int} (hl : bytesOfRows rows = some l) :
    (Extern.Bytes.bytesOf v).run P w = .ok ⟨(Lib.bytesOf l).toArray⟩ w := by
  obtain ⟨A, cap, rfl, hrows⟩ := rowsOf_sound hI (.fz hv) (rfl : rowsOf H (.lst rows) = some rows)
  obtain ⟨k1, k2, k3⟩ := bytesOf_spec rows l hl
  obtain ⟨us, hul, hucell, huone, hur, hua⟩ := hrows 1 k1
  cases A with
  | none =>
    have : us = [] := by
      cases us with
      | nil => rfl
      | cons u us =>
        obtain ⟨ad, h, _⟩ := hucell 0 u rfl
        cases h
    subst this
    have : l = [] := List.eq_nil_of_length_eq_zero (by simp at hul; omega)
    subst this
    rfl
  | some a =>
    have hcell : ∀ j x, l[j]? = some x → w.cell? (a.add j) = some (.int .u8 x) := fun j x hj => by
      have hjl := (List.getElem?_eq_some_iff.1 hj).1
      have hi2 : j < us.length := by omega
      obtain ⟨ad, had, _, hc⟩ := hucell j us[j] (List.getElem?_eq_getElem hi2)
      cases had
      rw [hc]
      have h5 := (hur.cell j _ 0 _ (k3 j _ hj) rfl).2
      have h7 : us.toArray.getD (j * 1 + 0) undef = us[j] := by simp [hi2]
      rw [h7] at h5
      rw [(vr_sc (m := fun _ => none) (.fz h5)).1]
    have := Lib.run_loadBytesX (P := P) w l a .empty hcell
    rw [k2] at this
    show (Extern.Bytes.loadBytes a rows.length .empty).run P w = _
    rw [this]
    congr 1
    apply ByteArray.ext
    simp

theorem cmp_ok {k : FuncId} {fn : Func} (hf : P.funcs[k]? = some fn) (hname : (fn.name == "runtime.NumGoroutine") = false) (hb : fn.body.isNone = true) (hn : Extern.findNext fn = none) (he : Extern.find fn = some Extern.BytealgCompare.compare) : PPrimOk P k cmpP := by
  intro args r h m F H w vs hI hsz hv
  unfold cmpP at h
  split at h
  rotate_left
  · cases h
  rename_i r1 s1
  simp only [Option.bind_eq_some_iff] at h
  obtain ⟨l, hl, k', hk, h⟩ := h
  split at h
  rotate_left
  · cases h
  rename_i hr
  cases h
  simp only [Bool.and_eq_true] at hr
  have h0 := run_bytesOfA (P := P) hI (hv 0 _ rfl) hl
  have h1 := run_bytesOfA (P := P) hI (hv 1 _ rfl) hk
  have hvs : vs = #[vs.getD 0 undef, vs.getD 1 undef] := by
    have hsz' : vs.size = 2 := hsz
    apply Array.ext
    · simp [hsz']
    · intro i h1 h2
      have h3 : i < 2 := by omega
      match i, h3 with
      | 0, _ => simp [hsz']
      | 1, _ => simp [hsz']
  have hrun : (Extern.BytealgCompare.compare vs).run P w = .ok (.int .i64 (cmpB l k')) w := by
    rw [hvs]
    change Sem.run P (do pure (goInt (Extern.BytealgCompare.cmp (← Extern.Bytes.bytesOf (vs.getD 0 undef)) (← Extern.Bytes.bytesOf (vs.getD 1 undef))))) w = _
    simp only [Sem.run_bind, h0, h1, Result.andThen_ok, Sem.run_pure, Lib.cmp_eq]
    have := compareBytes_cmpB l k' hr.1 hr.2
    show Result.ok (Value.int .i64 (Lib.compareBytes (Lib.bytesOf l) (Lib.bytesOf k'))) w = _
    rw [this]
  refine .inr ⟨.int .i64 (cmpB l k'), w, ?_, _, m, F, rfl, .fz (.sc rfl), hI, Ext.refl m F w, Grew.refl m H⟩
  rw [run_callFunc_extern hf hname hb hn he, hrun]
  rfl
end

theorem bytesOfRows_map : ∀ (l : List Int), bytesOfRows (l.map fun n => [.sc (.int .u8 n)]) = some l
  | [] => rfl
  | x :: l => by simp [bytesOfRows, bytesOfRows_map l]
end Go.VI
