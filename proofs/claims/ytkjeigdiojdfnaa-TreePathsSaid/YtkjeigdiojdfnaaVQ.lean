/- VI, part Q: slices cut, copied; bytes; maps; equal structs. -/
import Derived.Test.YtkjeigdiojdfnaaVO
set_option linter.unusedVariables false
set_option linter.unusedSimpArgs false
namespace Go.VI

section
variable {P : Program} {m : Mp} {F : Fz} {H : Heap} {w : World} {e : Env} {a : Act} {co : Oper} {nid : Nat} {al : Option Nat}

theorem sim_slstr (hs : Sit m F H w e a) {t : TypeId} {x : Operand} {lo hi : Option Operand} (ho : co.op = .slice t x lo hi none) (hu : P.underlying t = some .string) {v : AV} {H' : Heap} (h : opS nid e H (.slstr x lo hi) = some (v, H')) : OpOk P co a al m F w v H' := by
  simp only [opS, Option.bind_eq_some_iff] at h
  obtain ⟨lr, h1, hr, h2, h⟩ := h
  split at h
  rotate_left
  · cases h
  rename_i s hx
  simp only [Option.map_eq_some_iff] at h
  obtain ⟨⟨l, h'⟩, hb, h⟩ := h
  cases h
  obtain ⟨he, _⟩ := vr_sc (hx ▸ hs.ev x)
  obtain ⟨cm, hrun, _⟩ := run_bounds (P := P) hs (mx := none) h1 h2 rfl hb (Nat.le_refl _) (by simp) false
  refine OpOk.still (u := .string (s.extract l h')) hs.inv ?_ (.fz (.sc rfl))
  simp only [Option.map_none] at hrun
  simp only [execOp, ho, Instr.sliceAt, Sem.run_bind, run_under' hu, Result.andThen_ok, he, Instr.slice, Option.map_none, Option.isSome_none, Bool.false_eq_true, if_false, hrun, Sem.run_pure]

theorem boundsA_len {n : Nat} {lo hi mx : Option Int} {l h : Nat} (hb : boundsA n lo hi mx = some (l, h)) : l ≤ h ∧ h ≤ n := by
  obtain ⟨_, _, _, _, h1, h2, _⟩ := boundsA_some hb
  exact ⟨h1, h2⟩

theorem sim_slice (hs : Sit m F H w e a) {t : TypeId} {x : Operand} {lo hi mx : Option Operand} (ho : co.op = .slice t x lo hi mx) {el : TypeId} (hu : P.underlying t = some (.slice el)) {i : Nat × Nat × List AV} (hi' : infoA P el = some i) (hmx : mx.isSome → hi.isSome)
    {v : AV} {H' : Heap} (h : opS nid e H (.slice i.1 x lo hi mx) = some (v, H')) : OpOk P co a al m F w v H' := by
  obtain ⟨ti, z, i1, i2, rfl, i3, i4, hpos, hby⟩ := infoA_some hi'
  simp only [opS, Option.bind_eq_some_iff] at h
  obtain ⟨lr, h1, hr, h2, mr, h3, h⟩ := h
  simp only [Option.map_eq_some_iff] at h
  obtain ⟨y, hy, h⟩ := h
  cases h
  have hx := hs.ev x
  have hrun : ∀ (A : Option Addr) (len cap l h cm : Nat), a.eval x = .slice A len cap → (Instr.sliceBounds true len cap (lo.map a.eval) (hi.map a.eval) (mx.map a.eval)).run P w = .ok (l, h, cm) w →
      (execOp a.eval co).run P w = .ok (.value (.slice (if cm = l then A else A.map (·.add (l * ti.size))) (h - l) (cm - l))) w := by
    intro A len cap l h cm he hb
    simp only [execOp, ho, Instr.sliceAt, Sem.run_bind, run_under' hu, Result.andThen_ok, he, Instr.slice, hb, run_sizeOf' i1, Sem.run_pure]
  unfold sliceA at hy
  split at hy
  · rename_i rows hxx
    rw [hxx] at hx
    have hp := vr_lst hx
    simp only [Option.bind_eq_some_iff] at hy
    obtain ⟨⟨l, h⟩, hb, hy⟩ := hy
    split at hy
    rotate_left
    · cases hy
    rename_i hsz
    cases hy
    generalize hq : a.eval x = q at hp
    cases hp with
    | lst cv hcap hA hr' h1' hc hh =>
      rename_i A cap sz b o
      obtain ⟨cm, hbr, hcm1, hcm2⟩ := run_bounds (P := P) hs h1 h2 h3 hb hcap hmx true
      obtain ⟨hlh, hhn⟩ := boundsA_len hb
      refine OpOk.still hs.inv (hrun _ _ _ _ _ _ hq hbr) ?_
      have hlen : ((rows.drop l).take (h - l)).length = h - l := by simp; omega
      have : VF F (.lst ((rows.drop l).take (h - l))) (.slice (if cm = l then A else A.map (·.add (l * ti.size))) ((rows.drop l).take (h - l)).length (cm - l)) := by
        refine .lst (sz := sz) (b := b) (o := o + l * sz) (fun i j => cv (l + i) j) (by omega) (fun hne => ?_) (fun i r hr => hr' _ r (getElem_drop_take hr).1) (fun i r j c hr hc' => h1' _ r j c (getElem_drop_take hr).1 hc') (fun i r j c hr hc' => ?_) (fun i r j c hr hc' => hh _ r j c (getElem_drop_take hr).1 hc')
        · have hlt : l < h := by
            rcases Nat.lt_or_ge l h with h5 | h5
            · exact h5
            · exfalso; apply hne; apply List.eq_nil_of_length_eq_zero; omega
          have hne0 : rows ≠ [] := by intro h0; subst h0; simp at hhn; omega
          rw [if_neg (by omega), hA hne0]
          simp only [Option.map_some, addr_add]
          rcases hsz with h0 | hsz
          · subst h0; simp
          · have h6 : rows[l]? = some rows[l] := List.getElem?_eq_getElem (by omega)
            have : sz = ti.size := by
              simp only [allSz, List.all_eq_true, beq_iff_eq] at hsz
              rw [← hr' l _ h6, hsz _ (List.mem_of_getElem? h6)]
            rw [this]
        · have := hc _ r j c (getElem_drop_take hr).1 hc'
          rw [Nat.add_mul, ← Nat.add_assoc] at this
          exact this
      rw [hlen] at this
      exact .fz this
  · rename_i id off len hxx
    rw [hxx] at hx
    obtain ⟨mb, cap, hm, he, hcap, hlen⟩ := vr_sl hx
    split at hy
    rotate_left
    · cases hy
    rename_i hsz
    simp only [Option.map_eq_some_iff] at hy
    obtain ⟨⟨l, h⟩, hb, hy⟩ := hy
    cases hy
    obtain ⟨cm, hbr, hcm1, hcm2⟩ := run_bounds (P := P) hs h1 h2 h3 hb hlen hmx true
    obtain ⟨hlh, hhn⟩ := boundsA_len hb
    obtain ⟨fz, rs, hg⟩ := rowSz_some hsz
    obtain ⟨vs, _, hsz', _⟩ := hs.inv.blk id mb _ hm hg
    refine OpOk.still hs.inv (hrun _ _ _ _ _ _ he hbr) ?_
    split
    · rename_i hh
      obtain ⟨h0, rfl⟩ : 0 < l ∧ l = h := hh
      show VR m F (.lst []) _
      rw [Nat.sub_self]
      exact .fz (.lst (rows := []) (sz := 0) (b := 0) (o := 0) (fun _ _ => undef) (Nat.zero_le _) (fun h => absurd rfl h) (by simp) (by simp) (by simp) (by simp))
    · rename_i hh
      have : VR m F (.sl id (off + l) (h - l)) (.slice (some ⟨mb.cb, mb.base + (off + l) * mb.sz, none⟩) (h - l) (cm - l)) := .sl hm (by omega) (by omega)
      rw [Nat.add_mul, ← Nat.add_assoc, hsz'] at this
      by_cases h0 : cm = l
      · have hl0 : l = 0 := by omega
        subst hl0
        rw [if_pos h0, hsz']
        simpa using this
      · rw [if_neg h0, hsz']
        simpa [addr_add] using this
  · rename_i hxx
    rw [hxx] at hx
    obtain ⟨he, _⟩ := vr_sc hx
    simp only [Option.map_eq_some_iff] at hy
    obtain ⟨⟨l, h⟩, hb, hy⟩ := hy
    cases hy
    obtain ⟨cm, hbr, hcm1, hcm2⟩ := run_bounds (P := P) hs h1 h2 h3 hb (Nat.le_refl 0) hmx true
    obtain ⟨hlh, hhn⟩ := boundsA_len hb
    rw [he] at hx
    have h0 : l = 0 := by omega
    have h00 : h = 0 := by omega
    have h000 : cm = 0 := by omega
    subst h0; subst h00; subst h000
    refine OpOk.still hs.inv (hrun _ _ _ _ _ _ he hbr) ?_
    simpa using hx
  · cases hy

theorem bytesOf_spec : ∀ (rs : List (List AV)) (l : List Int), bytesOfRows rs = some l → allSz 1 rs = true ∧ l.length = rs.length ∧ ∀ (i : Nat) (n : Int), l[i]? = some n → rs[i]? = some [.sc (.int .u8 n)] := by
  intro rs
  induction rs with
  | nil => intro l h; simp [bytesOfRows] at h; subst h; simp [allSz]
  | cons r rs ih =>
    intro l h
    unfold bytesOfRows at h
    split at h
    · cases ‹r :: rs = []›
    · rename_i n rs' heq
      cases heq
      simp only [Option.map_eq_some_iff] at h
      obtain ⟨l', h', rfl⟩ := h
      obtain ⟨a1, a2, a3⟩ := ih l' h'
      refine ⟨by simp [allSz] at a1 ⊢; exact a1, by simp [a2], fun i b hb => ?_⟩
      cases i with
      | zero => simp at hb; subst hb; rfl
      | succ i => exact a3 i b (by simpa using hb)
    · cases h

theorem sim_tostr (hs : Sit m F H w e a) {s d : TypeId} {x : Operand} (ho : co.op = .convert s d x) {el : TypeId} (h1 : P.underlying s = some (.slice el)) (h2 : P.underlying d = some .string) (h3 : P.underlying el = some (.int .u8))
    {rs : List (List AV)} (hr : rowsOf H (ev e x) = some rs) {l : List Int} (hl : bytesOfRows rs = some l) : OpOk P co a al m F w (.sc (.string (strOfNums l))) H := by
  obtain ⟨A, cap, he, hrows⟩ := rowsOf_sound hs.inv (hs.ev x) hr
  refine OpOk.still hs.inv ?_ (.fz (.sc rfl))
  obtain ⟨k1, k2, k3⟩ := bytesOf_spec rs l hl
  obtain ⟨us, hul, hucell, huone, hur, hua⟩ := hrows 1 k1
  simp only [execOp, ho, Sem.run_bind, he]
  rcases Nat.eq_zero_or_pos rs.length with h0 | h0
  · have hl0 : l = [] := List.eq_nil_of_length_eq_zero (by omega)
    subst hl0
    rw [h0]
    cases A with
    | none =>
      rw [run_convert_bytes_nil w s el h1 h3 0 cap d h2]
      rfl
    | some ad =>
      have : (convert s d (.slice (some ad) 0 cap)).run P w = .ok (.string (strOfNums [])) w := by
        simp [convert, run_under' h1, run_under' h2, run_under' h3, Conv.bytesToString, loadCells, loadCellsFrom, strOfNums]
        rfl
      rw [this]
      rfl
  · obtain ⟨b, o, rfl⟩ := hua (by omega)
    rw [run_convert_bytes_arg w s el h1 h3 b o rs.length cap l k2 (fun i hi => ?_) d h2]
    · rfl
    · have hi2 : i < us.length := by omega
      obtain ⟨ad, had, _, hc⟩ := hucell i us[i] (List.getElem?_eq_getElem hi2)
      cases had
      rw [addr_add] at hc
      rw [hc]
      have hli : l[i]? = some l[i] := List.getElem?_eq_getElem (by omega)
      have h5 := (hur.cell i _ 0 _ (k3 i _ hli) rfl).2
      have h7 : us.toArray.getD (i * 1 + 0) undef = us[i] := by simp [hi2]
      rw [h7] at h5
      rw [(vr_sc (m := fun _ => none) (.fz h5)).1]
      simp [List.getD_eq_getElem?_getD, hli]

theorem sim_stringish (hs : Sit m F H w e a) {s d : TypeId} {x : Operand} (ho : co.op = .convert s d x) {el el2 : TypeId} (h1 : P.underlying s = some (.slice el2)) (h2 : P.underlying d = some (.slice el)) (hsd : s = d) (h3 : P.underlying el = some (.int .u8))
    {v : AV} {H' : Heap} (h : opS nid e H (.stringish x) = some (v, H')) : OpOk P co a al m F w v H' := by
  simp only [opS] at h
  split at h
  rotate_left
  · cases h
  rename_i id off len hx
  split at h
  rotate_left
  · cases h
  rename_i sz hsz
  cases h
  have hv := hs.ev x
  rw [hx] at hv
  obtain ⟨mb, cap, hm, he, _⟩ := vr_sl hv
  obtain ⟨fz, rs, hg⟩ := rowSz_some hsz
  have hB := hs.inv.blk id mb _ hm hg
  obtain ⟨vs, ⟨t, fr, hh, hf⟩, hB2⟩ := hB
  let fr' : Nat × Nat := if fr.1 == fr.2 then (vs.size, vs.size + 1) else (min fr.1 vs.size, max fr.2 (vs.size + 1))
  let w' : World := w.freeze ⟨mb.cb, vs.size, none⟩ 1
  have hw'h : w'.heap = w.heap.modify mb.cb fun
      | .cells c elem (lo, hi) => .cells c elem (if lo == hi then (vs.size, vs.size + 1) else (min lo vs.size, max hi (vs.size + 1)))
      | o => o := rfl
  have hw'b : w'.heap[mb.cb]? = some (.cells vs t fr') := by
    rw [hw'h, Array.getElem?_modify]
    simp [hh, fr']
  have hw'o : ∀ b, b ≠ mb.cb → w'.heap[b]? = w.heap[b]? := fun b hb => by
    rw [hw'h, Array.getElem?_modify]
    simp [Ne.symm hb]
  have hcb' : CB w' mb.cb vs := ⟨t, fr', hw'b, by
    right
    simp only [fr']
    rcases hf with rfl | hf
    · simp
    · split
      · simp
      · simp; omega⟩
  have hcell : ∀ b o, w'.cell? ⟨b, o, none⟩ = w.cell? ⟨b, o, none⟩ := fun b o => by
    by_cases e : b = mb.cb
    · subst e
      simp [World.cell?, hw'b, hh]
    · exact cell_of_heap (hw'o b e) o
  have hsize : w'.heap.size = w.heap.size := by rw [hw'h]; simp
  refine ⟨_, a.eval x, m, F, w', ?_, .inl rfl, hv, hs.inv.next (MLe.refl m) (FLe.refl F) (fun b o v hv => by rw [hcell]; exact hs.inv.fz b o v hv) (fun j mj hj => by rw [hsize]; exact hs.inv.lt j mj hj) (fun j mj B hj hB => ?_) hs.inv.inj, ?_⟩
  · simp only [execOp, ho, Sem.run_bind, he]
    subst hsd
    have : (convert s s (.slice (some ⟨mb.cb, mb.base + off * mb.sz, none⟩) len cap)).run P w = .ok (.slice (some ⟨mb.cb, mb.base + off * mb.sz, none⟩) len cap) w' := by
      rw [h1] at h2
      cases h2
      simp [convert, run_under' h1, run_under' h3, markStringish, World.shape?, hh, w']
    rw [this]
    rfl
  · by_cases e : mj.cb = mb.cb
    · refine .inr ?_
      by_cases hd : B = .dead
      · subst hd; trivial
      have := hs.inv.inj j id mj mb hj hm (live_of hB hd) (live_of hg (by simp)) e
      subst this
      rw [hm] at hj
      cases hj
      rw [hg] at hB
      cases hB
      exact ⟨vs, hcb', hB2⟩
    · exact .inl ⟨hj, hB, hw'o _ e, fun _ _ hv => hv⟩
  · exact ⟨⟨MLe.refl m, FLe.refl F, by rw [hsize]; exact Nat.le_refl _, by simp [w', World.freeze], by simp [w', World.freeze], by simp [w', World.freeze], fun b _ hb => hw'o b (fun e => hb id mb hm e.symm), fun _ _ x => .inl x, fun _ _ _ x => .inl x⟩, Dom.refl al m⟩
end
end Go.VI
