/- VI, part N: append, copy, cut slices, lengths, bytes. -/
import Derived.Test.YtkjeigdiojdfnaaVM
set_option linter.unusedVariables false
set_option linter.unusedSimpArgs false
namespace Go.VI

section
variable {P : Program} {m : Mp} {F : Fz} {H : Heap} {w : World} {e : Env} {a : Act} {co : Oper} {nid : Nat} {al : Option Nat}

/-- What a slice shows lies in memory, row by row. -/
theorem rowsOf_sound (hI : Inv m F H w) {x : AV} {v : Value} (hv : VR m F x v) {rows : List (List AV)} (h : rowsOf H x = some rows) :
    ∃ A cap, v = .slice A rows.length cap ∧ ∀ (sz : Nat), allSz sz rows = true → ∃ us : List Value, us.length = rows.length * sz ∧ (∀ (j : Nat) (u : Value), us[j]? = some u → ∃ ad, A = some ad ∧ ad.spot = none ∧ w.cell? (ad.add j) = some u) ∧
      (∀ u ∈ us, u.oneCell' = true) ∧ RowsR F sz rows us.toArray ∧ (0 < us.length → ∃ b o, A = some ⟨b, o, none⟩) := by
  have gen : ∀ (A : Option Addr) (sz0 b o : Nat) (cv : Nat → Nat → Value), (rows ≠ [] → A = some ⟨b, o, none⟩) → (∀ (i : Nat) (r : List AV), rows[i]? = some r → r.length = sz0) →
      (∀ (i : Nat) (r : List AV) (j : Nat) (c : AV), rows[i]? = some r → r[j]? = some c → c.one = true ∧ VF F c (cv i j) ∧ w.cell? ⟨b, o + i * sz0 + j, none⟩ = some (cv i j)) →
      ∀ (sz : Nat), allSz sz rows = true → ∃ us : List Value, us.length = rows.length * sz ∧ (∀ (j : Nat) (u : Value), us[j]? = some u → ∃ ad, A = some ad ∧ ad.spot = none ∧ w.cell? (ad.add j) = some u) ∧
      (∀ u ∈ us, u.oneCell' = true) ∧ RowsR F sz rows us.toArray ∧ (0 < us.length → ∃ b o, A = some ⟨b, o, none⟩) := by
    intro A sz0 b o cv hA hl hc sz hall
    simp only [allSz, List.all_eq_true, beq_iff_eq] at hall
    have hszz : ∀ (i : Nat) (r : List AV), rows[i]? = some r → r.length = sz := fun i r hr => hall r (List.mem_of_getElem? hr)
    have hcell : ∀ k, k < rows.length * sz → ∃ (r : List AV) (c : AV), rows[k / sz]? = some r ∧ r[k % sz]? = some c := by
      intro k hk
      have hpos : 0 < sz := by rcases Nat.eq_zero_or_pos sz with h | h; (subst h; simp at hk); exact h
      have h1 : k / sz < rows.length := (Nat.div_lt_iff_lt_mul hpos).2 hk
      have h2 := List.getElem?_eq_getElem h1
      refine ⟨_, _, h2, List.getElem?_eq_getElem (by rw [hszz _ _ h2]; exact Nat.mod_lt _ hpos)⟩
    have hrange : (List.range (rows.length * sz)).length = rows.length * sz := by simp
    refine ⟨(List.range (rows.length * sz)).map fun k => cv (k / sz) (k % sz), by simp, fun j u hj => ?_, fun u hu => ?_, ⟨by simp, hszz, fun i r j c hr hj => ?_⟩, fun hpos => ⟨b, o, hA (by intro h0; subst h0; simp at hpos)⟩⟩
    · have hlt : j < rows.length * sz := by have := (List.getElem?_eq_some_iff.1 hj).1; simpa using this
      rw [List.getElem?_map, List.getElem?_range hlt, Option.map_some] at hj
      cases hj
      obtain ⟨r, c, hr, hc'⟩ := hcell j hlt
      obtain ⟨_, _, h3⟩ := hc _ r _ c hr hc'
      refine ⟨⟨b, o, none⟩, hA (by intro h0; subst h0; simp at hlt), rfl, ?_⟩
      have h4 : sz0 = sz := (hl _ r hr).symm.trans (hszz _ r hr)
      subst h4
      rw [addr_add, ← h3]
      congr 2
      have := Nat.div_add_mod j sz0
      rw [Nat.mul_comm] at this
      omega
    · obtain ⟨k, hk, rfl⟩ := List.mem_map.1 hu
      rw [List.mem_range] at hk
      obtain ⟨r, c, hr, hc'⟩ := hcell k hk
      obtain ⟨h1, h2, _⟩ := hc _ r _ c hr hc'
      exact oneCell_of (m := fun _ => none) (.fz h2) h1
    · obtain ⟨h1, h2, _⟩ := hc i r j c hr hj
      refine ⟨h1, ?_⟩
      have hil := (List.getElem?_eq_some_iff.1 hr).1
      have hjl := (List.getElem?_eq_some_iff.1 hj).1
      rw [hszz i r hr] at hjl
      have hlt := ij_lt hil hjl
      rw [getD_of (v := cv i j)]
      · exact h2
      · have hd : (i * sz + j) / sz = i := by
          rw [Nat.mul_comm, Nat.mul_add_div (by omega), Nat.div_eq_of_lt hjl, Nat.add_zero]
        have hm : (i * sz + j) % sz = j := by rw [Nat.mul_comm, Nat.mul_add_mod, Nat.mod_eq_of_lt hjl]
        simp [hlt, hd, hm]
  unfold rowsOf at h
  split at h
  · cases h
    obtain ⟨rfl, _⟩ := vr_sc hv
    exact ⟨none, 0, rfl, gen none 0 0 0 (fun _ _ => undef) (fun h => absurd rfl h) (by simp) (by simp)⟩
  · cases h
    have hp := vr_lst hv
    cases hp with
    | lst cv hcap hA hr h1 hc hh =>
      exact ⟨_, _, rfl, gen _ _ _ _ cv hA hr (fun i r j c hr' hj => ⟨h1 i r j c hr' hj, hh i r j c hr' hj, hI.fz _ _ _ (hc i r j c hr' hj)⟩)⟩
  · rename_i id off len
    obtain ⟨mb, cap, hm, rfl, hcap, hlen⟩ := vr_sl hv
    split at h
    rotate_left
    · cases h
    rename_i fz sz rs hg
    split at h
    rotate_left
    · cases h
    rename_i hle
    cases h
    obtain ⟨vs, hcb, hsz, hcn, hfit, hrl, hrc, _⟩ := hI.blk id mb _ hm hg
    subst hsz
    have hl' : ((rs.drop off).take len).length = len := by simp; omega
    refine ⟨some ⟨mb.cb, mb.base + off * mb.sz, none⟩, cap, by rw [hl'], ?_⟩
    refine gen (some ⟨mb.cb, mb.base + off * mb.sz, none⟩) mb.sz mb.cb (mb.base + off * mb.sz) (fun i j => vs.getD (mb.base + off * mb.sz + i * mb.sz + j) undef) (fun _ => rfl) (fun i r hr => hrl _ r (getElem_drop_take hr).1) (fun i r j c hr hj => ?_)
    obtain ⟨hr', _⟩ := getElem_drop_take hr
    obtain ⟨h1, h2⟩ := hrc _ r j c hr' hj
    have hil := (List.getElem?_eq_some_iff.1 hr').1
    have hjl := (List.getElem?_eq_some_iff.1 hj).1
    rw [hrl _ r hr'] at hjl
    have hlt : (off + i) * mb.sz + j < rs.length * mb.sz := ij_lt hil hjl
    have hfit2 : rs.length * mb.sz ≤ mb.cn * mb.sz := Nat.mul_le_mul_right _ hcn
    have he : mb.base + off * mb.sz + i * mb.sz + j = mb.base + (off + i) * mb.sz + j := by rw [Nat.add_mul]; omega
    refine ⟨h1, by rw [he]; exact h2, ?_⟩
    rw [he]
    exact hcb.cell _ (by omega)
  · cases h

theorem addr_eta {ad : Addr} (h : ad.spot = none) : ad = ⟨ad.block, ad.off, none⟩ := by cases ad; simp at h; subst h; rfl

theorem run_first {A : Option Addr} {len cap n sz : Nat} {us : List Value} (hl : us.length = n * sz) (hc : ∀ (j : Nat) (u : Value), us[j]? = some u → ∃ ad, A = some ad ∧ ad.spot = none ∧ w.cell? (ad.add j) = some u) :
    (Builtin.firstCells sz n (.slice A len cap)).run P w = .ok us.toArray w := by
  cases A with
  | none =>
    have : us = [] := by
      cases us with
      | nil => rfl
      | cons u us => obtain ⟨ad, h, _⟩ := hc 0 u rfl; cases h
    subst this
    simp [Builtin.firstCells]
  | some ad =>
    simp only [Builtin.firstCells]
    rw [← hl]
    exact run_loadCells_list w ad us (fun j v hj => by
      obtain ⟨ad', he, _, h⟩ := hc j v hj
      cases he
      exact h)

section
variable {t ty el u : TypeId} {ti : TypeInfo} {z : Value} {A base : Option Addr} {n cap sLen sCap : Nat} {us os : List Value}
/-- There is room. -/
theorem run_app_room (hu : P.underlying t = some (.slice el)) (hu2 : ∃ el2, P.underlying u = some (.slice el2)) (i1 : P.info? el = some ti) (hl : us.length = n * ti.size)
    (hc : ∀ (j : Nat) (u : Value), us[j]? = some u → ∃ ad, A = some ad ∧ ad.spot = none ∧ w.cell? (ad.add j) = some u) (hroom : sLen + n ≤ sCap) {w' : World}
    (hst : ∀ a, base = some a → (storeCells (a.add (sLen * ti.size)) us).run P w = .ok () w') (hn : base = none → w' = w) :
    (Builtin.append_ #[t, u] ty #[.slice base sLen sCap, .slice A n cap]).run P w = .ok (.slice base (sLen + n) sCap) w' := by
  obtain ⟨el2, hu2⟩ := hu2
  have hf := run_first (P := P) (w := w) (len := n) (cap := cap) hl hc
  cases base with
  | none =>
    cases hn rfl
    simp [Builtin.append_, run_under' hu, run_under' hu2, run_sizeOf' i1, Builtin.lenOf, hroom, hf]
  | some b =>
    have := hst b rfl
    simp [Builtin.append_, run_under' hu, run_under' hu2, run_sizeOf' i1, Builtin.lenOf, hroom, hf, this]
/-- There is none: a new row. -/
theorem run_app_grow (hu : P.underlying t = some (.slice el)) (hu2 : ∃ el2, P.underlying u = some (.slice el2)) (i1 : P.info? el = some ti) (i2 : ti.zero = some z) (hl : us.length = n * ti.size)
    (hc : ∀ (j : Nat) (u : Value), us[j]? = some u → ∃ ad, A = some ad ∧ ad.spot = none ∧ w.cell? (ad.add j) = some u) (hol : os.length = sLen * ti.size)
    (hoc : ∀ (j : Nat) (u : Value), os[j]? = some u → ∃ ad, base = some ad ∧ ad.spot = none ∧ w.cell? (ad.add j) = some u) (hroom : ¬ sLen + n ≤ sCap) (hb : (sLen + n) * ti.bytes ≤ 140737488355328) (hby : 0 < ti.bytes) :
    (Builtin.append_ #[t, u] ty #[.slice base sLen sCap, .slice A n cap]).run P w = .ok (.slice (some ⟨w.heap.size, 0, none⟩) (sLen + n) (grownCap w (sLen + n) sCap el))
      (w.drew.alloc (.cells (os.toArray ++ us.toArray ++ Builtin.zeroCells z.cells (grownCap w (sLen + n) sCap el - (sLen + n))) el)) := by
  obtain ⟨el2, hu2⟩ := hu2
  have hf := run_first (P := P) (w := w.drew) (len := n) (cap := cap) hl (fun j u hj => by
    obtain ⟨ad, h1, h2, h3⟩ := hc j u hj
    exact ⟨ad, h1, h2, by rw [World.cell?_drew]; exact h3⟩)
  have hfo := run_first (P := P) (w := w.drew) (len := sLen) (cap := sCap) hol (fun j u hj => by
    obtain ⟨ad, h1, h2, h3⟩ := hoc j u hj
    exact ⟨ad, h1, h2, by rw [World.cell?_drew]; exact h3⟩)
  have hcap := growslice_fits (old := sCap) (need := sLen + n) (by omega) hb
  have hle : sLen + n ≤ 140737488355328 := Nat.le_trans (Nat.le_mul_of_pos_right _ hby) hb
  have h63' : ¬ (9223372036854775807 < ((sLen : Int) + (n : Int))) := by omega
  have h48' : ¬ (281474976710656 < Builtin.nextslicecap (sLen + n) sCap * ti.bytes) := by omega
  simp [Builtin.append_, run_under' hu, run_under' hu2, sizeOf, typeInfo, zeroValue, i1, i2, Builtin.lenOf, hroom, h63', h48', Question.forced, hf, hfo, newRow, grownCap]
  congr 2
  apply Array.ext'
  simp [List.append_assoc]
end

theorem getD_app1 (o u z : Array Value) (k : Nat) (h : k < o.size) : (o ++ u ++ z).getD k undef = o.getD k undef := by
  simp only [Array.getD_eq_getD_getElem?]
  rw [Array.getElem?_append_left (by simp; omega), Array.getElem?_append_left h]
theorem getD_app2 (o u z : Array Value) (k : Nat) (h : o.size ≤ k) (h2 : k < o.size + u.size) : (o ++ u ++ z).getD k undef = u.getD (k - o.size) undef := by
  simp only [Array.getD_eq_getD_getElem?]
  rw [Array.getElem?_append_left (by simp; omega), Array.getElem?_append_right h]

/-- append, wherever the machine puts it. -/
theorem appA_sound (hn : Free m H nid) (hI : Inv m F H w) {t ty el : TypeId} (hu : P.underlying t = some (.slice el)) {u : TypeId} (hu2 : ∃ el2, P.underlying u = some (.slice el2)) {ti : TypeInfo} (i1 : P.info? el = some ti) {z : Value} (i2 : ti.zero = some z) (i4 : z.cells.size = ti.size) (i5 : 0 < ti.bytes)
    {s x : AV} {sv xv : Value} (hs : VR m F s sv) (hx : VR m F x xv) {xs : List (List AV)} (hxs : rowsOf H x = some xs) {v : AV} {H' : Heap} (h : appA nid H ti.size ti.bytes s xs = some (v, H')) :
    ∃ r m' F' w', (Builtin.append_ #[t, u] ty #[sv, xv]).run P w = .ok r w' ∧ VR m' F' v r ∧ Inv m' F' H' w' ∧ Ext m F w m' F' w' ∧ Dom (some nid) m m' := by
  obtain ⟨A, cap, rfl, hrows⟩ := rowsOf_sound hI hx hxs
  have hcapge : ∀ need old, need ≤ grownCap w need old el := fun need old => grownCap_ge w need old el
  unfold appA at h
  split at h
  · obtain ⟨rfl, _⟩ := vr_sc hs
    split at h
    · rename_i h0
      cases h
      have : xs = [] := List.eq_nil_of_length_eq_zero h0
      subst this
      obtain ⟨us, hul, hucell, huone, hur, hua⟩ := hrows ti.size rfl
      exact ⟨.slice none 0 0, m, F, w, run_app_room hu hu2 i1 hul hucell (by simp) (by simp) (fun _ => rfl), hs, hI, Ext.refl m F w, Dom.refl _ m⟩
    · rename_i h0
      split at h
      rotate_left
      · cases h
      rename_i hh
      cases h
      obtain ⟨us, hul, hucell, huone, hur, hua⟩ := hrows ti.size hh.2
      have hg := hcapge (0 + xs.length) 0
      have hrun := run_app_grow (P := P) (w := w) (ty := ty) (cap := cap) (base := none) (sLen := 0) (sCap := 0) (os := []) hu hu2 i1 i2 hul hucell (by simp) (by simp) (by omega) (by simpa using hh.1) i5
      generalize grownCap w (0 + xs.length) 0 el = G at hg hrun
      rw [Nat.zero_add] at hg hrun
      have hsz : (([] : List Value).toArray ++ us.toArray ++ Builtin.zeroCells z.cells (G - xs.length)).size = G * ti.size := by
        simp only [Array.size_append, List.size_toArray, size_zeroCells, i4, hul, List.length_nil]
        rw [Nat.zero_add, ← Nat.add_mul]
        congr 1
        omega
      obtain ⟨m', a1, a2, a3⟩ := newRowA hn hI (wd := w.drew) rfl rfl rfl rfl ti.size xs G (([] : List Value).toArray ++ us.toArray ++ Builtin.zeroCells z.cells (G - xs.length)) el hg (by rw [hsz]; exact Nat.le_refl _)
        hur.len (fun i r j c hr hj => by
          obtain ⟨b1, b2⟩ := hur.cell i r j c hr hj
          refine ⟨b1, ?_⟩
          have hlt := ij_lt (List.getElem?_eq_some_iff.1 hr).1 (by have := (List.getElem?_eq_some_iff.1 hj).1; rw [hur.len i r hr] at this; exact this)
          have : (([] : List Value).toArray ++ us.toArray ++ Builtin.zeroCells z.cells (G - xs.length)).getD (i * ti.size + j) undef = us.toArray.getD (i * ti.size + j) undef := by
            simp only [Array.getD_eq_getD_getElem?, Array.getElem?_append]
            simp [hul, hlt]
          rw [this]
          exact b2)
      exact ⟨_, m', F, _, hrun, a1, a2, a3⟩
  · rename_i id off len
    obtain ⟨mb, scap, hm, rfl, hscap, hslen⟩ := vr_sl hs
    split at h
    rotate_left
    · cases h
    rename_i sz' rs hg
    split at h
    rotate_left
    · cases h
    rename_i hh
    obtain ⟨rfl, hle, hb, hall⟩ := hh
    cases h
    obtain ⟨us, hul, hucell, huone, hur, hua⟩ := hrows ti.size hall
    obtain ⟨vs, hcb, hsz, hcn, hfit, hrl, hrc, hF, _⟩ := hI.blk id mb _ hm hg
    have hnew : ∀ (i : Nat) (r : List AV), ((rs.drop off).take len ++ xs)[i]? = some r → (i < len ∧ rs[off + i]? = some r) ∨ (len ≤ i ∧ xs[i - len]? = some r) := by
      intro i r hr
      have hl' : ((rs.drop off).take len).length = len := by simp; omega
      rcases Nat.lt_or_ge i len with h1 | h1
      · rw [List.getElem?_append_left (by omega)] at hr
        exact .inl ⟨h1, (getElem_drop_take hr).1⟩
      · rw [List.getElem?_append_right (by omega), hl'] at hr
        exact .inr ⟨h1, hr⟩
    have hnlen : ((rs.drop off).take len ++ xs).length = len + xs.length := by simp; omega
    have hnl : ∀ (i : Nat) (r : List AV), ((rs.drop off).take len ++ xs)[i]? = some r → r.length = ti.size := fun i r hr => by
      rcases hnew i r hr with ⟨_, h⟩ | ⟨_, h⟩
      · exact hrl _ r h
      · exact hur.len _ r h
    by_cases hroom : len + xs.length ≤ scap
    · -- in place
      have hfit2 : (off + (len + xs.length)) * ti.size ≤ mb.cn * ti.size := Nat.mul_le_mul_right _ (by omega)
      rw [Nat.add_mul, Nat.add_mul] at hfit2
      obtain ⟨w', vs', hst, hw⟩ := run_stores P mb.cb (mb.base + off * mb.sz + len * ti.size) us 0 w vs hcb (by rw [hsz, hul]; omega) huone
      simp only [Nat.add_zero] at hw
      have hrun := run_app_room (P := P) (w := w) (ty := ty) (cap := cap) (base := some ⟨mb.cb, mb.base + off * mb.sz, none⟩) (sLen := len) hu hu2 i1 hul hucell hroom (w' := w') (fun a ha => by
        cases ha
        rw [addr_add]
        exact hst) (by simp)
      have hlen' : vs'.size = vs.size := hw.size
      let nb : MB := ⟨mb.cb, mb.base + off * mb.sz, mb.sz, scap⟩
      have hmle := mset_le nb hn.no
      have hid : id < H.next := (hI.lt _ _ hm).1
      have hlv : live H id := live_of hg (by simp)
      have hnid : id ≠ nid := fun e => by subst e; rw [hn.no] at hm; cases hm
      have hnle : nid ≤ (H.set id .dead).next := by simpa using hn.le
      have hdead : ∀ B, ((H.set id .dead).put nid (.row false ti.size ((rs.drop off).take len ++ xs))).get id = some B → B = .dead := fun B hB => by
        rw [Heap.get_put_ne _ hnle hnid, Heap.get_set_self _ hid] at hB
        exact (Option.some.inj hB).symm
      have hlivne : ∀ j, live ((H.set id .dead).put nid (.row false ti.size ((rs.drop off).take len ++ xs))) j → j ≠ id := fun j ⟨B, h1, h2⟩ e => by
        subst e
        exact h2 (hdead B h1)
      have hlivold : ∀ j, live ((H.set id .dead).put nid (.row false ti.size ((rs.drop off).take len ++ xs))) j → j ≠ nid → live H j := fun j h1 h2 => live_set (live_push hnle h1 h2) (.inl hlv)
      refine ⟨_, mset m nid nb, F, w', hrun, ?_, hI.next hmle (FLe.refl F) (fun b o v hv => ?_) (fun j mj hj => ?_) (fun j mj B hj hB => ?_) (fun i j mi mj hi hj li lj e => ?_), ?_, Dom.mset _ _ _⟩
      · have : VR (mset m nid nb) F (.sl nid 0 (len + xs.length)) (.slice (some ⟨nb.cb, nb.base + 0 * nb.sz, none⟩) (len + xs.length) scap) := .sl (mset_self _ _ _) (by simp [nb]) hroom
        simpa [nb] using this
      · have : b ≠ mb.cb := fun e => by rw [e, hF rfl o] at hv; cases hv
        rw [cell_of_heap (hw.heap b this)]
        exact hI.fz b o v hv
      · rcases mset_cases hj with ⟨rfl, rfl⟩ | ⟨hne, hj⟩
        · rw [hw.hs]
          exact ⟨Heap.lt_next_put _ hnle, hcb.lt⟩
        · have := hI.lt j mj hj
          have := Heap.next_put_le (H.set id .dead) (.row false ti.size ((rs.drop off).take len ++ xs)) nid
          rw [Heap.next_set] at this
          rw [hw.hs]
          omega
      · rcases mset_cases hj with ⟨rfl, rfl⟩ | ⟨hne, hj⟩
        · rw [Heap.get_put_self _ hnle] at hB
          cases hB
          refine .inr ⟨vs', hw.cb, hsz, by rw [hnlen]; exact hroom, ?_, hnl, fun i r j c hr hj => ?_, fun _ o => hF rfl o, by simp⟩
          · have : (off + scap) * ti.size ≤ mb.cn * ti.size := Nat.mul_le_mul_right _ hscap
            rw [Nat.add_mul] at this
            rw [hlen']
            show mb.base + off * mb.sz + scap * ti.size ≤ vs.size
            rw [hsz]
            omega
          · have hjl := (List.getElem?_eq_some_iff.1 hj).1
            rw [hnl i r hr] at hjl
            show c.one = true ∧ VF F c (vs'.getD (mb.base + off * mb.sz + i * ti.size + j) undef)
            rcases hnew i r hr with ⟨h1, h2⟩ | ⟨h1, h2⟩
            · obtain ⟨b1, b2⟩ := hrc _ r j c h2 hj
              have := ij_lt h1 hjl
              rw [hw.ne _ (by rw [hsz]; omega)]
              rw [hsz, Nat.add_assoc mb.base, ← Nat.add_mul]
              exact ⟨b1, b2⟩
            · obtain ⟨b1, b2⟩ := hur.cell _ r j c h2 hj
              have hil := (List.getElem?_eq_some_iff.1 h2).1
              have hlt := ij_lt hil hjl
              have he : (i - len) * ti.size + len * ti.size = i * ti.size := by rw [← Nat.add_mul]; congr 1; omega
              have := hw.at_ ((i - len) * ti.size + j) (by rw [hul]; exact hlt)
              rw [show mb.base + off * mb.sz + len * ti.size + ((i - len) * ti.size + j) = mb.base + off * mb.sz + i * ti.size + j by omega] at this
              rw [this]
              refine ⟨b1, ?_⟩
              simpa [List.getD_eq_getElem?_getD, Array.getD_eq_getD_getElem?] using b2
        · by_cases e : j = id
          · subst e
            rw [hdead B hB]
            exact .inr trivial
          · rw [Heap.get_put_ne _ hnle hne, Heap.get_set_ne _ e] at hB
            by_cases hd : B = .dead
            · subst hd
              exact .inr trivial
            · exact .inl ⟨hj, hB, hw.heap _ (cb_other hI hm hj hlv (live_of hB hd) e), fun _ _ hv => hv⟩
      · rcases mset_cases hi with ⟨q1, q2⟩ | ⟨hne, gi⟩ <;> rcases mset_cases hj with ⟨q3, q4⟩ | ⟨hne2, gj⟩
        · rw [q1, q3]
        · exact absurd (hI.inj j id mj mb gj hm (hlivold j lj hne2) hlv (by rw [← e, q2])) (hlivne j lj)
        · exact absurd (hI.inj i id mi mb gi hm (hlivold i li hne) hlv (by rw [e, q4])) (hlivne i li)
        · exact hI.inj i j mi mj gi gj (hlivold i li hne) (hlivold j lj hne2) e
      · exact ⟨hmle, FLe.refl F, by rw [hw.hs]; exact Nat.le_refl _, hw.tape, hw.os, hw.out, fun b _ hb => hw.heap b (fun e => hb id mb hm e.symm), fun j mj hj => by
          rcases mset_cases hj with ⟨rfl, rfl⟩ | ⟨hne, hj⟩
          · exact .inr (.inr ⟨id, mb, hm, rfl⟩)
          · exact .inl hj, fun _ _ _ x => .inl x⟩
    · -- a new row
      have hrs : rowsOf H (.sl id off len) = some ((rs.drop off).take len) := by
        simp only [rowsOf, hg]
        rw [if_pos hle]
      obtain ⟨A2, cap2, he2, hrows2⟩ := rowsOf_sound hI hs hrs
      have hl' : ((rs.drop off).take len).length = len := by simp; omega
      obtain ⟨os, hol, hocell, hoone, hor, hoa⟩ := hrows2 ti.size (by
        simp only [allSz, List.all_eq_true, beq_iff_eq]
        intro r hr
        obtain ⟨i, hi⟩ := List.getElem?_of_mem hr
        exact hrl _ r (getElem_drop_take hi).1)
      rw [hl'] at he2 hol
      injection he2 with he3 he4 he5
      subst he3
      have hg' := hcapge (len + xs.length) scap
      have hrun := run_app_grow (P := P) (w := w) (ty := ty) (cap := cap) (base := some ⟨mb.cb, mb.base + off * mb.sz, none⟩) (sLen := len) (sCap := scap) (os := os) hu hu2 i1 i2 hul hucell hol hocell hroom hb i5
      generalize grownCap w (len + xs.length) scap el = G at hg' hrun
      have hK : Inv m F (H.set id .dead) w := by
        refine hI.next (MLe.refl m) (FLe.refl F) hI.fz (fun j mj hj => by simpa using hI.lt j mj hj) (fun j mj B hj hB => ?_) (fun i j mi mj hi hj li lj e => hI.inj i j mi mj hi hj (live_set li (.inr rfl)) (live_set lj (.inr rfl)) e)
        by_cases e : j = id
        · subst e
          rw [Heap.get_set_self _ (hI.lt _ _ hm).1] at hB
          cases hB
          exact .inr trivial
        · rw [Heap.get_set_ne _ e] at hB
          exact .inl ⟨hj, hB, rfl, fun _ _ hv => hv⟩
      have hsz2 : (os.toArray ++ us.toArray ++ Builtin.zeroCells z.cells (G - (len + xs.length))).size = G * ti.size := by
        simp only [Array.size_append, List.size_toArray, size_zeroCells, i4, hul, hol]
        rw [← Nat.add_mul, ← Nat.add_mul]
        congr 1
        omega
      obtain ⟨m', a1, a2, a3⟩ := newRowA (⟨hn.no, by simpa using hn.le⟩ : Free m (H.set id .dead) nid) hK (wd := w.drew) rfl rfl rfl rfl ti.size ((rs.drop off).take len ++ xs) G (os.toArray ++ us.toArray ++ Builtin.zeroCells z.cells (G - (len + xs.length))) el (by rw [hnlen]; exact hg') (by rw [hsz2]; exact Nat.le_refl _)
        hnl (fun i r j c hr hj => by
          have hjl := (List.getElem?_eq_some_iff.1 hj).1
          rw [hnl i r hr] at hjl
          rcases hnew i r hr with ⟨h1, h2⟩ | ⟨h1, h2⟩
          · have h3 : ((rs.drop off).take len)[i]? = some r := by
              rw [List.getElem?_take_of_lt h1, List.getElem?_drop]
              exact h2
            obtain ⟨b1, b2⟩ := hor.cell i r j c h3 hj
            have hlt := ij_lt h1 hjl
            refine ⟨b1, ?_⟩
            have := getD_app1 os.toArray us.toArray (Builtin.zeroCells z.cells (G - (len + xs.length))) (i * ti.size + j) (by simp; omega)
            rw [this]
            exact b2
          · obtain ⟨b1, b2⟩ := hur.cell _ r j c h2 hj
            have hil := (List.getElem?_eq_some_iff.1 h2).1
            have hlt := ij_lt hil hjl
            have he : (i - len) * ti.size + len * ti.size = i * ti.size := by rw [← Nat.add_mul]; congr 1; omega
            refine ⟨b1, ?_⟩
            have := getD_app2 os.toArray us.toArray (Builtin.zeroCells z.cells (G - (len + xs.length))) (i * ti.size + j) (by simp; omega) (by simp; omega)
            rw [List.size_toArray, hol, show i * ti.size + j - len * ti.size = (i - len) * ti.size + j by omega] at this
            rw [this]
            exact b2)
      rw [hnlen] at a1
      exact ⟨_, m', F, _, hrun, a1, a2, a3⟩
  · cases h
end
end Go.VI
