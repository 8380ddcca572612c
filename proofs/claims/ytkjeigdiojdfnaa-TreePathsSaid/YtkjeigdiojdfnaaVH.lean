/- VI, part H: stores, literals, slices. -/
import Derived.Test.YtkjeigdiojdfnaaVG
set_option linter.unusedVariables false
set_option linter.unusedSimpArgs false
namespace Go.VI

theorem cb_other {m : Mp} {F : Fz} {H : Heap} {w : World} (hI : Inv m F H w) {id j : Nat} {mb mj : MB} (hm : m id = some mb) (hj : m j = some mj) (hl : live H id) (lj : live H j) (hne : j ≠ id) : mj.cb ≠ mb.cb :=
  fun e => hne (hI.inj j id mj mb hj hm lj hl e)

/-- A live block's cells are written; the block with its new rows stands. -/
theorem Inv.write {m : Mp} {F : Fz} {H : Heap} {w w' : World} (h : Inv m F H w) {id : Nat} {mb : MB} (hm : m id = some mb) (hl : live H id) {o : Nat} {us : List Value} {vs vs' : Array Value} (hw : Wrote w w' mb.cb o us vs vs')
    (hn : ∀ o, F mb.cb o = none) (B' : Blk) (hB : BlkR m F w' mb B') : Inv m F (H.set id B') w' ∧ Ext m F w m F w' := by
  refine ⟨h.next (MLe.refl m) (FLe.refl F) (fun b o v hv => ?_) (fun j mj hj => ?_) (fun j mj B hj hB2 => ?_) (fun i j mi mj hi hj li lj e => ?_), ?_⟩
  · have : b ≠ mb.cb := fun e => by rw [e, hn o] at hv; cases hv
    rw [cell_of_heap (hw.heap b this)]
    exact h.fz b o v hv
  · have := h.lt j mj hj
    simp only [Heap.next_set]
    rw [hw.hs]
    exact this
  · by_cases e : j = id
    · subst e
      rw [Heap.get_set_self _ (h.lt _ _ hm).1] at hB2
      cases hB2
      rw [hm] at hj
      cases hj
      exact .inr hB
    · rw [Heap.get_set_ne _ e] at hB2
      by_cases hd : B = .dead
      · subst hd
        exact .inr trivial
      · exact .inl ⟨hj, hB2, hw.heap _ (cb_other h hm hj hl (live_of hB2 hd) e), fun _ _ hv => hv⟩
  · exact h.inj i j mi mj hi hj (live_set li (.inl hl)) (live_set lj (.inl hl)) e
  · exact ⟨MLe.refl m, FLe.refl F, by rw [hw.hs]; exact Nat.le_refl _, hw.tape, hw.os, hw.out, fun b _ hb => hw.heap b (fun e => hb id mb hm e.symm), fun _ _ x => .inl x, fun _ _ _ x => .inl x⟩

theorem getElem?_splice {α : Type} {l : List α} {off : Nat} {xs : List α} (h : off + xs.length ≤ l.length) (j : Nat) :
    (splice l off xs)[j]? = if off ≤ j ∧ j < off + xs.length then xs[j - off]? else l[j]? := by
  unfold splice
  by_cases h1 : j < off
  · rw [if_neg (by omega), List.getElem?_append_left (by simp; omega), List.getElem?_append_left (by simp; omega), List.getElem?_take_of_lt h1]
  · by_cases h2 : j < off + xs.length
    · rw [if_pos ⟨by omega, h2⟩, List.getElem?_append_left (by simp; omega), List.getElem?_append_right (by simp; omega)]
      congr 1
      simp
      omega
    · rw [if_neg (by omega), List.getElem?_append_right (by simp; omega), List.getElem?_drop]
      congr 1
      simp
      omega
theorem length_splice {α : Type} {l : List α} {off : Nat} {xs : List α} (h : off + xs.length ≤ l.length) : (splice l off xs).length = l.length := by
  simp [splice]
  omega

/-- A store of a value's cells, as the machine does it. -/
theorem run_storeVar {P : Program} {m : Mp} {F : Fz} {w : World} {t : TypeId} {ti : TypeInfo} (hi : P.info? t = some ti) {b o : Nat} {vs : Array Value} (hc : CB w b vs) {x : AV} {v : Value} (hv : VR m F x v) (h1 : oneAll x.cells = true)
    (hn : x.cells.length = ti.size) (hfit : o + x.cells.length ≤ vs.size) :
    ∃ w' vs', (storeVar t ⟨b, o, none⟩ v).run P w = .ok () w' ∧ Wrote w w' b o v.cells.toList vs vs' := by
  obtain ⟨hl, hcs⟩ := vr_cells hv h1
  obtain ⟨w', vs', hr, hw⟩ := run_stores P b o v.cells.toList 0 w vs hc (by simp; omega) (fun u hu => by
    obtain ⟨i, hi⟩ := List.getElem?_of_mem hu
    have hlt : i < x.cells.length := by have := (List.getElem?_eq_some_iff.1 hi).1; simp at this; omega
    obtain ⟨a, b⟩ := hcs i _ (List.getElem?_eq_getElem hlt)
    rw [getD_of (by simpa using hi)] at b
    exact oneCell_of b a)
  refine ⟨w', vs', ?_, by simpa using hw⟩
  simp only [storeVar, Sem.run_bind, run_sizeOf' hi, Result.andThen_ok]
  rw [if_neg (by simp; omega)]
  exact hr

theorem frzCells_sound {m : Mp} {F : Fz} {H H' : Heap} {w : World} (hI : Inv m F H w) {x : AV} {v : Value} (hv : VR m F x v) (h1 : oneAll x.cells = true) {cs : List AV} (h : frzCells H x.cells = some (cs, H')) :
    ∃ F', FrzOk m F H w F' H' ∧ cs.length = x.cells.length ∧ ∀ (i : Nat) (c : AV), cs[i]? = some c → c.one = true ∧ VF F' c (v.cells.getD i undef) := by
  obtain ⟨hl, hcs⟩ := vr_cells hv h1
  obtain ⟨F', ho, hr⟩ := (frz_sound FZ).2 H H' F x.cells cs (fun i => v.cells.getD i undef) h hI (fun i c hc => (hcs i c hc).2)
  obtain ⟨hl2, hq⟩ := frzL_one h
  refine ⟨F', ho, hl2, fun i c hc => ⟨?_, hr i c hc⟩⟩
  have hlt : i < x.cells.length := by rw [← hl2]; exact (List.getElem?_eq_some_iff.1 hc).1
  exact hq i _ c (List.getElem?_eq_getElem hlt) hc (hcs i _ (List.getElem?_eq_getElem hlt)).1

theorem FrzOk.ext {m : Mp} {F F' : Fz} {H H' : Heap} {w : World} (h : FrzOk m F H w F' H') : Ext m F w m F' w := h.fr.ext w

theorem storeA_sound {P : Program} {m : Mp} {F : Fz} {H H' : Heap} {w : World} (hI : Inv m F H w) {t : TypeId} {ti : TypeInfo} (hi : P.info? t = some ti) {p x : AV} {pv v : Value} (hp : VR m F p pv) (hv : VR m F x v)
    (h : storeA H p ti.size x = some H') : ∃ ad F' w', pv = .pointer (some ad) ∧ (storeVar t ad v).run P w = .ok () w' ∧ Inv m F' H' w' ∧ Ext m F w m F' w' := by
  unfold storeA at h
  split at h
  rotate_left
  · cases h
  rename_i hh
  obtain ⟨hn, h1⟩ := hh
  split at h
  rotate_left
  · cases h
  rename_i id i off
  obtain ⟨mb, hm, rfl⟩ := vr_ptr hp
  split at h
  · rename_i cs hg
    split at h
    rotate_left
    · cases h
    rename_i hh
    obtain ⟨rfl, hle⟩ := hh
    cases h
    obtain ⟨vs, hcb, hfit, hcs, hF, _⟩ := hI.blk id mb _ hm hg
    obtain ⟨hl, hcx⟩ := vr_cells hv h1
    obtain ⟨w', vs', hr, hw⟩ := run_storeVar (P := P) (o := mb.base + 0 * mb.sz + off) hi hcb hv h1 hn (by omega)
    simp only [Nat.zero_mul, Nat.add_zero] at hr hw ⊢
    have hlen : v.cells.toList.length = x.cells.length := by simpa using hl
    have key : BlkR m F w' mb (.box false (splice cs off x.cells)) := by
      refine ⟨vs', hw.cb, by rw [length_splice (by omega), hw.size]; exact hfit, fun j c hj => ?_, hF, by simp⟩
      rw [getElem?_splice (by omega)] at hj
      split at hj
      · rename_i hr2
        obtain ⟨a, b⟩ := hcx _ c hj
        refine ⟨a, ?_⟩
        have := hw.at_ (j - off) (by omega)
        rw [show mb.base + off + (j - off) = mb.base + j by omega] at this
        rw [this]
        simpa [List.getD_eq_getElem?_getD, Array.getD_eq_getD_getElem?] using b
      · rename_i hr2
        obtain ⟨a, b⟩ := hcs j c hj
        rw [hw.ne _ (by omega)]
        exact ⟨a, b⟩
    obtain ⟨a, b⟩ := hI.write hm (live_of hg (by simp)) hw (hF rfl) _ key
    exact ⟨_, F, w', rfl, hr, a, b⟩
  · rename_i sz0 rs0 hg0
    simp only [Option.bind_eq_some_iff] at h
    obtain ⟨⟨cs, H1⟩, hc1, h⟩ := h
    obtain ⟨F1, o1, hl1, hcs1⟩ := frzCells_sound hI hv h1 hc1
    simp only at h
    split at h
    rotate_left
    · cases h
    rename_i sz rs hg
    split at h
    rotate_left
    · cases h
    rename_i r hr0
    split at h
    rotate_left
    · cases h
    rename_i hle
    cases h
    obtain ⟨vs, hcb, hsz, hcn, hfit, hrl, hrc, hF, _⟩ := o1.inv.blk id mb _ hm hg
    subst hsz
    have hilt := (List.getElem?_eq_some_iff.1 hr0).1
    have hrow : (i + 1) * mb.sz ≤ mb.cn * mb.sz := Nat.mul_le_mul_right _ (by omega)
    rw [Nat.add_mul, Nat.one_mul] at hrow
    have hr2 := hrl i r hr0
    have hv1 : VR m F1 x v := hv.mono (MLe.refl m) o1.fr.le
    obtain ⟨hl, _⟩ := vr_cells hv h1
    obtain ⟨w', vs', hr, hw⟩ := run_storeVar (P := P) (o := mb.base + i * mb.sz + off) hi hcb hv1 h1 hn (by omega)
    have hlen : v.cells.toList.length = x.cells.length := by simpa using hl
    have key : BlkR m F1 w' mb (.row false mb.sz (rs.set i (splice r off cs))) := by
     refine ⟨vs', hw.cb, rfl, by simpa using hcn, by rw [hw.size]; exact hfit, fun k q hq => ?_, fun k q j c hq hj => ?_, hF, by simp⟩
     · rw [List.getElem?_set] at hq
       split at hq
       · simp only [Option.some.injEq] at hq
         subst hq
         rw [length_splice (by omega)]
         exact hr2
       · exact hrl k q hq
     · rw [List.getElem?_set] at hq
       by_cases hk : i = k
       · subst hk
         rw [if_pos rfl, if_pos hilt] at hq
         cases hq
         rw [getElem?_splice (by omega)] at hj
         split at hj
         · rename_i hr3
           obtain ⟨a, b⟩ := hcs1 _ c hj
           refine ⟨a, ?_⟩
           have := hw.at_ (j - off) (by omega)
           rw [show mb.base + i * mb.sz + off + (j - off) = mb.base + i * mb.sz + j by omega] at this
           rw [this]
           simpa [List.getD_eq_getElem?_getD, Array.getD_eq_getD_getElem?] using b
         · rename_i hr3
           obtain ⟨a, b⟩ := hrc i r j c hr0 hj
           have hjlt := (List.getElem?_eq_some_iff.1 hj).1
           rw [hw.ne _ (by omega)]
           exact ⟨a, b⟩
       · rw [if_neg hk] at hq
         obtain ⟨a, b⟩ := hrc k q j c hq hj
         have hjlt := (List.getElem?_eq_some_iff.1 hj).1
         rw [hrl k q hq] at hjlt
         rw [hw.ne _ ?_]
         · exact ⟨a, b⟩
         · rcases Nat.lt_or_ge k i with h3 | h3
           · left
             have : (k + 1) * mb.sz ≤ i * mb.sz := Nat.mul_le_mul_right _ h3
             rw [Nat.add_mul, Nat.one_mul] at this
             omega
           · right
             have : (i + 1) * mb.sz ≤ k * mb.sz := Nat.mul_le_mul_right _ (by omega)
             rw [Nat.add_mul, Nat.one_mul] at this
             omega
    obtain ⟨a, b⟩ := o1.inv.write hm (live_of hg (by simp)) hw (hF rfl) _ key
    exact ⟨_, F1, w', rfl, hr, a, o1.ext.trans b⟩
  · cases h

theorem sim_store {P : Program} {m : Mp} {F : Fz} {H H' : Heap} {w : World} {e : Env} {a : Act} (hs : Sit m F H w e a) {co : Oper} {t : TypeId} {p x : Operand} (ho : co.op = .store t p x) {i : Nat × Nat × List AV} (hi : infoA P t = some i)
    (h : storeA H (ev e p) i.1 (ev e x) = some H') {al : Option Nat} : OpOk P co a al m F w .bad H' := by
  obtain ⟨ti, z, h1, h2, rfl, h4, h5, _⟩ := infoA_some hi
  obtain ⟨ad, F', w', he, hr, hI, hE⟩ := storeA_sound hs.inv h1 (hs.ev p) (hs.ev x) h
  refine ⟨_, undef, m, F', w', ?_, .inr ⟨rfl, rfl⟩, .bad _, hI, hE, Dom.refl al m⟩
  simp [execOp, ho, Instr.storeAt, he, Instr.sureAddr, hr]
end Go.VI
