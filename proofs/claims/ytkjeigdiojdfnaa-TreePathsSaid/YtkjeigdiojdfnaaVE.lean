/- VI, part E: freezing. -/
import Derived.Test.YtkjeigdiojdfnaaVD
set_option linter.unusedVariables false
set_option linter.unusedSimpArgs false
namespace Go.VI

/-- Frozen cells come to be, in numbered blocks alone. -/
structure FR (m : Mp) (F F' : Fz) : Prop where
  le : FLe F F'
  new : ∀ b o x, F' b o = some x → F b o = some x ∨ ∃ id mb, m id = some mb ∧ mb.cb = b
theorem FR.refl (m : Mp) (F : Fz) : FR m F F := ⟨FLe.refl F, fun _ _ _ h => .inl h⟩
theorem FR.trans {m : Mp} {F F' F'' : Fz} (h : FR m F F') (h' : FR m F' F'') : FR m F F'' :=
  ⟨h.le.trans h'.le, fun b o x hx => by
    rcases h'.new b o x hx with h1 | h1
    · exact h.new b o x h1
    · exact .inr h1⟩
theorem FR.ext {m : Mp} {F F' : Fz} (h : FR m F F') (w : World) : Ext m F w m F' w :=
  ⟨MLe.refl m, h.le, Nat.le_refl _, rfl, rfl, rfl, fun _ _ _ => rfl, fun _ _ x => .inl x, fun b o v hv => by
    rcases h.new b o v hv with h1 | h1
    · exact .inl h1
    · exact .inr (.inr h1)⟩

def fput (F : Fz) (cb lo hi : Nat) (vs : Array Value) : Fz := fun b o => if b = cb ∧ lo ≤ o ∧ o < hi then some (vs.getD o undef) else F b o

theorem Inv.freeze {m : Mp} {F : Fz} {H : Heap} {w : World} (h : Inv m F H w) {id : Nat} {mb : MB} (hm : m id = some mb) (hl : live H id) {vs : Array Value} (hc : CB w mb.cb vs) (lo hi : Nat) (hi' : hi ≤ vs.size)
    (hn : ∀ o, F mb.cb o = none) (B' : Blk) (hB : BlkR m (fput F mb.cb lo hi vs) w mb B') :
    FR m F (fput F mb.cb lo hi vs) ∧ Inv m (fput F mb.cb lo hi vs) (H.set id B') w := by
  have hfr : FR m F (fput F mb.cb lo hi vs) := by
    refine ⟨fun b o v hv => ?_, fun b o x hx => ?_⟩
    · unfold fput
      split
      · rename_i hh
        rw [hh.1, hn o] at hv
        cases hv
      · exact hv
    · unfold fput at hx
      split at hx
      · rename_i hh
        exact .inr ⟨id, mb, hm, hh.1.symm⟩
      · exact .inl hx
  refine ⟨hfr, h.next (MLe.refl m) hfr.le (fun b o v hv => ?_) (fun j mj hj => ?_) (fun j mj B hj hB2 => ?_) (fun i j mi mj hi hj li lj e => ?_)⟩
  · unfold fput at hv
    split at hv
    · rename_i hh
      obtain ⟨rfl, h1, h2⟩ := hh
      cases hv
      exact hc.cell o (by omega)
    · exact h.fz b o v hv
  · simpa using h.lt j mj hj
  · by_cases e : j = id
    · subst e
      rw [Heap.get_set_self _ (h.lt _ _ hm).1] at hB2
      cases hB2
      rw [hm] at hj
      cases hj
      exact .inr hB
    · rw [Heap.get_set_ne _ e] at hB2
      by_cases hd : B = .dead
      · subst hd
        exact .inr trivial
      · refine .inl ⟨hj, hB2, rfl, fun o v hv => ?_⟩
        unfold fput at hv
        split at hv
        · rename_i hh
          exact absurd (h.inj j id mj mb hj hm (live_of hB2 hd) hl hh.1) e
        · exact hv
  · exact h.inj i j mi mj hi hj (live_set li (.inl hl)) (live_set lj (.inl hl)) e

theorem vr_sc {m : Mp} {F : Fz} {u v : Value} (h : VR m F (.sc u) v) : v = u ∧ isSc u = true := by
  cases h with
  | fz h => cases h with
    | sc h => exact ⟨rfl, h⟩

theorem vf_agg {F : Fz} {cs : List AV} {v : Value} (h : VF F (.agg cs) v) : ∃ vs, v = .agg vs ∧ vs.size = cs.length ∧ (∀ (i : Nat) (c : AV), cs[i]? = some c → c.one = true) ∧ ∀ (i : Nat) (c : AV), cs[i]? = some c → VF F c (vs.getD i undef) := by
  cases h with
  | agg hl h1 h => exact ⟨_, rfl, hl, h1, h⟩
theorem vr_agg {m : Mp} {F : Fz} {cs : List AV} {v : Value} (h : VR m F (.agg cs) v) : ∃ vs, v = .agg vs ∧ vs.size = cs.length ∧ (∀ (i : Nat) (c : AV), cs[i]? = some c → c.one = true) ∧ ∀ (i : Nat) (c : AV), cs[i]? = some c → VR m F c (vs.getD i undef) := by
  cases h with
  | fz h =>
    obtain ⟨vs, e, a, b, c⟩ := vf_agg h
    exact ⟨vs, e, a, b, fun i x hx => .fz (c i x hx)⟩
  | agg hl h1 h => exact ⟨_, rfl, hl, h1, h⟩
theorem vr_tup {m : Mp} {F : Fz} {cs : List AV} {v : Value} (h : VR m F (.tup cs) v) : ∃ vs, v = .tuple vs ∧ vs.size = cs.length ∧ ∀ (i : Nat) (c : AV), cs[i]? = some c → VR m F c (vs.getD i undef) := by
  cases h with
  | fz h => cases h with
    | tup hl h => exact ⟨_, rfl, hl, fun i c hc => .fz (h i c hc)⟩
  | tup hl h => exact ⟨_, rfl, hl, h⟩
theorem vr_fn {m : Mp} {F : Fz} {f : Fn} {first caps : List AV} {v : Value} (h : VR m F (.fn f first caps) v) : ∃ vf vc, v = .func f vf vc ∧ vf.size = first.length ∧ vc.size = caps.length ∧
    (∀ (i : Nat) (c : AV), first[i]? = some c → VR m F c (vf.getD i undef)) ∧ ∀ (i : Nat) (c : AV), caps[i]? = some c → VR m F c (vc.getD i undef) := by
  cases h with
  | fz h => cases h with
    | fn a b c d => exact ⟨_, _, rfl, a, b, fun i x hx => .fz (c i x hx), fun i x hx => .fz (d i x hx)⟩
  | fn a b c d => exact ⟨_, _, rfl, a, b, c, d⟩
theorem vr_sl {m : Mp} {F : Fz} {id off len : Nat} {v : Value} (h : VR m F (.sl id off len) v) : ∃ mb cap, m id = some mb ∧ v = .slice (some ⟨mb.cb, mb.base + off * mb.sz, none⟩) len cap ∧ off + cap ≤ mb.cn ∧ len ≤ cap := by
  cases h with
  | fz h => cases h
  | sl a b c => exact ⟨_, _, a, rfl, b, c⟩
theorem vr_ptr {m : Mp} {F : Fz} {id i off : Nat} {v : Value} (h : VR m F (.ptr id i off) v) : ∃ mb, m id = some mb ∧ v = .pointer (some ⟨mb.cb, mb.base + i * mb.sz + off, none⟩) := by
  cases h with
  | fz h => cases h
  | ptr a => exact ⟨_, a, rfl⟩
theorem vr_mp {m : Mp} {F : Fz} {id : Nat} {v : Value} (h : VR m F (.mp id) v) : ∃ mb, m id = some mb ∧ v = .map (some mb.cb) := by
  cases h with
  | fz h => cases h
  | mp a => exact ⟨_, a, rfl⟩
theorem vr_lst {m : Mp} {F : Fz} {rows : List (List AV)} {v : Value} (h : VR m F (.lst rows) v) : VF F (.lst rows) v := by
  cases h with
  | fz h => exact h
theorem vr_pim {m : Mp} {F : Fz} {rows : List (List AV)} {i off : Nat} {v : Value} (h : VR m F (.pim rows i off) v) : VF F (.pim rows i off) v := by
  cases h with
  | fz h => exact h

theorem frz_one {n : Nat} {H H' : Heap} {v v' : AV} (h : frz n H v = some (v', H')) (h1 : v.one = true) : v'.one = true := by
  cases n with
  | zero => simp [frz] at h
  | succ n =>
    cases v with
    | bad => simp [AV.one] at h1
    | agg => simp [AV.one] at h1
    | tup => simp [AV.one] at h1
    | sc u =>
      simp only [frz] at h
      split at h <;> (cases h; rfl)
    | lst => simp only [frz] at h; cases h; rfl
    | pim => simp only [frz] at h; cases h; rfl
    | mp => simp [frz] at h
    | fn f a b =>
      simp only [frz, Option.bind_eq_bind, Option.bind_eq_some_iff] at h
      obtain ⟨⟨x, H1⟩, _, ⟨y, H2⟩, _, h⟩ := h
      cases h
      rfl
    | sl id off len =>
      simp only [frz] at h
      split at h
      · split at h <;> simp at h
        rw [← h.1]
        rfl
      · simp at h
    | ptr id i off =>
      simp only [frz] at h
      split at h
      · simp at h
        rw [← h.1]
        rfl
      · split at h <;> simp at h
        rw [← h.1]
        rfl
      · split at h
        · simp only [Option.bind_eq_bind, Option.bind_eq_some_iff] at h
          obtain ⟨⟨x, H1⟩, _, h⟩ := h
          split at h
          · cases h
            rfl
          · cases h
        · simp at h
      · simp at h
theorem frzL_one {n : Nat} : ∀ {H H' : Heap} {cs cs' : List AV}, frz.frzL n H cs = some (cs', H') → cs'.length = cs.length ∧ ∀ (i : Nat) (c c' : AV), cs[i]? = some c → cs'[i]? = some c' → c.one = true → c'.one = true := by
  induction n with
  | zero => intro H H' cs cs' h; simp [frz.frzL] at h
  | succ n ih =>
    intro H H' cs cs' h
    cases cs with
    | nil =>
      simp [frz.frzL] at h
      obtain ⟨rfl, _⟩ := h
      simp
    | cons c cs =>
      simp only [frz.frzL, Option.bind_eq_bind, Option.bind_eq_some_iff] at h
      obtain ⟨⟨x, H1⟩, hx, ⟨y, H2⟩, hy, h⟩ := h
      cases h
      obtain ⟨h1, h2⟩ := ih hy
      refine ⟨by simp [h1], fun i a a' ha ha' hone => ?_⟩
      cases i with
      | zero => simp at ha ha'; subst ha; subst ha'; exact frz_one hx hone
      | succ i => exact h2 i a a' (by simpa using ha) (by simpa using ha') hone

structure FrzOk (m : Mp) (F : Fz) (H : Heap) (w : World) (F' : Fz) (H' : Heap) : Prop where
  fr : FR m F F'
  inv : Inv m F' H' w
  lv : ∀ j, live H' j → live H j
  nx : H'.next = H.next
theorem FrzOk.refl {m : Mp} {F : Fz} {H : Heap} {w : World} (h : Inv m F H w) : FrzOk m F H w F H := ⟨FR.refl m F, h, fun _ h => h, rfl⟩
theorem FrzOk.trans {m : Mp} {F F' F'' : Fz} {H H' H'' : Heap} {w : World} (h : FrzOk m F H w F' H') (h' : FrzOk m F' H' w F'' H'') : FrzOk m F H w F'' H'' :=
  ⟨h.fr.trans h'.fr, h'.inv, fun j hj => h.lv j (h'.lv j hj), h'.nx.trans h.nx⟩

theorem getElem_drop_take {α : Type} {l : List α} {a n i : Nat} {x : α} (h : ((l.drop a).take n)[i]? = some x) : l[a + i]? = some x ∧ i < n := by
  rw [List.getElem?_take] at h
  split at h
  · rename_i hi
    rw [List.getElem?_drop] at h
    exact ⟨h, hi⟩
  · cases h

theorem frz_sound {m : Mp} {w : World} : ∀ (n : Nat),
    (∀ (H H' : Heap) (F : Fz) (v v' : AV) (u : Value), frz n H v = some (v', H') → Inv m F H w → VR m F v u → ∃ F', FrzOk m F H w F' H' ∧ VF F' v' u) ∧
    (∀ (H H' : Heap) (F : Fz) (cs cs' : List AV) (us : Nat → Value), frz.frzL n H cs = some (cs', H') → Inv m F H w → (∀ (i : Nat) (c : AV), cs[i]? = some c → VR m F c (us i)) →
      ∃ F', FrzOk m F H w F' H' ∧ ∀ (i : Nat) (c : AV), cs'[i]? = some c → VF F' c (us i)) := by
  intro n
  induction n with
  | zero => exact ⟨fun H H' F v v' u h => by simp [frz] at h, fun H H' F cs cs' us h => by simp [frz.frzL] at h⟩
  | succ n ih =>
    refine ⟨fun H H' F v v' u h hI hv => ?_, fun H H' F cs cs' us h hI hv => ?_⟩
    · cases v with
      | bad => simp [frz] at h
      | mp => simp [frz] at h
      | sc s =>
        obtain ⟨rfl, hs⟩ := vr_sc hv
        simp only [frz] at h
        split at h
        · rename_i a b c
          cases h
          refine ⟨F, FrzOk.refl hI, ?_⟩
          have hq : b = 0 := by
            cases a <;> simp [isSc] at hs
            rcases b with _ | b <;> rcases c with _ | c <;> simp_all
          subst hq
          exact VF.lst (rows := []) (sz := 0) (b := 0) (o := 0) (fun _ _ => undef) (Nat.zero_le _) (fun h => absurd rfl h) (by simp) (by simp) (by simp) (by simp)
        · cases h
          exact ⟨F, FrzOk.refl hI, .sc hs⟩
      | lst rows =>
        simp only [frz] at h
        cases h
        exact ⟨F, FrzOk.refl hI, vr_lst hv⟩
      | pim rows i off =>
        simp only [frz] at h
        cases h
        exact ⟨F, FrzOk.refl hI, vr_pim hv⟩
      | agg cs =>
        simp only [frz, Option.map_eq_some_iff] at h
        obtain ⟨⟨cs', H1⟩, h1, h⟩ := h
        cases h
        obtain ⟨vs, rfl, hsz, hone, hvs⟩ := vr_agg hv
        obtain ⟨F', ho, hr⟩ := ih.2 H _ F cs cs' (fun i => vs.getD i undef) h1 hI hvs
        obtain ⟨hl, hq⟩ := frzL_one h1
        refine ⟨F', ho, .agg (hsz.trans hl.symm) (fun i c hc => ?_) hr⟩
        have hlt : i < cs.length := by rw [← hl]; exact (List.getElem?_eq_some_iff.1 hc).1
        exact hq i _ c (List.getElem?_eq_getElem hlt) hc (hone i _ (List.getElem?_eq_getElem hlt))
      | tup cs =>
        simp only [frz, Option.map_eq_some_iff] at h
        obtain ⟨⟨cs', H1⟩, h1, h⟩ := h
        cases h
        obtain ⟨vs, rfl, hsz, hvs⟩ := vr_tup hv
        obtain ⟨F', ho, hr⟩ := ih.2 H _ F cs cs' (fun i => vs.getD i undef) h1 hI hvs
        exact ⟨F', ho, .tup (hsz.trans (frzL_one h1).1.symm) hr⟩
      | fn f first caps =>
        simp only [frz, Option.bind_eq_bind, Option.bind_eq_some_iff] at h
        obtain ⟨⟨a, H1⟩, ha, ⟨b, H2⟩, hb, h⟩ := h
        cases h
        obtain ⟨vf, vc, rfl, s1, s2, h1, h2⟩ := vr_fn hv
        obtain ⟨F1, o1, r1⟩ := ih.2 H H1 F first a (fun i => vf.getD i undef) ha hI h1
        obtain ⟨F2, o2, r2⟩ := ih.2 H1 _ F1 caps b (fun i => vc.getD i undef) hb o1.inv (fun i c hc => (h2 i c hc).mono (MLe.refl m) o1.fr.le)
        exact ⟨F2, o1.trans o2, .fn (s1.trans (frzL_one ha).1.symm) (s2.trans (frzL_one hb).1.symm) (fun i c hc => (r1 i c hc).mono o2.fr.le) r2⟩
      | sl id off len =>
        obtain ⟨mb, cap, hm, rfl, hcap, hlen⟩ := vr_sl hv
        simp only [frz] at h
        split at h
        · rename_i fz sz rs hg
          split at h
          · rename_i hle
            have hB := hI.blk id mb _ hm hg
            cases fz with
            | true =>
              simp at h
              obtain ⟨rfl, rfl⟩ := h
              obtain ⟨vs, hcb, hsz, hcn, hfit, hrl, hrc, _, hF⟩ := hB
              refine ⟨F, FrzOk.refl hI, ?_⟩
              have hlen' : ((rs.drop off).take len).length = len := by simp; omega
              have : VF F (.lst ((rs.drop off).take len)) (.slice (some ⟨mb.cb, mb.base + off * mb.sz, none⟩) ((rs.drop off).take len).length cap) := by
                subst hsz
                refine .lst (sz := mb.sz) (b := mb.cb) (o := mb.base + off * mb.sz) (fun i j => vs.getD (mb.base + off * mb.sz + i * mb.sz + j) undef) (by rw [hlen']; exact hlen) (fun _ => rfl)
                  (fun i r hr => hrl _ r (getElem_drop_take hr).1) (fun i r j c hr hc => (hrc _ r j c (getElem_drop_take hr).1 hc).1) (fun i r j c hr hc => ?_) (fun i r j c hr hc => ?_)
                · have := hF rfl _ r j c (getElem_drop_take hr).1 hc
                  rw [Nat.add_mul, ← Nat.add_assoc] at this
                  exact this
                · have := (hrc _ r j c (getElem_drop_take hr).1 hc).2
                  rw [Nat.add_mul, ← Nat.add_assoc] at this
                  exact this
              rw [hlen'] at this
              exact this
            | false =>
              simp at h
              obtain ⟨rfl, rfl⟩ := h
              obtain ⟨vs, hcb, hsz, hcn, hfit, hrl, hrc, hF, _⟩ := hB
              subst hsz
              have hrange : ∀ i r j c, rs[i]? = some r → r[j]? = some c → i * mb.sz + j < rs.length * mb.sz := by
                intro i r j c hr hc
                have h1 := (List.getElem?_eq_some_iff.1 hr).1
                have h2 := (List.getElem?_eq_some_iff.1 hc).1
                rw [hrl i r hr] at h2
                calc i * mb.sz + j < i * mb.sz + mb.sz := by omega
                  _ = (i + 1) * mb.sz := by rw [Nat.add_mul, Nat.one_mul]
                  _ ≤ rs.length * mb.sz := Nat.mul_le_mul_right _ h1
              have hfit2 : mb.base + rs.length * mb.sz ≤ vs.size := Nat.le_trans (Nat.add_le_add_left (Nat.mul_le_mul_right _ hcn) _) hfit
              have hin : ∀ i r j c, rs[i]? = some r → r[j]? = some c → fput F mb.cb mb.base (mb.base + rs.length * mb.sz) vs mb.cb (mb.base + i * mb.sz + j) = some (vs.getD (mb.base + i * mb.sz + j) undef) := by
                intro i r j c hr hc
                have := hrange i r j c hr hc
                unfold fput
                rw [if_pos ⟨rfl, by omega, by omega⟩]
              have hfle : FLe F (fput F mb.cb mb.base (mb.base + rs.length * mb.sz) vs) := by
                intro b o v hv
                unfold fput
                split
                · rename_i hh
                  rw [hh.1, hF rfl o] at hv
                  cases hv
                · exact hv
              obtain ⟨hfr, hI'⟩ := hI.freeze hm (live_of hg (by simp)) hcb mb.base (mb.base + rs.length * mb.sz) hfit2 (hF rfl) (.row true mb.sz rs)
                ⟨vs, hcb, rfl, hcn, hfit, hrl, fun i r j c hr hc => ⟨(hrc i r j c hr hc).1, (hrc i r j c hr hc).2.mono hfle⟩, by simp, fun _ => hin⟩
              refine ⟨_, ⟨hfr, hI', fun j hj => live_set hj (.inl (live_of hg (by simp))), by simp⟩, ?_⟩
              have hlen' : ((rs.drop off).take len).length = len := by simp; omega
              have : VF (fput F mb.cb mb.base (mb.base + rs.length * mb.sz) vs) (.lst ((rs.drop off).take len)) (.slice (some ⟨mb.cb, mb.base + off * mb.sz, none⟩) ((rs.drop off).take len).length cap) := by
                refine .lst (sz := mb.sz) (b := mb.cb) (o := mb.base + off * mb.sz) (fun i j => vs.getD (mb.base + off * mb.sz + i * mb.sz + j) undef) (by rw [hlen']; exact hlen) (fun _ => rfl)
                  (fun i r hr => hrl _ r (getElem_drop_take hr).1) (fun i r j c hr hc => (hrc _ r j c (getElem_drop_take hr).1 hc).1) (fun i r j c hr hc => ?_) (fun i r j c hr hc => ?_)
                · have := hin _ r j c (getElem_drop_take hr).1 hc
                  rw [Nat.add_mul, ← Nat.add_assoc] at this
                  exact this
                · have := (hrc _ r j c (getElem_drop_take hr).1 hc).2.mono hfle
                  rw [Nat.add_mul, ← Nat.add_assoc] at this
                  exact this
              rw [hlen'] at this
              exact this
          · simp at h
        · simp at h
      | ptr id i off =>
        obtain ⟨mb, hm, rfl⟩ := vr_ptr hv
        simp only [frz] at h
        split at h
        · rename_i fz sz rs hg
          have hB := hI.blk id mb _ hm hg
          cases fz with
          | true =>
            simp at h
            obtain ⟨rfl, rfl⟩ := h
            obtain ⟨vs, hcb, hsz, hcn, hfit, hrl, hrc, _, hF⟩ := hB
            subst hsz
            exact ⟨F, FrzOk.refl hI, .pim (sz := mb.sz) (b := mb.cb) (o := mb.base) (fun i j => vs.getD (mb.base + i * mb.sz + j) undef) hrl (fun i r j c hr hc => (hrc i r j c hr hc).1) (hF rfl) (fun i r j c hr hc => (hrc i r j c hr hc).2)⟩
          | false =>
            simp at h
            obtain ⟨rfl, rfl⟩ := h
            obtain ⟨vs, hcb, hsz, hcn, hfit, hrl, hrc, hF, _⟩ := hB
            subst hsz
            have hrange : ∀ i r j c, rs[i]? = some r → r[j]? = some c → i * mb.sz + j < rs.length * mb.sz := by
              intro i r j c hr hc
              have h1 := (List.getElem?_eq_some_iff.1 hr).1
              have h2 := (List.getElem?_eq_some_iff.1 hc).1
              rw [hrl i r hr] at h2
              calc i * mb.sz + j < i * mb.sz + mb.sz := by omega
                _ = (i + 1) * mb.sz := by rw [Nat.add_mul, Nat.one_mul]
                _ ≤ rs.length * mb.sz := Nat.mul_le_mul_right _ h1
            have hfit2 : mb.base + rs.length * mb.sz ≤ vs.size := Nat.le_trans (Nat.add_le_add_left (Nat.mul_le_mul_right _ hcn) _) hfit
            have hin : ∀ i r j c, rs[i]? = some r → r[j]? = some c → fput F mb.cb mb.base (mb.base + rs.length * mb.sz) vs mb.cb (mb.base + i * mb.sz + j) = some (vs.getD (mb.base + i * mb.sz + j) undef) := by
              intro i r j c hr hc
              have := hrange i r j c hr hc
              unfold fput
              rw [if_pos ⟨rfl, by omega, by omega⟩]
            have hfle : FLe F (fput F mb.cb mb.base (mb.base + rs.length * mb.sz) vs) := by
              intro b o v hv
              unfold fput
              split
              · rename_i hh
                rw [hh.1, hF rfl o] at hv
                cases hv
              · exact hv
            obtain ⟨hfr, hI'⟩ := hI.freeze hm (live_of hg (by simp)) hcb mb.base (mb.base + rs.length * mb.sz) hfit2 (hF rfl) (.row true mb.sz rs)
              ⟨vs, hcb, rfl, hcn, hfit, hrl, fun i r j c hr hc => ⟨(hrc i r j c hr hc).1, (hrc i r j c hr hc).2.mono hfle⟩, by simp, fun _ => hin⟩
            exact ⟨_, ⟨hfr, hI', fun j hj => live_set hj (.inl (live_of hg (by simp))), by simp⟩,
              .pim (sz := mb.sz) (b := mb.cb) (o := mb.base) (fun i j => vs.getD (mb.base + i * mb.sz + j) undef) hrl (fun i r j c hr hc => (hrc i r j c hr hc).1) hin (fun i r j c hr hc => (hrc i r j c hr hc).2.mono hfle)⟩
        · rename_i cs hg
          split at h
          · rename_i hi0
            subst hi0
            simp at h
            obtain ⟨rfl, rfl⟩ := h
            obtain ⟨vs, hcb, hfit, hcs, _, hF⟩ := hI.blk id mb _ hm hg
            refine ⟨F, FrzOk.refl hI, ?_⟩
            have : VF F (.pim [cs] 0 off) (.pointer (some ⟨mb.cb, mb.base + 0 * cs.length + off, none⟩)) := by
              refine .pim (sz := cs.length) (b := mb.cb) (o := mb.base) (fun i j => vs.getD (mb.base + j) undef) (fun i r hr => ?_) (fun i r j c hr hc => ?_) (fun i r j c hr hc => ?_) (fun i r j c hr hc => ?_)
              all_goals
                obtain ⟨rfl, rfl⟩ : i = 0 ∧ r = cs := by
                  cases i with
                  | zero => simp at hr; exact ⟨rfl, hr.symm⟩
                  | succ i => simp at hr
              · rfl
              · exact (hcs j c hc).1
              · simp only [Nat.zero_mul, Nat.add_zero]; exact (hF rfl j c hc).2
              · exact (hF rfl j c hc).1
            simpa using this
          · simp at h
        · rename_i cs hg
          split at h
          · rename_i hi0
            subst hi0
            simp only [Option.bind_eq_bind, Option.bind_eq_some_iff] at h
            obtain ⟨⟨cs', H1⟩, h1, h⟩ := h
            split at h
            · rename_i cs1 hg1
              cases h
              obtain ⟨vs, hcb, hfit, hcs, _, _⟩ := hI.blk id mb _ hm hg
              obtain ⟨F1, o1, r1⟩ := ih.2 H H1 F cs cs' (fun j => vs.getD (mb.base + j) undef) h1 hI (fun j c hc => (hcs j c hc).2)
              obtain ⟨hl, hq⟩ := frzL_one h1
              have hone : ∀ (j : Nat) (c : AV), cs'[j]? = some c → c.one = true := fun j c hc => by
                have hlt : j < cs.length := by rw [← hl]; exact (List.getElem?_eq_some_iff.1 hc).1
                exact hq j _ c (List.getElem?_eq_getElem hlt) hc (hcs j _ (List.getElem?_eq_getElem hlt)).1
              obtain ⟨_, _, _, _, hF1, _⟩ := o1.inv.blk id mb _ hm hg1
              have hin : ∀ (j : Nat) (c : AV), cs'[j]? = some c → fput F1 mb.cb mb.base (mb.base + cs'.length) vs mb.cb (mb.base + j) = some (vs.getD (mb.base + j) undef) := fun j c hc => by
                have := (List.getElem?_eq_some_iff.1 hc).1
                unfold fput
                rw [if_pos ⟨rfl, by omega, by omega⟩]
              have hfle : FLe F1 (fput F1 mb.cb mb.base (mb.base + cs'.length) vs) := by
                intro b o v hv
                unfold fput
                split
                · rename_i hh
                  rw [hh.1, hF1 rfl o] at hv
                  cases hv
                · exact hv
              obtain ⟨hfr, hI'⟩ := o1.inv.freeze hm (live_of hg1 (by simp)) hcb mb.base (mb.base + cs'.length) (by omega) (hF1 rfl) (.box true cs')
                ⟨vs, hcb, by omega, fun j c hc => ⟨hone j c hc, .fz ((r1 j c hc).mono hfle)⟩, by simp, fun _ j c hc => ⟨(r1 j c hc).mono hfle, hin j c hc⟩⟩
              refine ⟨_, o1.trans ⟨hfr, hI', fun j hj => live_set hj (.inl (live_of hg1 (by simp))), by simp⟩, ?_⟩
              have : VF (fput F1 mb.cb mb.base (mb.base + cs'.length) vs) (.pim [cs'] 0 off) (.pointer (some ⟨mb.cb, mb.base + 0 * cs'.length + off, none⟩)) := by
                refine .pim (sz := cs'.length) (b := mb.cb) (o := mb.base) (fun i j => vs.getD (mb.base + j) undef) (fun i r hr => ?_) (fun i r j c hr hc => ?_) (fun i r j c hr hc => ?_) (fun i r j c hr hc => ?_)
                all_goals
                  obtain ⟨rfl, rfl⟩ : i = 0 ∧ r = cs' := by
                    cases i with
                    | zero => simp at hr; exact ⟨rfl, hr.symm⟩
                    | succ i => simp at hr
                · rfl
                · exact hone j c hc
                · simp only [Nat.zero_mul, Nat.add_zero]; exact hin j c hc
                · exact (r1 j c hc).mono hfle
              simpa using this
            · cases h
          · simp at h
        · simp at h
    · cases cs with
      | nil =>
        simp [frz.frzL] at h
        obtain ⟨rfl, rfl⟩ := h
        exact ⟨F, FrzOk.refl hI, by simp⟩
      | cons c cs =>
        simp only [frz.frzL, Option.bind_eq_bind, Option.bind_eq_some_iff] at h
        obtain ⟨⟨x, H1⟩, hx, ⟨y, H2⟩, hy, h⟩ := h
        cases h
        obtain ⟨F1, o1, r1⟩ := ih.1 H H1 F c x (us 0) hx hI (hv 0 c rfl)
        obtain ⟨F2, o2, r2⟩ := ih.2 H1 _ F1 cs y (fun i => us (i + 1)) hy o1.inv (fun i c hc => (hv (i + 1) c (by simpa using hc)).mono (MLe.refl m) o1.fr.le)
        refine ⟨F2, o1.trans o2, fun i a ha => ?_⟩
        cases i with
        | zero => simp at ha; subst ha; exact r1.mono o2.fr.le
        | succ i => exact r2 i a (by simpa using ha)
end Go.VI
