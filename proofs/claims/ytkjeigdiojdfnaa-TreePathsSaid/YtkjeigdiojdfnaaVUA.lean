/- VI, part UA: an operation looks at few numbers and writes few; two that do not meet may change places. -/
import Derived.Test.YtkjeigdiojdfnaaVU
set_option linter.unusedVariables false
set_option linter.unusedSimpArgs false
namespace Go.VI

/-- On T: as in H'; elsewhere nothing has changed. -/
structure Loc (T : List Nat) (H H' H2 H2' : Heap) : Prop where
  on : ∀ id ∈ T, H2'.get id = H'.get id
  off2 : ∀ id, id ∉ T → H2'.get id = H2.get id
  off : ∀ id, id ∉ T → H'.get id = H.get id
theorem Loc.still {T : List Nat} {H H2 : Heap} (h : ∀ id ∈ T, H2.get id = H.get id) : Loc T H H H2 H2 := ⟨h, fun _ _ => rfl, fun _ _ => rfl⟩
theorem Loc.trans {T : List Nat} {H H1 H' H2 H21 H2' : Heap} (h : Loc T H H1 H2 H21) (h' : Loc T H1 H' H21 H2') : Loc T H H' H2 H2' :=
  ⟨h'.on, fun id hi => (h'.off2 id hi).trans (h.off2 id hi), fun id hi => (h'.off id hi).trans (h.off id hi)⟩
theorem lt_of_get {H H2 : Heap} {id : Nat} (h : H2.get id = H.get id) (hl : id < H.next) : id < H2.next := by
  have : H.get id = some (H.bs[id]'hl) := List.getElem?_eq_getElem hl
  rw [this] at h
  exact Heap.get_lt h
theorem Loc.set {T : List Nat} {H H2 : Heap} {id : Nat} (B : Blk) (h : ∀ id ∈ T, H2.get id = H.get id) (hi : id ∈ T) (hl : id < H.next) : Loc T H (H.set id B) H2 (H2.set id B) := by
  have h2 := lt_of_get (h id hi) hl
  refine ⟨fun j hj => ?_, fun j hj => ?_, fun j hj => ?_⟩
  · by_cases e : j = id
    · subst e
      rw [Heap.get_set_self _ hl, Heap.get_set_self _ h2]
    · rw [Heap.get_set_ne _ e, Heap.get_set_ne _ e]
      exact h j hj
  · exact Heap.get_set_ne _ (fun e => hj (e ▸ hi))
  · exact Heap.get_set_ne _ (fun e => hj (e ▸ hi))
theorem put_set {H : Heap} {id : Nat} (B : Blk) (h : id < H.next) : H.put id B = H.set id B := by simp [Heap.put, h]
theorem Loc.put {T : List Nat} {H H2 : Heap} {id : Nat} (B : Blk) (h : ∀ id ∈ T, H2.get id = H.get id) (hi : id ∈ T) (hl : id < H.next) : Loc T H (H.put id B) H2 (H2.put id B) := by
  rw [put_set B hl, put_set B (lt_of_get (h id hi) hl)]
  exact .set B h hi hl

theorem cellsAt_congr {H H2 : Heap} {p : AV} (h : ∀ id ∈ shId p, H2.get id = H.get id) (n : Nat) : cellsAt H2 p n = cellsAt H p n := by
  cases p with
  | ptr id i off => simp only [cellsAt, h id (by simp [shId])]
  | _ => rfl
theorem rowsOf_congr {H H2 : Heap} {p : AV} (h : ∀ id ∈ shId p, H2.get id = H.get id) : rowsOf H2 p = rowsOf H p := by
  cases p with
  | sl id off len => simp only [rowsOf, h id (by simp [shId])]
  | sc v =>
    unfold rowsOf
    split <;> simp_all
  | _ => rfl
theorem rowSz_congr {H H2 : Heap} {id : Nat} (h : H2.get id = H.get id) : rowSz H2 id = rowSz H id := by simp only [rowSz, h]

theorem frz_closed : ∀ (n : Nat), (∀ (v v' : AV) (H0 : Heap), frz n Heap.empty v = some (v', H0) → H0 = Heap.empty ∧ ∀ H, frz n H v = some (v', H)) ∧
    (∀ (cs cs' : List AV) (H0 : Heap), frz.frzL n Heap.empty cs = some (cs', H0) → H0 = Heap.empty ∧ ∀ H, frz.frzL n H cs = some (cs', H)) := by
  intro n
  have hget : ∀ id, Heap.empty.get id = none := fun id => rfl
  induction n with
  | zero => exact ⟨fun v v' H' h => by simp [frz] at h, fun cs cs' H' h => by simp [frz.frzL] at h⟩
  | succ n ih =>
    obtain ⟨ih1, ih2⟩ := ih
    refine ⟨fun v v' H0 h => ?_, fun cs cs' H0 h => ?_⟩
    · cases v with
      | bad => simp [frz] at h
      | sc v =>
        simp only [frz] at h ⊢
        split at h
        · cases h; exact ⟨rfl, fun H => by simp⟩
        · cases h; exact ⟨rfl, fun H => by simp⟩
      | lst rows => simp only [frz] at h ⊢; cases h; exact ⟨rfl, fun _ => rfl⟩
      | pim rows i off => simp only [frz] at h ⊢; cases h; exact ⟨rfl, fun _ => rfl⟩
      | agg cs =>
        simp only [frz, Option.map_eq_some_iff] at h ⊢
        obtain ⟨⟨a, b⟩, h, h'⟩ := h
        cases h'
        obtain ⟨h1, h2⟩ := ih2 _ _ _ h
        exact ⟨h1, fun H => ⟨_, h2 H, rfl⟩⟩
      | tup cs =>
        simp only [frz, Option.map_eq_some_iff] at h ⊢
        obtain ⟨⟨a, b⟩, h, h'⟩ := h
        cases h'
        obtain ⟨h1, h2⟩ := ih2 _ _ _ h
        exact ⟨h1, fun H => ⟨_, h2 H, rfl⟩⟩
      | fn f a b =>
        simp only [frz, Option.bind_eq_bind, Option.bind_eq_some_iff] at h ⊢
        obtain ⟨⟨x, H1⟩, hx, ⟨y, H2⟩, hy, h⟩ := h
        cases h
        obtain ⟨rfl, h2⟩ := ih2 _ _ _ hx
        obtain ⟨rfl, h4⟩ := ih2 _ _ _ hy
        exact ⟨rfl, fun H => ⟨_, h2 H, _, h4 H, rfl⟩⟩
      | sl id off len => simp [frz, hget] at h
      | ptr id i off => simp [frz, hget] at h
      | mp id => simp [frz] at h
    · cases cs with
      | nil => simp only [frz.frzL] at h ⊢; cases h; exact ⟨rfl, fun _ => rfl⟩
      | cons c cs =>
        simp only [frz.frzL, Option.bind_eq_bind, Option.bind_eq_some_iff] at h ⊢
        obtain ⟨⟨x, H1⟩, hx, ⟨y, H2⟩, hy, h⟩ := h
        cases h
        obtain ⟨rfl, h2⟩ := ih1 _ _ _ hx
        obtain ⟨rfl, h4⟩ := ih2 _ _ _ hy
        exact ⟨rfl, fun H => ⟨_, h2 H, _, h4 H, rfl⟩⟩
theorem closedL_spec {vs : List AV} (h : closedL vs = true) : ∃ vs', ∀ H, frzCells H vs = some (vs', H) := by
  unfold closedL at h
  rw [Option.isSome_iff_exists] at h
  obtain ⟨⟨vs', H0⟩, h⟩ := h
  exact ⟨vs', ((frz_closed FZ).2 _ _ _ h).2⟩
theorem fillR_closed {sz : Nat} : ∀ (ps : List (Nat × AV)) (rs rs' : List (List AV)) (H H' : Heap), (ps.all fun p => closedL p.2.cells) = true → fillR sz rs H ps = some (rs', H') → H' = H ∧ ∀ H2, fillR sz rs H2 ps = some (rs', H2)
  | [], rs, rs', H, H', _, h => by simp only [fillR] at h ⊢; cases h; exact ⟨rfl, fun _ => rfl⟩
  | (i, v) :: ps, rs, rs', H, H', hc, h => by
    simp only [List.all_cons, Bool.and_eq_true] at hc
    obtain ⟨vs', hv⟩ := closedL_spec hc.1
    simp only [fillR, hv, Option.bind_some] at h ⊢
    split at h
    · rename_i hh
      obtain ⟨h1, h2⟩ := fillR_closed ps _ _ _ _ hc.2 h
      exact ⟨h1, fun H2 => by rw [if_pos hh]; exact h2 H2⟩
    · cases h

theorem sids_spec {vs : List AV} {t : List Nat} (h : sids vs = some t) {H H1 H2 : Heap} {cs : List AV} {T : List Nat} (ht : ∀ id ∈ t, id ∈ T) (hT : ∀ id ∈ T, H2.get id = H.get id) (hf : frzCells H vs = some (cs, H1)) :
    ∃ H21, frzCells H2 vs = some (cs, H21) ∧ Loc T H H1 H2 H21 := by
  unfold sids at h
  split at h
  · rename_i hc
    cases h
    obtain ⟨vs', hv⟩ := closedL_spec hc
    rw [hv] at hf
    cases hf
    exact ⟨H2, hv H2, .still hT⟩
  · split at h
    · rename_i _ id off len _
      cases h
      have hid := ht id (by simp)
      have hg := hT id hid
      have e1 : ∀ K : Heap, frzCells K [.sl id off len] = match K.get id with
        | some (.row fz sz rs) => if off + len ≤ rs.length then some ([.lst ((rs.drop off).take len)], if fz then K else K.set id (.row true sz rs)) else none
        | _ => none := fun K => by
          show frz.frzL 24 K [.sl id off len] = _
          simp only [frz.frzL, frz, Option.bind_eq_bind]
          cases K.get id with
          | none => rfl
          | some b =>
            cases b with
            | row fz sz rs => simp only; split <;> rfl
            | _ => rfl
      rw [e1] at hf
      rw [e1, hg]
      split at hf
      · rename_i fz sz rs hb
        split at hf
        · rename_i hh
          cases hf
          simp only [if_pos hh]
          cases fz with
          | true => exact ⟨_, rfl, .still hT⟩
          | false => exact ⟨_, rfl, .set _ hT hid (Heap.get_lt hb)⟩
        · cases hf
      · cases hf
    · cases h

/-- An operation that looks at no heap. -/
def plain : AOp → Bool
  | .mov .. | .pick .. | .build .. | .nilck .. | .bin .. | .isnil .. | .eqs .. | .eqb .. | .un .. | .conv .. | .mkfn .. | .slstr .. | .faddr .. | .field .. | .index .. | .ext .. | .mx2 .. | .mn2 .. => true
  | _ => false
theorem opS_plain {nid : Nat} {e : Env} {H H' : Heap} {o : AOp} {v : AV} (hp : plain o = true) (h : opS nid e H o = some (v, H')) : H' = H ∧ ∀ H2 nid', opS nid' e H2 o = some (v, H2) := by
  cases o with
  | alloc => cases hp
  | box => cases hp
  | bslice => cases hp
  | load => cases hp
  | store => cases hp
  | stringish => cases hp
  | tostr => cases hp
  | mkslice => cases hp
  | slice => cases hp
  | iaddr => cases hp
  | len => cases hp
  | app => cases hp
  | copy => cases hp
  | mkmap => cases hp
  | look => cases hp
  | mput => cases hp
  | call => cases hp
  | _ =>
    simp only [opS] at h ⊢
    repeat' first
      | (cases h; done)
      | (cases h; exact ⟨rfl, fun _ _ => by simp_all⟩)
      | split at h
      | (simp only [Option.bind_eq_some_iff, Option.map_eq_some_iff, Prod.mk.injEq] at h
         obtain ⟨_, _, h⟩ := h)
      | (obtain ⟨rfl, rfl⟩ := h; exact ⟨rfl, fun _ _ => by simp_all⟩)
      | (obtain ⟨_, _, h⟩ := h)

/-- An operation, seen at another heap that agrees where it looks. -/
theorem opS_local {pv : AV → List AV → Bool} {nid : Nat} {e : Env} {H H' H2 : Heap} {o : AOp} {v : AV} {wr : Bool} {T : List Nat} (hnc : ∀ f args, o ≠ .call f args)
    (hf : fpS pv nid e o = some (wr, T)) (h : opS nid e H o = some (v, H')) (hT : ∀ id ∈ T, H2.get id = H.get id) (hnx : allocA o = true → nid < H.next) :
    ∃ H2', opS nid e H2 o = some (v, H2') ∧ Loc T H H' H2 H2' ∧ (wr = false → H' = H ∧ H2' = H2) := by
  have plain_ : plain o = true → T = [] → ∃ H2', opS nid e H2 o = some (v, H2') ∧ Loc T H H' H2 H2' ∧ (wr = false → H' = H ∧ H2' = H2) := fun hp ht => by
    obtain ⟨rfl, h2⟩ := opS_plain hp h
    exact ⟨H2, h2 H2 nid, .still hT, fun _ => ⟨rfl, rfl⟩⟩
  have reads : ∀ {x : AV}, some (false, shId x) = some (wr, T) → (opS nid e H o = some (v, H') → H' = H) → opS nid e H2 o = (opS nid e H o).map (fun p => (p.1, H2)) →
      ∃ H2', opS nid e H2 o = some (v, H2') ∧ Loc T H H' H2 H2' ∧ (wr = false → H' = H ∧ H2' = H2) := fun _ h1 h2 => by
    obtain rfl := h1 h
    rw [h] at h2
    exact ⟨H2, h2, .still hT, fun _ => ⟨rfl, rfl⟩⟩
  cases o with
  | alloc z =>
    simp only [fpS, Option.some.injEq, Prod.mk.injEq] at hf
    obtain ⟨rfl, rfl⟩ := hf
    simp only [opS, Option.some.injEq, Prod.mk.injEq] at h
    obtain ⟨rfl, rfl⟩ := h
    exact ⟨_, rfl, .put _ hT (by simp) (hnx rfl), by simp⟩
  | mkmap kd =>
    simp only [fpS, Option.some.injEq, Prod.mk.injEq] at hf
    obtain ⟨rfl, rfl⟩ := hf
    simp only [opS, Option.some.injEq, Prod.mk.injEq] at h
    obtain ⟨rfl, rfl⟩ := h
    exact ⟨_, rfl, .put _ hT (by simp) (hnx rfl), by simp⟩
  | box n x =>
    simp only [fpS, Option.some.injEq, Prod.mk.injEq] at hf
    obtain ⟨rfl, rfl⟩ := hf
    simp only [opS] at h ⊢
    split at h
    · rename_i hh
      simp only [Option.some.injEq, Prod.mk.injEq] at h
      obtain ⟨rfl, rfl⟩ := h
      exact ⟨_, by rw [if_pos hh], .put _ hT (by simp) (hnx rfl), by simp⟩
    · cases h
  | mkslice sz b z l c =>
    simp only [fpS, Option.some.injEq, Prod.mk.injEq] at hf
    obtain ⟨rfl, rfl⟩ := hf
    simp only [opS, Option.bind_eq_some_iff] at h ⊢
    obtain ⟨l', hl, c', hc, h⟩ := h
    split at h
    · rename_i hh
      simp only [Option.some.injEq, Prod.mk.injEq] at h
      obtain ⟨rfl, rfl⟩ := h
      exact ⟨_, ⟨l', hl, c', hc, by rw [if_pos hh]⟩, .put _ hT (by simp) (hnx rfl), by simp⟩
    · cases h
  | bslice sz z len ps =>
    simp only [fpS] at hf
    split at hf
    rotate_left
    · cases hf
    rename_i hcl
    simp only [Option.some.injEq, Prod.mk.injEq] at hf
    obtain ⟨rfl, rfl⟩ := hf
    simp only [opS, Option.map_eq_some_iff] at h ⊢
    obtain ⟨⟨rs, H1⟩, h1, h⟩ := h
    cases h
    obtain ⟨rfl, h2⟩ := fillR_closed _ _ _ _ _ (by simpa [List.all_map] using hcl) h1
    exact ⟨_, ⟨(rs, H2), h2 H2, rfl⟩, .put _ hT (by simp) (hnx rfl), by simp⟩
  | load g n x =>
    have hT' : ∀ id ∈ shId (ev e x), H2.get id = H.get id := by
      simp only [fpS, Option.some.injEq, Prod.mk.injEq] at hf
      exact hf.2 ▸ hT
    refine reads hf (fun h => ?_) ?_
    · simp only [opS, Option.bind_eq_some_iff, Option.map_eq_some_iff] at h
      obtain ⟨_, _, _, _, h⟩ := h
      cases h; rfl
    · simp only [opS, cellsAt_congr hT']
      cases cellsAt H (ev e x) n <;> simp
      rename_i cs
      cases pack g cs <;> rfl
  | store n a x =>
    simp only [fpS, Option.map_eq_some_iff, Prod.mk.injEq] at hf
    obtain ⟨t, hs, rfl, rfl⟩ := hf
    simp only [opS, Option.map_eq_some_iff] at h ⊢
    obtain ⟨H1, h, h'⟩ := h
    cases h'
    unfold storeA at h ⊢
    split at h
    rotate_left
    · cases h
    rename_i hh
    rw [if_pos hh]
    split at h
    rotate_left
    · cases h
    rename_i id i off hp
    rw [hp] at hT
    have hid : id ∈ shId (.ptr id i off) ++ t := by simp [shId]
    have hg := hT id hid
    simp only [hg]
    split at h
    · rename_i cs hb
      split at h
      · rename_i h2
        cases h
        refine ⟨_, ⟨_, by rw [if_pos h2], rfl⟩, ?_, by simp⟩
        rw [hp]
        exact .set _ hT hid (Heap.get_lt hb)
      · cases h
    · rename_i s1 rs1 hb
      rw [Option.bind_eq_some_iff] at h
      obtain ⟨⟨cs, H3⟩, hf, h⟩ := h
      obtain ⟨H23, hf2, hL⟩ := sids_spec hs (T := shId (.ptr id i off) ++ t) (fun id h => by simp [h]) hT hf
      simp only [hf2, Option.bind_some] at h ⊢
      have hg3 := hL.on id hid
      rw [hg3]
      split at h
      · rename_i sz rs hb2
        split at h
        · rename_i r hr
          split at h
          · rename_i h2
            cases h
            refine ⟨_, ⟨_, by rw [if_pos h2], rfl⟩, ?_, by simp⟩
            rw [hp]
            exact hL.trans (.set _ (fun j hj => hL.on j hj) hid (Heap.get_lt hb2))
          · cases h
        · cases h
      · cases h
    · cases h
  | stringish x =>
    refine reads hf (fun h => ?_) ?_
    · simp only [opS] at h
      split at h
      · split at h
        · cases h; rfl
        · cases h
      · cases h
    · have hT' : ∀ id ∈ shId (ev e x), H2.get id = H.get id := by
        simp only [fpS, Option.some.injEq, Prod.mk.injEq] at hf
        exact hf.2 ▸ hT
      simp only [opS]
      split
      · rename_i id off len hx
        rw [hx] at hT'
        rw [rowSz_congr (hT' id (by simp [shId]))]
        cases rowSz H id <;> rfl
      · rfl
  | tostr x =>
    have hT' : ∀ id ∈ shId (ev e x), H2.get id = H.get id := by
      simp only [fpS, Option.some.injEq, Prod.mk.injEq] at hf
      exact hf.2 ▸ hT
    refine reads hf (fun h => ?_) ?_
    · simp only [opS, Option.bind_eq_some_iff, Option.map_eq_some_iff] at h
      obtain ⟨_, _, _, _, h⟩ := h
      cases h; rfl
    · simp only [opS, rowsOf_congr hT']
      cases rowsOf H (ev e x) <;> simp
      rename_i cs
      cases bytesOfRows cs <;> rfl
  | slice sz x lo hi mx =>
    have hT' : ∀ id ∈ shId (ev e x), H2.get id = H.get id := by
      simp only [fpS, Option.some.injEq, Prod.mk.injEq] at hf
      exact hf.2 ▸ hT
    have hsl : ∀ a b c, sliceA H2 sz (ev e x) a b c = sliceA H sz (ev e x) a b c := fun a b c => by
      unfold sliceA
      split
      · rfl
      · rename_i id off len hx
        rw [hx] at hT'
        rw [rowSz_congr (hT' id (by simp [shId]))]
      · rfl
      · rfl
    refine reads hf (fun h => ?_) ?_
    · simp only [opS, Option.bind_eq_some_iff, Option.map_eq_some_iff] at h
      obtain ⟨_, _, _, _, _, _, _, _, h⟩ := h
      cases h; rfl
    · simp only [opS, hsl]
      cases optI e lo <;> simp
      cases optI e hi <;> simp
      cases optI e mx <;> simp
      rename_i a b c
      cases sliceA H sz (ev e x) a b c <;> rfl
  | iaddr arr sz x ix =>
    have hT' : ∀ id ∈ shId (ev e x), H2.get id = H.get id := by
      simp only [fpS, Option.some.injEq, Prod.mk.injEq] at hf
      exact hf.2 ▸ hT
    have hsl : ∀ i, iaddrA H2 arr sz (ev e x) i = iaddrA H arr sz (ev e x) i := fun i => by
      unfold iaddrA
      split
      · rfl
      · rename_i id off len hx
        rw [hx] at hT'
        rw [rowSz_congr (hT' id (by simp [shId]))]
      · rfl
      · rfl
      · rfl
    refine reads hf (fun h => ?_) ?_
    · simp only [opS, Option.bind_eq_some_iff, Option.map_eq_some_iff] at h
      obtain ⟨_, _, _, _, h⟩ := h
      cases h; rfl
    · simp only [opS, hsl]
      cases toI (ev e ix) <;> simp
      rename_i i
      cases iaddrA H arr sz (ev e x) i <;> rfl
  | len kd x =>
    have hT' : ∀ id ∈ shId (ev e x), H2.get id = H.get id := by
      simp only [fpS, Option.some.injEq, Prod.mk.injEq] at hf
      exact hf.2 ▸ hT
    refine reads hf (fun h => ?_) ?_
    · simp only [opS] at h
      split at h
      · split at h
        · split at h
          · cases h; rfl
          · cases h
        · cases h
      · simp only [Option.map_eq_some_iff] at h
        obtain ⟨_, _, h⟩ := h
        cases h; rfl
    · simp only [opS]
      split
      · rename_i id hx
        rw [hx] at hT'
        rw [hT' id (by simp [shId])]
        split
        · split <;> rfl
        · rfl
      · cases lenOfA kd (ev e x) <;> rfl
  | look kd z mo k ok =>
    have hT' : ∀ id ∈ shId (ev e mo), H2.get id = H.get id := by
      simp only [fpS, Option.some.injEq, Prod.mk.injEq] at hf
      exact hf.2 ▸ hT
    refine reads hf (fun h => ?_) ?_
    · simp only [opS] at h
      split at h
      · split at h
        · split at h
          · cases h; rfl
          · cases h
        · cases h
      · cases h
    · simp only [opS]
      split
      · rename_i id hx
        rw [hx] at hT'
        rw [hT' id (by simp [shId])]
        split
        · split <;> rfl
        · rfl
      · rfl
  | mput kd mo k x =>
    simp only [fpS, Option.some.injEq, Prod.mk.injEq] at hf
    obtain ⟨rfl, rfl⟩ := hf
    simp only [opS] at h ⊢
    split at h
    rotate_left
    · cases h
    rename_i id hm
    rw [hm] at hT ⊢
    simp only [hT id (by simp [shId])]
    split at h
    · rename_i kd' es hb
      split at h
      · rename_i hh
        cases h
        exact ⟨_, by rw [if_pos hh], .set _ hT (by simp [shId]) (Heap.get_lt hb), by simp⟩
      · cases h
    · cases h
  | app sz b s x =>
    simp only [fpS, Option.some.injEq, Prod.mk.injEq] at hf
    obtain ⟨rfl, rfl⟩ := hf
    have hTx : ∀ id ∈ shId (ev e x), H2.get id = H.get id := fun id hi => hT id (by simp [hi])
    have hn := hnx rfl
    simp only [opS, rowsOf_congr hTx, Option.bind_eq_some_iff] at h ⊢
    obtain ⟨xs, hxs, h⟩ := h
    unfold appA at h ⊢
    split at h
    · rename_i hs
      rw [hs] at hT ⊢
      split at h
      · rename_i h0
        cases h
        exact ⟨_, ⟨xs, hxs, by simp only [if_pos h0, hs]⟩, .still hT, by simp⟩
      · rename_i h0
        split at h
        · rename_i hh
          cases h
          exact ⟨_, ⟨xs, hxs, by simp only [if_neg h0, if_pos hh]⟩, .put _ hT (by simp) hn, by simp⟩
        · cases h
    · rename_i id off len hs
      rw [hs] at hT ⊢
      have hg := hT id (by simp [shId])
      split at h
      · rename_i sz' rs hb
        split at h
        · rename_i hh
          cases h
          refine ⟨(H2.set id .dead).put nid (.row false sz ((rs.drop off).take len ++ xs)), ⟨xs, hxs, by simp only [hg, hb, if_pos hh]⟩, ?_, by simp⟩
          have l1 := Loc.set .dead hT (id := id) (by simp [shId]) (Heap.get_lt hb)
          exact l1.trans (.put _ l1.on (by simp) (by simpa using hn))
        · cases h
      · cases h
    · cases h
  | copy sz d s =>
    simp only [fpS, Option.some.injEq, Prod.mk.injEq] at hf
    obtain ⟨rfl, rfl⟩ := hf
    have hTx : ∀ id ∈ shId (ev e s), H2.get id = H.get id := fun id hi => hT id (by simp [hi])
    simp only [opS, rowsOf_congr hTx, Option.bind_eq_some_iff] at h ⊢
    obtain ⟨xs, hxs, h⟩ := h
    simp only [Option.map_eq_some_iff] at h ⊢
    obtain ⟨⟨n, H1⟩, h, h'⟩ := h
    cases h'
    unfold copyA at h ⊢
    split at h
    · rename_i id off len hd
      rw [hd] at hT ⊢
      have hg := hT id (by simp [shId])
      split at h
      · rename_i sz' rs hb
        split at h
        · rename_i hh
          cases h
          exact ⟨H2.set id (.row false sz (splice rs off (xs.take (min xs.length len)))), ⟨xs, hxs, (min xs.length len, H2.set id (.row false sz (splice rs off (xs.take (min xs.length len))))), by simp only [hg, hb, if_pos hh], rfl⟩, .set _ hT (by simp [shId]) (Heap.get_lt hb), by simp⟩
        · cases h
      · cases h
    · rename_i hns
      split at h
      · rename_i hl
        cases h
        refine ⟨H2, ⟨xs, hxs, (0, H2), ?_, rfl⟩, .still hT, by simp⟩
        first
          | rw [if_pos hl]
          | (split <;> first
              | rw [if_pos hl]
              | (rename_i hd; exact absurd hd (hns _ _ _)))
      · cases h
  | call f args => exact absurd rfl (hnc f args)
  | _ =>
    refine plain_ rfl ?_
    simp only [fpS, Option.some.injEq, Prod.mk.injEq] at hf
    exact hf.2.symm
end Go.VI
