import Derived.Test.YtoinghjainpkfaaS6
import Derived.Shelf.SlMaps.Clone
import Derived.Test.YtoinghjainpkfaaChecked
import Derived.KernelRfl
/- What the claim hangs on, part 7: UB RSN UC UD UE UF UG UH UI UJ UK RF5 UL UM RF515. -/
set_option linter.unusedVariables false
set_option linter.unusedSimpArgs false
set_option maxRecDepth 100000
namespace Go.VI
attribute [local congr] AW_congr OW_congr DW_congr NW_congr VW_congr GW_congr PW_congr KW_congr ite_congr' GV_congr CV_congr dx_congr dOW_congr dop_congr CP_congr AQ_congr AZ_congr callD_congr NQ_congr rngW_congr nxtW_congr entW_congr delW_congr
def decR : List (List AV) → Option (List RunM)
  | [] => some []
  | [.sc (.int .i64 a), .sc (.int .i64 b)] :: r => (decR r).map fun l => (a, b) :: l
  | _ => none
theorem decR_some : ∀ {r : List (List AV)} {l : List RunM}, decR r = some l → r = l.map runC
  | [], l, h => by cases h; rfl
  | c :: r, l, h => by
    unfold decR at h
    split at h
    · cases ‹_ = ([] : List (List AV))›
    · rename_i heq
      injection heq with h1 h2
      subst h1 h2
      rw [Option.map_eq_some_iff] at h
      obtain ⟨l', h', rfl⟩ := h
      rw [decR_some h']
      rfl
    · cases h
theorem decR_enc : ∀ l : List RunM, decR (l.map runC) = some l
  | [] => rfl
  | x :: l => by
    show (decR (l.map runC)).map _ = _
    rw [decR_enc l]
    rfl
def decH : List (AV × AV) → Option HeldM
  | [] => some []
  | (.sc (.int .i64 t), .lst r) :: es => (decR r).bind fun l => (decH es).map fun hd => (t, l) :: hd
  | _ => none
theorem decH_some : ∀ {es : List (AV × AV)} {hd : HeldM}, decH es = some hd → es = hd.map entC
  | [], l, h => by cases h; rfl
  | c :: r, l, h => by
    unfold decH at h
    split at h
    · cases ‹_ = ([] : List (AV × AV))›
    · rename_i heq
      injection heq with h1 h2
      subst h1 h2
      rw [Option.bind_eq_some_iff] at h
      obtain ⟨l1, h1, h⟩ := h
      rw [Option.map_eq_some_iff] at h
      obtain ⟨l', h', rfl⟩ := h
      rw [decH_some h', decR_some h1]
      rfl
    · cases h
theorem decH_enc : ∀ hd : HeldM, decH (hd.map entC) = some hd
  | [] => rfl
  | x :: l => by
    show ((decR (x.2.map runC)).bind fun q => (decH (l.map entC)).map fun hd => (x.1, q) :: hd) = _
    rw [decH_enc l, decR_enc]
    rfl
noncomputable def holdsV (T : FT) (G : AV) (H : Heap) (t : Int) : Bool := match callL T G [int t] H with
  | some (.sc (.bool b), _) => b
  | _ => false
theorem holdsV_eq {T : FT} {B : Nat} {G : AV} {H : Heap} {hb : Int → Bool} (h : TestG T B G H hb) : holdsV T G H = hb := by
  funext t
  unfold holdsV
  rw [h H (fun _ _ => rfl) t]
  rfl
open Classical in
noncomputable def unionP (args : List AV) (H : Heap) : Option (AV × Heap) :=
  match args with
  | [.ptr pid 0 0, G] => match H.get pid with
    | some (.box false [.sc (.int .i64 a), .sc (.int .i64 b), .lst fr, .mp mid]) => match H.get mid with
      | some (.mpb (some .i64) es bs ck) => (decR fr).bind fun f => (decH es).bind fun hd =>
        if HeldH hd bs ck ∧ rightM f = true ∧ TestG ftU H.next G H (holdsV ftU G H) ∧ calleeD ftU G = none then some (encR (unionSel (holdsV ftU G H) hd), hx H [.dead]) else none
      | _ => none
    | _ => none
  | _ => none
theorem unionP_sl : SlF ftU 25 r120 c120 unionP := by
  intro args H r H' h
  unfold unionP at h
  split at h
  rotate_left
  · cases h
  rename_i pid G
  split at h
  rotate_left
  · cases h
  rename_i a b fr mid hbox
  split at h
  rotate_left
  · cases h
  rename_i es bs ck hmap
  simp only [Option.bind_eq_some_iff] at h
  obtain ⟨f, hf, hd, hh, h⟩ := h
  split at h
  rotate_left
  · cases h
  rename_i hc
  obtain ⟨c1, c2, c3, c4⟩ := hc
  cases h
  obtain rfl := decR_some hf
  obtain rfl := decH_some hh
  exact union_dx (p := ⟨a, b, f, hd⟩) ⟨hbox, hmap, c1, c2⟩ c3 c4
theorem unionP_at {H : Heap} {pid mid : Nat} {p : PoolM} {bs : List Nat} {ck : Nat} {G : AV} {hb : Int → Bool} (hp : PoolH H pid mid p bs ck) (hG : TestG ftU H.next G H hb) (hGd : calleeD ftU G = none) : unionP [.ptr pid 0 0, G] H = some (encR (unionSel hb p.held), hx H [.dead]) := by
  unfold unionP
  simp only [hp.box, int, encR, hp.map, decR_enc, decH_enc, Option.bind_some]
  rw [if_pos ⟨hp.hd, hp.free, by rw [holdsV_eq hG]; exact hG, hGd⟩, holdsV_eq hG]
/-- A test of keys and what stands there. -/
def TestE (T : FT) (B mid : Nat) (G : AV) (H : Heap) (hb : Int → Bool) : Prop := ∀ H', (∀ j, j < B → j ≠ mid → H'.get j = H.get j) → ∀ t l, callL T G [int t, encR l] H' = some (boolA (hb t), H')
abbrev EntM := (Int × List RunM) × Nat
def keepE (hb : Int → Bool) (seen : List Nat) (zs : List EntM) : List EntM := zs.filter fun z => !(seen.contains z.2 && hb z.1.1)
def idxK (t : Int) : List EntM → Nat
  | [] => 0
  | z :: zs => if t == z.1.1 then 0 else idxK t zs + 1
theorem idxK_eq (t : Int) : ∀ zs : List EntM, idxE (int t) (zs.map fun z => entC z.1) = idxK t zs
  | [] => rfl
  | z :: zs => by
    have ih := idxK_eq t zs
    show (if keyEq (int t) (int z.1.1) then 0 else idxE (int t) (zs.map fun z => entC z.1) + 1) = if t == z.1.1 then 0 else idxK t zs + 1
    rw [ih]
    rfl
theorem erase_map {α β : Type} (f : α → β) : ∀ (l : List α) (j : Nat), (l.map f).eraseIdx j = (l.eraseIdx j).map f
  | [], _ => rfl
  | _ :: _, 0 => rfl
  | a :: l, j + 1 => by
    show f a :: (l.map f).eraseIdx j = f a :: (l.eraseIdx j).map f
    rw [erase_map f l j]
theorem idxK_erase (t : Int) : ∀ zs : List EntM, (zs.map (·.1.1)).Nodup → zs.eraseIdx (idxK t zs) = zs.filter fun z => !(z.1.1 == t)
  | [], _ => rfl
  | z :: zs, h => by
    rw [List.map_cons, List.nodup_cons] at h
    have ih := idxK_erase t zs h.2
    unfold idxK
    cases e : (t == z.1.1) with
    | true =>
      have e' : t = z.1.1 := by simpa using e
      have hall : (zs.filter fun y => !(y.1.1 == t)) = zs := List.filter_eq_self.2 fun y hy => by
        have : y.1.1 ≠ t := fun q => h.1 (by rw [← e', ← q]; exact List.mem_map.2 ⟨y, hy, rfl⟩)
        simpa using this
      have hz : (!(z.1.1 == t)) = false := by rw [e']; simp
      rw [List.filter_cons_of_neg (by rw [hz]; simp), hall]
      rfl
    | false =>
      have hz : (!(z.1.1 == t)) = true := by
        have : t ≠ z.1.1 := by simpa using e
        simpa using fun q => this (Eq.symm q)
      rw [List.filter_cons_of_pos (p := fun z : EntM => !(z.1.1 == t)) hz, ← ih]
      rfl
theorem erase_ent (zs : List EntM) (h : (zs.map (·.1.1)).Nodup) (t : Int) : (zs.map fun z => entC z.1).eraseIdx (idxE (int t) (zs.map fun z => entC z.1)) = (zs.filter fun z => !(z.1.1 == t)).map (fun z => entC z.1) ∧
    (zs.map (·.2)).eraseIdx (idxE (int t) (zs.map fun z => entC z.1)) = (zs.filter fun z => !(z.1.1 == t)).map (·.2) := by
  rw [idxK_eq, erase_map, erase_map, idxK_erase t zs h]
  exact ⟨rfl, rfl⟩
structure EntH (zs : List EntM) (ck : Nat) : Prop where
  keys : (zs.map (·.1.1)).Nodup
  nd : (zs.map (·.2)).Nodup
  lt : ∀ b ∈ zs.map (·.2), b < ck
theorem nodup_inj {α β : Type} (f : α → β) : ∀ {l : List α}, (l.map f).Nodup → ∀ x ∈ l, ∀ y ∈ l, f x = f y → x = y
  | [], _, x, hx, _, _, _ => by cases hx
  | a :: l, h, x, hx, y, hy, e => by
    rw [List.map_cons, List.nodup_cons] at h
    rcases List.mem_cons.1 hx with h1 | h1 <;> rcases List.mem_cons.1 hy with h2 | h2
    · rw [h1, h2]
    · exact absurd (List.mem_map.2 ⟨y, h2, by rw [← e, h1]⟩) h.1
    · exact absurd (List.mem_map.2 ⟨x, h1, by rw [e, h2]⟩) h.1
    · exact nodup_inj f h.2 x h1 y h2 e
theorem nodup_filter {α β : Type} (f : α → β) (p : α → Bool) {l : List α} (h : (l.map f).Nodup) : ((l.filter p).map f).Nodup := List.Nodup.sublist (List.filter_sublist.map f) h
theorem keep_nil (hb : Int → Bool) (zs : List EntM) : keepE hb [] zs = zs := List.filter_eq_self.2 fun z _ => by simp
theorem keep_true {hb : Int → Bool} {seen : List Nat} {zs : List EntM} {ck : Nat} (hz : EntH zs ck) {z : EntM} (h1 : z ∈ zs) (h2 : hb z.1.1 = true) : (keepE hb seen zs).filter (fun y => !(y.1.1 == z.1.1)) = keepE hb (seen ++ [z.2]) zs := by
  unfold keepE
  rw [List.filter_filter]
  refine List.filter_congr fun y hy => ?_
  have hiff : (y.1.1 == z.1.1) = (y.2 == z.2) := beq_iff' (by
    simp only [beq_iff_eq]
    exact ⟨fun e => by rw [nodup_inj (fun z : EntM => z.1.1) hz.keys y hy z h1 e], fun e => by rw [nodup_inj (fun z : EntM => z.2) hz.nd y hy z h1 e]⟩)
  rw [hiff]
  simp only [List.contains_eq_mem, List.mem_append, List.mem_singleton]
  cases e : (y.2 == z.2) with
  | true =>
    have e2 : y = z := nodup_inj (fun z : EntM => z.2) hz.nd y hy z h1 (by simpa using e)
    subst e2
    simp [h2]
  | false =>
    have : ¬ y.2 = z.2 := by simpa using e
    simp [this]
theorem keep_false {hb : Int → Bool} {seen : List Nat} {zs : List EntM} {ck : Nat} (hz : EntH zs ck) {z : EntM} (h1 : z ∈ zs) (h2 : hb z.1.1 = false) : keepE hb seen zs = keepE hb (seen ++ [z.2]) zs := by
  unfold keepE
  refine List.filter_congr fun y hy => ?_
  simp only [List.contains_eq_mem, List.mem_append, List.mem_singleton]
  by_cases e : y.2 = z.2
  · have e2 : y = z := nodup_inj (fun z : EntM => z.2) hz.nd y hy z h1 e
    subst e2
    simp [h2]
  · simp [e]
theorem keep_fin {hb : Int → Bool} {seen : List Nat} {zs : List EntM} (h : ∀ b ∈ (keepE hb seen zs).map (·.2), b ∈ seen) : keepE hb seen zs = zs.filter fun z => !hb z.1.1 := by
  unfold keepE at h ⊢
  refine List.filter_congr fun y hy => ?_
  cases e : hb y.1.1 with
  | false => simp
  | true =>
    cases e2 : seen.contains y.2 with
    | true => rfl
    | false =>
      exfalso
      have h3 : y.2 ∉ seen := by simpa using e2
      exact h3 (h _ (List.mem_map.2 ⟨y, List.mem_filter.2 ⟨hy, by rw [e, e2]; rfl⟩, rfl⟩))
def mapB (zs : List EntM) (ck : Nat) : Blk := .mpb (some .i64) (zs.map fun z => entC z.1) (zs.map (·.2)) ck
theorem heap_set_same {H : Heap} {id : Nat} {b : Blk} (h : H.get id = some b) : H.set id b = H := by
  obtain ⟨bs⟩ := H
  show (⟨bs.set id b⟩ : Heap) = ⟨bs⟩
  congr 1
  obtain ⟨hlt, he⟩ := List.getElem?_eq_some_iff.1 h
  rw [← he]
  exact List.set_getElem_self hlt
def ID (H : Heap) (mid : Nat) (zs : List EntM) (ck : Nat) (G : AV) (hb : Int → Bool) (n : Nat) (e : Env) (H' : Heap) : Prop :=
  ∃ seen f, e = mkE 19 f ∧ H' = hx (H.set mid (mapB (keepE hb seen zs) ck)) [.itb mid ck seen ck] ∧ f 0 = .mp mid ∧ f 1 = G ∧ f 7 = .ptr H.next 0 0 ∧ n = leftU (zs.map (·.2)) seen
theorem del_dx {H : Heap} {mid : Nat} {zs : List EntM} {ck : Nat} {G : AV} {hb : Int → Bool} (hm : H.get mid = some (mapB zs ck)) (hz : EntH zs ck) (hG : TestE ftU H.next mid G H hb) (hGd : calleeD ftU G = none) :
    dCall ftU (fun _ => none) 19 r123 c123 [.mp mid, G] H fun r2 H2 => (r2 = .tup [] ∨ (r2 = .sc (.slice none 0 0) ∧ AV.tup [] = .lst [])) ∧ Forgets H2 (hx (H.set mid (mapB (zs.filter fun z => !hb z.1.1) ck)) [.dead]) := by
  have lid := Heap.get_lt hm
  unfold dCall
  rw [enterE_mkE _ _ (by simp), ← hx_nil H]
  unfold c123 r123
  have q1 := fun L => get_old hm L
  unfold mapB at q1
  have rg := fun (L : List Blk) nid K => @rngW_mp nid (hx H L) K mid ck _ _ _ (q1 L)
  simp only [vx, vxm, ↓vp, vq0, vq1, vq2, vq3, vr0, vr1, vr2, vr3, vr4, vr5, vr6, vr7, vr8, vr9, vr10, vr11, vr12, vr13, vr14, vr15, vr16, vr17, vr18, vr19, vr20, vr21, vr22, vr23, vr24, vr25, vr26, vr27, vr28, vr29, vr30, vr31, vr32, vr33, vr34, opS, fpS, extO, okP, pack, nAl, allocA, shId, leaves, fillA, fillR, splice, Nat.reduceLT, Nat.reduceEqDiff, Nat.reduceLeDiff, Nat.reduceAdd, Nat.reduceSub, Nat.reduceMul, Int.reduceBEq, Int.reduceBNe, Int.reduceLT, Int.reduceLE, Int.reduceEq, reduceIte, reduceCtorEq, da, int, boolA, rg]
  refine ⟨ID H mid zs ck G hb, ⟨_, [], _, rfl, ?_, ?_, ?_, ?_, rfl⟩, ?_⟩
  · rw [keep_nil, heap_set_same hm]
  any_goals (simp only [↓vp, vq0, vq1, vq2, vq3, vr0, vr1, vr2, vr3, vr4, vr5, vr6, vr7, vr8, vr9, vr10, vr11, vr12, vr13, vr14, vr15, vr16, vr17, vr18, vr19, vr20, vr21, vr22, vr23, vr24, vr25, vr26, vr27, vr28, vr29, vr30, vr31, vr32, vr33, vr34, opS, fpS, extO, okP, pack, nAl, allocA, shId, leaves, fillA, fillR, splice, Nat.reduceLT, Nat.reduceEqDiff, Nat.reduceLeDiff, Nat.reduceAdd, Nat.reduceSub, Nat.reduceMul, Int.reduceBEq, Int.reduceBNe, Int.reduceLT, Int.reduceLE, Int.reduceEq, reduceIte, reduceCtorEq, da, int, boolA]; done)
  rintro n e H' ⟨seen, f, rfl, rfl, q00, q01, q07, rfl⟩
  generalize hcur : keepE hb seen zs = cur
  have hsub : ∀ y ∈ cur, y ∈ zs := fun y hy => by
    rw [← hcur] at hy
    exact (List.mem_filter.1 hy).1
  have hKn : (H.set mid (mapB cur ck)).next = H.next := Heap.next_set _ _ _
  have hKm : (H.set mid (mapB cur ck)).get mid = some (mapB cur ck) := Heap.get_set_self _ lid
  have hnd : (cur.map (·.2)).Nodup := by rw [← hcur]; exact nodup_filter _ _ hz.nd
  have hkd : (cur.map (·.1.1)).Nodup := by rw [← hcur]; exact nodup_filter _ _ hz.keys
  have kG : ∀ t l L Q, KW ftU G [.sc (.int .i64 t), encR l] (hx (H.set mid (mapB cur ck)) L) Q ↔ Q (.sc (.bool (hb t))) (hx (H.set mid (mapB cur ck)) L) := fun t l L Q => KW_of (hG _ (fun j hj hne => by rw [hx_get_old _ _ _ (by rw [hKn]; exact hj), Heap.get_set_ne _ hne]) t l)
  have iget : ∀ b L, (hx (H.set mid (mapB cur ck)) (b :: L)).get H.next = some b := fun b L => by
    have := hx_get0 (H.set mid (mapB cur ck)) (b :: L)
    rw [hKn] at this
    exact this
  have iset : ∀ b b', (hx (H.set mid (mapB cur ck)) [b]).set H.next b' = hx (H.set mid (mapB cur ck)) [b'] := fun b b' => by
    have := hx_set0 (H.set mid (mapB cur ck)) [b] b'
    rw [hKn] at this
    exact this
  have mget := fun L => get_old hKm L
  have mset : ∀ b L, (hx (H.set mid (mapB cur ck)) L).set mid b = hx (H.set mid b) L := fun b L => by
    rw [hx_set_old _ _ _ _ (by rw [hKn]; exact lid)]
    congr 1
    simp [Heap.set]
  unfold c123L0
  simp only [vx, vxm, ↓vp, vq0, vq1, vq2, vq3, vr0, vr1, vr2, vr3, vr4, vr5, vr6, vr7, vr8, vr9, vr10, vr11, vr12, vr13, vr14, vr15, vr16, vr17, vr18, vr19, vr20, vr21, vr22, vr23, vr24, vr25, vr26, vr27, vr28, vr29, vr30, vr31, vr32, vr33, vr34, opS, fpS, extO, okP, pack, nAl, allocA, shId, leaves, fillA, fillR, splice, Nat.reduceLT, Nat.reduceEqDiff, Nat.reduceLeDiff, Nat.reduceAdd, Nat.reduceSub, Nat.reduceMul, Int.reduceBEq, Int.reduceBNe, Int.reduceLT, Int.reduceLE, Int.reduceEq, reduceIte, reduceCtorEq, da, int, boolA, q07]
  refine ⟨H.next, mid, ck, seen, ck, _, _, _, ck, rfl, iget _ _, mget _, fun b hb' => ?_, Nat.le_refl _, fun i k v b h1 h2 h3 => ?_, fun hall => ?_⟩
  · rw [List.mem_map] at hb'
    obtain ⟨y, hy, rfl⟩ := hb'
    exact hz.lt _ (List.mem_map.2 ⟨y, hsub y hy, rfl⟩)
  · rw [List.getElem?_map, Option.map_eq_some_iff] at h1 h2
    obtain ⟨z, hz1, hze⟩ := h1
    obtain ⟨z', hz2, rfl⟩ := h2
    rw [hz1] at hz2
    cases hz2
    cases hze
    have hzc := List.mem_of_getElem? hz1
    have hzm := hsub z hzc
    have hlt := leftU_step (List.mem_map.2 ⟨z, hzm, rfl⟩ : z.2 ∈ zs.map (·.2)) h3
    rw [iset]
    simp only [vx, vxm, ↓vp, vq0, vq1, vq2, vq3, vr0, vr1, vr2, vr3, vr4, vr5, vr6, vr7, vr8, vr9, vr10, vr11, vr12, vr13, vr14, vr15, vr16, vr17, vr18, vr19, vr20, vr21, vr22, vr23, vr24, vr25, vr26, vr27, vr28, vr29, vr30, vr31, vr32, vr33, vr34, opS, fpS, extO, okP, pack, nAl, allocA, shId, leaves, fillA, fillR, splice, Nat.reduceLT, Nat.reduceEqDiff, Nat.reduceLeDiff, Nat.reduceAdd, Nat.reduceSub, Nat.reduceMul, Int.reduceBEq, Int.reduceBNe, Int.reduceLT, Int.reduceLE, Int.reduceEq, reduceIte, reduceCtorEq, da, int, boolA, q07]
    refine ⟨H.next, mid, ck, seen, z.2, _, _, _, ck, rfl, iget _ _, mget _, hnd, i, _, _, by rw [List.getElem?_map, hz1]; rfl, by rw [List.getElem?_map, hz1]; rfl, ?_⟩
    simp only [entC]
    cases hbx : hb z.1.1 with
    | false =>
      simp only [vx, vxm, ↓vp, vq0, vq1, vq2, vq3, vr0, vr1, vr2, vr3, vr4, vr5, vr6, vr7, vr8, vr9, vr10, vr11, vr12, vr13, vr14, vr15, vr16, vr17, vr18, vr19, vr20, vr21, vr22, vr23, vr24, vr25, vr26, vr27, vr28, vr29, vr30, vr31, vr32, vr33, vr34, opS, fpS, extO, okP, pack, nAl, allocA, shId, leaves, fillA, fillR, splice, Nat.reduceLT, Nat.reduceEqDiff, Nat.reduceLeDiff, Nat.reduceAdd, Nat.reduceSub, Nat.reduceMul, Int.reduceBEq, Int.reduceBNe, Int.reduceLT, Int.reduceLE, Int.reduceEq, reduceIte, reduceCtorEq, da, int, boolA, q01, q07, hGd, kG, hbx]
      refine ⟨_, hlt, seen ++ [z.2], _, rfl, ?_, ?_, ?_, ?_, rfl⟩
      · rw [← keep_false hz hzm hbx, hcur]
      all_goals simp only [↓vp, vq0, vq1, vq2, vq3, vr0, vr1, vr2, vr3, vr4, vr5, vr6, vr7, vr8, vr9, vr10, vr11, vr12, vr13, vr14, vr15, vr16, vr17, vr18, vr19, vr20, vr21, vr22, vr23, vr24, vr25, vr26, vr27, vr28, vr29, vr30, vr31, vr32, vr33, vr34, opS, fpS, extO, okP, pack, nAl, allocA, shId, leaves, fillA, fillR, splice, Nat.reduceLT, Nat.reduceEqDiff, Nat.reduceLeDiff, Nat.reduceAdd, Nat.reduceSub, Nat.reduceMul, Int.reduceBEq, Int.reduceBNe, Int.reduceLT, Int.reduceLE, Int.reduceEq, reduceIte, reduceCtorEq, da, int, boolA, q00, q01, q07]
    | true =>
      simp only [vx, vxm, ↓vp, vq0, vq1, vq2, vq3, vr0, vr1, vr2, vr3, vr4, vr5, vr6, vr7, vr8, vr9, vr10, vr11, vr12, vr13, vr14, vr15, vr16, vr17, vr18, vr19, vr20, vr21, vr22, vr23, vr24, vr25, vr26, vr27, vr28, vr29, vr30, vr31, vr32, vr33, vr34, opS, fpS, extO, okP, pack, nAl, allocA, shId, leaves, fillA, fillR, splice, Nat.reduceLT, Nat.reduceEqDiff, Nat.reduceLeDiff, Nat.reduceAdd, Nat.reduceSub, Nat.reduceMul, Int.reduceBEq, Int.reduceBNe, Int.reduceLT, Int.reduceLE, Int.reduceEq, reduceIte, reduceCtorEq, da, int, boolA, q00, q01, q07, hGd, kG, hbx]
      refine ⟨mid, _, _, ck, rfl, mget _, rfl, ?_⟩
      rw [mset]
      obtain ⟨e1, e2⟩ := erase_ent cur hkd z.1.1
      simp only [int] at e1 e2
      rw [e1, e2]
      simp only [vx, vxm, ↓vp, vq0, vq1, vq2, vq3, vr0, vr1, vr2, vr3, vr4, vr5, vr6, vr7, vr8, vr9, vr10, vr11, vr12, vr13, vr14, vr15, vr16, vr17, vr18, vr19, vr20, vr21, vr22, vr23, vr24, vr25, vr26, vr27, vr28, vr29, vr30, vr31, vr32, vr33, vr34, opS, fpS, extO, okP, pack, nAl, allocA, shId, leaves, fillA, fillR, splice, Nat.reduceLT, Nat.reduceEqDiff, Nat.reduceLeDiff, Nat.reduceAdd, Nat.reduceSub, Nat.reduceMul, Int.reduceBEq, Int.reduceBNe, Int.reduceLT, Int.reduceLE, Int.reduceEq, reduceIte, reduceCtorEq, da, int, boolA]
      refine ⟨_, hlt, seen ++ [z.2], _, rfl, ?_, ?_, ?_, ?_, rfl⟩
      · rw [← keep_true hz hzm hbx, hcur]
        rfl
      all_goals simp only [↓vp, vq0, vq1, vq2, vq3, vr0, vr1, vr2, vr3, vr4, vr5, vr6, vr7, vr8, vr9, vr10, vr11, vr12, vr13, vr14, vr15, vr16, vr17, vr18, vr19, vr20, vr21, vr22, vr23, vr24, vr25, vr26, vr27, vr28, vr29, vr30, vr31, vr32, vr33, vr34, opS, fpS, extO, okP, pack, nAl, allocA, shId, leaves, fillA, fillR, splice, Nat.reduceLT, Nat.reduceEqDiff, Nat.reduceLeDiff, Nat.reduceAdd, Nat.reduceSub, Nat.reduceMul, Int.reduceBEq, Int.reduceBNe, Int.reduceLT, Int.reduceLE, Int.reduceEq, reduceIte, reduceCtorEq, da, int, boolA, q00, q01, q07]
  · have hf := keep_fin (hb := hb) (seen := seen) (zs := zs) (by rw [hcur]; exact hall)
    rw [hcur] at hf
    subst hf
    simp only [vx, vxm, ↓vp, vq0, vq1, vq2, vq3, vr0, vr1, vr2, vr3, vr4, vr5, vr6, vr7, vr8, vr9, vr10, vr11, vr12, vr13, vr14, vr15, vr16, vr17, vr18, vr19, vr20, vr21, vr22, vr23, vr24, vr25, vr26, vr27, vr28, vr29, vr30, vr31, vr32, vr33, vr34, opS, fpS, extO, okP, pack, nAl, allocA, shId, leaves, fillA, fillR, splice, Nat.reduceLT, Nat.reduceEqDiff, Nat.reduceLeDiff, Nat.reduceAdd, Nat.reduceSub, Nat.reduceMul, Int.reduceBEq, Int.reduceBNe, Int.reduceLT, Int.reduceLE, Int.reduceEq, reduceIte, reduceCtorEq, da, int, boolA, q07]
    refine ⟨_, rfl, .inl rfl, ?_⟩
    refine ⟨by simp [hx_next], fun j B hj => ?_⟩
    rcases Nat.lt_or_ge j H.next with hlt | hge
    · right
      rw [hx_nil H] at hj
      rw [hx_get_old _ _ _ (by rw [hKn]; exact hlt)] at hj ⊢
      exact hj
    · left
      have := Heap.get_lt hj
      rw [hx_next, hx_nil] at this
      rw [hKn] at this
      simp at this
      obtain rfl : j = H.next := by omega
      rw [hx_nil, iget] at hj
      cases hj
      rfl
end Go.VI

set_option linter.unusedVariables false
set_option linter.unusedSimpArgs false
set_option maxRecDepth 100000
namespace Go.Proofs
open Go.Shelf
def Try.mapsClone_ren : Go.Shelf.Ren := ⟨fun | 5 => 132 | 7 => 168 | n => n, fun | 20 => 20 | 23 => 163 | 25 => 3 | 3 => 68 | 4 => 4 | n => n, fun | n => n⟩
theorem Try.mapsClone : Go.Proofs.SlLaysW.n5 Try.prog Try.mapsClone_ren := {
  mixed := by kernel_rfl
  f5 := ⟨Try.f132.name, by decide, Try.func132.trans (congrArg some (by kernel_rfl))⟩
  f7 := Try.func168.trans (congrArg some (by kernel_rfl))
  t4 := Try.underlying4
  a4 := Try.isAgg4
  z4 := Try.sizeOf4
  v4 := Try.zeroValue4
  t20 := Try.underlying20
  a20 := Try.isAgg20
  z20 := Try.sizeOf20
  v20 := Try.zeroValue20
  t23 := Try.underlying163
  a23 := Try.isAgg163
  z23 := Try.sizeOf163
  v23 := Try.zeroValue163 }
end Go.Proofs
namespace Go.VI
open Go.Proofs Go.Shelf
theorem cloMP_ok : PrimOk Go.Proofs.Try.prog 132 cloMP := by
  intro args H H' r h m F w vs hI hv
  unfold cloMP at h
  split at h
  rotate_left
  · cases h
  rename_i mid
  split at h
  rotate_left
  · cases h
  rename_i kd es bs ck hg
  cases h
  obtain ⟨mb, hm, he⟩ := vr_mp (hv.val 0 _ rfl)
  obtain rfl : vs = #[.map (some mb.cb)] := by
    have hl := hv.len
    refine Array.ext (by simpa using hl) fun i h1 h2 => ?_
    simp at h2
    subst h2
    simpa [Array.getD_eq_getD_getElem?, h1] using he
  obtain ⟨ens, h1, h2, h2b, h3⟩ := hI.blk mid mb _ hm hg
  obtain ⟨q1, q2⟩ := Inv.push hI.free hI (wd := w) rfl rfl rfl rfl (.map ens ck) (.mpb kd es bs ck) 0 0 0 ⟨ens, heap_alloc_at, h2, h2b, fun i k v hi => by
    obtain ⟨en, c1, c2, c3, c4, c5⟩ := h3 i k v hi
    exact ⟨en, c1, c2.mono (mset_le _ hI.free.no) (FLe.refl F), c3, c4.mono (mset_le _ hI.free.no) (FLe.refl F), c5⟩⟩
  have hput : H.put H.next (.mpb kd es bs ck) = hx H [.mpb kd es bs ck] := by
    have := hx_put0 H [] (.mpb kd es bs ck)
    rw [hx_nil] at this
    rw [this]
    rfl
  rw [hput] at q1
  refine .inl ⟨Try.mapsClone.f5.enters rfl _ _, ?_⟩
  refine (AnyW.maps_Clone Try.mapsClone mb.cb ens ck w h1).mono fun e w' ⟨he, hw⟩ => ?_
  subst hw
  exact ⟨_, _, F, he, .mp (mset_self _ _ _), q1, q2, ⟨fun id mb' x => by
    rcases mset_cases x with ⟨rfl, _⟩ | ⟨_, x⟩
    · exact .inr (Nat.le_refl _)
    · exact .inl x, by rw [hx_next]; omega⟩⟩
end Go.VI

set_option linter.unusedVariables false
set_option linter.unusedSimpArgs false
set_option maxRecDepth 100000
namespace Go.VI
attribute [local congr] AW_congr OW_congr DW_congr NW_congr VW_congr GW_congr PW_congr KW_congr ite_congr' GV_congr CV_congr dx_congr dOW_congr dop_congr CP_congr AQ_congr AZ_congr callD_congr NQ_congr rngW_congr nxtW_congr entW_congr delW_congr
theorem s121 (t : Int) (H : Heap) : callL ftK (.fn (.func 121) [] []) [int t] H = some (boolA true, H) := by
  refine call_p (as' := [int t]) rfl rfl (by simp) ?_
  unfold c121 r121
  simp only [↓vp, vq0, vq1, vq2, vq3, vr0, vr1, vr2, vr3, vr4, vr5, vr6, vr7, vr8, vr9, vr10, vr11, vr12, vr13, vr14, vr15, vr16, vr17, vr18, vr19, vr20, vr21, vr22, vr23, vr24, vr25, vr26, vr27, vr28, vr29, vr30, vr31, vr32, vr33, vr34, opS, fpS, extO, okP, pack, nAl, allocA, shId, leaves, fillA, fillR, splice, Nat.reduceLT, Nat.reduceEqDiff, Nat.reduceLeDiff, Nat.reduceAdd, Nat.reduceSub, Nat.reduceMul, Int.reduceBEq, Int.reduceBNe, Int.reduceLT, Int.reduceLE, Int.reduceEq, reduceIte, reduceCtorEq, da, int, boolA, RetP_go, resT, resC, resN, retV1, retV2, retV3, retV0, frzFZ, takeM, Option.some.injEq]
def oldB (x o t : Int) : Bool := decide (t ≤ IntKind.i64.wrap (x - 2)) && decide (t ≤ o)
theorem s122 (t x o : Int) (H : Heap) : callL ftK (.fn (.func 122) [] []) [int t, .pim [[int x]] 0 0, .pim [[int o]] 0 0] H = some (boolA (oldB x o t), H) := by
  refine call_p (as' := [int t, .pim [[int x]] 0 0, .pim [[int o]] 0 0]) rfl rfl (by simp) ?_
  unfold c122 r122 oldB
  have cp : ∀ H y, cellsAt H (.pim [[.sc (.int .i64 y)]] 0 0) 1 = some [.sc (.int .i64 y)] := fun _ _ => rfl
  by_cases e : t ≤ IntKind.i64.wrap (x - 2)
  · rw [decide_eq_true e, Bool.true_and]
    simp only [↓vp, vq0, vq1, vq2, vq3, vr0, vr1, vr2, vr3, vr4, vr5, vr6, vr7, vr8, vr9, vr10, vr11, vr12, vr13, vr14, vr15, vr16, vr17, vr18, vr19, vr20, vr21, vr22, vr23, vr24, vr25, vr26, vr27, vr28, vr29, vr30, vr31, vr32, vr33, vr34, opS, fpS, extO, okP, pack, nAl, allocA, shId, leaves, fillA, fillR, splice, Nat.reduceLT, Nat.reduceEqDiff, Nat.reduceLeDiff, Nat.reduceAdd, Nat.reduceSub, Nat.reduceMul, Int.reduceBEq, Int.reduceBNe, Int.reduceLT, Int.reduceLE, Int.reduceEq, reduceIte, reduceCtorEq, da, int, boolA, RetP_go, resT, resC, resN, retV1, retV2, retV3, retV0, frzFZ, takeM, Option.some.injEq, cp, e]
  · rw [decide_eq_false e, Bool.false_and]
    simp only [↓vp, vq0, vq1, vq2, vq3, vr0, vr1, vr2, vr3, vr4, vr5, vr6, vr7, vr8, vr9, vr10, vr11, vr12, vr13, vr14, vr15, vr16, vr17, vr18, vr19, vr20, vr21, vr22, vr23, vr24, vr25, vr26, vr27, vr28, vr29, vr30, vr31, vr32, vr33, vr34, opS, fpS, extO, okP, pack, nAl, allocA, shId, leaves, fillA, fillR, splice, Nat.reduceLT, Nat.reduceEqDiff, Nat.reduceLeDiff, Nat.reduceAdd, Nat.reduceSub, Nat.reduceMul, Int.reduceBEq, Int.reduceBNe, Int.reduceLT, Int.reduceLE, Int.reduceEq, reduceIte, reduceCtorEq, da, int, boolA, RetP_go, resT, resC, resN, retV1, retV2, retV3, retV0, frzFZ, takeM, Option.some.injEq, cp, e]
theorem s133 (t x : Int) (H : Heap) : callL ftK (.fn (.func 133) [] []) [int t, .pim [[int x]] 0 0] H = some (boolA (t != x), H) := by
  refine call_p (as' := [int t, .pim [[int x]] 0 0]) rfl rfl (by simp) ?_
  unfold c133 r133
  have cp : ∀ H y, cellsAt H (.pim [[.sc (.int .i64 y)]] 0 0) 1 = some [.sc (.int .i64 y)] := fun _ _ => rfl
  simp only [↓vp, vq0, vq1, vq2, vq3, vr0, vr1, vr2, vr3, vr4, vr5, vr6, vr7, vr8, vr9, vr10, vr11, vr12, vr13, vr14, vr15, vr16, vr17, vr18, vr19, vr20, vr21, vr22, vr23, vr24, vr25, vr26, vr27, vr28, vr29, vr30, vr31, vr32, vr33, vr34, opS, fpS, extO, okP, pack, nAl, allocA, shId, leaves, fillA, fillR, splice, Nat.reduceLT, Nat.reduceEqDiff, Nat.reduceLeDiff, Nat.reduceAdd, Nat.reduceSub, Nat.reduceMul, Int.reduceBEq, Int.reduceBNe, Int.reduceLT, Int.reduceLE, Int.reduceEq, reduceIte, reduceCtorEq, da, int, boolA, RetP_go, resT, resC, resN, retV1, retV2, retV3, retV0, frzFZ, takeM, Option.some.injEq, cp]
def oldF (x o : Int) : AV := .fn (.func 122) [] [.pim [[int x]] 0 0, .pim [[int o]] 0 0]
theorem s124 (t x o : Int) (l : List RunM) (H : Heap) : callL ftK (.fn (.func 124) [] []) [int t, encR l, .pim [[oldF x o]] 0 0] H = some (boolA (oldB x o t), H) := by
  refine call_p (as' := [int t, encR l, .pim [[oldF x o]] 0 0]) rfl rfl (by simp) ?_
  unfold c124 r124
  have cp : ∀ H, cellsAt H (.pim [[oldF x o]] 0 0) 1 = some [oldF x o] := fun _ => rfl
  have hc : ∀ H, callL ftK (oldF x o) [int t] H = some (boolA (oldB x o t), H) := fun H => by
    have := s122 t x o H
    unfold oldF
    rw [callL_fn] at this ⊢
    exact this
  have kk : ∀ K L Q, KW ftK (oldF x o) [.sc (.int .i64 t)] (hx K L) Q ↔ Q (.sc (.bool (oldB x o t))) (hx K L) := fun K L Q => KW_of (hc _)
  simp only [↓vp, vq0, vq1, vq2, vq3, vr0, vr1, vr2, vr3, vr4, vr5, vr6, vr7, vr8, vr9, vr10, vr11, vr12, vr13, vr14, vr15, vr16, vr17, vr18, vr19, vr20, vr21, vr22, vr23, vr24, vr25, vr26, vr27, vr28, vr29, vr30, vr31, vr32, vr33, vr34, opS, fpS, extO, okP, pack, nAl, allocA, shId, leaves, fillA, fillR, splice, Nat.reduceLT, Nat.reduceEqDiff, Nat.reduceLeDiff, Nat.reduceAdd, Nat.reduceSub, Nat.reduceMul, Int.reduceBEq, Int.reduceBNe, Int.reduceLT, Int.reduceLE, Int.reduceEq, reduceIte, reduceCtorEq, da, int, boolA, RetP_go, resT, resC, resN, retV1, retV2, retV3, retV0, frzFZ, takeM, Option.some.injEq, cp, kk]
theorem callU_prim {T : FT} {k : Nat} {p : List AV → Heap → Option (AV × Heap)} (hk : T k = some (.prim p)) {first caps args : List AV} {H : Heap} {r : AV × Heap} (h : p (first ++ args ++ caps) H = some r) (hn : H.next ≤ r.2.next) : callL T (.fn (.func k) first caps) args H = some r := by
  rw [callL_fn]
  unfold callF
  simp only [hk, h, Option.bind_some, if_pos hn]
theorem roP_val {p : List AV → Option AV} {args cs : List AV} {H H1 : Heap} {v : Value} (h1 : frzCells H args = some (cs, H1)) (h2 : p cs = some (.sc v)) : roP p args H = some (.sc v, H) := by
  unfold roP
  rw [h1, Option.bind_some, h2]
  rfl
theorem frz_bi {H : Heap} {b : Nat} {fz : Bool} {x : Int} (hg : H.get b = some (.box fz [int x])) (n : Nat) : ∃ H1, frz (n + 4) H (.ptr b 0 0) = some (.pim [[int x]] 0 0, H1) ∧ ∀ j, j ≠ b → H1.get j = H.get j := by
  cases fz with
  | true =>
    refine ⟨H, ?_, fun _ _ => rfl⟩
    simp only [frz, hg, if_true]
  | false =>
    refine ⟨H.set b (.box true [int x]), ?_, fun j hj => Heap.get_set_ne _ hj⟩
    simp only [frz, hg, if_true]
    show ((frz.frzL (n + 3) H [int x]).bind fun q => _) = _
    rw [show frz.frzL (n + 3) H [int x] = some ([int x], H) from rfl, Option.bind_some]
    simp only [hg]
theorem frz_test1 {H : Heap} {b : Nat} {fz : Bool} {x : Int} (hg : H.get b = some (.box fz [int x])) (t : Int) : ∃ H1, frzCells H [int t, .ptr b 0 0] = some ([int t, .pim [[int x]] 0 0], H1) := by
  obtain ⟨H1, h1, _⟩ := frz_bi hg 18
  refine ⟨H1, ?_⟩
  simp only [int] at h1 ⊢
  simp only [frzCells_eq, frzL_cons, frzL_nil, frz_int, h1, Option.bind_some]
theorem frz_test2 {H : Heap} {b b' : Nat} {fz fz' : Bool} {x o : Int} (hg : H.get b = some (.box fz [int x])) (hg' : H.get b' = some (.box fz' [int o])) (hne : b' ≠ b) (t : Int) : ∃ H1, frzCells H [int t, .ptr b 0 0, .ptr b' 0 0] = some ([int t, .pim [[int x]] 0 0, .pim [[int o]] 0 0], H1) := by
  obtain ⟨H1, h1, h2⟩ := frz_bi hg 18
  obtain ⟨H2, h3, _⟩ := frz_bi (H := H1) (by rw [h2 _ hne]; exact hg') 17
  refine ⟨H2, ?_⟩
  simp only [int] at h1 h3 ⊢
  simp only [frzCells_eq, frzL_cons, frzL_nil, frz_int, h1, h3, Option.bind_some]
def G0 : AV := .fn (.func 121) [] []
theorem test0 (B : Nat) (H : Heap) : TestG ftU B G0 H fun _ => true := fun H' _ t =>
  callU_prim (p := roP (goP ftK 121)) rfl (roP_val (H1 := H') rfl (goP_val rfl (s121 t Heap.empty))) (Nat.le_refl _)
theorem test3 {B b : Nat} {H : Heap} {fz : Bool} {x : Int} (hg : H.get b = some (.box fz [int x])) (hb : b < B) : TestG ftU B (.fn (.func 133) [] [.ptr b 0 0]) H fun t => t != x := fun H' h t => by
  obtain ⟨H1, h1⟩ := frz_test1 (H := H') (by rw [h b hb]; exact hg) t
  exact callU_prim (p := roP (goP ftK 133)) rfl (roP_val h1 (goP_val rfl (s133 t x Heap.empty))) (Nat.le_refl _)
theorem test2 {B b b' : Nat} {H : Heap} {fz fz' : Bool} {x o : Int} (hg : H.get b = some (.box fz [int x])) (hg' : H.get b' = some (.box fz' [int o])) (hne : b' ≠ b) (hb : b < B) (hb' : b' < B) : TestG ftU B (.fn (.func 122) [] [.ptr b 0 0, .ptr b' 0 0]) H (oldB x o) := fun H' h t => by
  obtain ⟨H1, h1⟩ := frz_test2 (H := H') (by rw [h b hb]; exact hg) (by rw [h b' hb']; exact hg') hne t
  exact callU_prim (p := roP (goP ftK 122)) rfl (roP_val h1 (goP_val rfl (s122 t x o Heap.empty))) (Nat.le_refl _)
/-- The closure of Settle, in its box. -/
theorem frz_test4 {H : Heap} {b b' c : Nat} {x o : Int} (hg : H.get b = some (.box false [int x])) (hg' : H.get b' = some (.box false [int o])) (hc : H.get c = some (.box false [.fn (.func 122) [] [.ptr b 0 0, .ptr b' 0 0]])) (h1 : b' ≠ b) (h2 : c ≠ b) (h3 : c ≠ b') (t : Int) (l : List RunM) :
    ∃ H1, frzCells H [int t, encR l, .ptr c 0 0] = some ([int t, encR l, .pim [[oldF x o]] 0 0], H1) := by
  obtain ⟨H1, e1, q1⟩ := frz_bi hg 13
  obtain ⟨H2, e2, q2⟩ := frz_bi (H := H1) (by rw [q1 _ h1]; exact hg') 12
  have fc := fun n H => frz_ptr n H c 0 0
  have hc2 : H2.get c = some (.box false [.fn (.func 122) [] [.ptr b 0 0, .ptr b' 0 0]]) := by rw [q2 _ h3, q1 _ h2]; exact hc
  refine ⟨H2.set c (.box true [oldF x o]), ?_⟩
  unfold oldF
  simp only [int] at e1 e2 ⊢
  have er : ∀ H, frz 22 H (encR l) = some (encR l, H) := fun _ => rfl
  simp only [frzCells_eq, frzL_cons, frzL_nil, frz_int, er, fc, hc, frz_fn, e1, e2, hc2, Option.bind_some, if_true]
theorem test4 {B b b' c mid : Nat} {H : Heap} {x o : Int} (hg : H.get b = some (.box false [int x])) (hg' : H.get b' = some (.box false [int o])) (hc : H.get c = some (.box false [.fn (.func 122) [] [.ptr b 0 0, .ptr b' 0 0]])) (h1 : b' ≠ b) (h2 : c ≠ b) (h3 : c ≠ b')
    (l1 : b < B) (l2 : b' < B) (l3 : c < B) (m1 : b ≠ mid) (m2 : b' ≠ mid) (m3 : c ≠ mid) : TestE ftU B mid (.fn (.func 124) [] [.ptr c 0 0]) H (oldB x o) := fun H' h t l => by
  obtain ⟨H1, e1⟩ := frz_test4 (H := H') (by rw [h b l1 m1]; exact hg) (by rw [h b' l2 m2]; exact hg') (by rw [h c l3 m3]; exact hc) h1 h2 h3 t l
  exact callU_prim (p := roP (goP ftK 124)) rfl (roP_val e1 (goP_val rfl (s124 t x o l Heap.empty))) (Nat.le_refl _)
noncomputable def holdsE (T : FT) (G : AV) (H : Heap) (t : Int) : Bool := match callL T G [int t, encR []] H with
  | some (.sc (.bool b), _) => b
  | _ => false
theorem holdsE_eq {T : FT} {B mid : Nat} {G : AV} {H : Heap} {hb : Int → Bool} (h : TestE T B mid G H hb) : holdsE T G H = hb := by
  funext t
  unfold holdsE
  rw [h H (fun _ _ _ => rfl) t []]
  rfl
theorem zip_map : ∀ {hd : HeldM} {bs : List Nat}, bs.length = hd.length → (hd.zip bs).map (fun z => entC z.1) = hd.map entC ∧ (hd.zip bs).map (·.2) = bs ∧ (hd.zip bs).map (·.1.1) = hd.map (·.1)
  | [], [], _ => ⟨rfl, rfl, rfl⟩
  | x :: hd, b :: bs, h => by
    obtain ⟨h1, h2, h3⟩ := zip_map (hd := hd) (bs := bs) (by simpa using h)
    simp only [List.zip_cons_cons, List.map_cons, h1, h2, h3, and_self]
  | [], _ :: _, h => by simp at h
  | _ :: _, [], h => by simp at h
theorem mapB_zip {hd : HeldM} {bs : List Nat} (h : bs.length = hd.length) (ck : Nat) : mapB (hd.zip bs) ck = .mpb (some .i64) (hd.map entC) bs ck := by
  obtain ⟨h1, h2, _⟩ := zip_map h
  unfold mapB
  rw [h1, h2]
theorem entH_of {hd : HeldM} {bs : List Nat} {ck : Nat} (h : HeldH hd bs ck) : EntH (hd.zip bs) ck := by
  obtain ⟨h1, h2, h3⟩ := zip_map h.len
  exact ⟨by rw [h3]; exact h.keys, by rw [h2]; exact h.nd, by rw [h2]; exact h.lt⟩
open Classical in
noncomputable def delP' (args : List AV) (H : Heap) : Option (AV × Heap) :=
  match args with
  | [.mp mid, G] => match H.get mid with
    | some (.mpb (some .i64) es bs ck) => (decH es).bind fun hd =>
      if HeldH hd bs ck ∧ TestE ftU H.next mid G H (holdsE ftU G H) ∧ calleeD ftU G = none then some (.tup [], hx (H.set mid (mapB ((hd.zip bs).filter fun z => !holdsE ftU G H z.1.1) ck)) [.dead]) else none
    | _ => none
  | _ => none
theorem delP'_sl : SlF ftU 19 r123 c123 delP' := by
  intro args H r H' h
  unfold delP' at h
  split at h
  rotate_left
  · cases h
  rename_i mid G
  split at h
  rotate_left
  · cases h
  rename_i es bs ck hmap
  simp only [Option.bind_eq_some_iff] at h
  obtain ⟨hd, hh, h⟩ := h
  split at h
  rotate_left
  · cases h
  rename_i hc
  obtain ⟨c1, c3, c4⟩ := hc
  cases h
  obtain rfl := decH_some hh
  exact del_dx (by rw [mapB_zip c1.len]; exact hmap) (entH_of c1) c3 c4
theorem delP'_at {H : Heap} {mid : Nat} {hd : HeldM} {bs : List Nat} {ck : Nat} {G : AV} {hb : Int → Bool} (hm : H.get mid = some (.mpb (some .i64) (hd.map entC) bs ck)) (hh : HeldH hd bs ck) (hG : TestE ftU H.next mid G H hb) (hGd : calleeD ftU G = none) :
    delP' [.mp mid, G] H = some (.tup [], hx (H.set mid (mapB ((hd.zip bs).filter fun z => !hb z.1.1) ck)) [.dead]) := by
  unfold delP'
  simp only [hm, decH_enc, Option.bind_some]
  rw [if_pos ⟨hh, by rw [holdsE_eq hG]; exact hG, hGd⟩, holdsE_eq hG]
theorem filter_zip (q : Int → Bool) : ∀ (hd : HeldM) (bs : List Nat), bs.length = hd.length → ((hd.zip bs).filter fun z => q z.1.1).map (·.1) = hd.filter fun x => q x.1
  | [], [], _ => rfl
  | x :: hd, b :: bs, h => by
    have ih := filter_zip q hd bs (by simpa using h)
    rw [List.zip_cons_cons]
    cases e : q x.1 with
    | true => rw [List.filter_cons_of_pos (by simpa using e), List.filter_cons_of_pos (by simpa using e), List.map_cons, ih]
    | false => rw [List.filter_cons_of_neg (by simpa using e), List.filter_cons_of_neg (by simpa using e), ih]
  | [], _ :: _, h => by simp at h
  | _ :: _, [], h => by simp at h
/-- What is left is held as before. -/
theorem held_filter {hd : HeldM} {bs : List Nat} {ck : Nat} (h : HeldH hd bs ck) (q : Int → Bool) : HeldH (hd.filter fun x => q x.1) (((hd.zip bs).filter fun z => q z.1.1).map (·.2)) ck ∧
    mapB ((hd.zip bs).filter fun z => q z.1.1) ck = .mpb (some .i64) ((hd.filter fun x => q x.1).map entC) (((hd.zip bs).filter fun z => q z.1.1).map (·.2)) ck := by
  have he := entH_of h
  have hf := filter_zip q hd bs h.len
  refine ⟨⟨?_, nodup_filter _ _ he.nd, fun b hb => ?_, ?_, fun x hx => h.rg x (List.mem_filter.1 hx).1⟩, ?_⟩
  · rw [← hf]
    simp
  · rw [List.mem_map] at hb
    obtain ⟨z, hz, rfl⟩ := hb
    exact he.lt _ (List.mem_map.2 ⟨z, (List.mem_filter.1 hz).1, rfl⟩)
  · rw [← hf, List.map_map]
    exact nodup_filter _ _ he.keys
  · unfold mapB
    rw [← hf, List.map_map]
    rfl
end Go.VI

set_option linter.unusedVariables false
set_option linter.unusedSimpArgs false
set_option maxRecDepth 100000
namespace Go.VI
attribute [local congr] AW_congr OW_congr DW_congr NW_congr VW_congr GW_congr PW_congr KW_congr ite_congr' GV_congr CV_congr dx_congr dOW_congr dop_congr CP_congr AQ_congr AZ_congr callD_congr NQ_congr rngW_congr nxtW_congr entW_congr delW_congr
theorem cloF_val {l : List RunM} (h : l.length ≤ 1000000) : cloF 2 16 [encR l] = some (encR l) := by
  cases l with
  | nil => rfl
  | cons x l =>
    show (if ((l.map runC).length + 1) * 16 ≤ 140737488355328 ∧ allSz 2 ((x :: l).map runC) = true then some (AV.lst ((x :: l).map runC)) else none) = _
    rw [if_pos ⟨by simp at h ⊢; omega, allR _⟩]
    rfl
theorem ku111 {T : FT} (hT : T 111 = some (.pprim (cloF 2 16))) {l : List RunM} (h : l.length ≤ 1000000) {H : Heap} {Q : AV → Heap → Prop} : KW T (.fn (.func 111) [] []) [encR l] H Q ↔ Q (encR l) H :=
  KW_of (call_pprim (as' := [encR l]) (p := cloF 2 16) hT rfl (cloF_val h))
theorem put_same : ∀ (zs : List EntM), (zs.map (·.1.1)).Nodup → ∀ z ∈ zs, putE (int z.1.1) (encR z.1.2) (zs.map fun z => entC z.1) = (zs.map fun z => entC z.1) ∧ (lookE (int z.1.1) (zs.map fun z => entC z.1)).isSome = true
  | [], _, z, hz => by cases hz
  | y :: zs, h, z, hz => by
    have hk : keyEq (int z.1.1) (int y.1.1) = (z.1.1 == y.1.1) := rfl
    rw [List.map_cons] at h
    simp only [List.map_cons]
    show (if keyEq (int z.1.1) (int y.1.1) then (int z.1.1, encR z.1.2) :: (zs.map fun z => entC z.1) else entC y.1 :: putE (int z.1.1) (encR z.1.2) (zs.map fun z => entC z.1)) = _ ∧ (if keyEq (int z.1.1) (int y.1.1) then some (encR y.1.2) else lookE (int z.1.1) (zs.map fun z => entC z.1)).isSome = true
    rw [hk]
    cases e : (z.1.1 == y.1.1) with
    | true =>
      have e2 : z = y := nodup_inj (fun z : EntM => z.1.1) (l := y :: zs) h z hz y (by simp) (by simpa using e)
      subst e2
      exact ⟨rfl, rfl⟩
    | false =>
      have hz2 : z ∈ zs := by
        rcases List.mem_cons.1 hz with rfl | hz
        · simp at e
        · exact hz
      rw [List.nodup_cons] at h
      obtain ⟨h1, h2⟩ := put_same zs h.2 z hz2
      simp only [Bool.false_eq_true, if_false, h1, h2]
      exact ⟨trivial, trivial⟩
def IC (H : Heap) (mid : Nat) (zs : List EntM) (ck : Nat) (p : PoolM) (n : Nat) (e : Env) (H' : Heap) : Prop :=
  ∃ seen f, e = mkE 44 f ∧ H' = hx H [.box false [int p.pages, int p.limit, encR p.free, .mp (H.next + 1)], mapB zs ck, .itb (H.next + 1) ck seen ck] ∧ f 3 = .ptr H.next 0 0 ∧ f 30 = .ptr (H.next + 2) 0 0 ∧ n = leftU (zs.map (·.2)) seen
theorem copy_dx {H : Heap} {pid mid : Nat} {p : PoolM} {bs : List Nat} {ck : Nat} (hp : PoolH H pid mid p bs ck) :
    dCall ftU (fun _ => none) 44 r73 c73 [.ptr pid 0 0] H fun r2 H2 => (r2 = .ptr H.next 0 0 ∨ (r2 = .sc (.slice none 0 0) ∧ AV.ptr H.next 0 0 = .lst [])) ∧ Forgets H2 (hx H [.box false [int p.pages, int p.limit, encR p.free, .mp (H.next + 1)], .mpb (some .i64) (p.held.map entC) bs ck, .dead]) := by
  unfold dCall
  rw [enterE_mkE _ _ (by simp), ← hx_nil H]
  unfold c73 r73
  have q0 := fun L => get_old hp.box L
  have q1 := fun L => get_old hp.map L
  have hfl := right_len hp.free
  have k111 := fun H Q => @ku111 ftU rfl p.free (by omega) H Q
  have k132 : ∀ L Q, KW ftU (.fn (.func 132) [] []) [.mp mid] (hx H L) Q ↔ Q (.mp (hx H L).next) (hx H (L ++ [.mpb (some .i64) (p.held.map entC) bs ck])) := fun L Q => by
    rw [← hx_hx]
    refine KW_of (callU_prim (p := cloMP) rfl ?_ (by rw [hx_next (hx H L)]; omega))
    simp only [cloMP, List.nil_append, List.append_nil, q1]
  have v111 : pureV ftU (.fn (.func 111) [] []) [encR p.free] = some (false, []) := rfl
  have v132 : pureV ftU (.fn (.func 132) [] []) [.mp mid] = none := rfl
  have v132t : pureV ftU (.tup [.fn (.func 132) [] []]) [.mp mid] = none := rfl
  have sg : ∀ L L' : List Blk, ((hx H L').get pid = (hx H L).get pid) = True := fun L L' => eq_true (by rw [q0, q0])
  have xf : ∀ q, exFQ (none : FP).isSome q = q := fun q => by cases q <;> rfl
  have B1 : ∀ L, (hx H (.box false [.sc (.int .i64 p.pages), .sc (.int .i64 p.limit), encR p.free, .mp (H.next + 1)] :: .mpb (some .i64) (p.held.map entC) bs ck :: L)).get (H.next + 1) = some (.mpb (some .i64) (p.held.map entC) bs ck) := fun L => hx_get H _ 1
  have rg := fun nid K => @rngW_mp nid _ K (H.next + 1) ck _ _ _ (B1 [])
  simp only [vx, vxm, ↓vp, vq0, vq1, vq2, vq3, vr0, vr1, vr2, vr3, vr4, vr5, vr6, vr7, vr8, vr9, vr10, vr11, vr12, vr13, vr14, vr15, vr16, vr17, vr18, vr19, vr20, vr21, vr22, vr23, vr24, vr25, vr26, vr27, vr28, vr29, vr30, vr31, vr32, vr33, vr34, opS, fpS, extO, okP, pack, nAl, allocA, shId, leaves, fillA, fillR, splice, Nat.reduceLT, Nat.reduceEqDiff, Nat.reduceLeDiff, Nat.reduceAdd, Nat.reduceSub, Nat.reduceMul, Int.reduceBEq, Int.reduceBNe, Int.reduceLT, Int.reduceLE, Int.reduceEq, reduceIte, reduceCtorEq, da, int, boolA, dr, q0, k111, k132, v111, v132, v132t, mkFQ_n, compat_al, compat_la, sameAt1, sg, xf, Bool.and_eq_true, rg]
  rw [← mapB_zip hp.hd.len]
  have hz := entH_of hp.hd
  have hzr : ∀ z ∈ p.held.zip bs, rightM z.1.2 = true := fun z hzm => hp.hd.rg _ (List.of_mem_zip (a := z.1) (b := z.2) hzm).1
  generalize p.held.zip bs = zs at *
  refine ⟨IC H (H.next + 1) zs ck p, ⟨_, [], _, rfl, rfl, ?_, ?_, rfl⟩, ?_⟩
  any_goals (simp only [↓vp, vq0, vq1, vq2, vq3, vr0, vr1, vr2, vr3, vr4, vr5, vr6, vr7, vr8, vr9, vr10, vr11, vr12, vr13, vr14, vr15, vr16, vr17, vr18, vr19, vr20, vr21, vr22, vr23, vr24, vr25, vr26, vr27, vr28, vr29, vr30, vr31, vr32, vr33, vr34, opS, fpS, extO, okP, pack, nAl, allocA, shId, leaves, fillA, fillR, splice, Nat.reduceLT, Nat.reduceEqDiff, Nat.reduceLeDiff, Nat.reduceAdd, Nat.reduceSub, Nat.reduceMul, Int.reduceBEq, Int.reduceBNe, Int.reduceLT, Int.reduceLE, Int.reduceEq, reduceIte, reduceCtorEq, da, int, boolA]; done)
  rintro n e H' ⟨seen, f, rfl, rfl, q03, q30, rfl⟩
  have G0 : ∀ a b L, (hx H (a :: b :: L)).get H.next = some a := fun a b L => hx_get0 _ _
  have G1 : ∀ a b L, (hx H (a :: b :: L)).get (H.next + 1) = some b := fun a b L => hx_get _ _ 1
  have G2 : ∀ a b c L, (hx H (a :: b :: c :: L)).get (H.next + 2) = some c := fun a b c L => hx_get _ _ 2
  have S1 : ∀ a b L b', (hx H (a :: b :: L)).set (H.next + 1) b' = hx H (a :: b' :: L) := fun a b L b' => hx_set _ _ _ 1
  have S2 : ∀ a b c c', (hx H [a, b, c]).set (H.next + 2) c' = hx H [a, b, c'] := fun a b c c' => hx_set _ _ _ 2
  unfold c73L0
  simp only [vx, vxm, ↓vp, vq0, vq1, vq2, vq3, vr0, vr1, vr2, vr3, vr4, vr5, vr6, vr7, vr8, vr9, vr10, vr11, vr12, vr13, vr14, vr15, vr16, vr17, vr18, vr19, vr20, vr21, vr22, vr23, vr24, vr25, vr26, vr27, vr28, vr29, vr30, vr31, vr32, vr33, vr34, opS, fpS, extO, okP, pack, nAl, allocA, shId, leaves, fillA, fillR, splice, Nat.reduceLT, Nat.reduceEqDiff, Nat.reduceLeDiff, Nat.reduceAdd, Nat.reduceSub, Nat.reduceMul, Int.reduceBEq, Int.reduceBNe, Int.reduceLT, Int.reduceLE, Int.reduceEq, reduceIte, reduceCtorEq, da, int, boolA, q30]
  refine ⟨H.next + 2, H.next + 1, ck, seen, ck, _, _, _, ck, rfl, G2 _ _ _ _, G1 _ _ _, hz.lt, Nat.le_refl _, fun i k v b h1 h2 h3 => ?_, fun hall => ?_⟩
  · rw [List.getElem?_map, Option.map_eq_some_iff] at h1 h2
    obtain ⟨z, hz1, hze⟩ := h1
    obtain ⟨z', hz2, rfl⟩ := h2
    rw [hz1] at hz2
    cases hz2
    cases hze
    have hzm := List.mem_of_getElem? hz1
    have hlt := leftU_step (List.mem_map.2 ⟨z, hzm, rfl⟩ : z.2 ∈ zs.map (·.2)) h3
    have hl2 := right_len (hzr z hzm)
    have k2 := fun H Q => @ku111 ftU rfl z.1.2 (by omega) H Q
    have v2 : pureV ftU (.fn (.func 111) [] []) [encR z.1.2] = some (false, []) := rfl
    obtain ⟨e1, e2⟩ := put_same zs hz.keys z hzm
    rw [S2]
    simp only [vx, vxm, ↓vp, vq0, vq1, vq2, vq3, vr0, vr1, vr2, vr3, vr4, vr5, vr6, vr7, vr8, vr9, vr10, vr11, vr12, vr13, vr14, vr15, vr16, vr17, vr18, vr19, vr20, vr21, vr22, vr23, vr24, vr25, vr26, vr27, vr28, vr29, vr30, vr31, vr32, vr33, vr34, opS, fpS, extO, okP, pack, nAl, allocA, shId, leaves, fillA, fillR, splice, Nat.reduceLT, Nat.reduceEqDiff, Nat.reduceLeDiff, Nat.reduceAdd, Nat.reduceSub, Nat.reduceMul, Int.reduceBEq, Int.reduceBNe, Int.reduceLT, Int.reduceLE, Int.reduceEq, reduceIte, reduceCtorEq, da, int, boolA, q30]
    refine ⟨H.next + 2, H.next + 1, ck, seen, z.2, _, _, _, ck, rfl, G2 _ _ _ _, G1 _ _ _, hz.nd, i, _, _, by rw [List.getElem?_map, hz1]; rfl, by rw [List.getElem?_map, hz1]; rfl, ?_⟩
    simp only [entC]
    simp only [int] at e1 e2
    unfold mapB
    simp only [vx, vxm, ↓vp, vq0, vq1, vq2, vq3, vr0, vr1, vr2, vr3, vr4, vr5, vr6, vr7, vr8, vr9, vr10, vr11, vr12, vr13, vr14, vr15, vr16, vr17, vr18, vr19, vr20, vr21, vr22, vr23, vr24, vr25, vr26, vr27, vr28, vr29, vr30, vr31, vr32, vr33, vr34, opS, fpS, extO, okP, pack, nAl, allocA, shId, leaves, fillA, fillR, splice, Nat.reduceLT, Nat.reduceEqDiff, Nat.reduceLeDiff, Nat.reduceAdd, Nat.reduceSub, Nat.reduceMul, Int.reduceBEq, Int.reduceBNe, Int.reduceLT, Int.reduceLE, Int.reduceEq, reduceIte, reduceCtorEq, da, int, boolA, dr, q03, q30, G0, G1, k2, v2, keyOk, e1, e2, putB, putC, S1]
    exact ⟨_, hlt, seen ++ [z.2], _, rfl, rfl, by simp only [↓vp, vq0, vq1, vq2, vq3, vr0, vr1, vr2, vr3, vr4, vr5, vr6, vr7, vr8, vr9, vr10, vr11, vr12, vr13, vr14, vr15, vr16, vr17, vr18, vr19, vr20, vr21, vr22, vr23, vr24, vr25, vr26, vr27, vr28, vr29, vr30, vr31, vr32, vr33, vr34, opS, fpS, extO, okP, pack, nAl, allocA, shId, leaves, fillA, fillR, splice, Nat.reduceLT, Nat.reduceEqDiff, Nat.reduceLeDiff, Nat.reduceAdd, Nat.reduceSub, Nat.reduceMul, Int.reduceBEq, Int.reduceBNe, Int.reduceLT, Int.reduceLE, Int.reduceEq, reduceIte, reduceCtorEq, da, int, boolA, q03], by simp only [↓vp, vq0, vq1, vq2, vq3, vr0, vr1, vr2, vr3, vr4, vr5, vr6, vr7, vr8, vr9, vr10, vr11, vr12, vr13, vr14, vr15, vr16, vr17, vr18, vr19, vr20, vr21, vr22, vr23, vr24, vr25, vr26, vr27, vr28, vr29, vr30, vr31, vr32, vr33, vr34, opS, fpS, extO, okP, pack, nAl, allocA, shId, leaves, fillA, fillR, splice, Nat.reduceLT, Nat.reduceEqDiff, Nat.reduceLeDiff, Nat.reduceAdd, Nat.reduceSub, Nat.reduceMul, Int.reduceBEq, Int.reduceBNe, Int.reduceLT, Int.reduceLE, Int.reduceEq, reduceIte, reduceCtorEq, da, int, boolA, q30], rfl⟩
  · simp only [vx, vxm, ↓vp, vq0, vq1, vq2, vq3, vr0, vr1, vr2, vr3, vr4, vr5, vr6, vr7, vr8, vr9, vr10, vr11, vr12, vr13, vr14, vr15, vr16, vr17, vr18, vr19, vr20, vr21, vr22, vr23, vr24, vr25, vr26, vr27, vr28, vr29, vr30, vr31, vr32, vr33, vr34, opS, fpS, extO, okP, pack, nAl, allocA, shId, leaves, fillA, fillR, splice, Nat.reduceLT, Nat.reduceEqDiff, Nat.reduceLeDiff, Nat.reduceAdd, Nat.reduceSub, Nat.reduceMul, Int.reduceBEq, Int.reduceBNe, Int.reduceLT, Int.reduceLE, Int.reduceEq, reduceIte, reduceCtorEq, da, int, boolA, q30]
    unfold c73R1
    simp only [vx, vxm, ↓vp, vq0, vq1, vq2, vq3, vr0, vr1, vr2, vr3, vr4, vr5, vr6, vr7, vr8, vr9, vr10, vr11, vr12, vr13, vr14, vr15, vr16, vr17, vr18, vr19, vr20, vr21, vr22, vr23, vr24, vr25, vr26, vr27, vr28, vr29, vr30, vr31, vr32, vr33, vr34, opS, fpS, extO, okP, pack, nAl, allocA, shId, leaves, fillA, fillR, splice, Nat.reduceLT, Nat.reduceEqDiff, Nat.reduceLeDiff, Nat.reduceAdd, Nat.reduceSub, Nat.reduceMul, Int.reduceBEq, Int.reduceBNe, Int.reduceLT, Int.reduceLE, Int.reduceEq, reduceIte, reduceCtorEq, da, int, boolA, q03]
    refine ⟨_, res_tmp (by decide), ?_, ?_⟩
    · simp only [↓vp, vq0, vq1, vq2, vq3, vr0, vr1, vr2, vr3, vr4, vr5, vr6, vr7, vr8, vr9, vr10, vr11, vr12, vr13, vr14, vr15, vr16, vr17, vr18, vr19, vr20, vr21, vr22, vr23, vr24, vr25, vr26, vr27, vr28, vr29, vr30, vr31, vr32, vr33, vr34, opS, fpS, extO, okP, pack, nAl, allocA, shId, leaves, fillA, fillR, splice, Nat.reduceLT, Nat.reduceEqDiff, Nat.reduceLeDiff, Nat.reduceAdd, Nat.reduceSub, Nat.reduceMul, Int.reduceBEq, Int.reduceBNe, Int.reduceLT, Int.reduceLE, Int.reduceEq, reduceIte, reduceCtorEq, da, int, boolA]
      exact .inl trivial
    · refine ⟨by simp [hx_next], fun j B hj => ?_⟩
      rcases Nat.lt_or_ge j H.next with hlt | hge
      · right
        rw [hx_nil H, hx_get_old _ _ _ hlt] at hj
        rw [hx_get_old _ _ _ hlt, hj]
      · have hjl := Heap.get_lt hj
        rw [hx_nil H] at hj hjl
        rw [hx_next] at hjl
        simp at hjl
        rcases (show j = H.next ∨ j = H.next + 1 ∨ j = H.next + 2 by omega) with rfl | rfl | rfl
        · right
          rw [G0] at hj ⊢
          exact hj
        · right
          rw [G1] at hj ⊢
          exact hj
        · left
          rw [G2] at hj
          cases hj
          rfl
/-- Copy, as a primitive. -/
noncomputable def copyP (args : List AV) (H : Heap) : Option (AV × Heap) :=
  match args with
  | [.ptr pid 0 0] => match H.get pid with
    | some (.box false [.sc (.int .i64 a), .sc (.int .i64 b), .lst fr, .mp mid]) => match H.get mid with
      | some (.mpb (some .i64) es bs ck) => (decR fr).bind fun f => (decH es).bind fun hd =>
        have := Classical.propDecidable (HeldH hd bs ck ∧ rightM f = true)
        if HeldH hd bs ck ∧ rightM f = true then some (.ptr H.next 0 0, hx H [.box false [int a, int b, encR f, .mp (H.next + 1)], .mpb (some .i64) (hd.map entC) bs ck, .dead]) else none
      | _ => none
    | _ => none
  | _ => none
theorem copyP_sl : SlF ftU 44 r73 c73 copyP := by
  intro args H r H' h
  unfold copyP at h
  split at h
  rotate_left
  · cases h
  rename_i pid
  split at h
  rotate_left
  · cases h
  rename_i a b fr mid hbox
  split at h
  rotate_left
  · cases h
  rename_i es bs ck hmap
  simp only [Option.bind_eq_some_iff] at h
  obtain ⟨f, hf, hd, hh, h⟩ := h
  split at h
  rotate_left
  · cases h
  rename_i hc
  obtain ⟨c1, c2⟩ := hc
  cases h
  obtain rfl := decR_some hf
  obtain rfl := decH_some hh
  exact copy_dx (p := ⟨a, b, f, hd⟩) ⟨hbox, hmap, c1, c2⟩
theorem copyP_at {H : Heap} {pid mid : Nat} {p : PoolM} {bs : List Nat} {ck : Nat} (hp : PoolH H pid mid p bs ck) : copyP [.ptr pid 0 0] H = some (.ptr H.next 0 0, hx H [.box false [int p.pages, int p.limit, encR p.free, .mp (H.next + 1)], .mpb (some .i64) (p.held.map entC) bs ck, .dead]) := by
  unfold copyP
  simp only [hp.box, int, encR, hp.map, decR_enc, decH_enc, Option.bind_some]
  rw [if_pos ⟨hp.hd, hp.free⟩]
end Go.VI

set_option linter.unusedVariables false
set_option linter.unusedSimpArgs false
set_option maxRecDepth 100000
namespace Go.VI
attribute [local congr] AW_congr OW_congr DW_congr NW_congr VW_congr GW_congr PW_congr KW_congr ite_congr' GV_congr CV_congr KF_congr
/-- The table of pools. -/
noncomputable def ftB : FT
  | 40 => some (.pprim (goP ftM 40))
  | 42 => some (.pprim (goP ftM 42))
  | 43 => some (.pprim (goP ftM 43))
  | 44 => some (.pprim (goP ftM 44))
  | 52 => some (.pprim (goP ftM 52))
  | 53 => some (.pprim (goP ftM 53))
  | 54 => some (.pprim (goP ftM 54))
  | 45 => some (.go true 26 r45 c45)
  | 48 => some (.go true 51 r48 c48)
  | 49 => some (.go true 29 r49 c49)
  | 41 => some (.go true 42 r41 c41)
  | 111 => some (.pprim (cloF 2 16))
  | 120 => some (.prim unionP)
  | 123 => some (.prim delP')
  | 73 => some (.prim copyP)
  | 55 => some (.go true 73 r55 c55)
  | 56 => some (.go true 97 r56 c56)
  | 57 => some (.go false 60 r57 c57)
  | 58 => some (.go true 37 r58 c58)
  | 59 => some (.go false 7 r59 c59)
  | 60 => some (.go false 8 r60 c60)
  | 61 => some (.go false 68 r61 c61)
  | 62 => some (.go true 18 r62 c62)
  | 63 => some (.go false 5 r63 c63)
  | 64 => some (.go false 58 r64 c64)
  | 65 => some (.go false 25 r65 c65)
  | 66 => some (.go true 84 r66 c66)
  | 67 => some (.go false 39 r67 c67)
  | 68 => some (.go true 105 r68 c68)
  | 69 => some (.go true 58 r69 c69)
  | 70 => some (.go true 44 r70 c70)
  | 71 => some (.go true 32 r71 c71)
  | 72 => some (.go false 35 r72 c72)
  | 74 => some (.go false 23 r74 c74)
  | 118 => some (.go true 19 r118 c118)
  | 119 => some (.go false 44 r119 c119)
  | 125 => some (.go true 59 r125 c125)
  | 126 => some (.go true 32 r126 c126)
  | 127 => some (.go true 38 r127 c127)
  | 128 => some (.go true 17 r128 c128)
  | 129 => some (.go true 37 r129 c129)
  | 130 => some (.go true 47 r130 c130)
  | 131 => some (.go true 38 r131 c131)
  | 166 => some (.go true 22 r166 c166)
  | 167 => some (.go true 32 r167 c167)
  | _ => none
def RetW (rs : List ARes) (P : AV → Heap → Prop) (x : AExit) (e : Env) (H : Heap) : Prop := leaves x = true ∧ ∃ R, resultsA H e rs = some R ∧ P R H
section
variable {P : AV → Heap → Prop} {x : AExit} {n t u : Nat} {f : Nat → AV} {H : Heap}
theorem rw0 : RetW [] P x (mkE n f) H ↔ leaves x = true ∧ P (.tup []) H := by
  unfold RetW resultsA
  simp [resN]
theorem rw1 : RetW [.tmp t] P x (mkE n f) H ↔ leaves x = true ∧ P (if t < n then f t else .bad) H := by
  unfold RetW resultsA
  simp only [resT, resN, Option.map_some, Option.some.injEq, exists_eq_left']
theorem rw2 : RetW [.tmp t, .tmp u] P x (mkE n f) H ↔ leaves x = true ∧ P (.tup [if t < n then f t else .bad, if u < n then f u else .bad]) H := by
  unfold RetW resultsA
  simp only [resT, resN, Option.map_some, Option.some.injEq, exists_eq_left']
theorem rwc {g : Bool} {m : Nat} : RetW [.cell t g m] P x (mkE n f) H ↔ leaves x = true ∧ PW (((cellsAt H (if t < n then f t else .bad) m).bind (pack g)).map fun v => (v, H)) P := by
  unfold RetW resultsA PW
  simp only [resC, resN, Option.map_some]
  cases ((cellsAt H (if t < n then f t else .bad) m).bind (pack g)) with
  | none => simp
  | some v =>
    simp
    exact fun _ => ⟨fun h => ⟨v, H, ⟨rfl, rfl⟩, h⟩, fun ⟨_, _, ⟨rfl, rfl⟩, h⟩ => h⟩
end
set_option linter.defProp false in
def rw := And.intro @rw0 <| And.intro @rw1 <| And.intro @rw2 @rwc
theorem call_W {ft : FT} {k : FuncId} {args : List AV} {K : Heap} {n : Nat} {rs : List ARes} {body : ACode} {P : AV → Heap → Prop} (hk : ft k = some (.go false n rs body)) (hl : args.length ≤ n)
    (h : AW ft body (mkE n (ofL args)) (hx K []) (RetW rs P)) : KW ft (.fn (.func k) [] []) args K P := by
  rw [hx_nil] at h
  exact call_oW hk hl h
section
variable {k : Nat} {args as' : List AV} {v : AV} {H H1 H2 : Heap} {Q : AV → Heap → Prop}
theorem kB_of (hk : ftB k = some (.pprim (goP ftM k))) (hz : frzCells H args = some (as', H1)) (hc : closedL as' = true) (h : callL ftM (.fn (.func k) [] []) as' Heap.empty = some (v, H2)) : KW ftB (.fn (.func k) [] []) args H Q ↔ Q v H1 :=
  KW_of (call_pprim (as' := as') (p := goP ftM k) hk (by simpa using hz) (goP_val hc h))
end
section
variable {H : Heap} {Q : AV → Heap → Prop}
theorem kB40 {l : List RunM} (h : l.length ≤ 2000000) : KW ftB (.fn (.func 40) [] []) [encR l] H Q ↔ Q (boolA (rightM l)) H := kB_of rfl rfl rfl (callL_sub ftM_sub (s40 l h Heap.empty))
theorem kB42 {l : List RunM} (h : l.length ≤ 2000000) : KW ftB (.fn (.func 42) [] []) [encR l] H Q ↔ Q (int (countM l)) H := kB_of rfl rfl rfl (callL_sub ftM_sub (s42 l h Heap.empty))
theorem kB43 {l : List RunM} (h : l.length ≤ 2000000) : KW ftB (.fn (.func 43) [] []) [encR l] H Q ↔ Q (int (endsM l)) H := kB_of rfl rfl rfl (callL_sub ftM_sub (s43 l h Heap.empty))
theorem kB44 {l : List RunM} (h : l.length ≤ 2000000) {p : Int} : KW ftB (.fn (.func 44) [] []) [encR l, int p] H Q ↔ Q (boolA (hasM l p)) H := kB_of rfl rfl rfl (s44 l h p Heap.empty)
theorem kB52 {a b : List RunM} (ha : a.length ≤ 100000) (hb : b.length ≤ 100000) : KW ftB (.fn (.func 52) [] []) [encR a, encR b] H Q ↔ Q (encR (unionM a b)) H := kB_of rfl rfl rfl (callL_sub ftM_sub (s52 a b ha hb Heap.empty))
theorem kB53 {a b : List RunM} (ha : a.length ≤ 2000000) (hb : b.length ≤ 2000000) : KW ftB (.fn (.func 53) [] []) [encR a, encR b] H Q ↔ Q (boolA (meetM a b)) H := kB_of rfl rfl rfl (s53 a b ha hb Heap.empty)
theorem kB54 {l : List RunM} (h : l.length ≤ 100000) {n : Int} : KW ftB (.fn (.func 54) [] []) [encR l, int n] H Q ↔ Q (.tup [int (tookM l n).1, encR (tookM l n).2.1, boolA (tookM l n).2.2]) H := kB_of rfl rfl rfl (s54 l h n Heap.empty)
theorem kB111 {l : List RunM} (h : l.length ≤ 1000000) : KW ftB (.fn (.func 111) [] []) [encR l] H Q ↔ Q (encR l) H := ku111 rfl h
end
structure PoolOk (p : PoolM) : Prop where
  lo : 2 ≤ p.pages
  le : p.pages ≤ p.limit
  hi : p.limit ≤ 16384
  free : ∀ x ∈ p.free, endM x ≤ p.pages
  held : ∀ y ∈ p.held, ∀ x ∈ y.2, endM x ≤ p.pages
/-- All but a pool is as it was. -/
structure PFrame (pid mid : Nat) (K K' : Heap) : Prop where
  le : K.next ≤ K'.next
  eq : ∀ j, j < K.next → j ≠ pid → j ≠ mid → K'.get j = K.get j
theorem pool_ne {K : Heap} {pid mid : Nat} {p : PoolM} {bs : List Nat} {ck : Nat} (h : PoolH K pid mid p bs ck) : pid ≠ mid := fun e => by
  have := h.map
  rw [← e, h.box] at this
  cases this
theorem pool_hx {K : Heap} {pid mid : Nat} {p : PoolM} {bs : List Nat} {ck : Nat} (h : PoolH K pid mid p bs ck) (L : List Blk) : PoolH (hx K L) pid mid p bs ck := ⟨get_old h.box L, get_old h.map L, h.hd, h.free⟩
section
variable {K : Heap} {pid mid : Nat} {p : PoolM} {bs : List Nat} {ck : Nat} (hp : PoolH K pid mid p bs ck) {Q : AV → Heap → Prop}
include hp
theorem o59 : KW ftB (.fn (.func 59) [] []) [.ptr pid 0 0] K Q ↔ Q (int p.pages) K := by
  refine KW_of (call_o rfl (by simp) ?_)
  unfold c59 r59 RetO
  have q0 := fun L => get_old hp.box L
  simp only [↓vp, vq0, vq1, vq2, vq3, vr0, vr1, vr2, vr3, vr4, vr5, vr6, vr7, vr8, vr9, vr10, vr11, vr12, vr13, vr14, vr15, vr16, vr17, vr18, vr19, vr20, vr21, vr22, vr23, vr24, vr25, vr26, vr27, vr28, vr29, vr30, vr31, vr32, vr33, vr34, opS, fpS, extO, okP, pack, nAl, allocA, shId, leaves, fillA, fillR, splice, Nat.reduceLT, Nat.reduceEqDiff, Nat.reduceLeDiff, Nat.reduceAdd, Nat.reduceSub, Nat.reduceMul, Int.reduceBEq, Int.reduceBNe, Int.reduceLT, Int.reduceLE, Int.reduceEq, reduceIte, reduceCtorEq, da, int, boolA, q0, resultsA, resT, resN]
  exact hx_nil K
theorem o60 : KW ftB (.fn (.func 60) [] []) [.ptr pid 0 0] K Q ↔ Q (encR p.free) K := by
  refine KW_of (call_o rfl (by simp) ?_)
  unfold c60 r60 RetO
  have q0 := fun L => get_old hp.box L
  have hl := right_len hp.free
  have k1 := fun H Q => @kB111 H Q p.free (by omega)
  simp only [↓vp, vq0, vq1, vq2, vq3, vr0, vr1, vr2, vr3, vr4, vr5, vr6, vr7, vr8, vr9, vr10, vr11, vr12, vr13, vr14, vr15, vr16, vr17, vr18, vr19, vr20, vr21, vr22, vr23, vr24, vr25, vr26, vr27, vr28, vr29, vr30, vr31, vr32, vr33, vr34, opS, fpS, extO, okP, pack, nAl, allocA, shId, leaves, fillA, fillR, splice, Nat.reduceLT, Nat.reduceEqDiff, Nat.reduceLeDiff, Nat.reduceAdd, Nat.reduceSub, Nat.reduceMul, Int.reduceBEq, Int.reduceBNe, Int.reduceLT, Int.reduceLE, Int.reduceEq, reduceIte, reduceCtorEq, da, int, boolA, q0, k1, resultsA, resT, resN]
  exact hx_nil K
theorem o63 : KW ftB (.fn (.func 63) [] []) [.ptr pid 0 0] K Q ↔ Q (encR (unionSel (fun _ => true) p.held)) (hx K [.dead]) := by
  refine KW_of (call_o rfl (by simp) ?_)
  unfold c63 r63 RetO
  have k1 : ∀ L Q, KW ftB (.fn (.func 120) [] []) [.ptr pid 0 0, .fn (.func 121) [] []] (hx K L) Q ↔ Q (encR (unionSel (fun _ => true) p.held)) (hx (hx K L) [.dead]) := fun L Q =>
    KW_of (callU_prim (p := unionP) rfl (unionP_at (pool_hx hp L) (test0 _ _) rfl) (by rw [hx_next (hx K L)]; omega))
  simp only [↓vp, vq0, vq1, vq2, vq3, vr0, vr1, vr2, vr3, vr4, vr5, vr6, vr7, vr8, vr9, vr10, vr11, vr12, vr13, vr14, vr15, vr16, vr17, vr18, vr19, vr20, vr21, vr22, vr23, vr24, vr25, vr26, vr27, vr28, vr29, vr30, vr31, vr32, vr33, vr34, opS, fpS, extO, okP, pack, nAl, allocA, shId, leaves, fillA, fillR, splice, Nat.reduceLT, Nat.reduceEqDiff, Nat.reduceLeDiff, Nat.reduceAdd, Nat.reduceSub, Nat.reduceMul, Int.reduceBEq, Int.reduceBNe, Int.reduceLT, Int.reduceLE, Int.reduceEq, reduceIte, reduceCtorEq, da, int, boolA, k1, hx_hx, resultsA, resT, resN]
end
/-- How many pages at the end are free. -/
def tailP (p : PoolM) : Int := match p.free.getLast? with
  | some y => if y.1 + y.2 = p.pages then y.2 else 0
  | none => 0
section
variable {K : Heap} {pid mid : Nat} {p : PoolM} {bs : List Nat} {ck : Nat} (hp : PoolH K pid mid p bs ck) {Q : AV → Heap → Prop}
include hp
theorem o119a (h0 : p.free = []) : callL ftB (.fn (.func 119) [] []) [.ptr pid 0 0] K = some (int 0, K) := by
  refine call_o rfl (by simp) ?_
  unfold c119 r119 RetO
  have q0 := fun L => get_old hp.box L
  have n0 : lenV K 0 (encR p.free) = some (.sc (.int .i64 0), K) := by rw [lenR, h0]; rfl
  have n1 : ∀ H, lenV H 0 (encR p.free) = some (.sc (.int .i64 0), H) := fun H => by rw [lenR, h0]; rfl
  have w1 : IntKind.i64.wrap ((0 : Int) - 1) = -1 := rfl
  have z1 : ((-1 : Int) ≥ 0) = False := eq_false (by omega)
  have z2 : ((0 : Int) ≤ -1) = False := eq_false (by omega)
  rw [h0] at n1 q0
  simp only [↓vp, vq0, vq1, vq2, vq3, vr0, vr1, vr2, vr3, vr4, vr5, vr6, vr7, vr8, vr9, vr10, vr11, vr12, vr13, vr14, vr15, vr16, vr17, vr18, vr19, vr20, vr21, vr22, vr23, vr24, vr25, vr26, vr27, vr28, vr29, vr30, vr31, vr32, vr33, vr34, opS, fpS, extO, okP, pack, nAl, allocA, shId, leaves, fillA, fillR, splice, Nat.reduceLT, Nat.reduceEqDiff, Nat.reduceLeDiff, Nat.reduceAdd, Nat.reduceSub, Nat.reduceMul, Int.reduceBEq, Int.reduceBNe, Int.reduceLT, Int.reduceLE, Int.reduceEq, reduceIte, reduceCtorEq, da, int, boolA, q0, n1, w1, z1, z2, resultsA, resT, resN]
  exact hx_nil K
theorem o119b {m : Nat} (gm : m < p.free.length) (hm2 : p.free.length = m + 1) {b : Bool} (hb : (p.free[m].1 + p.free[m].2 == p.pages) = b) : callL ftB (.fn (.func 119) [] []) [.ptr pid 0 0] K = some (int (if b then p.free[m].2 else 0), K) := by
  refine call_o rfl (by simp) ?_
  unfold c119 r119 RetO
  have q0 := fun L => get_old hp.box L
  have hl := right_len hp.free
  have my := mayM_iff.1 ((right_iff.1 hp.free).1 _ (List.getElem_mem gm))
  have w2 : IntKind.i64.wrap ((p.free.length : Int) - 1) = (m : Int) := by rw [wrap_i64 (by omega)]; omega
  have w3 : IntKind.i64.wrap (p.free[m].1 + p.free[m].2) = p.free[m].1 + p.free[m].2 := wrap_i64 (by omega)
  have z1 : ((m : Int) ≥ 0) = True := eq_true (by omega)
  have z2 : ((0 : Int) ≤ m) = True := eq_true (by omega)
  have n1 : ∀ H, lenV H 0 (encR p.free) = some (.sc (.int .i64 p.free.length), H) := fun H => lenR _
  have i1 := fun H => @atR H p.free m gm
  have c1 := fun H off n => @cR H p.free m off n gm
  simp only [runC, int] at c1
  cases b with
  | true =>
    simp only [↓vp, vq0, vq1, vq2, vq3, vr0, vr1, vr2, vr3, vr4, vr5, vr6, vr7, vr8, vr9, vr10, vr11, vr12, vr13, vr14, vr15, vr16, vr17, vr18, vr19, vr20, vr21, vr22, vr23, vr24, vr25, vr26, vr27, vr28, vr29, vr30, vr31, vr32, vr33, vr34, opS, fpS, extO, okP, pack, nAl, allocA, shId, leaves, fillA, fillR, splice, Nat.reduceLT, Nat.reduceEqDiff, Nat.reduceLeDiff, Nat.reduceAdd, Nat.reduceSub, Nat.reduceMul, Int.reduceBEq, Int.reduceBNe, Int.reduceLT, Int.reduceLE, Int.reduceEq, reduceIte, reduceCtorEq, da, int, boolA, q0, n1, w2, w3, z1, z2, i1, c1, hb, resultsA, resT, resN]
    exact hx_nil K
  | false =>
    simp only [↓vp, vq0, vq1, vq2, vq3, vr0, vr1, vr2, vr3, vr4, vr5, vr6, vr7, vr8, vr9, vr10, vr11, vr12, vr13, vr14, vr15, vr16, vr17, vr18, vr19, vr20, vr21, vr22, vr23, vr24, vr25, vr26, vr27, vr28, vr29, vr30, vr31, vr32, vr33, vr34, opS, fpS, extO, okP, pack, nAl, allocA, shId, leaves, fillA, fillR, splice, Nat.reduceLT, Nat.reduceEqDiff, Nat.reduceLeDiff, Nat.reduceAdd, Nat.reduceSub, Nat.reduceMul, Int.reduceBEq, Int.reduceBNe, Int.reduceLT, Int.reduceLE, Int.reduceEq, reduceIte, reduceCtorEq, da, int, boolA, q0, n1, w2, w3, z1, z2, i1, c1, hb, resultsA, resT, resN]
    exact hx_nil K
theorem o119 : KW ftB (.fn (.func 119) [] []) [.ptr pid 0 0] K Q ↔ Q (int (tailP p)) K := by
  by_cases h0 : p.free = []
  · have e : tailP p = 0 := by unfold tailP; rw [h0]; rfl
    rw [e]
    exact KW_of (o119a hp h0)
  · have hlen : 0 < p.free.length := List.length_pos_iff.2 h0
    obtain ⟨m, hm2⟩ : ∃ m, p.free.length = m + 1 := ⟨p.free.length - 1, by omega⟩
    have gm : m < p.free.length := by omega
    have e : tailP p = if (p.free[m].1 + p.free[m].2 == p.pages) = true then p.free[m].2 else 0 := by
      unfold tailP
      rw [List.getLast?_eq_getElem?, show p.free.length - 1 = m by omega, List.getElem?_eq_getElem gm]
      simp
    rw [e]
    exact KW_of (o119b hp gm hm2 rfl)
end
end Go.VI

set_option linter.unusedVariables false
set_option linter.unusedSimpArgs false
set_option maxRecDepth 100000
namespace Go.VI
attribute [local congr] AW_congr OW_congr DW_congr NW_congr VW_congr GW_congr PW_congr KW_congr ite_congr' GV_congr CV_congr KF_congr
def boxP (p : PoolM) (mid : Nat) : Blk := .box false [int p.pages, int p.limit, encR p.free, .mp mid]
def takeF' (p : PoolM) (n : Int) : PoolM × Int × Int :=
  if n > p.limit - (p.pages - tailP p) then (p, 0, 12)
  else ({ p with free := if tailP p > 0 then p.free.dropLast else p.free, pages := p.pages - tailP p + n }, p.pages - tailP p, 0)
def takeP (p : PoolM) (n : Int) : PoolM × Int × Int :=
  if n < 1 then (p, 0, 1)
  else if (tookM p.free n).2.2 = true then ({ p with free := (tookM p.free n).2.1 }, (tookM p.free n).1, 0)
  else takeF' p n
theorem tail_bd {p : PoolM} (ho : PoolOk p) (hr : rightM p.free = true) : 0 ≤ tailP p ∧ tailP p ≤ p.pages ∧ (0 < tailP p → p.free ≠ []) := by
  unfold tailP
  split
  · rename_i y hy
    have hmem := List.mem_of_getLast? hy
    have my := mayM_iff.1 ((right_iff.1 hr).1 y hmem)
    have hne : p.free ≠ [] := fun e => by rw [e] at hy; cases hy
    have := ho.lo
    split
    · exact ⟨by omega, by omega, fun _ => hne⟩
    · exact ⟨by omega, by omega, fun h => by omega⟩
  · have := ho.lo
    exact ⟨by omega, by omega, fun h => by omega⟩
section
variable {K : Heap} {pid mid : Nat} {p : PoolM} {bs : List Nat} {ck : Nat} (hp : PoolH K pid mid p bs ck) {Q : AV → Heap → Prop}
include hp
theorem box_same : K.set pid (boxP p mid) = K := heap_set_same hp.box
theorem s61a {n : Int} (h : n < 1) : callL ftB (.fn (.func 61) [] []) [.ptr pid 0 0, int n] K = some (.tup [int 0, int 1], K) := by
  have _q := hp
  refine call_o rfl (by simp) ?_
  unfold c61 r61 RetO
  have d1 : (n < 1) = True := eq_true h
  simp only [↓vp, vq0, vq1, vq2, vq3, vr0, vr1, vr2, vr3, vr4, vr5, vr6, vr7, vr8, vr9, vr10, vr11, vr12, vr13, vr14, vr15, vr16, vr17, vr18, vr19, vr20, vr21, vr22, vr23, vr24, vr25, vr26, vr27, vr28, vr29, vr30, vr31, vr32, vr33, vr34, opS, fpS, extO, okP, pack, nAl, allocA, shId, leaves, fillA, fillR, splice, Nat.reduceLT, Nat.reduceEqDiff, Nat.reduceLeDiff, Nat.reduceAdd, Nat.reduceSub, Nat.reduceMul, Int.reduceBEq, Int.reduceBNe, Int.reduceLT, Int.reduceLE, Int.reduceEq, reduceIte, reduceCtorEq, da, int, boolA, d1, resultsA, resT, resN]
  exact hx_nil K
theorem s61b {n : Int} (h : ¬ n < 1) (hs : (tookM p.free n).2.2 = true) : callL ftB (.fn (.func 61) [] []) [.ptr pid 0 0, int n] K = some (.tup [int (tookM p.free n).1, int 0], K.set pid (boxP { p with free := (tookM p.free n).2.1 } mid)) := by
  refine call_o rfl (by simp) ?_
  unfold c61 r61 RetO
  have d1 : (n < 1) = False := eq_false h
  have q0 := fun L => get_old hp.box L
  have lid := Heap.get_lt hp.box
  have hl := right_len hp.free
  have k54 := fun H Q => @kB54 H Q p.free (by omega) n
  have gs : ∀ L b, (hx K L).set pid b = hx (K.set pid b) L := fun L b => hx_set_old K L b pid lid
  rw [hs] at k54
  simp only [int, boolA] at k54
  simp only [↓vp, vq0, vq1, vq2, vq3, vr0, vr1, vr2, vr3, vr4, vr5, vr6, vr7, vr8, vr9, vr10, vr11, vr12, vr13, vr14, vr15, vr16, vr17, vr18, vr19, vr20, vr21, vr22, vr23, vr24, vr25, vr26, vr27, vr28, vr29, vr30, vr31, vr32, vr33, vr34, opS, fpS, extO, okP, pack, nAl, allocA, shId, leaves, fillA, fillR, splice, Nat.reduceLT, Nat.reduceEqDiff, Nat.reduceLeDiff, Nat.reduceAdd, Nat.reduceSub, Nat.reduceMul, Int.reduceBEq, Int.reduceBNe, Int.reduceLT, Int.reduceLE, Int.reduceEq, reduceIte, reduceCtorEq, da, int, boolA, dr, d1, q0, k54, gs, resultsA, resT, resN]
  exact hx_nil _
theorem s61c {n : Int} (h : ¬ n < 1) (hs : (tookM p.free n).2.2 = false) (ho : PoolOk p) (hf : n > p.limit - (p.pages - tailP p)) : callL ftB (.fn (.func 61) [] []) [.ptr pid 0 0, int n] K = some (.tup [int 0, int 12], K) := by
  refine call_o rfl (by simp) ?_
  unfold c61 r61 RetO
  have d1 : (n < 1) = False := eq_false h
  have q0 := fun L => get_old hp.box L
  have hl := right_len hp.free
  have k54 := fun H Q => @kB54 H Q p.free (by omega) n
  have k119 := fun L Q => @o119 (hx K L) pid mid p bs ck (pool_hx hp L) Q
  have tb := tail_bd ho hp.free
  have w1 : IntKind.i64.wrap (p.pages - tailP p) = p.pages - tailP p := wrap_i64 (by have := ho.le; have := ho.hi; omega)
  have w2 : IntKind.i64.wrap (p.limit - (p.pages - tailP p)) = p.limit - (p.pages - tailP p) := wrap_i64 (by have := ho.le; have := ho.hi; have := ho.lo; omega)
  have d2 : (n > p.limit - (p.pages - tailP p)) = True := eq_true hf
  have d3 : (p.limit - (p.pages - tailP p) < n) = True := eq_true hf
  rw [hs] at k54
  simp only [int, boolA] at k54 k119
  simp only [↓vp, vq0, vq1, vq2, vq3, vr0, vr1, vr2, vr3, vr4, vr5, vr6, vr7, vr8, vr9, vr10, vr11, vr12, vr13, vr14, vr15, vr16, vr17, vr18, vr19, vr20, vr21, vr22, vr23, vr24, vr25, vr26, vr27, vr28, vr29, vr30, vr31, vr32, vr33, vr34, opS, fpS, extO, okP, pack, nAl, allocA, shId, leaves, fillA, fillR, splice, Nat.reduceLT, Nat.reduceEqDiff, Nat.reduceLeDiff, Nat.reduceAdd, Nat.reduceSub, Nat.reduceMul, Int.reduceBEq, Int.reduceBNe, Int.reduceLT, Int.reduceLE, Int.reduceEq, reduceIte, reduceCtorEq, da, int, boolA, dr, d1, q0, k54, k119, w1, w2, d2, d3, resultsA, resT, resN]
  exact hx_nil _
theorem s61d {n : Int} (h : ¬ n < 1) (hs : (tookM p.free n).2.2 = false) (ho : PoolOk p) (hf : ¬ n > p.limit - (p.pages - tailP p)) (ht : ¬ tailP p > 0) : callL ftB (.fn (.func 61) [] []) [.ptr pid 0 0, int n] K = some (.tup [int (p.pages - tailP p), int 0], K.set pid (boxP { p with pages := p.pages - tailP p + n } mid)) := by
  refine call_o rfl (by simp) ?_
  unfold c61 r61 RetO
  have d1 : (n < 1) = False := eq_false h
  have q0 := fun L => get_old hp.box L
  have lid := Heap.get_lt hp.box
  have hl := right_len hp.free
  have k54 := fun H Q => @kB54 H Q p.free (by omega) n
  have k119 := fun L Q => @o119 (hx K L) pid mid p bs ck (pool_hx hp L) Q
  have tb := tail_bd ho hp.free
  have w1 : IntKind.i64.wrap (p.pages - tailP p) = p.pages - tailP p := wrap_i64 (by have := ho.le; have := ho.hi; omega)
  have w2 : IntKind.i64.wrap (p.limit - (p.pages - tailP p)) = p.limit - (p.pages - tailP p) := wrap_i64 (by have := ho.le; have := ho.hi; have := ho.lo; omega)
  have w3 : IntKind.i64.wrap (p.pages - tailP p + n) = p.pages - tailP p + n := wrap_i64 (by have := ho.le; have := ho.hi; have := ho.lo; omega)
  have d2 : (n > p.limit - (p.pages - tailP p)) = False := eq_false hf
  have d3 : (p.limit - (p.pages - tailP p) < n) = False := eq_false hf
  have d4 : (tailP p > 0) = False := eq_false ht
  have d5 : (0 < tailP p) = False := eq_false ht
  have gs : ∀ L b, (hx K L).set pid b = hx (K.set pid b) L := fun L b => hx_set_old K L b pid lid
  rw [hs] at k54
  simp only [int, boolA] at k54 k119
  simp only [↓vp, vq0, vq1, vq2, vq3, vr0, vr1, vr2, vr3, vr4, vr5, vr6, vr7, vr8, vr9, vr10, vr11, vr12, vr13, vr14, vr15, vr16, vr17, vr18, vr19, vr20, vr21, vr22, vr23, vr24, vr25, vr26, vr27, vr28, vr29, vr30, vr31, vr32, vr33, vr34, opS, fpS, extO, okP, pack, nAl, allocA, shId, leaves, fillA, fillR, splice, Nat.reduceLT, Nat.reduceEqDiff, Nat.reduceLeDiff, Nat.reduceAdd, Nat.reduceSub, Nat.reduceMul, Int.reduceBEq, Int.reduceBNe, Int.reduceLT, Int.reduceLE, Int.reduceEq, reduceIte, reduceCtorEq, da, int, boolA, dr, d1, q0, k54, k119, w1, w2, w3, d2, d3, d4, d5, gs, resultsA, resT, resN]
  exact hx_nil _
theorem s61e {n : Int} (h : ¬ n < 1) (hs : (tookM p.free n).2.2 = false) (ho : PoolOk p) (hf : ¬ n > p.limit - (p.pages - tailP p)) (ht : tailP p > 0) : callL ftB (.fn (.func 61) [] []) [.ptr pid 0 0, int n] K = some (.tup [int (p.pages - tailP p), int 0], K.set pid (boxP { p with free := p.free.dropLast, pages := p.pages - tailP p + n } mid)) := by
  refine call_o rfl (by simp) ?_
  unfold c61 r61 RetO
  have d1 : (n < 1) = False := eq_false h
  have q0 := fun L => get_old hp.box L
  have lid := Heap.get_lt hp.box
  have hl := right_len hp.free
  have k54 := fun H Q => @kB54 H Q p.free (by omega) n
  have k119 := fun L Q => @o119 (hx K L) pid mid p bs ck (pool_hx hp L) Q
  have tb := tail_bd ho hp.free
  have w1 : IntKind.i64.wrap (p.pages - tailP p) = p.pages - tailP p := wrap_i64 (by have := ho.le; have := ho.hi; omega)
  have w2 : IntKind.i64.wrap (p.limit - (p.pages - tailP p)) = p.limit - (p.pages - tailP p) := wrap_i64 (by have := ho.le; have := ho.hi; have := ho.lo; omega)
  have w3 : IntKind.i64.wrap (p.pages - tailP p + n) = p.pages - tailP p + n := wrap_i64 (by have := ho.le; have := ho.hi; have := ho.lo; omega)
  have d2 : (n > p.limit - (p.pages - tailP p)) = False := eq_false hf
  have d3 : (p.limit - (p.pages - tailP p) < n) = False := eq_false hf
  have d4 : (tailP p > 0) = True := eq_true ht
  have d5 : (0 < tailP p) = True := eq_true ht
  have hne := tb.2.2 ht
  have hpos : 0 < p.free.length := List.length_pos_iff.2 hne
  have w4 : IntKind.i64.wrap ((p.free.length : Int) - 1) = ((p.free.length - 1 : Nat) : Int) := by rw [wrap_i64 (by omega)]; omega
  have hsl : ∀ H, sliceA H 2 (encR p.free) none (some ((p.free.length - 1 : Nat) : Int)) none = some (encR p.free.dropLast) := fun H => by
    unfold sliceA boundsA encR
    simp only [Option.getD_some, Option.getD_none, List.length_map]
    rw [if_pos ⟨by omega, by omega, by omega, by omega⟩]
    simp only [Option.bind_some]
    rw [if_pos (.inl rfl)]
    rw [Int.toNat_natCast, show Int.toNat 0 = 0 from rfl, List.drop_zero, Nat.sub_zero, ← List.map_take, List.dropLast_eq_take]
  have gs : ∀ L b, (hx K L).set pid b = hx (K.set pid b) L := fun L b => hx_set_old K L b pid lid
  have gg : ∀ L b, (hx (K.set pid b) L).get pid = some b := fun L b => get_old (Heap.get_set_self _ lid) L
  have gs2 : ∀ L b b', (hx (K.set pid b) L).set pid b' = hx (K.set pid b') L := fun L b b' => by
    rw [hx_set_old _ _ _ _ (by rw [Heap.next_set]; exact lid)]
    congr 1
    simp [Heap.set]
  rw [hs] at k54
  simp only [int, boolA] at k54 k119
  simp only [↓vp, vq0, vq1, vq2, vq3, vr0, vr1, vr2, vr3, vr4, vr5, vr6, vr7, vr8, vr9, vr10, vr11, vr12, vr13, vr14, vr15, vr16, vr17, vr18, vr19, vr20, vr21, vr22, vr23, vr24, vr25, vr26, vr27, vr28, vr29, vr30, vr31, vr32, vr33, vr34, opS, fpS, extO, okP, pack, nAl, allocA, shId, leaves, fillA, fillR, splice, Nat.reduceLT, Nat.reduceEqDiff, Nat.reduceLeDiff, Nat.reduceAdd, Nat.reduceSub, Nat.reduceMul, Int.reduceBEq, Int.reduceBNe, Int.reduceLT, Int.reduceLE, Int.reduceEq, reduceIte, reduceCtorEq, da, int, boolA, dr, d1, q0, k54, k119, w1, w2, w3, w4, d2, d3, d4, d5, opI1, opI0, toI, hsl, gs, gg, gs2, resultsA, resT, resN]
  exact hx_nil _
theorem o61 (ho : PoolOk p) (n : Int) : KW ftB (.fn (.func 61) [] []) [.ptr pid 0 0, int n] K Q ↔ Q (.tup [int (takeP p n).2.1, int (takeP p n).2.2]) (K.set pid (boxP (takeP p n).1 mid)) := by
  refine KW_of ?_
  unfold takeP
  by_cases h1 : n < 1
  · rw [if_pos h1, box_same hp]
    exact s61a hp h1
  rw [if_neg h1]
  cases h2 : (tookM p.free n).2.2 with
  | true =>
    rw [if_pos rfl]
    exact s61b hp h1 h2
  | false =>
    rw [if_neg (by simp)]
    unfold takeF'
    by_cases h3 : n > p.limit - (p.pages - tailP p)
    · rw [if_pos h3, box_same hp]
      exact s61c hp h1 h2 ho h3
    · rw [if_neg h3]
      by_cases h4 : tailP p > 0
      · simp only [if_pos h4]
        exact s61e hp h1 h2 ho h3 h4
      · simp only [if_neg h4]
        exact s61d hp h1 h2 ho h3 h4
end
end Go.VI

set_option linter.unusedVariables false
set_option linter.unusedSimpArgs false
set_option maxRecDepth 100000
namespace Go.VI
attribute [local congr] AW_congr OW_congr DW_congr NW_congr VW_congr GW_congr PW_congr KW_congr ite_congr' GV_congr CV_congr KF_congr
def firstOk (l : List RunM) : Bool := match l with
  | [] => true
  | x :: _ => decide (2 ≤ x.1)
def mayS (l : List RunM) : Bool := rightM l && decide (endsM l ≤ 16384) && firstOk l
theorem s166 (l : List RunM) (hl : l.length ≤ 2000000) (H : Heap) : callL ftB (.fn (.func 166) [] []) [encR l] H = some (boolA (mayS l), H) := by
  refine call_p (as' := [encR l]) rfl rfl (by simp) ?_
  unfold c166 r166
  have k40 := fun H Q => @kB40 H Q l hl
  have k43 := fun H Q => @kB43 H Q l hl
  cases e1 : rightM l with
  | false =>
    have e : mayS l = false := by unfold mayS; rw [e1]; rfl
    rw [e1] at k40
    rw [e]
    simp only [↓vp, vq0, vq1, vq2, vq3, vr0, vr1, vr2, vr3, vr4, vr5, vr6, vr7, vr8, vr9, vr10, vr11, vr12, vr13, vr14, vr15, vr16, vr17, vr18, vr19, vr20, vr21, vr22, vr23, vr24, vr25, vr26, vr27, vr28, vr29, vr30, vr31, vr32, vr33, vr34, opS, fpS, extO, okP, pack, nAl, allocA, shId, leaves, fillA, fillR, splice, Nat.reduceLT, Nat.reduceEqDiff, Nat.reduceLeDiff, Nat.reduceAdd, Nat.reduceSub, Nat.reduceMul, Int.reduceBEq, Int.reduceBNe, Int.reduceLT, Int.reduceLE, Int.reduceEq, reduceIte, reduceCtorEq, da, int, boolA, RetP_go, resT, resC, resN, retV1, retV2, retV3, retV0, frzFZ, takeM, Option.some.injEq, dr, k40]
  | true =>
    rw [e1] at k40
    by_cases e2 : endsM l ≤ 16384
    · have d2 : (endsM l ≤ 16384) = True := eq_true e2
      by_cases h0 : l = []
      · subst h0
        have e : mayS [] = true := by decide
        rw [e]
        have n1 : ∀ H, lenV H 0 (encR []) = some (.sc (.int .i64 0), H) := fun _ => rfl
        simp only [↓vp, vq0, vq1, vq2, vq3, vr0, vr1, vr2, vr3, vr4, vr5, vr6, vr7, vr8, vr9, vr10, vr11, vr12, vr13, vr14, vr15, vr16, vr17, vr18, vr19, vr20, vr21, vr22, vr23, vr24, vr25, vr26, vr27, vr28, vr29, vr30, vr31, vr32, vr33, vr34, opS, fpS, extO, okP, pack, nAl, allocA, shId, leaves, fillA, fillR, splice, Nat.reduceLT, Nat.reduceEqDiff, Nat.reduceLeDiff, Nat.reduceAdd, Nat.reduceSub, Nat.reduceMul, Int.reduceBEq, Int.reduceBNe, Int.reduceLT, Int.reduceLE, Int.reduceEq, reduceIte, reduceCtorEq, da, int, boolA, RetP_go, resT, resC, resN, retV1, retV2, retV3, retV0, frzFZ, takeM, Option.some.injEq, k40, k43, d2, n1]
      · have gi : 0 < l.length := List.length_pos_iff.2 h0
        have hfo : firstOk l = decide (2 ≤ l[0].1) := by
          cases l with
          | nil => exact absurd rfl h0
          | cons x l => rfl
        have hz : ((l.length : Int) == 0) = false := by simp; omega
        have n1 : ∀ H, lenV H 0 (encR l) = some (.sc (.int .i64 (l.length : Nat)), H) := fun _ => lenR _
        have i1 : ∀ H, iaddrA H none 2 (encR l) 0 = some (.pim (l.map runC) 0 0) := fun H => atR (i := 0) gi
        have c1 := fun H off n => @cR H l 0 off n gi
        simp only [runC, int] at c1
        by_cases e3 : 2 ≤ l[0].1
        · have d3 : (l[0].1 ≥ 2) = True := eq_true e3
          have d4 : (2 ≤ l[0].1) = True := eq_true e3
          have e : mayS l = true := by unfold mayS; rw [e1, decide_eq_true e2, hfo, decide_eq_true e3]; rfl
          rw [e]
          simp only [↓vp, vq0, vq1, vq2, vq3, vr0, vr1, vr2, vr3, vr4, vr5, vr6, vr7, vr8, vr9, vr10, vr11, vr12, vr13, vr14, vr15, vr16, vr17, vr18, vr19, vr20, vr21, vr22, vr23, vr24, vr25, vr26, vr27, vr28, vr29, vr30, vr31, vr32, vr33, vr34, opS, fpS, extO, okP, pack, nAl, allocA, shId, leaves, fillA, fillR, splice, Nat.reduceLT, Nat.reduceEqDiff, Nat.reduceLeDiff, Nat.reduceAdd, Nat.reduceSub, Nat.reduceMul, Int.reduceBEq, Int.reduceBNe, Int.reduceLT, Int.reduceLE, Int.reduceEq, reduceIte, reduceCtorEq, da, int, boolA, RetP_go, resT, resC, resN, retV1, retV2, retV3, retV0, frzFZ, takeM, Option.some.injEq, k40, k43, d2, n1, hz, i1, c1, d3, d4]
        · have d3 : (l[0].1 ≥ 2) = False := eq_false e3
          have d4 : (2 ≤ l[0].1) = False := eq_false e3
          have e : mayS l = false := by unfold mayS; rw [e1, decide_eq_true e2, hfo, decide_eq_false e3]; rfl
          rw [e]
          simp only [↓vp, vq0, vq1, vq2, vq3, vr0, vr1, vr2, vr3, vr4, vr5, vr6, vr7, vr8, vr9, vr10, vr11, vr12, vr13, vr14, vr15, vr16, vr17, vr18, vr19, vr20, vr21, vr22, vr23, vr24, vr25, vr26, vr27, vr28, vr29, vr30, vr31, vr32, vr33, vr34, opS, fpS, extO, okP, pack, nAl, allocA, shId, leaves, fillA, fillR, splice, Nat.reduceLT, Nat.reduceEqDiff, Nat.reduceLeDiff, Nat.reduceAdd, Nat.reduceSub, Nat.reduceMul, Int.reduceBEq, Int.reduceBNe, Int.reduceLT, Int.reduceLE, Int.reduceEq, reduceIte, reduceCtorEq, da, int, boolA, RetP_go, resT, resC, resN, retV1, retV2, retV3, retV0, frzFZ, takeM, Option.some.injEq, k40, k43, d2, n1, hz, i1, c1, d3, d4]
    · have d2 : (endsM l ≤ 16384) = False := eq_false e2
      have e : mayS l = false := by unfold mayS; rw [e1, decide_eq_false e2]; rfl
      rw [e]
      simp only [↓vp, vq0, vq1, vq2, vq3, vr0, vr1, vr2, vr3, vr4, vr5, vr6, vr7, vr8, vr9, vr10, vr11, vr12, vr13, vr14, vr15, vr16, vr17, vr18, vr19, vr20, vr21, vr22, vr23, vr24, vr25, vr26, vr27, vr28, vr29, vr30, vr31, vr32, vr33, vr34, opS, fpS, extO, okP, pack, nAl, allocA, shId, leaves, fillA, fillR, splice, Nat.reduceLT, Nat.reduceEqDiff, Nat.reduceLeDiff, Nat.reduceAdd, Nat.reduceSub, Nat.reduceMul, Int.reduceBEq, Int.reduceBNe, Int.reduceLT, Int.reduceLE, Int.reduceEq, reduceIte, reduceCtorEq, da, int, boolA, RetP_go, resT, resC, resN, retV1, retV2, retV3, retV0, frzFZ, takeM, Option.some.injEq, k40, k43, d2]
def newP (f h : List RunM) (txid pages limit : Int) : PoolM := ⟨pages, limit, f, [(txid, h)]⟩
end Go.VI

set_option linter.unusedVariables false
set_option linter.unusedSimpArgs false
set_option maxRecDepth 100000
namespace Go.VI
attribute [local congr] AW_congr OW_congr DW_congr NW_congr VW_congr GW_congr PW_congr KW_congr ite_congr' GV_congr CV_congr KF_congr
def getO (t : Int) : HeldM → Option (List RunM)
  | [] => none
  | x :: hd => if t == x.1 then some x.2 else getO t hd
def putO (t : Int) (u : List RunM) : HeldM → HeldM
  | [] => [(t, u)]
  | x :: hd => if t == x.1 then (t, u) :: hd else x :: putO t u hd
theorem look_get (t : Int) : ∀ hd : HeldM, lookE (int t) (hd.map entC) = (getO t hd).map encR
  | [] => rfl
  | x :: hd => by
    show (if keyEq (int t) (int x.1) then some (encR x.2) else lookE (int t) (hd.map entC)) = _
    rw [look_get t hd, show keyEq (int t) (int x.1) = (t == x.1) from rfl]
    show _ = (if t == x.1 then some x.2 else getO t hd).map encR
    split <;> rfl
theorem put_put (t : Int) (u : List RunM) : ∀ hd : HeldM, putE (int t) (encR u) (hd.map entC) = (putO t u hd).map entC
  | [] => rfl
  | x :: hd => by
    show (if keyEq (int t) (int x.1) then (int t, encR u) :: hd.map entC else entC x :: putE (int t) (encR u) (hd.map entC)) = _
    rw [put_put t u hd, show keyEq (int t) (int x.1) = (t == x.1) from rfl]
    show _ = (if t == x.1 then (t, u) :: hd else x :: putO t u hd).map entC
    split <;> rfl
theorem put_keys {t : Int} {u : List RunM} : ∀ {hd : HeldM}, (getO t hd).isSome = true → (putO t u hd).map (·.1) = hd.map (·.1)
  | [], h => by cases h
  | x :: hd, h => by
    unfold getO at h
    unfold putO
    cases e : (t == x.1) with
    | true =>
      have : t = x.1 := by simpa using e
      simp [this]
    | false =>
      rw [e] at h
      simp only [Bool.false_eq_true, if_false, List.map_cons] at h ⊢
      rw [put_keys h]
theorem put_new {t : Int} {u : List RunM} : ∀ {hd : HeldM}, (getO t hd).isSome = false → putO t u hd = hd ++ [(t, u)] ∧ t ∉ hd.map (·.1)
  | [], h => ⟨rfl, by simp⟩
  | x :: hd, h => by
    unfold getO at h
    unfold putO
    cases e : (t == x.1) with
    | true => rw [e] at h; cases h
    | false =>
      rw [e] at h
      simp only [Bool.false_eq_true, if_false] at h ⊢
      obtain ⟨h1, h2⟩ := put_new (u := u) h
      refine ⟨by rw [h1]; rfl, ?_⟩
      rw [List.map_cons, List.mem_cons]
      have : t ≠ x.1 := by simpa using e
      exact fun q => q.elim this h2
theorem put_mem {t : Int} {u : List RunM} : ∀ {hd : HeldM} {y : Int × List RunM}, y ∈ putO t u hd → y = (t, u) ∨ y ∈ hd
  | [], y, h => by simp [putO] at h; exact .inl h
  | x :: hd, y, h => by
    unfold putO at h
    split at h
    · rcases List.mem_cons.1 h with rfl | h
      · exact .inl rfl
      · exact .inr (by simp [h])
    · rcases List.mem_cons.1 h with rfl | h
      · exact .inr (by simp)
      · rcases put_mem h with h | h
        · exact .inl h
        · exact .inr (by simp [h])
theorem getO_mem {t : Int} : ∀ {hd : HeldM} {l : List RunM}, getO t hd = some l → (t, l) ∈ hd
  | [], l, h => by cases h
  | x :: hd, l, h => by
    unfold getO at h
    cases e : (t == x.1) with
    | true =>
      rw [e] at h
      simp only [if_true, Option.some.injEq] at h
      have : t = x.1 := by simpa using e
      subst this h
      simp
    | false =>
      rw [e] at h
      simp only [Bool.false_eq_true, if_false] at h
      exact List.mem_cons.2 (.inr (getO_mem h))
theorem held_put {hd : HeldM} {bs : List Nat} {ck : Nat} (h : HeldH hd bs ck) (t : Int) {u : List RunM} (hu : rightM u = true) : HeldH (putO t u hd) (putB (getO t hd).isSome bs ck) (putC (getO t hd).isSome ck) := by
  cases e : (getO t hd).isSome with
  | true =>
    have hk := put_keys (u := u) e
    have hl : (putO t u hd).length = hd.length := by have := congrArg List.length hk; simpa using this
    refine ⟨by rw [hl]; exact h.len, h.nd, h.lt, by rw [hk]; exact h.keys, fun x hx => ?_⟩
    rcases put_mem hx with rfl | hx
    · exact hu
    · exact h.rg x hx
  | false =>
    obtain ⟨h1, h2⟩ := put_new (u := u) e
    rw [h1]
    refine ⟨by simp [putB, h.len], ?_, fun b hb => ?_, ?_, fun x hx => ?_⟩
    · show (bs ++ [ck]).Nodup
      rw [List.nodup_append]
      exact ⟨h.nd, by simp, fun b hb c hc q => by simp at hc; subst hc; subst q; have := h.lt b hb; omega⟩
    · show b < ck + 1
      rcases List.mem_append.1 (show b ∈ bs ++ [ck] from hb) with hb | hb
      · have := h.lt b hb; omega
      · simp at hb; omega
    · rw [List.map_append, List.nodup_append]
      exact ⟨h.keys, by simp, fun b hb c hc q => by simp at hc; subst hc; subst q; exact h2 hb⟩
    · rcases List.mem_append.1 hx with hx | hx
      · exact h.rg x hx
      · simp at hx
        rw [hx]; exact hu
def badGive (p : PoolM) (t : Int) (x : RunM) : Bool := decide (t < 0) || !rightM [x] || decide (x.1 < 2) || decide (endsM [x] > p.pages)
noncomputable def hitGive (p : PoolM) (x : RunM) : Bool := meetM p.free [x] || meetM (unionSel (fun _ => true) p.held) [x]
noncomputable def giveE (p : PoolM) (t : Int) (x : RunM) : Int := if badGive p t x then 1 else if hitGive p x then 110 else 0
noncomputable def giveU (p : PoolM) (t : Int) (x : RunM) : List RunM := unionM ((getO t p.held).getD []) [x]
theorem frz_ro {K : Heap} {x : RunM} {b : Blk} {fz : Bool} {L : List Blk} : frz 23 (hx K (b :: .row fz 2 [runC x] :: L)) (.sl (K.next + 1) 0 1) = some (encR [x], hx K (b :: .row true 2 [runC x] :: L)) ∧ frz 22 (hx K (b :: .row fz 2 [runC x] :: L)) (.sl (K.next + 1) 0 1) = some (encR [x], hx K (b :: .row true 2 [runC x] :: L)) := by
  have hg : (hx K (b :: .row fz 2 [runC x] :: L)).get (K.next + 1) = some (.row fz 2 [runC x]) := hx_get _ _ 1
  have hs : (hx K (b :: .row fz 2 [runC x] :: L)).set (K.next + 1) (.row true 2 [runC x]) = hx K (b :: .row true 2 [runC x] :: L) := hx_set _ _ _ 1
  constructor
  · rw [frz_sl, hg]
    cases fz with
    | true => rfl
    | false =>
      simp only [Bool.false_eq_true, if_false, hs]
      rfl
  · rw [frz_sl, hg]
    cases fz with
    | true => rfl
    | false =>
      simp only [Bool.false_eq_true, if_false, hs]
      rfl
section
variable {K : Heap} {x : RunM} {b : Blk} {fz : Bool} {L : List Blk} {Q : AV → Heap → Prop}
theorem frz_o1 : frzCells (hx K (b :: .row fz 2 [runC x] :: L)) [.sl (K.next + 1) 0 1] = some ([encR [x]], hx K (b :: .row true 2 [runC x] :: L)) := by
  rw [frzCells_eq, frzL_cons, frz_ro.1]
  rfl
theorem frz_o2 (A : List RunM) : frzCells (hx K (b :: .row fz 2 [runC x] :: L)) [encR A, .sl (K.next + 1) 0 1] = some ([encR A, encR [x]], hx K (b :: .row true 2 [runC x] :: L)) := by
  rw [frzCells_eq, frzL_cons, show frz 23 (hx K (b :: .row fz 2 [runC x] :: L)) (encR A) = some (encR A, hx K (b :: .row fz 2 [runC x] :: L)) from rfl, Option.bind_some]
  simp only [frzL_cons, frz_ro.2, Option.bind_some]
  rfl
theorem k1_40 : KW ftB (.fn (.func 40) [] []) [.sl (K.next + 1) 0 1] (hx K (b :: .row fz 2 [runC x] :: L)) Q ↔ Q (boolA (rightM [x])) (hx K (b :: .row true 2 [runC x] :: L)) := kB_of rfl frz_o1 rfl (callL_sub ftM_sub (s40 [x] (by simp) Heap.empty))
theorem k1_43 : KW ftB (.fn (.func 43) [] []) [.sl (K.next + 1) 0 1] (hx K (b :: .row fz 2 [runC x] :: L)) Q ↔ Q (int (endsM [x])) (hx K (b :: .row true 2 [runC x] :: L)) := kB_of rfl frz_o1 rfl (callL_sub ftM_sub (s43 [x] (by simp) Heap.empty))
theorem k1_53 {A : List RunM} (hA : A.length ≤ 2000000) : KW ftB (.fn (.func 53) [] []) [encR A, .sl (K.next + 1) 0 1] (hx K (b :: .row fz 2 [runC x] :: L)) Q ↔ Q (boolA (meetM A [x])) (hx K (b :: .row true 2 [runC x] :: L)) := kB_of rfl (frz_o2 A) rfl (s53 A [x] hA (by simp) Heap.empty)
theorem k1_52 {A : List RunM} (hA : A.length ≤ 100000) : KW ftB (.fn (.func 52) [] []) [encR A, .sl (K.next + 1) 0 1] (hx K (b :: .row fz 2 [runC x] :: L)) Q ↔ Q (encR (unionM A [x])) (hx K (b :: .row true 2 [runC x] :: L)) := kB_of rfl (frz_o2 A) rfl (callL_sub ftM_sub (s52 A [x] hA (by simp) Heap.empty))
theorem k1_52n : KW ftB (.fn (.func 52) [] []) [.sc (.slice none 0 0), .sl (K.next + 1) 0 1] (hx K (b :: .row fz 2 [runC x] :: L)) Q ↔ Q (encR (unionM [] [x])) (hx K (b :: .row true 2 [runC x] :: L)) := by
  refine kB_of (as' := [encR [], encR [x]]) rfl ?_ rfl (callL_sub ftM_sub (s52 [] [x] (by simp) (by simp) Heap.empty))
  rw [frzCells_eq, frzL_cons, show frz 23 (hx K (b :: .row fz 2 [runC x] :: L)) (.sc (.slice none 0 0)) = some (encR [], hx K (b :: .row fz 2 [runC x] :: L)) from rfl, Option.bind_some]
  simp only [frzL_cons, frz_ro.2, Option.bind_some]
  rfl
end
section
variable {K : Heap} {pid mid : Nat} {p : PoolM} {bs : List Nat} {ck : Nat} (hp : PoolH K pid mid p bs ck) {t : Int} {x : RunM} {Q : AV → Heap → Prop}
include hp
theorem o64a (h1 : t < 0) (hq : ∀ fz, Q (int 1) (hx K [.box false (runC x), .row fz 2 [runC x]])) : KW ftB (.fn (.func 64) [] []) [.ptr pid 0 0, int t, .agg (runC x)] K Q := by
  refine call_W rfl (by simp) ?_
  unfold c64 r64
  have q0 := fun L => get_old hp.box L
  have q1 := fun L => get_old hp.map L
  have hpl := Heap.get_lt hp.box
  have ne1 : (K.next + 1 = pid) = False := eq_false (by omega)
  have ne2 : (pid = K.next + 1) = False := eq_false (by omega)
  have hl := right_len hp.free
  have k40 := fun b fz L Q => @k1_40 K x b fz L Q
  have k43 := fun b fz L Q => @k1_43 K x b fz L Q
  have v40 : ∀ n, pureV ftB (.fn (.func 40) [] []) [.sl n 0 1] = some (true, [n]) := fun _ => rfl
  have v43 : ∀ n, pureV ftB (.fn (.func 43) [] []) [.sl n 0 1] = some (true, [n]) := fun _ => rfl
  have d1 : (t < 0) = True := eq_true h1
  simp only [runC, int, boolA] at k40 k43 hq
  simp only [↓vp, vq0, vq1, vq2, vq3, vr0, vr1, vr2, vr3, vr4, vr5, vr6, vr7, vr8, vr9, vr10, vr11, vr12, vr13, vr14, vr15, vr16, vr17, vr18, vr19, vr20, vr21, vr22, vr23, vr24, vr25, vr26, vr27, vr28, vr29, vr30, vr31, vr32, vr33, vr34, opS, fpS, extO, okP, pack, nAl, allocA, shId, leaves, fillA, fillR, splice, Nat.reduceLT, Nat.reduceEqDiff, Nat.reduceLeDiff, Nat.reduceAdd, Nat.reduceSub, Nat.reduceMul, Int.reduceBEq, Int.reduceBNe, Int.reduceLT, Int.reduceLE, Int.reduceEq, reduceIte, reduceCtorEq, da, int, boolA, dr, rw, runC, q0, k40, k43, v40, v43, ne1, ne2, d1]
  exact hq _
theorem o64b (h1 : ¬ t < 0) (h2 : rightM [x] = false) (hq : ∀ fz, Q (int 1) (hx K [.box false (runC x), .row fz 2 [runC x]])) : KW ftB (.fn (.func 64) [] []) [.ptr pid 0 0, int t, .agg (runC x)] K Q := by
  refine call_W rfl (by simp) ?_
  unfold c64 r64
  have q0 := fun L => get_old hp.box L
  have q1 := fun L => get_old hp.map L
  have hpl := Heap.get_lt hp.box
  have ne1 : (K.next + 1 = pid) = False := eq_false (by omega)
  have ne2 : (pid = K.next + 1) = False := eq_false (by omega)
  have hl := right_len hp.free
  have k40 := fun b fz L Q => @k1_40 K x b fz L Q
  have k43 := fun b fz L Q => @k1_43 K x b fz L Q
  have v40 : ∀ n, pureV ftB (.fn (.func 40) [] []) [.sl n 0 1] = some (true, [n]) := fun _ => rfl
  have v43 : ∀ n, pureV ftB (.fn (.func 43) [] []) [.sl n 0 1] = some (true, [n]) := fun _ => rfl
  have d1 : (t < 0) = False := eq_false h1
  rw [h2] at k40
  simp only [runC, int, boolA] at k40 k43 hq
  simp only [↓vp, vq0, vq1, vq2, vq3, vr0, vr1, vr2, vr3, vr4, vr5, vr6, vr7, vr8, vr9, vr10, vr11, vr12, vr13, vr14, vr15, vr16, vr17, vr18, vr19, vr20, vr21, vr22, vr23, vr24, vr25, vr26, vr27, vr28, vr29, vr30, vr31, vr32, vr33, vr34, opS, fpS, extO, okP, pack, nAl, allocA, shId, leaves, fillA, fillR, splice, Nat.reduceLT, Nat.reduceEqDiff, Nat.reduceLeDiff, Nat.reduceAdd, Nat.reduceSub, Nat.reduceMul, Int.reduceBEq, Int.reduceBNe, Int.reduceLT, Int.reduceLE, Int.reduceEq, reduceIte, reduceCtorEq, da, int, boolA, dr, rw, runC, q0, k40, k43, v40, v43, ne1, ne2, d1]
  exact hq _
theorem o64c (h1 : ¬ t < 0) (h2 : rightM [x] = true) (h3 : x.1 < 2) (hq : ∀ fz, Q (int 1) (hx K [.box false (runC x), .row fz 2 [runC x]])) : KW ftB (.fn (.func 64) [] []) [.ptr pid 0 0, int t, .agg (runC x)] K Q := by
  refine call_W rfl (by simp) ?_
  unfold c64 r64
  have q0 := fun L => get_old hp.box L
  have q1 := fun L => get_old hp.map L
  have hpl := Heap.get_lt hp.box
  have ne1 : (K.next + 1 = pid) = False := eq_false (by omega)
  have ne2 : (pid = K.next + 1) = False := eq_false (by omega)
  have hl := right_len hp.free
  have k40 := fun b fz L Q => @k1_40 K x b fz L Q
  have k43 := fun b fz L Q => @k1_43 K x b fz L Q
  have v40 : ∀ n, pureV ftB (.fn (.func 40) [] []) [.sl n 0 1] = some (true, [n]) := fun _ => rfl
  have v43 : ∀ n, pureV ftB (.fn (.func 43) [] []) [.sl n 0 1] = some (true, [n]) := fun _ => rfl
  have d1 : (t < 0) = False := eq_false h1
  rw [h2] at k40
  have d3 : (x.1 < 2) = True := eq_true h3
  simp only [runC, int, boolA] at k40 k43 hq
  simp only [↓vp, vq0, vq1, vq2, vq3, vr0, vr1, vr2, vr3, vr4, vr5, vr6, vr7, vr8, vr9, vr10, vr11, vr12, vr13, vr14, vr15, vr16, vr17, vr18, vr19, vr20, vr21, vr22, vr23, vr24, vr25, vr26, vr27, vr28, vr29, vr30, vr31, vr32, vr33, vr34, opS, fpS, extO, okP, pack, nAl, allocA, shId, leaves, fillA, fillR, splice, Nat.reduceLT, Nat.reduceEqDiff, Nat.reduceLeDiff, Nat.reduceAdd, Nat.reduceSub, Nat.reduceMul, Int.reduceBEq, Int.reduceBNe, Int.reduceLT, Int.reduceLE, Int.reduceEq, reduceIte, reduceCtorEq, da, int, boolA, dr, rw, runC, q0, k40, k43, v40, v43, ne1, ne2, d1, d3]
  exact hq _
theorem o64d (h1 : ¬ t < 0) (h2 : rightM [x] = true) (h3 : ¬ x.1 < 2) (h4 : endsM [x] > p.pages) (hq : ∀ fz, Q (int 1) (hx K [.box false (runC x), .row fz 2 [runC x]])) : KW ftB (.fn (.func 64) [] []) [.ptr pid 0 0, int t, .agg (runC x)] K Q := by
  refine call_W rfl (by simp) ?_
  unfold c64 r64
  have q0 := fun L => get_old hp.box L
  have q1 := fun L => get_old hp.map L
  have hpl := Heap.get_lt hp.box
  have ne1 : (K.next + 1 = pid) = False := eq_false (by omega)
  have ne2 : (pid = K.next + 1) = False := eq_false (by omega)
  have hl := right_len hp.free
  have k40 := fun b fz L Q => @k1_40 K x b fz L Q
  have k43 := fun b fz L Q => @k1_43 K x b fz L Q
  have v40 : ∀ n, pureV ftB (.fn (.func 40) [] []) [.sl n 0 1] = some (true, [n]) := fun _ => rfl
  have v43 : ∀ n, pureV ftB (.fn (.func 43) [] []) [.sl n 0 1] = some (true, [n]) := fun _ => rfl
  have d1 : (t < 0) = False := eq_false h1
  rw [h2] at k40
  have d3 : (x.1 < 2) = False := eq_false h3
  have d4 : (endsM [x] > p.pages) = True := eq_true h4
  have d4' : (p.pages < endsM [x]) = True := eq_true h4
  simp only [runC, int, boolA] at k40 k43 hq
  simp only [↓vp, vq0, vq1, vq2, vq3, vr0, vr1, vr2, vr3, vr4, vr5, vr6, vr7, vr8, vr9, vr10, vr11, vr12, vr13, vr14, vr15, vr16, vr17, vr18, vr19, vr20, vr21, vr22, vr23, vr24, vr25, vr26, vr27, vr28, vr29, vr30, vr31, vr32, vr33, vr34, opS, fpS, extO, okP, pack, nAl, allocA, shId, leaves, fillA, fillR, splice, Nat.reduceLT, Nat.reduceEqDiff, Nat.reduceLeDiff, Nat.reduceAdd, Nat.reduceSub, Nat.reduceMul, Int.reduceBEq, Int.reduceBNe, Int.reduceLT, Int.reduceLE, Int.reduceEq, reduceIte, reduceCtorEq, da, int, boolA, dr, rw, runC, q0, k40, k43, v40, v43, ne1, ne2, d1, d3, d4, d4']
  exact hq _
theorem o64e (h1 : ¬ t < 0) (h2 : rightM [x] = true) (h3 : ¬ x.1 < 2) (h4 : ¬ endsM [x] > p.pages) (h5 : meetM p.free [x] = true) (hq : Q (int 110) (hx K [.box false (runC x), .row true 2 [runC x]])) : KW ftB (.fn (.func 64) [] []) [.ptr pid 0 0, int t, .agg (runC x)] K Q := by
  refine call_W rfl (by simp) ?_
  unfold c64 r64
  have q0 := fun L => get_old hp.box L
  have q1 := fun L => get_old hp.map L
  have hpl := Heap.get_lt hp.box
  have hml := Heap.get_lt hp.map
  have ne1 : (K.next + 1 = pid) = False := eq_false (by omega)
  have ne2 : (pid = K.next + 1) = False := eq_false (by omega)
  have hl := right_len hp.free
  have hu := unionSel_ok (fun _ => true) p.held
  have hul := right_len hu.1
  have k40 := fun b fz L Q => @k1_40 K x b fz L Q
  have k43 := fun b fz L Q => @k1_43 K x b fz L Q
  have k53f := fun b fz L Q => @k1_53 K x b fz L Q p.free (by omega)
  have k53h := fun b fz L Q => @k1_53 K x b fz L Q (unionSel (fun _ => true) p.held) (by omega)
  have k63 := fun L Q => @o63 (hx K L) pid mid p bs ck (pool_hx hp L) Q
  have v40 : ∀ n, pureV ftB (.fn (.func 40) [] []) [.sl n 0 1] = some (true, [n]) := fun _ => rfl
  have v43 : ∀ n, pureV ftB (.fn (.func 43) [] []) [.sl n 0 1] = some (true, [n]) := fun _ => rfl
  have d1 : (t < 0) = False := eq_false h1
  have d3 : (x.1 < 2) = False := eq_false h3
  have d4 : (endsM [x] > p.pages) = False := eq_false h4
  have d4' : (p.pages < endsM [x]) = False := eq_false h4
  rw [h2] at k40
  rw [h5] at k53f
  simp only [runC, int, boolA] at k40 k43 k53f k53h hq
  simp only [↓vp, vq0, vq1, vq2, vq3, vr0, vr1, vr2, vr3, vr4, vr5, vr6, vr7, vr8, vr9, vr10, vr11, vr12, vr13, vr14, vr15, vr16, vr17, vr18, vr19, vr20, vr21, vr22, vr23, vr24, vr25, vr26, vr27, vr28, vr29, vr30, vr31, vr32, vr33, vr34, opS, fpS, extO, okP, pack, nAl, allocA, shId, leaves, fillA, fillR, splice, Nat.reduceLT, Nat.reduceEqDiff, Nat.reduceLeDiff, Nat.reduceAdd, Nat.reduceSub, Nat.reduceMul, Int.reduceBEq, Int.reduceBNe, Int.reduceLT, Int.reduceLE, Int.reduceEq, reduceIte, reduceCtorEq, da, int, boolA, dr, rw, runC, q0, k40, k43, k53f, k53h, k63, hx_hx, v40, v43, ne1, ne2, d1, d3, d4, d4']
  exact hq
theorem o64f (h1 : ¬ t < 0) (h2 : rightM [x] = true) (h3 : ¬ x.1 < 2) (h4 : ¬ endsM [x] > p.pages) (h5 : meetM p.free [x] = false) (h6 : meetM (unionSel (fun _ => true) p.held) [x] = true) (hq : Q (int 110) (hx K [.box false (runC x), .row true 2 [runC x], .dead])) : KW ftB (.fn (.func 64) [] []) [.ptr pid 0 0, int t, .agg (runC x)] K Q := by
  refine call_W rfl (by simp) ?_
  unfold c64 r64
  have q0 := fun L => get_old hp.box L
  have q1 := fun L => get_old hp.map L
  have hpl := Heap.get_lt hp.box
  have hml := Heap.get_lt hp.map
  have ne1 : (K.next + 1 = pid) = False := eq_false (by omega)
  have ne2 : (pid = K.next + 1) = False := eq_false (by omega)
  have hl := right_len hp.free
  have hu := unionSel_ok (fun _ => true) p.held
  have hul := right_len hu.1
  have k40 := fun b fz L Q => @k1_40 K x b fz L Q
  have k43 := fun b fz L Q => @k1_43 K x b fz L Q
  have k53f := fun b fz L Q => @k1_53 K x b fz L Q p.free (by omega)
  have k53h := fun b fz L Q => @k1_53 K x b fz L Q (unionSel (fun _ => true) p.held) (by omega)
  have k63 := fun L Q => @o63 (hx K L) pid mid p bs ck (pool_hx hp L) Q
  have v40 : ∀ n, pureV ftB (.fn (.func 40) [] []) [.sl n 0 1] = some (true, [n]) := fun _ => rfl
  have v43 : ∀ n, pureV ftB (.fn (.func 43) [] []) [.sl n 0 1] = some (true, [n]) := fun _ => rfl
  have d1 : (t < 0) = False := eq_false h1
  have d3 : (x.1 < 2) = False := eq_false h3
  have d4 : (endsM [x] > p.pages) = False := eq_false h4
  have d4' : (p.pages < endsM [x]) = False := eq_false h4
  rw [h2] at k40
  rw [h5] at k53f
  rw [h6] at k53h
  simp only [runC, int, boolA] at k40 k43 k53f k53h hq
  simp only [↓vp, vq0, vq1, vq2, vq3, vr0, vr1, vr2, vr3, vr4, vr5, vr6, vr7, vr8, vr9, vr10, vr11, vr12, vr13, vr14, vr15, vr16, vr17, vr18, vr19, vr20, vr21, vr22, vr23, vr24, vr25, vr26, vr27, vr28, vr29, vr30, vr31, vr32, vr33, vr34, opS, fpS, extO, okP, pack, nAl, allocA, shId, leaves, fillA, fillR, splice, Nat.reduceLT, Nat.reduceEqDiff, Nat.reduceLeDiff, Nat.reduceAdd, Nat.reduceSub, Nat.reduceMul, Int.reduceBEq, Int.reduceBNe, Int.reduceLT, Int.reduceLE, Int.reduceEq, reduceIte, reduceCtorEq, da, int, boolA, dr, rw, runC, q0, k40, k43, k53f, k53h, k63, hx_hx, v40, v43, ne1, ne2, d1, d3, d4, d4']
  exact hq
theorem o64g (h1 : ¬ t < 0) (h2 : rightM [x] = true) (h3 : ¬ x.1 < 2) (h4 : ¬ endsM [x] > p.pages) (h5 : meetM p.free [x] = false) (h6 : meetM (unionSel (fun _ => true) p.held) [x] = false)
    (hq : Q (int 0) (hx (K.set mid (.mpb (some .i64) ((putO t (giveU p t x) p.held).map entC) (putB (getO t p.held).isSome bs ck) (putC (getO t p.held).isSome ck))) [.box false (runC x), .row true 2 [runC x], .dead])) : KW ftB (.fn (.func 64) [] []) [.ptr pid 0 0, int t, .agg (runC x)] K Q := by
  refine call_W rfl (by simp) ?_
  unfold c64 r64
  have q0 := fun L => get_old hp.box L
  have q1 := fun L => get_old hp.map L
  have hpl := Heap.get_lt hp.box
  have hml := Heap.get_lt hp.map
  have ne1 : (K.next + 1 = pid) = False := eq_false (by omega)
  have ne2 : (pid = K.next + 1) = False := eq_false (by omega)
  have hl := right_len hp.free
  have hu := unionSel_ok (fun _ => true) p.held
  have hul := right_len hu.1
  have k40 := fun b fz L Q => @k1_40 K x b fz L Q
  have k43 := fun b fz L Q => @k1_43 K x b fz L Q
  have k53f := fun b fz L Q => @k1_53 K x b fz L Q p.free (by omega)
  have k53h := fun b fz L Q => @k1_53 K x b fz L Q (unionSel (fun _ => true) p.held) (by omega)
  have k63 := fun L Q => @o63 (hx K L) pid mid p bs ck (pool_hx hp L) Q
  have v40 : ∀ n, pureV ftB (.fn (.func 40) [] []) [.sl n 0 1] = some (true, [n]) := fun _ => rfl
  have v43 : ∀ n, pureV ftB (.fn (.func 43) [] []) [.sl n 0 1] = some (true, [n]) := fun _ => rfl
  have d1 : (t < 0) = False := eq_false h1
  have d3 : (x.1 < 2) = False := eq_false h3
  have d4 : (endsM [x] > p.pages) = False := eq_false h4
  have d4' : (p.pages < endsM [x]) = False := eq_false h4
  rw [h2] at k40
  rw [h5] at k53f
  rw [h6] at k53h
  have lk := look_get t p.held
  have pp := fun u => put_put t u p.held
  have gs : ∀ L b, (hx K L).set mid b = hx (K.set mid b) L := fun L b => hx_set_old K L b mid hml
  have k52n := fun b fz L Q => @k1_52n K x b fz L Q
  have v52 : ∀ n A, pureV ftB (.fn (.func 52) [] []) [encR A, .sl n 0 1] = some (true, [n]) := fun _ _ => rfl
  have v52n : ∀ n, pureV ftB (.fn (.func 52) [] []) [.sc (.slice none 0 0), .sl n 0 1] = some (true, [n]) := fun _ => rfl
  unfold giveU at hq
  cases hg : getO t p.held with
  | none =>
    rw [hg] at lk hq
    simp only [Option.map_none, Option.getD_none, Option.isSome_none] at lk hq
    simp only [runC, int, boolA] at k40 k43 k53f k53h k52n lk pp hq
    simp only [↓vp, vq0, vq1, vq2, vq3, vr0, vr1, vr2, vr3, vr4, vr5, vr6, vr7, vr8, vr9, vr10, vr11, vr12, vr13, vr14, vr15, vr16, vr17, vr18, vr19, vr20, vr21, vr22, vr23, vr24, vr25, vr26, vr27, vr28, vr29, vr30, vr31, vr32, vr33, vr34, opS, fpS, extO, okP, pack, nAl, allocA, shId, leaves, fillA, fillR, splice, Nat.reduceLT, Nat.reduceEqDiff, Nat.reduceLeDiff, Nat.reduceAdd, Nat.reduceSub, Nat.reduceMul, Int.reduceBEq, Int.reduceBNe, Int.reduceLT, Int.reduceLE, Int.reduceEq, reduceIte, reduceCtorEq, da, int, boolA, dr, rw, runC, q0, k40, k43, k53f, k53h, k63, hx_hx, v40, v43, ne1, ne2, d1, d3, d4, d4', q1, keyOk, lk, pp, gs, k52n, v52n, Option.getD_none, Option.isSome_none]
    exact hq
  | some l =>
    have hll := right_len (hp.hd.rg _ (getO_mem hg))
    have k52 := fun b fz L Q => @k1_52 K x b fz L Q l (by simp only at hll; omega)
    rw [hg] at lk hq
    simp only [Option.map_some, Option.getD_some, Option.isSome_some] at lk hq
    simp only [runC, int, boolA] at k40 k43 k53f k53h k52 lk pp hq
    simp only [↓vp, vq0, vq1, vq2, vq3, vr0, vr1, vr2, vr3, vr4, vr5, vr6, vr7, vr8, vr9, vr10, vr11, vr12, vr13, vr14, vr15, vr16, vr17, vr18, vr19, vr20, vr21, vr22, vr23, vr24, vr25, vr26, vr27, vr28, vr29, vr30, vr31, vr32, vr33, vr34, opS, fpS, extO, okP, pack, nAl, allocA, shId, leaves, fillA, fillR, splice, Nat.reduceLT, Nat.reduceEqDiff, Nat.reduceLeDiff, Nat.reduceAdd, Nat.reduceSub, Nat.reduceMul, Int.reduceBEq, Int.reduceBNe, Int.reduceLT, Int.reduceLE, Int.reduceEq, reduceIte, reduceCtorEq, da, int, boolA, dr, rw, runC, q0, k40, k43, k53f, k53h, k63, hx_hx, v40, v43, ne1, ne2, d1, d3, d4, d4', q1, keyOk, lk, pp, gs, k52, v52, Option.getD_some, Option.isSome_some]
    exact hq
end
end Go.VI

set_option linter.unusedVariables false
set_option linter.unusedSimpArgs false
set_option maxRecDepth 100000
namespace Go.VI
attribute [local congr] AW_congr OW_congr DW_congr NW_congr VW_congr GW_congr PW_congr KW_congr ite_congr' GV_congr CV_congr KF_congr
noncomputable def giveP (p : PoolM) (t : Int) (x : RunM) : PoolM := if giveE p t x = 0 then { p with held := putO t (giveU p t x) p.held } else p
theorem frame_hx {pid mid : Nat} (K : Heap) (L : List Blk) : PFrame pid mid K (hx K L) := ⟨by rw [hx_next]; omega, fun j hj _ _ => hx_get_old _ _ _ hj⟩
theorem frame_set {pid mid : Nat} (K : Heap) (b : Blk) (L : List Blk) : PFrame pid mid K (hx (K.set mid b) L) := ⟨by rw [hx_next, Heap.next_set]; omega, fun j hj _ h2 => by rw [hx_get_old _ _ _ (by rw [Heap.next_set]; exact hj), Heap.get_set_ne _ h2]⟩
theorem PFrame.trans {pid mid : Nat} {K K' K'' : Heap} (h : PFrame pid mid K K') (h' : PFrame pid mid K' K'') : PFrame pid mid K K'' := ⟨Nat.le_trans h.le h'.le, fun j hj h1 h2 => (h'.eq j (Nat.lt_of_lt_of_le hj h.le) h1 h2).trans (h.eq j hj h1 h2)⟩
section
variable {K : Heap} {pid mid : Nat} {p : PoolM} {bs : List Nat} {ck : Nat} (hp : PoolH K pid mid p bs ck) {t : Int} {x : RunM} {Q : AV → Heap → Prop}
include hp
theorem o64 (hq : ∀ K' bs' ck', PoolH K' pid mid (giveP p t x) bs' ck' → PFrame pid mid K K' → Q (int (giveE p t x)) K') : KW ftB (.fn (.func 64) [] []) [.ptr pid 0 0, int t, .agg (runC x)] K Q := by
  have fail : ∀ {e : Int} (h0 : e ≠ 0) (he : giveE p t x = e) (L : List Blk), Q (int e) (hx K L) := fun h0 he L => by
    have h1 : giveP p t x = p := by unfold giveP; rw [if_neg (by rw [he]; exact h0)]
    rw [← he]
    exact hq _ bs ck (by rw [h1]; exact pool_hx hp L) (frame_hx K L)
  by_cases h1 : t < 0
  · have he : giveE p t x = 1 := by unfold giveE badGive; rw [decide_eq_true h1]; rfl
    exact o64a hp h1 fun fz => fail (by decide) he _
  cases h2 : rightM [x] with
  | false =>
    have he : giveE p t x = 1 := by unfold giveE badGive; rw [h2]; simp
    exact o64b hp h1 h2 fun fz => fail (by decide) he _
  | true =>
    by_cases h3 : x.1 < 2
    · have he : giveE p t x = 1 := by unfold giveE badGive; rw [decide_eq_true h3]; simp
      exact o64c hp h1 h2 h3 fun fz => fail (by decide) he _
    by_cases h4 : endsM [x] > p.pages
    · have he : giveE p t x = 1 := by unfold giveE badGive; rw [decide_eq_true h4]; simp
      exact o64d hp h1 h2 h3 h4 fun fz => fail (by decide) he _
    have hb : badGive p t x = false := by unfold badGive; rw [decide_eq_false h1, h2, decide_eq_false h3, decide_eq_false h4]; rfl
    cases h5 : meetM p.free [x] with
    | true =>
      have he : giveE p t x = 110 := by unfold giveE hitGive; rw [hb, h5]; rfl
      exact o64e hp h1 h2 h3 h4 h5 (fail (by decide) he _)
    | false =>
      cases h6 : meetM (unionSel (fun _ => true) p.held) [x] with
      | true =>
        have he : giveE p t x = 110 := by unfold giveE hitGive; rw [hb, h5, h6]; rfl
        exact o64f hp h1 h2 h3 h4 h5 h6 (fail (by decide) he _)
      | false =>
        have he : giveE p t x = 0 := by unfold giveE hitGive; rw [hb, h5, h6]; rfl
        have hP : giveP p t x = { p with held := putO t (giveU p t x) p.held } := by unfold giveP; rw [if_pos he]
        refine o64g hp h1 h2 h3 h4 h5 h6 ?_
        rw [← he]
        have hml := Heap.get_lt hp.map
        have hne := pool_ne hp
        refine hq _ (putB (getO t p.held).isSome bs ck) (putC (getO t p.held).isSome ck) ?_ (frame_set K _ _)
        rw [hP]
        refine pool_hx (p := { p with held := putO t (giveU p t x) p.held }) ⟨?_, ?_, ?_, hp.free⟩ _
        · rw [Heap.get_set_ne _ hne]
          exact hp.box
        · rw [Heap.get_set_self _ hml]
        · exact held_put hp.hd t (unionM_ok _ _).1
theorem o73 : KW ftB (.fn (.func 73) [] []) [.ptr pid 0 0] K Q ↔ Q (.ptr K.next 0 0) (hx K [boxP p (K.next + 1), .mpb (some .i64) (p.held.map entC) bs ck, .dead]) :=
  KW_of (callU_prim (p := copyP) rfl (copyP_at hp) (by rw [hx_next]; omega))
end
section
variable {K : Heap} {pid mid : Nat} {p : PoolM} {bs : List Nat} {ck : Nat} (hp : PoolH K pid mid p bs ck) {t : Int} {Q : AV → Heap → Prop}
include hp
theorem o74 : KW ftB (.fn (.func 74) [] []) [.ptr pid 0 0, int t] K Q ↔ Q (.agg [encR (unionM p.free (unionSel (fun k => k != t) p.held)), encR ((getO t p.held).getD [])]) (hx K [.box false [int t], .box false [encR (unionM p.free (unionSel (fun k => k != t) p.held)), encR ((getO t p.held).getD [])], .dead]) := by
  refine KW_of (call_o rfl (by simp) ?_)
  unfold c74 r74 RetO
  have q0 := fun L => get_old hp.box L
  have q1 := fun L => get_old hp.map L
  have hpl := Heap.get_lt hp.box
  have hml := Heap.get_lt hp.map
  have hl := right_len hp.free
  have hu := unionSel_ok (fun k => k != t) p.held
  have hul := right_len hu.1
  have k120 : ∀ b L Q, KW ftB (.fn (.func 120) [] []) [.ptr pid 0 0, .fn (.func 133) [] [.ptr K.next 0 0]] (hx K (.box false [.sc (.int .i64 t)] :: b :: L)) Q ↔ Q (encR (unionSel (fun k => k != t) p.held)) (hx (hx K (.box false [.sc (.int .i64 t)] :: b :: L)) [.dead]) := fun b L Q =>
    KW_of (callU_prim (p := unionP) rfl (unionP_at (pool_hx hp _) (test3 (fz := false) (x := t) (hx_get0 _ _) (by rw [hx_next]; simp)) rfl) (by rw [hx_next (hx K _)]; omega))
  have k52 := fun H Q => @kB52 H Q p.free (unionSel (fun k => k != t) p.held) (by omega) (by omega)
  have v52 : ∀ a b : List RunM, pureV ftB (.fn (.func 52) [] []) [encR a, encR b] = some (false, []) := fun _ _ => rfl
  have lk := look_get t p.held
  have G1 : ∀ a b L, (hx K (a :: b :: L)).get (K.next + 1) = some b := fun a b L => hx_get _ _ 1
  have G0 : ∀ a L, (hx K (a :: L)).get K.next = some a := fun a L => hx_get0 _ _
  have S1 : ∀ a b L b', (hx K (a :: b :: L)).set (K.next + 1) b' = hx K (a :: b' :: L) := fun a b L b' => hx_set _ _ _ 1
  cases hg : getO t p.held with
  | none =>
    rw [hg] at lk
    have k111 : ∀ H Q, KW ftB (.fn (.func 111) [] []) [.sc (.slice none 0 0)] H Q ↔ Q (encR []) H := fun H Q => KW_of (call_pprim (as' := [encR []]) (p := cloF 2 16) rfl rfl rfl)
    have v111 : pureV ftB (.fn (.func 111) [] []) [.sc (.slice none 0 0)] = some (false, []) := rfl
    simp only [Option.map_none, int] at lk
    simp only [↓vp, vq0, vq1, vq2, vq3, vr0, vr1, vr2, vr3, vr4, vr5, vr6, vr7, vr8, vr9, vr10, vr11, vr12, vr13, vr14, vr15, vr16, vr17, vr18, vr19, vr20, vr21, vr22, vr23, vr24, vr25, vr26, vr27, vr28, vr29, vr30, vr31, vr32, vr33, vr34, opS, fpS, extO, okP, pack, nAl, allocA, shId, leaves, fillA, fillR, splice, Nat.reduceLT, Nat.reduceEqDiff, Nat.reduceLeDiff, Nat.reduceAdd, Nat.reduceSub, Nat.reduceMul, Int.reduceBEq, Int.reduceBNe, Int.reduceLT, Int.reduceLE, Int.reduceEq, reduceIte, reduceCtorEq, da, int, boolA, dr, q0, q1, k120, hx_hx, k52, v52, keyOk, lk, k111, v111, G0, G1, S1, Option.getD_none, resultsA, resC, resT, resN]
    try rfl
  | some l =>
    have hll := right_len (hp.hd.rg _ (getO_mem hg))
    rw [hg] at lk
    have k111 := fun H Q => @kB111 H Q l (by simp only at hll; omega)
    have v111 : pureV ftB (.fn (.func 111) [] []) [encR l] = some (false, []) := rfl
    simp only [Option.map_some, int] at lk
    simp only [↓vp, vq0, vq1, vq2, vq3, vr0, vr1, vr2, vr3, vr4, vr5, vr6, vr7, vr8, vr9, vr10, vr11, vr12, vr13, vr14, vr15, vr16, vr17, vr18, vr19, vr20, vr21, vr22, vr23, vr24, vr25, vr26, vr27, vr28, vr29, vr30, vr31, vr32, vr33, vr34, opS, fpS, extO, okP, pack, nAl, allocA, shId, leaves, fillA, fillR, splice, Nat.reduceLT, Nat.reduceEqDiff, Nat.reduceLeDiff, Nat.reduceAdd, Nat.reduceSub, Nat.reduceMul, Int.reduceBEq, Int.reduceBNe, Int.reduceLT, Int.reduceLE, Int.reduceEq, reduceIte, reduceCtorEq, da, int, boolA, dr, q0, q1, k120, hx_hx, k52, v52, keyOk, lk, k111, v111, G0, G1, S1, Option.getD_some, resultsA, resC, resT, resN]
    try rfl
end
noncomputable def settleP (p : PoolM) (x o : Int) : PoolM := { p with free := unionM p.free (unionSel (oldB x o) p.held), held := p.held.filter fun y => !oldB x o y.1 }
section
variable {K : Heap} {pid mid : Nat} {p : PoolM} {bs : List Nat} {ck : Nat} (hp : PoolH K pid mid p bs ck) {x o : Int} {Q : AV → Heap → Prop}
include hp
theorem o65 (hq : ∀ K' bs', PoolH K' pid mid (settleP p x o) bs' ck → PFrame pid mid K K' → Q (.tup []) K') : KW ftB (.fn (.func 65) [] []) [.ptr pid 0 0, int x, int o] K Q := by
  refine call_W rfl (by simp) ?_
  unfold c65 r65
  have q0 := fun L => get_old hp.box L
  have hpl := Heap.get_lt hp.box
  have hml := Heap.get_lt hp.map
  have hne := pool_ne hp
  have hl := right_len hp.free
  have hu := unionSel_ok (oldB x o) p.held
  have hul := right_len hu.1
  have G0 : ∀ (K : Heap) a L, (hx K (a :: L)).get K.next = some a := fun K a L => hx_get0 _ _
  have G1 : ∀ (K : Heap) a b L, (hx K (a :: b :: L)).get (K.next + 1) = some b := fun K a b L => hx_get _ _ 1
  have G2 : ∀ (K : Heap) a b c L, (hx K (a :: b :: c :: L)).get (K.next + 2) = some c := fun K a b c L => hx_get _ _ 2
  have S2 : ∀ a b c L c', (hx K (a :: b :: c :: L)).set (K.next + 2) c' = hx K (a :: b :: c' :: L) := fun a b c L c' => hx_set _ _ _ 2
  have gs : ∀ L b, (hx K L).set pid b = hx (K.set pid b) L := fun L b => hx_set_old K L b pid hpl
  have k120 : ∀ Q, KW ftB (.fn (.func 120) [] []) [.ptr pid 0 0, .fn (.func 122) [] [.ptr K.next 0 0, .ptr (K.next + 1) 0 0]] (hx K [.box false [.sc (.int .i64 x)], .box false [.sc (.int .i64 o)], .box false [.fn (.func 122) [] [.ptr K.next 0 0, .ptr (K.next + 1) 0 0]]]) Q ↔
      Q (encR (unionSel (oldB x o) p.held)) (hx (hx K [.box false [.sc (.int .i64 x)], .box false [.sc (.int .i64 o)], .box false [.fn (.func 122) [] [.ptr K.next 0 0, .ptr (K.next + 1) 0 0]]]) [.dead]) := fun Q =>
    KW_of (callU_prim (p := unionP) rfl (unionP_at (pool_hx hp _) (test2 (fz := false) (fz' := false) (x := x) (o := o) (G0 _ _ _) (G1 _ _ _ _) (by omega) (by rw [hx_next]; simp) (by rw [hx_next]; simp)) rfl) (by rw [hx_next (hx K _)]; omega))
  have k52 := fun H Q => @kB52 H Q p.free (unionSel (oldB x o) p.held) (by omega) (by omega)
  have v52 : ∀ a b : List RunM, pureV ftB (.fn (.func 52) [] []) [encR a, encR b] = some (false, []) := fun _ _ => rfl
  have v120 : ∀ args, pureV ftB (.fn (.func 120) [] []) args = none := fun _ => rfl
  have v120t : ∀ args, pureV ftB (.tup [.fn (.func 120) [] []]) args = none := fun _ => rfl
  have xf : ∀ q, exFQ (none : FP).isSome q = q := fun q => by cases q <;> rfl
  have sg : ∀ L L' : List Blk, ((hx K L').get pid = (hx K L).get pid) = True := fun L L' => eq_true (by rw [q0, q0])
  have hf' : boxP (settleP p x o) mid = .box false [.sc (.int .i64 p.pages), .sc (.int .i64 p.limit), encR (unionM p.free (unionSel (oldB x o) p.held)), .mp mid] := rfl
  have hKb : ∀ L, (hx (K.set pid (boxP (settleP p x o) mid)) L).get pid = some (boxP (settleP p x o) mid) := fun L => get_old (Heap.get_set_self _ hpl) L
  have hKm : (K.set pid (boxP (settleP p x o) mid)).get mid = some (.mpb (some .i64) (p.held.map entC) bs ck) := by rw [Heap.get_set_ne _ (Ne.symm hne)]; exact hp.map
  have hKn : (K.set pid (boxP (settleP p x o) mid)).next = K.next := Heap.next_set _ _ _
  have k123 : ∀ Q, KW ftB (.fn (.func 123) [] []) [.mp mid, .fn (.func 124) [] [.ptr (K.next + 2) 0 0]] (hx (K.set pid (boxP (settleP p x o) mid)) [.box false [.sc (.int .i64 x)], .box false [.sc (.int .i64 o)], .box false [.fn (.func 122) [] [.ptr K.next 0 0, .ptr (K.next + 1) 0 0]], .dead]) Q ↔
      Q (.tup []) (hx ((hx (K.set pid (boxP (settleP p x o) mid)) [.box false [.sc (.int .i64 x)], .box false [.sc (.int .i64 o)], .box false [.fn (.func 122) [] [.ptr K.next 0 0, .ptr (K.next + 1) 0 0]], .dead]).set mid (mapB ((p.held.zip bs).filter fun z => !oldB x o z.1.1) ck)) [.dead]) := fun Q => by
    have t4 := test4 (B := (hx (K.set pid (boxP (settleP p x o) mid)) [.box false [.sc (.int .i64 x)], .box false [.sc (.int .i64 o)], .box false [.fn (.func 122) [] [.ptr K.next 0 0, .ptr (K.next + 1) 0 0]], .dead]).next) (b := K.next) (b' := K.next + 1) (c := K.next + 2) (mid := mid) (x := x) (o := o)
      (H := hx (K.set pid (boxP (settleP p x o) mid)) [.box false [.sc (.int .i64 x)], .box false [.sc (.int .i64 o)], .box false [.fn (.func 122) [] [.ptr K.next 0 0, .ptr (K.next + 1) 0 0]], .dead])
      (by have := G0 (K.set pid (boxP (settleP p x o) mid)); rw [hKn] at this; exact this _ _) (by have := G1 (K.set pid (boxP (settleP p x o) mid)); rw [hKn] at this; exact this _ _ _) (by have := G2 (K.set pid (boxP (settleP p x o) mid)); rw [hKn] at this; exact this _ _ _ _) (by omega) (by omega) (by omega)
      (by rw [hx_next, hKn]; simp) (by rw [hx_next, hKn]; simp) (by rw [hx_next, hKn]; simp) (by omega) (by omega) (by omega)
    exact KW_of (callU_prim (p := delP') rfl (delP'_at (get_old hKm _) hp.hd t4 rfl) (by rw [hx_next _ [Blk.dead], Heap.next_set]; omega))
  rw [hf'] at hKb k123 hKm
  simp only [↓vp, vq0, vq1, vq2, vq3, vr0, vr1, vr2, vr3, vr4, vr5, vr6, vr7, vr8, vr9, vr10, vr11, vr12, vr13, vr14, vr15, vr16, vr17, vr18, vr19, vr20, vr21, vr22, vr23, vr24, vr25, vr26, vr27, vr28, vr29, vr30, vr31, vr32, vr33, vr34, opS, fpS, extO, okP, pack, nAl, allocA, shId, leaves, fillA, fillR, splice, Nat.reduceLT, Nat.reduceEqDiff, Nat.reduceLeDiff, Nat.reduceAdd, Nat.reduceSub, Nat.reduceMul, Int.reduceBEq, Int.reduceBNe, Int.reduceLT, Int.reduceLE, Int.reduceEq, reduceIte, reduceCtorEq, da, int, boolA, dr, rw, q0, G2, S2, k120, hx_hx, k52, v52, v120, v120t, mkFQ_n, compat_al, compat_la, sameAt1, sg, xf, gs, hKb, k123]
  rw [← hf'] at hKm ⊢
  refine hq _ (((p.held.zip bs).filter fun z => !oldB x o z.1.1).map (·.2)) ?_ ?_
  · refine pool_hx (p := settleP p x o) ⟨?_, ?_, ?_, ?_⟩ _
    · rw [Heap.get_set_ne _ hne]
      exact get_old (Heap.get_set_self _ hpl) _
    · rw [(held_filter hp.hd fun k => !oldB x o k).2, Heap.get_set_self _ (by rw [hx_next, hKn]; omega)]
      rfl
    · exact (held_filter hp.hd fun k => !oldB x o k).1
    · exact (unionM_ok _ _).1
  · refine ⟨by rw [hx_next, Heap.next_set, hx_next, hKn]; omega, fun j hj h1 h2 => ?_⟩
    rw [hx_get_old _ _ _ (by rw [Heap.next_set, hx_next, hKn]; omega), Heap.get_set_ne _ h2, hx_get_old _ _ _ (by rw [hKn]; exact hj), Heap.get_set_ne _ h1]
end
end Go.VI

set_option linter.unusedVariables false
set_option linter.unusedSimpArgs false
set_option maxRecDepth 100000
namespace Go.VI
attribute [local congr] AW_congr OW_congr DW_congr NW_congr VW_congr GW_congr PW_congr KW_congr ite_congr' GV_congr CV_congr KF_congr
section
variable {K : Heap} {pid mid : Nat} {p : PoolM} {bs : List Nat} {ck : Nat} (hp : PoolH K pid mid p bs ck) {Q : AV → Heap → Prop}
include hp
/-- A pool of which the box alone is another one. -/
theorem pool_put {p' : PoolM} (hh : p'.held = p.held) (hf : rightM p'.free = true) : PoolH (K.set pid (boxP p' mid)) pid mid p' bs ck := by
  refine ⟨Heap.get_set_self _ (Heap.get_lt hp.box), ?_, by rw [hh]; exact hp.hd, hf⟩
  rw [Heap.get_set_ne _ (Ne.symm (pool_ne hp)), hh]
  exact hp.map
end
theorem union_l {l : List RunM} (h : rightM l = true) : unionM [] l = l := by
  have := unionM_ok [] l
  refine right_ext this.1 h fun p => ?_
  rw [this.2, clean_of h]
  rfl
end Go.VI

set_option linter.unusedVariables false
set_option linter.unusedSimpArgs false
set_option maxRecDepth 100000
namespace Go.VI
attribute [local congr] AW_congr OW_congr DW_congr NW_congr VW_congr GW_congr PW_congr KW_congr ite_congr' GV_congr CV_congr KF_congr
section
variable {K : Heap} {Q : AV → Heap → Prop}
theorem kn43 {H : Heap} : KW ftB (.fn (.func 43) [] []) [.sc (.slice none 0 0)] H Q ↔ Q (int 0) H := kB_of (as' := [encR []]) rfl rfl rfl (callL_sub ftM_sub (s43 [] (by simp) Heap.empty))
theorem kn118 {H : Heap} : KW ftB (.fn (.func 118) [] []) [.agg [.sc (.slice none 0 0), .sc (.slice none 0 0)]] H Q ↔ Q (boolA true) H := by
  refine KW_of (call_p (as' := [.agg [encR [], encR []]]) rfl rfl (by simp) ?_)
  unfold c118 r118
  have k1 := fun K L Q => @KW_of ftB _ _ _ Q _ _ (s166 [] (by simp) (hx K L))
  have k3 := fun H Q => @kB53 H Q [] [] (by simp) (by simp)
  rw [show mayS [] = true by decide] at k1
  rw [show meetM [] [] = false by decide] at k3
  simp only [↓vp, vq0, vq1, vq2, vq3, vr0, vr1, vr2, vr3, vr4, vr5, vr6, vr7, vr8, vr9, vr10, vr11, vr12, vr13, vr14, vr15, vr16, vr17, vr18, vr19, vr20, vr21, vr22, vr23, vr24, vr25, vr26, vr27, vr28, vr29, vr30, vr31, vr32, vr33, vr34, opS, fpS, extO, okP, pack, nAl, allocA, shId, leaves, fillA, fillR, splice, Nat.reduceLT, Nat.reduceEqDiff, Nat.reduceLeDiff, Nat.reduceAdd, Nat.reduceSub, Nat.reduceMul, Int.reduceBEq, Int.reduceBNe, Int.reduceLT, Int.reduceLE, Int.reduceEq, reduceIte, reduceCtorEq, da, int, boolA, RetP_go, resT, resC, resN, retV1, retV2, retV3, retV0, frzFZ, takeM, Option.some.injEq, dr, k1, k3, Bool.true_and, Bool.and_true]
theorem kn111 {H : Heap} : KW ftB (.fn (.func 111) [] []) [.sc (.slice none 0 0)] H Q ↔ Q (encR []) H := KW_of (call_pprim (as' := [encR []]) (p := cloF 2 16) rfl rfl rfl)
theorem call_pz118 {A : AV} {H : Heap} (hz : frzCells H [A] = some ([.agg [encR [(5, 2)], encR []]], H)) : callL ftB (.fn (.func 118) [] []) [A] H = some (boolA true, H) := by
  refine call_p (as' := [.agg [encR [(5, 2)], encR []]]) rfl hz (by simp) ?_
  unfold c118 r118
  have k0 := fun K L Q => @KW_of ftB _ _ _ Q _ _ (s166 [(5, 2)] (by simp) (hx K L))
  have k1 := fun K L Q => @KW_of ftB _ _ _ Q _ _ (s166 [] (by simp) (hx K L))
  have k3 := fun H Q => @kB53 H Q [(5, 2)] [] (by simp) (by simp)
  rw [show mayS [(5, 2)] = true by decide] at k0
  rw [show mayS [] = true by decide] at k1
  rw [show meetM [(5, 2)] [] = false by decide] at k3
  simp only [↓vp, vq0, vq1, vq2, vq3, vr0, vr1, vr2, vr3, vr4, vr5, vr6, vr7, vr8, vr9, vr10, vr11, vr12, vr13, vr14, vr15, vr16, vr17, vr18, vr19, vr20, vr21, vr22, vr23, vr24, vr25, vr26, vr27, vr28, vr29, vr30, vr31, vr32, vr33, vr34, opS, fpS, extO, okP, pack, nAl, allocA, shId, leaves, fillA, fillR, splice, Nat.reduceLT, Nat.reduceEqDiff, Nat.reduceLeDiff, Nat.reduceAdd, Nat.reduceSub, Nat.reduceMul, Int.reduceBEq, Int.reduceBNe, Int.reduceLT, Int.reduceLE, Int.reduceEq, reduceIte, reduceCtorEq, da, int, boolA, RetP_go, resT, resC, resN, retV1, retV2, retV3, retV0, frzFZ, takeM, Option.some.injEq, dr, k0, k1, k3, Bool.true_and, Bool.and_true]
theorem s57n : callL ftB (.fn (.func 57) [] []) [.agg [.sc (.slice none 0 0), .sc (.slice none 0 0)], int 0, int 10, int 20] K =
    some (.tup [.ptr (K.next + 2) 0 0, int 0], hx K [.box false [.sc (.slice none 0 0), .sc (.slice none 0 0)], .mpb (some .i64) [entC (0, [])] [0] 1, boxP (newP [] [] 0 10 20) (K.next + 1)]) := by
  refine call_o rfl (by simp) ?_
  unfold c57 r57 RetO
  have v1 : pureV ftB (.fn (.func 111) [] []) [.sc (.slice none 0 0)] = some (false, []) := rfl
  have k43 := fun H Q => @kn43 Q H
  have k118 := fun H Q => @kn118 Q H
  have k111 := fun H Q => @kn111 Q H
  simp only [int, boolA] at k43 k118
  simp only [↓vp, vq0, vq1, vq2, vq3, vr0, vr1, vr2, vr3, vr4, vr5, vr6, vr7, vr8, vr9, vr10, vr11, vr12, vr13, vr14, vr15, vr16, vr17, vr18, vr19, vr20, vr21, vr22, vr23, vr24, vr25, vr26, vr27, vr28, vr29, vr30, vr31, vr32, vr33, vr34, opS, fpS, extO, okP, pack, nAl, allocA, shId, leaves, fillA, fillR, splice, Nat.reduceLT, Nat.reduceEqDiff, Nat.reduceLeDiff, Nat.reduceAdd, Nat.reduceSub, Nat.reduceMul, Int.reduceBEq, Int.reduceBNe, Int.reduceLT, Int.reduceLE, Int.reduceEq, reduceIte, reduceCtorEq, da, int, boolA, dr, k43, k118, k111, v1, keyOk, resultsA, resT, resN]
  rfl
theorem frz1 {id : Nat} {x : RunM} (hg : K.get id = some (.row true 2 [runC x])) (n : Nat) : frz (n + 1) K (.sl id 0 1) = some (encR [x], K) := by
  rw [frz_sl, hg]
  rfl
theorem frz1c {id : Nat} {x : RunM} (hg : K.get id = some (.row true 2 [runC x])) : frzCells K [.sl id 0 1] = some ([encR [x]], K) := by
  rw [frzCells_eq, frzL_cons, frz1 hg]
  rfl
theorem frz1f {id : Nat} {x : RunM} (hg : K.get id = some (.row false 2 [runC x])) : frzCells K [.sl id 0 1] = some ([encR [x]], K.set id (.row true 2 [runC x])) := by
  rw [frzCells_eq, frzL_cons, frz_sl, hg]
  rfl
theorem frz1a {id : Nat} {x : RunM} (hg : K.get id = some (.row true 2 [runC x])) : frzCells K [.agg [.sl id 0 1, .sc (.slice none 0 0)]] = some ([.agg [encR [x], encR []]], K) := by
  rw [frzCells_eq, frzL_cons, frz_agg, frzL_cons, frz1 hg]
  rfl
theorem k1w {k : Nat} {id : Nat} {x : RunM} {v : AV} {H2 : Heap} (hg : K.get id = some (.row true 2 [runC x])) (hk : ftB k = some (.pprim (goP ftM k))) (h : callL ftM (.fn (.func k) [] []) [encR [x]] Heap.empty = some (v, H2)) : KW ftB (.fn (.func k) [] []) [.sl id 0 1] K Q ↔ Q v K := kB_of hk (frz1c hg) rfl h
theorem k1f {k : Nat} {id : Nat} {x : RunM} {v : AV} {H2 : Heap} (hg : K.get id = some (.row false 2 [runC x])) (hk : ftB k = some (.pprim (goP ftM k))) (h : callL ftM (.fn (.func k) [] []) [encR [x]] Heap.empty = some (v, H2)) : KW ftB (.fn (.func k) [] []) [.sl id 0 1] K Q ↔ Q v (K.set id (.row true 2 [runC x])) := kB_of hk (frz1f hg) rfl h
end
def X52 : RunM := (5, 2)
/-- New of one free run, that stands in a row. -/
theorem s57a {K : Heap} {id : Nat} (hg : K.get id = some (.row false 2 [runC X52])) : callL ftB (.fn (.func 57) [] []) [.agg [.sl id 0 1, .sc (.slice none 0 0)], int 1, int 8, int 20] K =
    some (.tup [.ptr (K.next + 2) 0 0, int 0], hx (K.set id (.row true 2 [runC X52])) [.box false [.sl id 0 1, .sc (.slice none 0 0)], .mpb (some .i64) [entC (1, [])] [0] 1, boxP (newP [X52] [] 1 8 20) (K.next + 1)]) := by
  refine call_o rfl (by simp) ?_
  unfold c57 r57 RetO
  have hid := Heap.get_lt hg
  have gt := fun L => get_old (Heap.get_set_self (.row true 2 [runC X52]) hid) L
  have gf := fun L => get_old hg L
  have gs : ∀ L b, (hx K L).set id b = hx (K.set id b) L := fun L b => hx_set_old K L b id hid
  have nx : (K.set id (.row true 2 [runC X52])).next = K.next := Heap.next_set _ _ _
  have v1 : pureV ftB (.fn (.func 111) [] []) [.sc (.slice none 0 0)] = some (false, []) := rfl
  have v2 : pureV ftB (.fn (.func 111) [] []) [.sl id 0 1] = some (true, [id]) := rfl
  have k43 := fun H Q => @kn43 Q H
  have k43f := fun L Q => @k1f (hx K L) Q 43 id X52 _ _ (gf L) rfl (callL_sub ftM_sub (s43 [X52] (by simp) Heap.empty))
  have k43t := fun L Q => @k1w (hx (K.set id (.row true 2 [runC X52])) L) Q 43 id X52 _ _ (gt L) rfl (callL_sub ftM_sub (s43 [X52] (by simp) Heap.empty))
  have k118 : ∀ L Q, KW ftB (.fn (.func 118) [] []) [.agg [.sl id 0 1, .sc (.slice none 0 0)]] (hx (K.set id (.row true 2 [runC X52])) L) Q ↔ Q (boolA true) (hx (K.set id (.row true 2 [runC X52])) L) := fun L Q =>
    KW_of (call_pz118 (frz1a (gt L)))
  have k111 := fun H Q => @kn111 Q H
  have k111t : ∀ L Q, KW ftB (.fn (.func 111) [] []) [.sl id 0 1] (hx (K.set id (.row true 2 [runC X52])) L) Q ↔ Q (encR [X52]) (hx (K.set id (.row true 2 [runC X52])) L) := fun L Q =>
    KW_of (call_pprim (as' := [encR [X52]]) (p := cloF 2 16) rfl (frz1c (gt L)) rfl)
  rw [show endsM [X52] = 7 by decide] at k43f k43t
  simp only [int, boolA, gs] at k43 k43f k43t k118
  have ne1 : (id = K.next) = False := eq_false (by omega)
  have ne2 : (K.next = id) = False := eq_false (by omega)
  have ne3 : (id = K.next + 1) = False := eq_false (by omega)
  have ne4 : (K.next + 1 = id) = False := eq_false (by omega)
  have ne5 : (id = K.next + 1 + 1) = False := eq_false (by omega)
  have ne6 : (K.next + 1 + 1 = id) = False := eq_false (by omega)
  simp only [↓vp, vq0, vq1, vq2, vq3, vr0, vr1, vr2, vr3, vr4, vr5, vr6, vr7, vr8, vr9, vr10, vr11, vr12, vr13, vr14, vr15, vr16, vr17, vr18, vr19, vr20, vr21, vr22, vr23, vr24, vr25, vr26, vr27, vr28, vr29, vr30, vr31, vr32, vr33, vr34, opS, fpS, extO, okP, pack, nAl, allocA, shId, leaves, fillA, fillR, splice, Nat.reduceLT, Nat.reduceEqDiff, Nat.reduceLeDiff, Nat.reduceAdd, Nat.reduceSub, Nat.reduceMul, Int.reduceBEq, Int.reduceBNe, Int.reduceLT, Int.reduceLE, Int.reduceEq, reduceIte, reduceCtorEq, da, int, boolA, dr, k43, k43f, k43t, k118, k111, k111t, v1, v2, keyOk, nx, ne1, ne2, ne3, ne4, ne5, ne6, resultsA, resT, resN]
  rfl
def A0 : PoolM := ⟨8, 20, [(5, 2)], [(1, [])]⟩
def A1 : PoolM := ⟨8, 20, [], [(1, [])]⟩
def A2 : PoolM := ⟨9, 20, [], [(1, [])]⟩
def A3 : PoolM := ⟨9, 20, [], [(1, []), (3, [(5, 2)])]⟩
def A4 : PoolM := ⟨9, 20, [(5, 2)], []⟩
theorem A_all2 : unionSel (fun _ => true) A2.held = [] := by
  show unionM [] [] = []
  exact union_l rfl
theorem A_all3 : unionSel (fun _ => true) A3.held = [(5, 2)] := by
  show unionM (unionM [] []) [(5, 2)] = [(5, 2)]
  rw [union_l rfl, union_l rfl]
theorem A_old3 : unionSel (oldB 5 9) A3.held = [(5, 2)] := by
  show unionM (unionM [] []) [(5, 2)] = [(5, 2)]
  rw [union_l rfl, union_l rfl]
theorem A_g3 : giveE A2 3 (5, 2) = 0 ∧ giveP A2 3 (5, 2) = A3 := by
  have h : giveE A2 3 (5, 2) = 0 := by
    unfold giveE hitGive
    rw [A_all2, show badGive A2 3 (5, 2) = false by decide, show meetM A2.free [(5, 2)] = false by decide, show meetM [] [(5, 2)] = false by decide]
    rfl
  refine ⟨h, ?_⟩
  unfold giveP
  rw [if_pos h]
  unfold giveU
  rw [show ((getO 3 A2.held).getD []) = [] by decide, union_l (by decide)]
  rfl
theorem A_g4 : giveE A3 4 (6, 1) = 110 ∧ giveP A3 4 (6, 1) = A3 := by
  have h : giveE A3 4 (6, 1) = 110 := by
    unfold giveE hitGive
    rw [A_all3, show badGive A3 4 (6, 1) = false by decide, show meetM A3.free [(6, 1)] = false by decide, show meetM [(5, 2)] [(6, 1)] = true by decide]
    rfl
  refine ⟨h, ?_⟩
  unfold giveP
  rw [if_neg (by rw [h]; decide)]
theorem A_s : settleP A3 5 9 = A4 := by
  unfold settleP
  rw [A_old3, show A3.free = [] from rfl, union_l (by decide)]
  rfl
theorem A_ok0 : PoolOk A0 := ⟨by decide, by decide, by decide, by decide, by decide⟩
theorem A_ok1 : PoolOk A1 := ⟨by decide, by decide, by decide, by decide, by decide⟩
theorem s56 (H : Heap) : callL ftB (.fn (.func 56) [] []) [] H = some (boolA true, H) := by
  refine call_p (as' := []) rfl rfl (by simp) ?_
  unfold c56 r56
  have k57 : ∀ Q, KW ftB (.fn (.func 57) [] []) [.agg [.sl 0 0 1, .sc (.slice none 0 0)], int 1, int 8, int 20] (hx Heap.empty [.row false 2 [runC X52]]) Q ↔ _ := fun Q => KW_of (s57a (id := 0) rfl)
  simp only [runC, X52, int] at k57
  have n1 : ∀ i, isnilA 1 (.ptr i 0 0) = some false := fun _ => rfl
  simp only [↓vp, vq0, vq1, vq2, vq3, vr0, vr1, vr2, vr3, vr4, vr5, vr6, vr7, vr8, vr9, vr10, vr11, vr12, vr13, vr14, vr15, vr16, vr17, vr18, vr19, vr20, vr21, vr22, vr23, vr24, vr25, vr26, vr27, vr28, vr29, vr30, vr31, vr32, vr33, vr34, opS, fpS, extO, okP, pack, nAl, allocA, shId, leaves, fillA, fillR, splice, Nat.reduceLT, Nat.reduceEqDiff, Nat.reduceLeDiff, Nat.reduceAdd, Nat.reduceSub, Nat.reduceMul, Int.reduceBEq, Int.reduceBNe, Int.reduceLT, Int.reduceLE, Int.reduceEq, reduceIte, reduceCtorEq, da, int, boolA, RetP_go, resT, resC, resN, retV1, retV2, retV3, retV0, frzFZ, takeM, Option.some.injEq, dr, k57, show Heap.empty.next = 0 from rfl]
  generalize hK : hx (hx Heap.empty [_]) _ = K0
  have h0 : PoolH K0 3 2 A0 [0] 1 := by
    subst hK
    exact ⟨rfl, rfl, ⟨rfl, by decide, by decide, by decide, by decide⟩, by decide⟩
  clear hK k57
  obtain ⟨K1, h1, k61a⟩ : ∃ K1, PoolH K1 3 2 A1 [0] 1 ∧ ∀ Q, (KW ftB (.fn (.func 61) [] []) [.ptr 3 0 0, .sc (.int .i64 2)] (hx K0 []) Q ↔ Q (.tup [.sc (.int .i64 5), .sc (.int .i64 0)]) (hx K1 [])) := ⟨_, pool_put h0 (p' := A1) rfl rfl, fun Q => by rw [hx_nil, hx_nil]; exact o61 h0 A_ok0 2⟩
  obtain ⟨K2, h2, k61b⟩ : ∃ K2, PoolH K2 3 2 A2 [0] 1 ∧ ∀ Q, (KW ftB (.fn (.func 61) [] []) [.ptr 3 0 0, .sc (.int .i64 1)] (hx K1 []) Q ↔ Q (.tup [.sc (.int .i64 8), .sc (.int .i64 0)]) (hx K2 [])) := ⟨_, pool_put h1 (p' := A2) rfl rfl, fun Q => by rw [hx_nil, hx_nil]; exact o61 h1 A_ok1 1⟩
  rw [← hx_nil K0]
  simp only [↓vp, vq0, vq1, vq2, vq3, vr0, vr1, vr2, vr3, vr4, vr5, vr6, vr7, vr8, vr9, vr10, vr11, vr12, vr13, vr14, vr15, vr16, vr17, vr18, vr19, vr20, vr21, vr22, vr23, vr24, vr25, vr26, vr27, vr28, vr29, vr30, vr31, vr32, vr33, vr34, opS, fpS, extO, okP, pack, nAl, allocA, shId, leaves, fillA, fillR, splice, Nat.reduceLT, Nat.reduceEqDiff, Nat.reduceLeDiff, Nat.reduceAdd, Nat.reduceSub, Nat.reduceMul, Int.reduceBEq, Int.reduceBNe, Int.reduceLT, Int.reduceLE, Int.reduceEq, reduceIte, reduceCtorEq, da, int, boolA, RetP_go, resT, resC, resN, retV1, retV2, retV3, retV0, frzFZ, takeM, Option.some.injEq, dr, n1, k61a, k61b]
  rw [hx_nil]
  refine o64 h2 (x := (5, 2)) fun K3 b3 c3 h3 f3 => ?_
  rw [A_g3.2] at h3
  rw [A_g3.1, ← hx_nil K3]
  simp only [↓vp, vq0, vq1, vq2, vq3, vr0, vr1, vr2, vr3, vr4, vr5, vr6, vr7, vr8, vr9, vr10, vr11, vr12, vr13, vr14, vr15, vr16, vr17, vr18, vr19, vr20, vr21, vr22, vr23, vr24, vr25, vr26, vr27, vr28, vr29, vr30, vr31, vr32, vr33, vr34, opS, fpS, extO, okP, pack, nAl, allocA, shId, leaves, fillA, fillR, splice, Nat.reduceLT, Nat.reduceEqDiff, Nat.reduceLeDiff, Nat.reduceAdd, Nat.reduceSub, Nat.reduceMul, Int.reduceBEq, Int.reduceBNe, Int.reduceLT, Int.reduceLE, Int.reduceEq, reduceIte, reduceCtorEq, da, int, boolA, RetP_go, resT, resC, resN, retV1, retV2, retV3, retV0, frzFZ, takeM, Option.some.injEq, dr, n1]
  rw [hx_nil]
  refine o64 h3 (x := (6, 1)) fun K4 b4 c4 h4 f4 => ?_
  rw [A_g4.2] at h4
  rw [A_g4.1, ← hx_nil K4]
  have k73 : ∀ Q, KW ftB (.fn (.func 73) [] []) [.ptr 3 0 0] (hx K4 []) Q ↔ Q (.ptr K4.next 0 0) (hx K4 [boxP A3 (K4.next + 1), .mpb (some .i64) (A3.held.map entC) b4 c4, .dead]) := fun Q => by rw [hx_nil]; exact o73 h4
  simp only [↓vp, vq0, vq1, vq2, vq3, vr0, vr1, vr2, vr3, vr4, vr5, vr6, vr7, vr8, vr9, vr10, vr11, vr12, vr13, vr14, vr15, vr16, vr17, vr18, vr19, vr20, vr21, vr22, vr23, vr24, vr25, vr26, vr27, vr28, vr29, vr30, vr31, vr32, vr33, vr34, opS, fpS, extO, okP, pack, nAl, allocA, shId, leaves, fillA, fillR, splice, Nat.reduceLT, Nat.reduceEqDiff, Nat.reduceLeDiff, Nat.reduceAdd, Nat.reduceSub, Nat.reduceMul, Int.reduceBEq, Int.reduceBNe, Int.reduceLT, Int.reduceLE, Int.reduceEq, reduceIte, reduceCtorEq, da, int, boolA, RetP_go, resT, resC, resN, retV1, retV2, retV3, retV0, frzFZ, takeM, Option.some.injEq, dr, n1, k73]
  have h5 := pool_hx h4 [boxP A3 (K4.next + 1), .mpb (some .i64) (A3.held.map entC) b4 c4, .dead]
  have q5 : PoolH (hx K4 [boxP A3 (K4.next + 1), .mpb (some .i64) (A3.held.map entC) b4 c4, .dead]) K4.next (K4.next + 1) A3 b4 c4 := ⟨hx_get0 _ _, hx_get _ _ 1, h4.hd, h4.free⟩
  refine o65 h5 fun K6 b6 h6 f6 => ?_
  rw [A_s] at h6
  have e3 := Heap.get_lt h4.box
  have e2 := Heap.get_lt h4.map
  have e5 := hx_next K4 [boxP A3 (K4.next + 1), .mpb (some .i64) (A3.held.map entC) b4 c4, .dead]
  simp only [List.length_cons, List.length_nil] at e5
  have q6 : PoolH K6 K4.next (K4.next + 1) A3 b4 c4 := ⟨by rw [f6.eq _ (by omega) (by omega) (by omega)]; exact q5.box, by rw [f6.eq _ (by omega) (by omega) (by omega)]; exact q5.map, h4.hd, h4.free⟩
  have k59 := fun L Q => @o59 (hx K6 L) 3 2 A4 b6 c4 (pool_hx h6 L) Q
  have k60 := fun L Q => @o60 (hx K6 L) 3 2 A4 b6 c4 (pool_hx h6 L) Q
  have k63 := fun L Q => @o63 (hx K6 L) 3 2 A4 b6 c4 (pool_hx h6 L) Q
  have j63 := fun L Q => @o63 (hx K6 L) K4.next (K4.next + 1) A3 b4 c4 (pool_hx q6 L) Q
  have j74 := fun L Q => @o74 (hx K6 L) K4.next (K4.next + 1) A3 b4 c4 (pool_hx q6 L) 3 Q
  have k42a := fun H Q => @kB42 H Q [(5, 2)] (by simp)
  have k42b := fun H Q => @kB42 H Q [] (by simp)
  rw [show countM [(5, 2)] = 2 by decide] at k42a
  rw [show countM [] = 0 by decide] at k42b
  rw [A_all3] at j63
  rw [show unionSel (fun _ => true) A4.held = [] from rfl] at k63
  rw [show (getO 3 A3.held).getD [] = [(5, 2)] by decide] at j74
  rw [← hx_nil K6]
  simp only [int, boolA, A4] at k59 k60 k63 j63 j74 k42a k42b
  simp only [↓vp, vq0, vq1, vq2, vq3, vr0, vr1, vr2, vr3, vr4, vr5, vr6, vr7, vr8, vr9, vr10, vr11, vr12, vr13, vr14, vr15, vr16, vr17, vr18, vr19, vr20, vr21, vr22, vr23, vr24, vr25, vr26, vr27, vr28, vr29, vr30, vr31, vr32, vr33, vr34, opS, fpS, extO, okP, pack, nAl, allocA, shId, leaves, fillA, fillR, splice, Nat.reduceLT, Nat.reduceEqDiff, Nat.reduceLeDiff, Nat.reduceAdd, Nat.reduceSub, Nat.reduceMul, Int.reduceBEq, Int.reduceBNe, Int.reduceLT, Int.reduceLE, Int.reduceEq, reduceIte, reduceCtorEq, da, int, boolA, RetP_go, resT, resC, resN, retV1, retV2, retV3, retV0, frzFZ, takeM, Option.some.injEq, dr, n1, k59, k60, k63, j63, j74, k42a, k42b, hx_hx]
end Go.VI

set_option linter.unusedVariables false
set_option maxRecDepth 100000
namespace Go.VI
theorem fc121 : compF Go.Proofs.Try.prog 121 = some (3, r121, c121) := by kernel_rfl
theorem fn121 : (Go.Proofs.Try.prog.funcs[121]?).all (fun fn => !(fn.name == "runtime.NumGoroutine")) = true := by kernel_rfl
theorem fc122 : compF Go.Proofs.Try.prog 122 = some (14, r122, c122) := by kernel_rfl
theorem fn122 : (Go.Proofs.Try.prog.funcs[122]?).all (fun fn => !(fn.name == "runtime.NumGoroutine")) = true := by kernel_rfl
theorem fc133 : compF Go.Proofs.Try.prog 133 = some (7, r133, c133) := by kernel_rfl
theorem fn133 : (Go.Proofs.Try.prog.funcs[133]?).all (fun fn => !(fn.name == "runtime.NumGoroutine")) = true := by kernel_rfl
theorem fc124 : compF Go.Proofs.Try.prog 124 = some (9, r124, c124) := by kernel_rfl
theorem fn124 : (Go.Proofs.Try.prog.funcs[124]?).all (fun fn => !(fn.name == "runtime.NumGoroutine")) = true := by kernel_rfl
theorem fc55 : compF Go.Proofs.Try.prog 55 = some (73, r55, c55) := by kernel_rfl
theorem fn55 : (Go.Proofs.Try.prog.funcs[55]?).all (fun fn => !(fn.name == "runtime.NumGoroutine")) = true := by kernel_rfl
theorem fc56 : compF Go.Proofs.Try.prog 56 = some (97, r56, c56) := by kernel_rfl
theorem fn56 : (Go.Proofs.Try.prog.funcs[56]?).all (fun fn => !(fn.name == "runtime.NumGoroutine")) = true := by kernel_rfl
theorem fc57 : compF Go.Proofs.Try.prog 57 = some (60, r57, c57) := by kernel_rfl
theorem fn57 : (Go.Proofs.Try.prog.funcs[57]?).all (fun fn => !(fn.name == "runtime.NumGoroutine")) = true := by kernel_rfl
theorem fc58 : compF Go.Proofs.Try.prog 58 = some (37, r58, c58) := by kernel_rfl
theorem fn58 : (Go.Proofs.Try.prog.funcs[58]?).all (fun fn => !(fn.name == "runtime.NumGoroutine")) = true := by kernel_rfl
theorem fc59 : compF Go.Proofs.Try.prog 59 = some (7, r59, c59) := by kernel_rfl
theorem fn59 : (Go.Proofs.Try.prog.funcs[59]?).all (fun fn => !(fn.name == "runtime.NumGoroutine")) = true := by kernel_rfl
theorem fc60 : compF Go.Proofs.Try.prog 60 = some (8, r60, c60) := by kernel_rfl
theorem fn60 : (Go.Proofs.Try.prog.funcs[60]?).all (fun fn => !(fn.name == "runtime.NumGoroutine")) = true := by kernel_rfl
theorem fc61 : compF Go.Proofs.Try.prog 61 = some (68, r61, c61) := by kernel_rfl
theorem fn61 : (Go.Proofs.Try.prog.funcs[61]?).all (fun fn => !(fn.name == "runtime.NumGoroutine")) = true := by kernel_rfl
theorem fc62 : compF Go.Proofs.Try.prog 62 = some (18, r62, c62) := by kernel_rfl
theorem fn62 : (Go.Proofs.Try.prog.funcs[62]?).all (fun fn => !(fn.name == "runtime.NumGoroutine")) = true := by kernel_rfl
theorem fc63 : compF Go.Proofs.Try.prog 63 = some (5, r63, c63) := by kernel_rfl
theorem fn63 : (Go.Proofs.Try.prog.funcs[63]?).all (fun fn => !(fn.name == "runtime.NumGoroutine")) = true := by kernel_rfl
theorem fc64 : compF Go.Proofs.Try.prog 64 = some (58, r64, c64) := by kernel_rfl
theorem fn64 : (Go.Proofs.Try.prog.funcs[64]?).all (fun fn => !(fn.name == "runtime.NumGoroutine")) = true := by kernel_rfl
theorem fc65 : compF Go.Proofs.Try.prog 65 = some (25, r65, c65) := by kernel_rfl
theorem fn65 : (Go.Proofs.Try.prog.funcs[65]?).all (fun fn => !(fn.name == "runtime.NumGoroutine")) = true := by kernel_rfl
theorem fc66 : compF Go.Proofs.Try.prog 66 = some (84, r66, c66) := by kernel_rfl
theorem fn66 : (Go.Proofs.Try.prog.funcs[66]?).all (fun fn => !(fn.name == "runtime.NumGoroutine")) = true := by kernel_rfl
theorem fc67 : compF Go.Proofs.Try.prog 67 = some (39, r67, c67) := by kernel_rfl
theorem fn67 : (Go.Proofs.Try.prog.funcs[67]?).all (fun fn => !(fn.name == "runtime.NumGoroutine")) = true := by kernel_rfl
theorem fc68 : compF Go.Proofs.Try.prog 68 = some (105, r68, c68) := by kernel_rfl
theorem fn68 : (Go.Proofs.Try.prog.funcs[68]?).all (fun fn => !(fn.name == "runtime.NumGoroutine")) = true := by kernel_rfl
theorem fc69 : compF Go.Proofs.Try.prog 69 = some (58, r69, c69) := by kernel_rfl
theorem fn69 : (Go.Proofs.Try.prog.funcs[69]?).all (fun fn => !(fn.name == "runtime.NumGoroutine")) = true := by kernel_rfl
theorem fc70 : compF Go.Proofs.Try.prog 70 = some (44, r70, c70) := by kernel_rfl
theorem fn70 : (Go.Proofs.Try.prog.funcs[70]?).all (fun fn => !(fn.name == "runtime.NumGoroutine")) = true := by kernel_rfl
theorem fc71 : compF Go.Proofs.Try.prog 71 = some (32, r71, c71) := by kernel_rfl
theorem fn71 : (Go.Proofs.Try.prog.funcs[71]?).all (fun fn => !(fn.name == "runtime.NumGoroutine")) = true := by kernel_rfl
theorem fc72 : compF Go.Proofs.Try.prog 72 = some (35, r72, c72) := by kernel_rfl
theorem fn72 : (Go.Proofs.Try.prog.funcs[72]?).all (fun fn => !(fn.name == "runtime.NumGoroutine")) = true := by kernel_rfl
theorem fc74 : compF Go.Proofs.Try.prog 74 = some (23, r74, c74) := by kernel_rfl
theorem fn74 : (Go.Proofs.Try.prog.funcs[74]?).all (fun fn => !(fn.name == "runtime.NumGoroutine")) = true := by kernel_rfl
theorem fc118 : compF Go.Proofs.Try.prog 118 = some (19, r118, c118) := by kernel_rfl
theorem fn118 : (Go.Proofs.Try.prog.funcs[118]?).all (fun fn => !(fn.name == "runtime.NumGoroutine")) = true := by kernel_rfl
theorem fc119 : compF Go.Proofs.Try.prog 119 = some (44, r119, c119) := by kernel_rfl
theorem fn119 : (Go.Proofs.Try.prog.funcs[119]?).all (fun fn => !(fn.name == "runtime.NumGoroutine")) = true := by kernel_rfl
theorem fc125 : compF Go.Proofs.Try.prog 125 = some (59, r125, c125) := by kernel_rfl
theorem fn125 : (Go.Proofs.Try.prog.funcs[125]?).all (fun fn => !(fn.name == "runtime.NumGoroutine")) = true := by kernel_rfl
theorem fc126 : compF Go.Proofs.Try.prog 126 = some (32, r126, c126) := by kernel_rfl
theorem fn126 : (Go.Proofs.Try.prog.funcs[126]?).all (fun fn => !(fn.name == "runtime.NumGoroutine")) = true := by kernel_rfl
theorem fc127 : compF Go.Proofs.Try.prog 127 = some (38, r127, c127) := by kernel_rfl
theorem fn127 : (Go.Proofs.Try.prog.funcs[127]?).all (fun fn => !(fn.name == "runtime.NumGoroutine")) = true := by kernel_rfl
theorem fc128 : compF Go.Proofs.Try.prog 128 = some (17, r128, c128) := by kernel_rfl
theorem fn128 : (Go.Proofs.Try.prog.funcs[128]?).all (fun fn => !(fn.name == "runtime.NumGoroutine")) = true := by kernel_rfl
theorem fc129 : compF Go.Proofs.Try.prog 129 = some (37, r129, c129) := by kernel_rfl
theorem fn129 : (Go.Proofs.Try.prog.funcs[129]?).all (fun fn => !(fn.name == "runtime.NumGoroutine")) = true := by kernel_rfl
theorem fc130 : compF Go.Proofs.Try.prog 130 = some (47, r130, c130) := by kernel_rfl
theorem fn130 : (Go.Proofs.Try.prog.funcs[130]?).all (fun fn => !(fn.name == "runtime.NumGoroutine")) = true := by kernel_rfl
theorem fc131 : compF Go.Proofs.Try.prog 131 = some (38, r131, c131) := by kernel_rfl
theorem fn131 : (Go.Proofs.Try.prog.funcs[131]?).all (fun fn => !(fn.name == "runtime.NumGoroutine")) = true := by kernel_rfl
theorem fc166 : compF Go.Proofs.Try.prog 166 = some (22, r166, c166) := by kernel_rfl
theorem fn166 : (Go.Proofs.Try.prog.funcs[166]?).all (fun fn => !(fn.name == "runtime.NumGoroutine")) = true := by kernel_rfl
theorem fc167 : compF Go.Proofs.Try.prog 167 = some (32, r167, c167) := by kernel_rfl
theorem fn167 : (Go.Proofs.Try.prog.funcs[167]?).all (fun fn => !(fn.name == "runtime.NumGoroutine")) = true := by kernel_rfl
theorem fc120 : compF Go.Proofs.Try.prog 120 = some (25, r120, c120) := by kernel_rfl
theorem fn120 : (Go.Proofs.Try.prog.funcs[120]?).all (fun fn => !(fn.name == "runtime.NumGoroutine")) = true := by kernel_rfl
theorem fc123 : compF Go.Proofs.Try.prog 123 = some (19, r123, c123) := by kernel_rfl
theorem fn123 : (Go.Proofs.Try.prog.funcs[123]?).all (fun fn => !(fn.name == "runtime.NumGoroutine")) = true := by kernel_rfl
theorem fc73 : compF Go.Proofs.Try.prog 73 = some (44, r73, c73) := by kernel_rfl
theorem fn73 : (Go.Proofs.Try.prog.funcs[73]?).all (fun fn => !(fn.name == "runtime.NumGoroutine")) = true := by kernel_rfl
theorem ftK_ok : FTOk Go.Proofs.Try.prog ftK := by
  intro k d h
  unfold ftK at h
  split at h
  · cases h; exact go_ok fc121 fn121
  · cases h; exact go_ok fc122 fn122
  · cases h; exact go_ok fc133 fn133
  · cases h; exact go_ok fc124 fn124
  · cases h
theorem ftU_ok : FTOk Go.Proofs.Try.prog ftU := by
  intro k d h
  unfold ftU at h
  split at h
  · cases h; exact goP_ok follows ftM_ok ⟨_, _, _, rfl⟩
  · cases h; exact cloF_ok follows g111
  · cases h; exact cloMP_ok
  · cases h; exact roP_ok (goP_ok follows ftK_ok ⟨_, _, _, rfl⟩)
  · cases h; exact roP_ok (goP_ok follows ftK_ok ⟨_, _, _, rfl⟩)
  · cases h; exact roP_ok (goP_ok follows ftK_ok ⟨_, _, _, rfl⟩)
  · cases h; exact roP_ok (goP_ok follows ftK_ok ⟨_, _, _, rfl⟩)
  · cases h
theorem pp120 : PrimOk Go.Proofs.Try.prog 120 unionP := slF_ok follows ftU_ok (go_ok fc120 fn120) unionP_sl
theorem pp123 : PrimOk Go.Proofs.Try.prog 123 delP' := slF_ok follows ftU_ok (go_ok fc123 fn123) delP'_sl
theorem pp73 : PrimOk Go.Proofs.Try.prog 73 copyP := slF_ok follows ftU_ok (go_ok fc73 fn73) copyP_sl
theorem ftB_ok : FTOk Go.Proofs.Try.prog ftB := by
  intro k d h
  unfold ftB at h
  split at h
  · cases h; exact goP_ok follows ftM_ok ⟨_, _, _, rfl⟩
  · cases h; exact goP_ok follows ftM_ok ⟨_, _, _, rfl⟩
  · cases h; exact goP_ok follows ftM_ok ⟨_, _, _, rfl⟩
  · cases h; exact goP_ok follows ftM_ok ⟨_, _, _, rfl⟩
  · cases h; exact goP_ok follows ftM_ok ⟨_, _, _, rfl⟩
  · cases h; exact goP_ok follows ftM_ok ⟨_, _, _, rfl⟩
  · cases h; exact goP_ok follows ftM_ok ⟨_, _, _, rfl⟩
  · cases h; exact go_ok fc45 fn45
  · cases h; exact go_ok fc48 fn48
  · cases h; exact go_ok fc49 fn49
  · cases h; exact go_ok fc41 fn41
  · cases h; exact cloF_ok follows g111
  · cases h; exact pp120
  · cases h; exact pp123
  · cases h; exact pp73
  · cases h; exact go_ok fc55 fn55
  · cases h; exact go_ok fc56 fn56
  · cases h; exact go_ok fc57 fn57
  · cases h; exact go_ok fc58 fn58
  · cases h; exact go_ok fc59 fn59
  · cases h; exact go_ok fc60 fn60
  · cases h; exact go_ok fc61 fn61
  · cases h; exact go_ok fc62 fn62
  · cases h; exact go_ok fc63 fn63
  · cases h; exact go_ok fc64 fn64
  · cases h; exact go_ok fc65 fn65
  · cases h; exact go_ok fc66 fn66
  · cases h; exact go_ok fc67 fn67
  · cases h; exact go_ok fc68 fn68
  · cases h; exact go_ok fc69 fn69
  · cases h; exact go_ok fc70 fn70
  · cases h; exact go_ok fc71 fn71
  · cases h; exact go_ok fc72 fn72
  · cases h; exact go_ok fc74 fn74
  · cases h; exact go_ok fc118 fn118
  · cases h; exact go_ok fc119 fn119
  · cases h; exact go_ok fc125 fn125
  · cases h; exact go_ok fc126 fn126
  · cases h; exact go_ok fc127 fn127
  · cases h; exact go_ok fc128 fn128
  · cases h; exact go_ok fc129 fn129
  · cases h; exact go_ok fc130 fn130
  · cases h; exact go_ok fc131 fn131
  · cases h; exact go_ok fc166 fn166
  · cases h; exact go_ok fc167 fn167
  · cases h
end Go.VI

set_option linter.unusedVariables false
set_option linter.unusedSimpArgs false
set_option maxRecDepth 100000
namespace Go.VI
/-- Who holds a page: -2 nobody's, or used; -1 free; else a transaction. -/
structure PRel (p : PoolM) (w : Int → Int) : Prop where
  lo : 2 ≤ p.pages
  le : p.pages ≤ p.limit
  hi : p.limit ≤ 16384
  rf : rightM p.free = true
  rh : ∀ y ∈ p.held, rightM y.2 = true
  free : ∀ k, inR p.free k = true ↔ w k = -1
  key : ∀ y ∈ p.held, 0 ≤ y.1
  held : ∀ y ∈ p.held, ∀ k, inR y.2 k = true ↔ w k = y.1
  cov : ∀ k, 0 ≤ w k → ∃ y ∈ p.held, y.1 = w k
  rg : ∀ k, w k ≠ -2 → 2 ≤ k ∧ k < p.pages
  ge : ∀ k, -2 ≤ w k
theorem endM_gt {x : RunM} (h : mayM x = true) : x.1 < endM x := by have := mayM_iff.1 h; unfold endM; omega
theorem in_last {x : RunM} {l : List RunM} (hx : x ∈ l) (h : mayM x = true) : inR l (endM x - 1) = true := inR_t.2 ⟨x, hx, by have := endM_gt h; omega, by omega⟩
theorem put_at {t : Int} {u : List RunM} : ∀ {hd : HeldM} {y : Int × List RunM}, y ∈ hd → (hd.map (·.1)).Nodup → y.1 ≠ t → y ∈ putO t u hd
  | [], y, hy, _, _ => by cases hy
  | x :: hd, y, hy, hn, hne => by
    unfold putO
    rw [List.map_cons, List.nodup_cons] at hn
    split
    · rename_i e
      have e : t = x.1 := by simpa using e
      rcases List.mem_cons.1 hy with rfl | hy
      · exact absurd e.symm hne
      · simp [hy]
    · rcases List.mem_cons.1 hy with rfl | hy
      · simp
      · exact List.mem_cons.2 (.inr (put_at hy hn.2 hne))
theorem put_key {t : Int} {u : List RunM} : ∀ {hd : HeldM}, (t, u) ∈ putO t u hd
  | [] => by simp [putO]
  | x :: hd => by
    unfold putO
    split
    · simp
    · exact List.mem_cons.2 (.inr put_key)
theorem put_only {t : Int} {u : List RunM} : ∀ {hd : HeldM}, (hd.map (·.1)).Nodup → ∀ {y : Int × List RunM}, y ∈ putO t u hd → y.1 = t → y.2 = u
  | [], _, y, hy, e => by
    simp [putO] at hy
    rw [hy]
  | x :: hd, hn, y, hy, e => by
    unfold putO at hy
    rw [List.map_cons, List.nodup_cons] at hn
    split at hy
    · rename_i e'
      have e' : t = x.1 := by simpa using e'
      rcases List.mem_cons.1 hy with rfl | hy
      · rfl
      · exact absurd (by rw [← e', ← e]; exact List.mem_map_of_mem hy) hn.1
    · rename_i e'
      rcases List.mem_cons.1 hy with rfl | hy
      · rw [e] at e'; simp at e'
      · exact put_only hn.2 hy e
section
variable {p : PoolM} {w : Int → Int} (h : PRel p w)
include h
theorem PRel.ok : PoolOk p := by
  refine ⟨h.lo, h.le, h.hi, fun x hx => ?_, fun y hy x hx => ?_⟩
  · have hm := (right_iff.1 h.rf).1 x hx
    have := h.rg _ (by rw [(h.free _).1 (in_last hx hm)]; decide)
    omega
  · have hm := (right_iff.1 (h.rh y hy)).1 x hx
    have := h.rg _ (by rw [(h.held y hy _).1 (in_last hx hm)]; have := h.key y hy; omega)
    omega
theorem PRel.sel (hb : Int → Bool) (k : Int) : inR (unionSel hb p.held) k = true ↔ 0 ≤ w k ∧ hb (w k) = true := by
  rw [(unionSel_ok hb p.held).2]
  constructor
  · rintro ⟨y, hy, h1, h2⟩
    rw [clean_of (h.rh y hy), h.held y hy] at h2
    rw [h2]
    exact ⟨h.key y hy, h1⟩
  · rintro ⟨h1, h2⟩
    obtain ⟨y, hy, e⟩ := h.cov k h1
    exact ⟨y, hy, by rw [e]; exact h2, by rw [clean_of (h.rh y hy), h.held y hy, e]⟩
theorem PRel.all (k : Int) : inR (unionSel (fun _ => true) p.held) k = true ↔ 0 ≤ w k := by
  rw [h.sel]
  simp
theorem PRel.get {t : Int} (ht : 0 ≤ t) : rightM ((getO t p.held).getD []) = true ∧ ∀ k, inR ((getO t p.held).getD []) k = true ↔ w k = t := by
  cases e : getO t p.held with
  | some l => exact ⟨h.rh _ (getO_mem e), fun k => h.held _ (getO_mem e) k⟩
  | none =>
    refine ⟨rfl, fun k => ⟨fun q => absurd (show inR [] k = true from q) (by simp [inR]), fun q => ?_⟩⟩
    obtain ⟨y, hy, e'⟩ := h.cov k (by omega)
    have hn : ∀ {hd : HeldM}, getO t hd = none → ∀ y ∈ hd, y.1 ≠ t := fun {hd} => by
      induction hd with
      | nil => intro _ y hy; cases hy
      | cons x hd ih =>
        intro e y hy
        unfold getO at e
        split at e
        · cases e
        · rename_i hne
          rcases List.mem_cons.1 hy with rfl | hy
          · intro q; rw [q] at hne; simp at hne
          · exact ih e y hy
    exact absurd (by omega) (hn e y hy)
theorem PRel.state (t : Int) : rightM (unionM p.free (unionSel (fun k => k != t) p.held)) = true ∧ ∀ k, inR (unionM p.free (unionSel (fun k => k != t) p.held)) k = true ↔ w k = -1 ∨ (0 ≤ w k ∧ w k ≠ t) := by
  refine ⟨(unionM_ok _ _).1, fun k => ?_⟩
  rw [(unionM_ok _ _).2, Bool.or_eq_true, clean_of h.rf, clean_of (unionSel_ok _ _).1, h.free, h.sel]
  simp
def settleW (x o : Int) (w : Int → Int) (k : Int) : Int := if 0 ≤ w k ∧ oldB x o (w k) = true then -1 else w k
theorem PRel.settle (x o : Int) : PRel (settleP p x o) (settleW x o w) := by
  have hs : ∀ k, settleW x o w k = -1 ↔ w k = -1 ∨ (0 ≤ w k ∧ oldB x o (w k) = true) := fun k => by
    unfold settleW
    split
    · rename_i q; exact ⟨fun _ => .inr q, fun _ => rfl⟩
    · rename_i q; exact ⟨.inl, fun e => e.resolve_right q⟩
  refine ⟨h.lo, h.le, h.hi, (unionM_ok _ _).1, fun y hy => h.rh y (List.mem_filter.1 hy).1, fun k => ?_, fun y hy => h.key y (List.mem_filter.1 hy).1, fun y hy k => ?_, fun k hk => ?_, fun k hk => h.rg k fun e => hk ?_, fun k => ?_⟩
  · show inR (unionM p.free (unionSel (oldB x o) p.held)) k = true ↔ _
    rw [(unionM_ok _ _).2, Bool.or_eq_true, clean_of h.rf, clean_of (unionSel_ok _ _).1, h.free, h.sel, hs]
  · obtain ⟨h1, h2⟩ := List.mem_filter.1 hy
    rw [h.held y h1 k]
    have hk := h.key y h1
    unfold settleW
    split
    · rename_i q
      constructor
      · intro e; rw [e] at q; rw [q.2] at h2; cases h2
      · intro e; omega
    · exact Iff.rfl
  · unfold settleW at hk ⊢
    split at hk
    · omega
    · rename_i q
      rw [if_neg q]
      obtain ⟨y, hy, e⟩ := h.cov k hk
      refine ⟨y, List.mem_filter.2 ⟨hy, ?_⟩, e⟩
      rw [e]
      cases e' : oldB x o (w k) with
      | true => exact absurd ⟨hk, e'⟩ q
      | false => rfl
  · unfold settleW
    rw [e, if_neg (by omega)]
  · unfold settleW
    have := h.ge k
    split <;> omega
def putW (a n t : Int) (w : Int → Int) (k : Int) : Int := if a ≤ k ∧ k < a + n then t else w k
theorem PRel.giveBad {t : Int} {x : RunM} : giveE p t x = 1 ↔ (t < 0 ∨ mayM x = false ∨ x.1 < 2 ∨ endM x > p.pages) := by
  have _q := h
  have hr : rightM [x] = mayM x := by
    cases e : mayM x with
    | true => exact right_iff.2 ⟨by simp [e], by simp⟩
    | false =>
      cases e' : rightM [x] with
      | false => rfl
      | true => rw [(right_iff.1 e').1 x (by simp)] at e; cases e
  have he : mayM x = true → endsM [x] = endM x := fun e => by
    unfold endsM
    rw [clean_of (by rw [hr, e])]
    rfl
  have hb : badGive p t x = true ↔ (t < 0 ∨ mayM x = false ∨ x.1 < 2 ∨ endM x > p.pages) := by
    unfold badGive
    rw [hr]
    cases e : mayM x with
    | true => rw [he e]; simp [or_assoc]
    | false => simp
  rw [← hb]
  unfold giveE
  cases badGive p t x with
  | true => simp
  | false => cases hitGive p x <;> simp
theorem PRel.giveHit {t : Int} {x : RunM} (hb : ¬ giveE p t x = 1) : giveE p t x = 0 ∨ giveE p t x = 110 ∧ ∃ k, x.1 ≤ k ∧ k < endM x ∧ w k ≠ -2 := by
  have hb' := hb
  rw [h.giveBad] at hb'
  have hm : mayM x = true := by cases e : mayM x with
    | true => rfl
    | false => exact absurd (.inr (.inl e)) hb'
  have hr : rightM [x] = true := right_iff.2 ⟨by simp [hm], by simp⟩
  have e0 : badGive p t x = false := by
    cases e : badGive p t x with
    | false => rfl
    | true => exact absurd (by unfold giveE; rw [e]; rfl) hb
  cases e1 : hitGive p x with
  | false => left; unfold giveE; rw [e0, e1]; rfl
  | true =>
    right
    refine ⟨by unfold giveE; rw [e0, e1]; rfl, ?_⟩
    unfold hitGive at e1
    rw [Bool.or_eq_true, meetM_iff, meetM_iff, clean_of h.rf, clean_of hr, clean_of (unionSel_ok _ _).1] at e1
    have hx : ∀ k, inR [x] k = true → x.1 ≤ k ∧ k < endM x := fun k q => by
      rw [inR_cons, inR_nil, Bool.or_false, pinR_t] at q
      exact q
    rcases e1 with ⟨k, h1, h2⟩ | ⟨k, h1, h2⟩
    · rw [h.free] at h1
      exact ⟨k, (hx k h2).1, (hx k h2).2, by omega⟩
    · rw [h.all] at h1
      exact ⟨k, (hx k h2).1, (hx k h2).2, by omega⟩
theorem PRel.give (hn : (p.held.map (·.1)).Nodup) {t : Int} {x : RunM} (h0 : giveE p t x = 0) : 0 ≤ t ∧ mayM x = true ∧ 2 ≤ x.1 ∧ endM x ≤ p.pages ∧ (∀ k, x.1 ≤ k → k < endM x → w k = -2) ∧ PRel (giveP p t x) (putW x.1 x.2 t w) := by
  have hb' : ¬ giveE p t x = 1 := by rw [h0]; decide
  rw [h.giveBad] at hb'
  have hm : mayM x = true := by cases e : mayM x with
    | true => rfl
    | false => exact absurd (.inr (.inl e)) hb'
  have hr : rightM [x] = true := right_iff.2 ⟨by simp [hm], by simp⟩
  have ht : 0 ≤ t := by omega
  have hx : ∀ k, inR [x] k = true ↔ x.1 ≤ k ∧ k < endM x := fun k => by
    rw [inR_cons, inR_nil, Bool.or_false, pinR_t]
  have hno : ∀ k, x.1 ≤ k → k < endM x → w k = -2 := fun k h1 h2 => by
    have e1 : hitGive p x = false := by
      cases e : hitGive p x with
      | false => rfl
      | true =>
        unfold giveE at h0
        rw [e] at h0
        cases e' : badGive p t x with
        | true => rw [e'] at h0; simp at h0
        | false => rw [e'] at h0; simp at h0
    unfold hitGive at e1
    rw [Bool.or_eq_false_iff] at e1
    have n1 : w k ≠ -1 := fun q => by
      have : meetM p.free [x] = true := meetM_iff.2 ⟨k, by rw [clean_of h.rf, h.free]; exact q, by rw [clean_of hr, hx]; exact ⟨h1, h2⟩⟩
      rw [e1.1] at this; cases this
    have n2 : ¬ 0 ≤ w k := fun q => by
      have : meetM (unionSel (fun _ => true) p.held) [x] = true := meetM_iff.2 ⟨k, by rw [clean_of (unionSel_ok _ _).1, h.all]; exact q, by rw [clean_of hr, hx]; exact ⟨h1, h2⟩⟩
      rw [e1.2] at this; cases this
    have := h.ge k
    omega
  refine ⟨ht, hm, by omega, by omega, hno, ?_⟩
  have hg := h.get ht
  have hu := unionM_ok ((getO t p.held).getD []) [x]
  have ex : endM x = x.1 + x.2 := rfl
  have huk : ∀ k, inR (giveU p t x) k = true ↔ w k = t ∨ (x.1 ≤ k ∧ k < endM x) := fun k => by
    unfold giveU
    rw [hu.2, Bool.or_eq_true, clean_of hg.1, clean_of hr, hg.2, hx]
  have hw : ∀ k, (x.1 ≤ k ∧ k < endM x) → putW x.1 x.2 t w k = t := fun k q => by unfold putW; rw [if_pos (by omega)]
  have hw' : ∀ k, ¬ (x.1 ≤ k ∧ k < endM x) → putW x.1 x.2 t w k = w k := fun k q => by unfold putW; rw [if_neg (by omega)]
  unfold giveP
  rw [if_pos h0]
  refine ⟨h.lo, h.le, h.hi, h.rf, fun y hy => ?_, fun k => ?_, fun y hy => ?_, fun y hy k => ?_, fun k hk => ?_, fun k hk => ?_, fun k => ?_⟩
  · rcases put_mem hy with rfl | hy
    · exact hu.1
    · exact h.rh y hy
  · by_cases q : x.1 ≤ k ∧ k < endM x
    · rw [hw k q]
      have := hno k q.1 q.2
      constructor
      · intro e; rw [h.free] at e; omega
      · intro e; omega
    · rw [hw' k q]; exact h.free k
  · rcases put_mem hy with rfl | hy
    · exact ht
    · exact h.key y hy
  · by_cases e : y.1 = t
    · rw [put_only hn hy e, huk, e]
      by_cases q : x.1 ≤ k ∧ k < endM x
      · rw [hw k q]; exact ⟨fun _ => rfl, fun _ => .inr q⟩
      · rw [hw' k q]; exact ⟨fun e => e.resolve_right q, .inl⟩
    · rcases put_mem hy with rfl | hy
      · exact absurd rfl e
      rw [h.held y hy]
      have hk := h.key y hy
      by_cases q : x.1 ≤ k ∧ k < endM x
      · rw [hw k q, hno k q.1 q.2]
        constructor
        · intro q; omega
        · intro q; exact absurd q.symm e
      · rw [hw' k q]
  · by_cases q : putW x.1 x.2 t w k = t
    · exact ⟨_, put_key, q.symm⟩
    · by_cases q' : x.1 ≤ k ∧ k < endM x
      · exact absurd (hw k q') q
      · rw [hw' k q'] at hk q ⊢
        obtain ⟨y, hy, e⟩ := h.cov k hk
        exact ⟨y, put_at hy hn (by rw [e]; exact q), e⟩
  · by_cases q' : x.1 ≤ k ∧ k < endM x
    · show 2 ≤ k ∧ k < p.pages
      omega
    · rw [hw' k q'] at hk; exact h.rg k hk
  · by_cases q' : x.1 ≤ k ∧ k < endM x
    · rw [hw k q']; omega
    · rw [hw' k q']; exact h.ge k
end
end Go.VI

set_option linter.unusedVariables false
set_option linter.unusedSimpArgs false
set_option maxRecDepth 100000
namespace Go.VI
attribute [local congr] AW_congr OW_congr DW_congr NW_congr VW_congr GW_congr PW_congr KW_congr ite_congr' GV_congr CV_congr KF_congr
theorem AW_sub {ft ft' : FT} (hs : Sub ft ft') {c : ACode} {e : Env} {H : Heap} {Q : AExit → Env → Heap → Prop} (h : AW ft c e H Q) : AW ft' c e H Q := by
  obtain ⟨x, e', H', h, hq⟩ := h
  obtain ⟨n, hn⟩ := execL_some.1 h
  exact ⟨x, e', H', execL_some.2 ⟨n, exec_sub hs n _ _ _ _ hn⟩, hq⟩
noncomputable def ftB15 : FT
  | 15 => some (.go true 134 r15 c15)
  | k => ftB k
theorem ftB15_sub : Sub ftB ftB15 := by
  intro k d h
  unfold ftB15
  split
  · exact absurd h (by unfold ftB; simp)
  · exact h
def gNil : PoolM := ⟨10, 20, [], [(0, [])]⟩
theorem gNil_rel : PRel gNil fun _ => -2 := by
  refine ⟨by decide, by decide, by decide, by decide, by decide, fun k => ?_, by decide, fun y hy k => ?_, fun k hk => ?_, fun k hk => absurd rfl hk, fun k => Int.le_refl _⟩
  · simp [gNil, inR]
  · simp [gNil] at hy
    subst hy
    simp [inR]
  · simp at hk
section
variable {t u a b : Int}
theorem has_w {p : PoolM} {w : Int → Int} (h : PRel p w) (k : Int) : hasM p.free k = decide (w k = -1) ∧ hasM (unionSel (fun _ => true) p.held) k = decide (0 ≤ w k) := by
  rw [hasM_eq, hasM_eq, clean_of h.rf, clean_of (unionSel_ok _ _).1]
  exact ⟨beq_iff' (by rw [h.free]; simp), beq_iff' (by rw [h.all]; simp)⟩
theorem c15_body (t0 : ¬ t < 0) (u0 : ¬ u < 0) (ne : (t == u) = false) (t1 : ¬ t > 1073741824) (u1 : ¬ u > 1073741824) (a0 : ¬ a < -10) (a1 : ¬ a > 1099511627776) (b0 : ¬ b < -10) :
    AW ftB c15 (mkE 134 (ofL [int t, int u, .agg [int a, int b]])) (hx Heap.empty []) (RetP r15 (boolA true)) := by
  unfold c15 r15
  have n1 : ∀ i, isnilA 1 (.ptr i 0 0) = some false := fun _ => rfl
  have k57 : ∀ K L Q, KW ftB (.fn (.func 57) [] []) [.agg [.sc (.slice none 0 0), .sc (.slice none 0 0)], int 0, int 10, int 20] (hx K L) Q ↔ _ := fun K L Q => KW_of (s57n (K := hx K L))
  have e1 : (t < 0) = False := eq_false t0
  have e2 : (u < 0) = False := eq_false u0
  have e3 : (t > 1073741824) = False := eq_false t1
  have e4 : (1073741824 < t) = False := eq_false t1
  have e5 : (u > 1073741824) = False := eq_false u1
  have e6 : (1073741824 < u) = False := eq_false u1
  have e7 : (a < -10) = False := eq_false a0
  have e8 : (a > 1099511627776) = False := eq_false a1
  have e9 : (1099511627776 < a) = False := eq_false a1
  have e10 : (b < -10) = False := eq_false b0
  have i0 : ∀ H j, iaddrA H (some 2) 1 (.ptr j 0 0) 0 = some (.ptr j 0 0) := fun _ _ => rfl
  have i1 : ∀ H j, iaddrA H (some 2) 1 (.ptr j 0 0) 1 = some (.ptr j 0 1) := fun _ _ => rfl
  simp only [int] at k57
  simp only [↓vp, vq0, vq1, vq2, vq3, vr0, vr1, vr2, vr3, vr4, vr5, vr6, vr7, vr8, vr9, vr10, vr11, vr12, vr13, vr14, vr15, vr16, vr17, vr18, vr19, vr20, vr21, vr22, vr23, vr24, vr25, vr26, vr27, vr28, vr29, vr30, vr31, vr32, vr33, vr34, opS, fpS, extO, okP, pack, nAl, allocA, shId, leaves, fillA, fillR, splice, Nat.reduceLT, Nat.reduceEqDiff, Nat.reduceLeDiff, Nat.reduceAdd, Nat.reduceSub, Nat.reduceMul, Int.reduceBEq, Int.reduceBNe, Int.reduceLT, Int.reduceLE, Int.reduceEq, reduceIte, reduceCtorEq, da, int, boolA, RetP_go, resT, resC, resN, retV1, retV2, retV3, retV0, frzFZ, takeM, Option.some.injEq, dr, n1, e1, e2, e3, e4, e5, e6, e7, e8, e9, e10, ne, i0, i1, k57]
  generalize hK : hx (hx Heap.empty [_]) _ = K0
  have h0 : PoolH K0 3 2 gNil [0] 1 := by
    subst hK
    exact ⟨rfl, rfl, ⟨rfl, by decide, by decide, by decide, by decide⟩, by decide⟩
  have y0 : K0.get 0 = some (.box false [.sc (.int .i64 a), .sc (.int .i64 b)]) := by subst hK; rfl
  have l0 : 3 < K0.next := Heap.get_lt h0.box
  clear hK k57
  have r0 := gNil_rel
  have g0 : giveE gNil t (3, 2) = 0 := (r0.giveHit (t := t) (x := (3, 2)) (fun q => by rw [r0.giveBad] at q; rcases q with q | q | q | q <;> first | exact t0 q | (revert q; decide))).resolve_right fun ⟨_, k, _, _, q⟩ => q rfl
  obtain ⟨tt, -, -, -, -, r1⟩ := r0.give (by decide) g0
  refine o64 h0 (x := (3, 2)) fun K1 b1 c1 h1 f1 => ?_
  rw [g0, ← hx_nil K1]
  have g1 : giveE (giveP gNil t (3, 2)) u (5, 1) = 0 := (r1.giveHit (t := u) (x := (5, 1)) (fun q => by
    rw [r1.giveBad, show (giveP gNil t (3, 2)).pages = 10 by unfold giveP; rw [if_pos g0]; rfl] at q
    rcases q with q | q | q | q <;> first | exact u0 q | (revert q; decide))).resolve_right fun ⟨_, k, q1, q2, q⟩ => q (by
      have e : endM ((5, 1) : RunM) = 6 := rfl
      rw [e] at q2
      show putW 3 2 t _ k = -2
      simp only at q1
      unfold putW
      rw [if_neg (by omega)])
  obtain ⟨uu, -, -, -, -, r2⟩ := r1.give h1.hd.keys g1
  have w2 : ∀ k, k = 3 ∨ k = 4 → putW 5 1 u (putW 3 2 t fun _ => -2) k = t := fun k hk => by unfold putW; rw [if_neg (by omega), if_pos (by omega)]
  have w5 : putW 5 1 u (putW 3 2 t fun _ => -2) 5 = u := by unfold putW; rw [if_pos (by omega)]
  generalize hw : putW 5 1 u (putW 3 2 t fun _ => -2) = W at w2 w5
  simp only [↓vp, vq0, vq1, vq2, vq3, vr0, vr1, vr2, vr3, vr4, vr5, vr6, vr7, vr8, vr9, vr10, vr11, vr12, vr13, vr14, vr15, vr16, vr17, vr18, vr19, vr20, vr21, vr22, vr23, vr24, vr25, vr26, vr27, vr28, vr29, vr30, vr31, vr32, vr33, vr34, opS, fpS, extO, okP, pack, nAl, allocA, shId, leaves, fillA, fillR, splice, Nat.reduceLT, Nat.reduceEqDiff, Nat.reduceLeDiff, Nat.reduceAdd, Nat.reduceSub, Nat.reduceMul, Int.reduceBEq, Int.reduceBNe, Int.reduceLT, Int.reduceLE, Int.reduceEq, reduceIte, reduceCtorEq, da, int, boolA, RetP_go, resT, resC, resN, retV1, retV2, retV3, retV0, frzFZ, takeM, Option.some.injEq, dr, n1]
  rw [hx_nil]
  refine o64 h1 (x := (5, 1)) fun K2 b2 c2 h2 f2 => ?_
  rw [g1, ← hx_nil K2]
  have y2 : ∀ L, (hx K2 L).get 0 = some (.box false [.sc (.int .i64 a), .sc (.int .i64 b)]) := fun L => get_old (by rw [f2.eq 0 (by have := f1.le; omega) (by omega) (by omega), f1.eq 0 (by omega) (by omega) (by omega)]; exact y0) L
  simp only [↓vp, vq0, vq1, vq2, vq3, vr0, vr1, vr2, vr3, vr4, vr5, vr6, vr7, vr8, vr9, vr10, vr11, vr12, vr13, vr14, vr15, vr16, vr17, vr18, vr19, vr20, vr21, vr22, vr23, vr24, vr25, vr26, vr27, vr28, vr29, vr30, vr31, vr32, vr33, vr34, opS, fpS, extO, okP, pack, nAl, allocA, shId, leaves, fillA, fillR, splice, Nat.reduceLT, Nat.reduceEqDiff, Nat.reduceLeDiff, Nat.reduceAdd, Nat.reduceSub, Nat.reduceMul, Int.reduceBEq, Int.reduceBNe, Int.reduceLT, Int.reduceLE, Int.reduceEq, reduceIte, reduceCtorEq, da, int, boolA, RetP_go, resT, resC, resN, retV1, retV2, retV3, retV0, frzFZ, takeM, Option.some.injEq, dr, n1, i0, i1, y2]
  rw [hx_nil]
  refine o65 h2 fun K3 b3 h3 f3 => ?_
  rw [← hx_nil K3]
  have r3 := r2.settle a b
  rw [show putW ((5, 1) : RunM).1 ((5, 1) : RunM).2 u (putW ((3, 2) : RunM).1 ((3, 2) : RunM).2 t fun _ => -2) = W from hw] at r3
  have y3 : ∀ L, (hx K3 L).get 0 = some (.box false [.sc (.int .i64 a), .sc (.int .i64 b)]) := fun L => get_old (by
    have := y2 []
    rw [hx_nil] at this
    rw [f3.eq 0 (by have := f1.le; have := f2.le; omega) (by omega) (by omega)]; exact this) L
  have hs : ∀ k, settleW a b W k = -1 ↔ W k = -1 ∨ (0 ≤ W k ∧ oldB a b (W k) = true) := fun k => by
    unfold settleW
    split
    · rename_i q; exact ⟨fun _ => .inr q, fun _ => rfl⟩
    · rename_i q; exact ⟨.inl, fun e => e.resolve_right q⟩
  have hs' : ∀ k, 0 ≤ settleW a b W k ↔ 0 ≤ W k ∧ oldB a b (W k) = false := fun k => by
    unfold settleW
    split
    · rename_i q; rw [q.2]; simp
    · rename_i q
      constructor
      · intro e; refine ⟨e, ?_⟩
        cases e' : oldB a b (W k) with
        | true => exact absurd ⟨e, e'⟩ q
        | false => rfl
      · exact fun e => e.1
  have f3v := (has_w r3 3).1
  have f5v := (has_w r3 5).1
  have d4v := (has_w r3 4).2
  have d5v := (has_w r3 5).2
  have tr : ∀ x : Bool, decide (x = true) = x := fun x => by cases x <;> rfl
  have fr : ∀ x : Bool, decide (x = false) = !x := fun x => by cases x <;> rfl
  have m1 : ∀ x : Int, 0 ≤ x → (x = -1 ∨ (0 ≤ x ∧ oldB a b x = true) ↔ oldB a b x = true) := fun x hx => ⟨fun q => q.elim (by omega) (·.2), fun q => .inr ⟨hx, q⟩⟩
  have m2 : ∀ x : Int, 0 ≤ x → (0 ≤ x ∧ oldB a b x = false ↔ oldB a b x = false) := fun x hx => ⟨(·.2), fun q => ⟨hx, q⟩⟩
  simp only [hs, hs', w2 3 (.inl rfl), w2 4 (.inr rfl), w5, m1 t tt, m1 u uu, m2 t tt, m2 u uu, tr, fr] at f3v f5v d4v d5v
  have l1 := right_len h3.free
  have l2 := right_len (unionSel_ok (fun _ => true) (settleP (giveP (giveP gNil t (3, 2)) u (5, 1)) a b).held).1
  have k60 := fun L Q => @o60 (hx K3 L) 3 2 _ b3 c2 (pool_hx h3 L) Q
  have k63 := fun L Q => @o63 (hx K3 L) 3 2 _ b3 c2 (pool_hx h3 L) Q
  have k44a := fun H Q => @kB44 H Q (settleP (giveP (giveP gNil t (3, 2)) u (5, 1)) a b).free (by omega) 3
  have k44b := fun H Q => @kB44 H Q (settleP (giveP (giveP gNil t (3, 2)) u (5, 1)) a b).free (by omega) 5
  have k44c := fun H Q => @kB44 H Q (unionSel (fun _ => true) (settleP (giveP (giveP gNil t (3, 2)) u (5, 1)) a b).held) (by omega) 4
  have k44d := fun H Q => @kB44 H Q (unionSel (fun _ => true) (settleP (giveP (giveP gNil t (3, 2)) u (5, 1)) a b).held) (by omega) 5
  rw [f3v] at k44a
  rw [f5v] at k44b
  rw [d4v] at k44c
  rw [d5v] at k44d
  have k56 := fun L Q => @KW_of ftB _ _ _ Q _ _ (s56 (hx K3 L))
  generalize settleP (giveP (giveP gNil t (3, 2)) u (5, 1)) a b = P at *
  simp only [int, boolA] at k60 k63 k44a k44b k44c k44d k56
  by_cases p1 : t ≤ IntKind.i64.wrap (a - 2)
  · by_cases p2 : t ≤ b
    · skip
      by_cases p3 : u ≤ IntKind.i64.wrap (a - 2)
      · by_cases p4 : u ≤ b
        · skip
          have o1 : oldB a b t = true := by unfold oldB; simp [p1, p2]
          have o2 : oldB a b u = true := by unfold oldB; simp [p3, p4]
          rw [o1] at k44a k44c
          rw [o2] at k44b k44d
          simp only [↓vp, vq0, vq1, vq2, vq3, vr0, vr1, vr2, vr3, vr4, vr5, vr6, vr7, vr8, vr9, vr10, vr11, vr12, vr13, vr14, vr15, vr16, vr17, vr18, vr19, vr20, vr21, vr22, vr23, vr24, vr25, vr26, vr27, vr28, vr29, vr30, vr31, vr32, vr33, vr34, opS, fpS, extO, okP, pack, nAl, allocA, shId, leaves, fillA, fillR, splice, Nat.reduceLT, Nat.reduceEqDiff, Nat.reduceLeDiff, Nat.reduceAdd, Nat.reduceSub, Nat.reduceMul, Int.reduceBEq, Int.reduceBNe, Int.reduceLT, Int.reduceLE, Int.reduceEq, reduceIte, reduceCtorEq, da, int, boolA, RetP_go, resT, resC, resN, retV1, retV2, retV3, retV0, frzFZ, takeM, Option.some.injEq, dr, n1, i0, i1, y3, eq_true p1, eq_true p2, eq_true p3, eq_true p4, k60, k63, k44a, k44b, k44c, k44d, k56, hx_hx]
        · skip
          have o1 : oldB a b t = true := by unfold oldB; simp [p1, p2]
          have o2 : oldB a b u = false := by unfold oldB; simp [p3, p4]
          rw [o1] at k44a k44c
          rw [o2] at k44b k44d
          simp only [↓vp, vq0, vq1, vq2, vq3, vr0, vr1, vr2, vr3, vr4, vr5, vr6, vr7, vr8, vr9, vr10, vr11, vr12, vr13, vr14, vr15, vr16, vr17, vr18, vr19, vr20, vr21, vr22, vr23, vr24, vr25, vr26, vr27, vr28, vr29, vr30, vr31, vr32, vr33, vr34, opS, fpS, extO, okP, pack, nAl, allocA, shId, leaves, fillA, fillR, splice, Nat.reduceLT, Nat.reduceEqDiff, Nat.reduceLeDiff, Nat.reduceAdd, Nat.reduceSub, Nat.reduceMul, Int.reduceBEq, Int.reduceBNe, Int.reduceLT, Int.reduceLE, Int.reduceEq, reduceIte, reduceCtorEq, da, int, boolA, RetP_go, resT, resC, resN, retV1, retV2, retV3, retV0, frzFZ, takeM, Option.some.injEq, dr, n1, i0, i1, y3, eq_true p1, eq_true p2, eq_true p3, eq_false p4, k60, k63, k44a, k44b, k44c, k44d, k56, hx_hx]
      · skip
        have o1 : oldB a b t = true := by unfold oldB; simp [p1, p2]
        have o2 : oldB a b u = false := by unfold oldB; simp [p3]
        rw [o1] at k44a k44c
        rw [o2] at k44b k44d
        simp only [↓vp, vq0, vq1, vq2, vq3, vr0, vr1, vr2, vr3, vr4, vr5, vr6, vr7, vr8, vr9, vr10, vr11, vr12, vr13, vr14, vr15, vr16, vr17, vr18, vr19, vr20, vr21, vr22, vr23, vr24, vr25, vr26, vr27, vr28, vr29, vr30, vr31, vr32, vr33, vr34, opS, fpS, extO, okP, pack, nAl, allocA, shId, leaves, fillA, fillR, splice, Nat.reduceLT, Nat.reduceEqDiff, Nat.reduceLeDiff, Nat.reduceAdd, Nat.reduceSub, Nat.reduceMul, Int.reduceBEq, Int.reduceBNe, Int.reduceLT, Int.reduceLE, Int.reduceEq, reduceIte, reduceCtorEq, da, int, boolA, RetP_go, resT, resC, resN, retV1, retV2, retV3, retV0, frzFZ, takeM, Option.some.injEq, dr, n1, i0, i1, y3, eq_true p1, eq_true p2, eq_false p3, k60, k63, k44a, k44b, k44c, k44d, k56, hx_hx]
    · skip
      by_cases p3 : u ≤ IntKind.i64.wrap (a - 2)
      · by_cases p4 : u ≤ b
        · skip
          have o1 : oldB a b t = false := by unfold oldB; simp [p1, p2]
          have o2 : oldB a b u = true := by unfold oldB; simp [p3, p4]
          rw [o1] at k44a k44c
          rw [o2] at k44b k44d
          simp only [↓vp, vq0, vq1, vq2, vq3, vr0, vr1, vr2, vr3, vr4, vr5, vr6, vr7, vr8, vr9, vr10, vr11, vr12, vr13, vr14, vr15, vr16, vr17, vr18, vr19, vr20, vr21, vr22, vr23, vr24, vr25, vr26, vr27, vr28, vr29, vr30, vr31, vr32, vr33, vr34, opS, fpS, extO, okP, pack, nAl, allocA, shId, leaves, fillA, fillR, splice, Nat.reduceLT, Nat.reduceEqDiff, Nat.reduceLeDiff, Nat.reduceAdd, Nat.reduceSub, Nat.reduceMul, Int.reduceBEq, Int.reduceBNe, Int.reduceLT, Int.reduceLE, Int.reduceEq, reduceIte, reduceCtorEq, da, int, boolA, RetP_go, resT, resC, resN, retV1, retV2, retV3, retV0, frzFZ, takeM, Option.some.injEq, dr, n1, i0, i1, y3, eq_true p1, eq_false p2, eq_true p3, eq_true p4, k60, k63, k44a, k44b, k44c, k44d, k56, hx_hx]
        · skip
          have o1 : oldB a b t = false := by unfold oldB; simp [p1, p2]
          have o2 : oldB a b u = false := by unfold oldB; simp [p3, p4]
          rw [o1] at k44a k44c
          rw [o2] at k44b k44d
          simp only [↓vp, vq0, vq1, vq2, vq3, vr0, vr1, vr2, vr3, vr4, vr5, vr6, vr7, vr8, vr9, vr10, vr11, vr12, vr13, vr14, vr15, vr16, vr17, vr18, vr19, vr20, vr21, vr22, vr23, vr24, vr25, vr26, vr27, vr28, vr29, vr30, vr31, vr32, vr33, vr34, opS, fpS, extO, okP, pack, nAl, allocA, shId, leaves, fillA, fillR, splice, Nat.reduceLT, Nat.reduceEqDiff, Nat.reduceLeDiff, Nat.reduceAdd, Nat.reduceSub, Nat.reduceMul, Int.reduceBEq, Int.reduceBNe, Int.reduceLT, Int.reduceLE, Int.reduceEq, reduceIte, reduceCtorEq, da, int, boolA, RetP_go, resT, resC, resN, retV1, retV2, retV3, retV0, frzFZ, takeM, Option.some.injEq, dr, n1, i0, i1, y3, eq_true p1, eq_false p2, eq_true p3, eq_false p4, k60, k63, k44a, k44b, k44c, k44d, k56, hx_hx]
      · skip
        have o1 : oldB a b t = false := by unfold oldB; simp [p1, p2]
        have o2 : oldB a b u = false := by unfold oldB; simp [p3]
        rw [o1] at k44a k44c
        rw [o2] at k44b k44d
        simp only [↓vp, vq0, vq1, vq2, vq3, vr0, vr1, vr2, vr3, vr4, vr5, vr6, vr7, vr8, vr9, vr10, vr11, vr12, vr13, vr14, vr15, vr16, vr17, vr18, vr19, vr20, vr21, vr22, vr23, vr24, vr25, vr26, vr27, vr28, vr29, vr30, vr31, vr32, vr33, vr34, opS, fpS, extO, okP, pack, nAl, allocA, shId, leaves, fillA, fillR, splice, Nat.reduceLT, Nat.reduceEqDiff, Nat.reduceLeDiff, Nat.reduceAdd, Nat.reduceSub, Nat.reduceMul, Int.reduceBEq, Int.reduceBNe, Int.reduceLT, Int.reduceLE, Int.reduceEq, reduceIte, reduceCtorEq, da, int, boolA, RetP_go, resT, resC, resN, retV1, retV2, retV3, retV0, frzFZ, takeM, Option.some.injEq, dr, n1, i0, i1, y3, eq_true p1, eq_false p2, eq_false p3, k60, k63, k44a, k44b, k44c, k44d, k56, hx_hx]
  · skip
    by_cases p3 : u ≤ IntKind.i64.wrap (a - 2)
    · by_cases p4 : u ≤ b
      · skip
        have o1 : oldB a b t = false := by unfold oldB; simp [p1]
        have o2 : oldB a b u = true := by unfold oldB; simp [p3, p4]
        rw [o1] at k44a k44c
        rw [o2] at k44b k44d
        simp only [↓vp, vq0, vq1, vq2, vq3, vr0, vr1, vr2, vr3, vr4, vr5, vr6, vr7, vr8, vr9, vr10, vr11, vr12, vr13, vr14, vr15, vr16, vr17, vr18, vr19, vr20, vr21, vr22, vr23, vr24, vr25, vr26, vr27, vr28, vr29, vr30, vr31, vr32, vr33, vr34, opS, fpS, extO, okP, pack, nAl, allocA, shId, leaves, fillA, fillR, splice, Nat.reduceLT, Nat.reduceEqDiff, Nat.reduceLeDiff, Nat.reduceAdd, Nat.reduceSub, Nat.reduceMul, Int.reduceBEq, Int.reduceBNe, Int.reduceLT, Int.reduceLE, Int.reduceEq, reduceIte, reduceCtorEq, da, int, boolA, RetP_go, resT, resC, resN, retV1, retV2, retV3, retV0, frzFZ, takeM, Option.some.injEq, dr, n1, i0, i1, y3, eq_false p1, eq_true p3, eq_true p4, k60, k63, k44a, k44b, k44c, k44d, k56, hx_hx]
      · skip
        have o1 : oldB a b t = false := by unfold oldB; simp [p1]
        have o2 : oldB a b u = false := by unfold oldB; simp [p3, p4]
        rw [o1] at k44a k44c
        rw [o2] at k44b k44d
        simp only [↓vp, vq0, vq1, vq2, vq3, vr0, vr1, vr2, vr3, vr4, vr5, vr6, vr7, vr8, vr9, vr10, vr11, vr12, vr13, vr14, vr15, vr16, vr17, vr18, vr19, vr20, vr21, vr22, vr23, vr24, vr25, vr26, vr27, vr28, vr29, vr30, vr31, vr32, vr33, vr34, opS, fpS, extO, okP, pack, nAl, allocA, shId, leaves, fillA, fillR, splice, Nat.reduceLT, Nat.reduceEqDiff, Nat.reduceLeDiff, Nat.reduceAdd, Nat.reduceSub, Nat.reduceMul, Int.reduceBEq, Int.reduceBNe, Int.reduceLT, Int.reduceLE, Int.reduceEq, reduceIte, reduceCtorEq, da, int, boolA, RetP_go, resT, resC, resN, retV1, retV2, retV3, retV0, frzFZ, takeM, Option.some.injEq, dr, n1, i0, i1, y3, eq_false p1, eq_true p3, eq_false p4, k60, k63, k44a, k44b, k44c, k44d, k56, hx_hx]
    · skip
      have o1 : oldB a b t = false := by unfold oldB; simp [p1]
      have o2 : oldB a b u = false := by unfold oldB; simp [p3]
      rw [o1] at k44a k44c
      rw [o2] at k44b k44d
      simp only [↓vp, vq0, vq1, vq2, vq3, vr0, vr1, vr2, vr3, vr4, vr5, vr6, vr7, vr8, vr9, vr10, vr11, vr12, vr13, vr14, vr15, vr16, vr17, vr18, vr19, vr20, vr21, vr22, vr23, vr24, vr25, vr26, vr27, vr28, vr29, vr30, vr31, vr32, vr33, vr34, opS, fpS, extO, okP, pack, nAl, allocA, shId, leaves, fillA, fillR, splice, Nat.reduceLT, Nat.reduceEqDiff, Nat.reduceLeDiff, Nat.reduceAdd, Nat.reduceSub, Nat.reduceMul, Int.reduceBEq, Int.reduceBNe, Int.reduceLT, Int.reduceLE, Int.reduceEq, reduceIte, reduceCtorEq, da, int, boolA, RetP_go, resT, resC, resN, retV1, retV2, retV3, retV0, frzFZ, takeM, Option.some.injEq, dr, n1, i0, i1, y3, eq_false p1, eq_false p3, k60, k63, k44a, k44b, k44c, k44d, k56, hx_hx]
theorem c15_g0 (h0 : t < 0) : AW ftB c15 (mkE 134 (ofL [int t, int u, .agg [int a, int b]])) (hx Heap.empty []) (RetP r15 (boolA true)) := by
  unfold c15 r15
  have i0 : ∀ H j, iaddrA H (some 2) 1 (.ptr j 0 0) 0 = some (.ptr j 0 0) := fun _ _ => rfl
  have i1 : ∀ H j, iaddrA H (some 2) 1 (.ptr j 0 0) 1 = some (.ptr j 0 1) := fun _ _ => rfl
  have k56 := fun K L Q => @KW_of ftB _ _ _ Q _ _ (s56 (hx K L))
  simp only [boolA] at k56
  have d0a : (t < 0) = True := eq_true h0
  simp only [↓vp, vq0, vq1, vq2, vq3, vr0, vr1, vr2, vr3, vr4, vr5, vr6, vr7, vr8, vr9, vr10, vr11, vr12, vr13, vr14, vr15, vr16, vr17, vr18, vr19, vr20, vr21, vr22, vr23, vr24, vr25, vr26, vr27, vr28, vr29, vr30, vr31, vr32, vr33, vr34, opS, fpS, extO, okP, pack, nAl, allocA, shId, leaves, fillA, fillR, splice, Nat.reduceLT, Nat.reduceEqDiff, Nat.reduceLeDiff, Nat.reduceAdd, Nat.reduceSub, Nat.reduceMul, Int.reduceBEq, Int.reduceBNe, Int.reduceLT, Int.reduceLE, Int.reduceEq, reduceIte, reduceCtorEq, da, int, boolA, RetP_go, resT, resC, resN, retV1, retV2, retV3, retV0, frzFZ, takeM, Option.some.injEq, dr, i0, i1, k56, d0a]
theorem c15_g1 (h0 : ¬ t < 0) (h1 : u < 0) : AW ftB c15 (mkE 134 (ofL [int t, int u, .agg [int a, int b]])) (hx Heap.empty []) (RetP r15 (boolA true)) := by
  unfold c15 r15
  have i0 : ∀ H j, iaddrA H (some 2) 1 (.ptr j 0 0) 0 = some (.ptr j 0 0) := fun _ _ => rfl
  have i1 : ∀ H j, iaddrA H (some 2) 1 (.ptr j 0 0) 1 = some (.ptr j 0 1) := fun _ _ => rfl
  have k56 := fun K L Q => @KW_of ftB _ _ _ Q _ _ (s56 (hx K L))
  simp only [boolA] at k56
  have d0a : (t < 0) = False := eq_false h0
  have d1a : (u < 0) = True := eq_true h1
  simp only [↓vp, vq0, vq1, vq2, vq3, vr0, vr1, vr2, vr3, vr4, vr5, vr6, vr7, vr8, vr9, vr10, vr11, vr12, vr13, vr14, vr15, vr16, vr17, vr18, vr19, vr20, vr21, vr22, vr23, vr24, vr25, vr26, vr27, vr28, vr29, vr30, vr31, vr32, vr33, vr34, opS, fpS, extO, okP, pack, nAl, allocA, shId, leaves, fillA, fillR, splice, Nat.reduceLT, Nat.reduceEqDiff, Nat.reduceLeDiff, Nat.reduceAdd, Nat.reduceSub, Nat.reduceMul, Int.reduceBEq, Int.reduceBNe, Int.reduceLT, Int.reduceLE, Int.reduceEq, reduceIte, reduceCtorEq, da, int, boolA, RetP_go, resT, resC, resN, retV1, retV2, retV3, retV0, frzFZ, takeM, Option.some.injEq, dr, i0, i1, k56, d0a, d1a]
theorem c15_g2 (h0 : ¬ t < 0) (h1 : ¬ u < 0) (h2 : t = u) : AW ftB c15 (mkE 134 (ofL [int t, int u, .agg [int a, int b]])) (hx Heap.empty []) (RetP r15 (boolA true)) := by
  unfold c15 r15
  have i0 : ∀ H j, iaddrA H (some 2) 1 (.ptr j 0 0) 0 = some (.ptr j 0 0) := fun _ _ => rfl
  have i1 : ∀ H j, iaddrA H (some 2) 1 (.ptr j 0 0) 1 = some (.ptr j 0 1) := fun _ _ => rfl
  have k56 := fun K L Q => @KW_of ftB _ _ _ Q _ _ (s56 (hx K L))
  simp only [boolA] at k56
  have d0a : (t < 0) = False := eq_false h0
  have d1a : (u < 0) = False := eq_false h1
  have d2 : (t == u) = true := by simpa using h2
  simp only [↓vp, vq0, vq1, vq2, vq3, vr0, vr1, vr2, vr3, vr4, vr5, vr6, vr7, vr8, vr9, vr10, vr11, vr12, vr13, vr14, vr15, vr16, vr17, vr18, vr19, vr20, vr21, vr22, vr23, vr24, vr25, vr26, vr27, vr28, vr29, vr30, vr31, vr32, vr33, vr34, opS, fpS, extO, okP, pack, nAl, allocA, shId, leaves, fillA, fillR, splice, Nat.reduceLT, Nat.reduceEqDiff, Nat.reduceLeDiff, Nat.reduceAdd, Nat.reduceSub, Nat.reduceMul, Int.reduceBEq, Int.reduceBNe, Int.reduceLT, Int.reduceLE, Int.reduceEq, reduceIte, reduceCtorEq, da, int, boolA, RetP_go, resT, resC, resN, retV1, retV2, retV3, retV0, frzFZ, takeM, Option.some.injEq, dr, i0, i1, k56, d0a, d1a, d2]
theorem c15_g3 (h0 : ¬ t < 0) (h1 : ¬ u < 0) (h2 : ¬ t = u) (h3 : t > 1073741824) : AW ftB c15 (mkE 134 (ofL [int t, int u, .agg [int a, int b]])) (hx Heap.empty []) (RetP r15 (boolA true)) := by
  unfold c15 r15
  have i0 : ∀ H j, iaddrA H (some 2) 1 (.ptr j 0 0) 0 = some (.ptr j 0 0) := fun _ _ => rfl
  have i1 : ∀ H j, iaddrA H (some 2) 1 (.ptr j 0 0) 1 = some (.ptr j 0 1) := fun _ _ => rfl
  have k56 := fun K L Q => @KW_of ftB _ _ _ Q _ _ (s56 (hx K L))
  simp only [boolA] at k56
  have d0a : (t < 0) = False := eq_false h0
  have d1a : (u < 0) = False := eq_false h1
  have d2 : (t == u) = false := by simpa using h2
  have d3a : (t > 1073741824) = True := eq_true h3
  have d3b : (1073741824 < t) = True := eq_true h3
  simp only [↓vp, vq0, vq1, vq2, vq3, vr0, vr1, vr2, vr3, vr4, vr5, vr6, vr7, vr8, vr9, vr10, vr11, vr12, vr13, vr14, vr15, vr16, vr17, vr18, vr19, vr20, vr21, vr22, vr23, vr24, vr25, vr26, vr27, vr28, vr29, vr30, vr31, vr32, vr33, vr34, opS, fpS, extO, okP, pack, nAl, allocA, shId, leaves, fillA, fillR, splice, Nat.reduceLT, Nat.reduceEqDiff, Nat.reduceLeDiff, Nat.reduceAdd, Nat.reduceSub, Nat.reduceMul, Int.reduceBEq, Int.reduceBNe, Int.reduceLT, Int.reduceLE, Int.reduceEq, reduceIte, reduceCtorEq, da, int, boolA, RetP_go, resT, resC, resN, retV1, retV2, retV3, retV0, frzFZ, takeM, Option.some.injEq, dr, i0, i1, k56, d0a, d1a, d2, d3a, d3b]
theorem c15_g4 (h0 : ¬ t < 0) (h1 : ¬ u < 0) (h2 : ¬ t = u) (h3 : ¬ t > 1073741824) (h4 : u > 1073741824) : AW ftB c15 (mkE 134 (ofL [int t, int u, .agg [int a, int b]])) (hx Heap.empty []) (RetP r15 (boolA true)) := by
  unfold c15 r15
  have i0 : ∀ H j, iaddrA H (some 2) 1 (.ptr j 0 0) 0 = some (.ptr j 0 0) := fun _ _ => rfl
  have i1 : ∀ H j, iaddrA H (some 2) 1 (.ptr j 0 0) 1 = some (.ptr j 0 1) := fun _ _ => rfl
  have k56 := fun K L Q => @KW_of ftB _ _ _ Q _ _ (s56 (hx K L))
  simp only [boolA] at k56
  have d0a : (t < 0) = False := eq_false h0
  have d1a : (u < 0) = False := eq_false h1
  have d2 : (t == u) = false := by simpa using h2
  have d3a : (t > 1073741824) = False := eq_false h3
  have d3b : (1073741824 < t) = False := eq_false h3
  have d4a : (u > 1073741824) = True := eq_true h4
  have d4b : (1073741824 < u) = True := eq_true h4
  simp only [↓vp, vq0, vq1, vq2, vq3, vr0, vr1, vr2, vr3, vr4, vr5, vr6, vr7, vr8, vr9, vr10, vr11, vr12, vr13, vr14, vr15, vr16, vr17, vr18, vr19, vr20, vr21, vr22, vr23, vr24, vr25, vr26, vr27, vr28, vr29, vr30, vr31, vr32, vr33, vr34, opS, fpS, extO, okP, pack, nAl, allocA, shId, leaves, fillA, fillR, splice, Nat.reduceLT, Nat.reduceEqDiff, Nat.reduceLeDiff, Nat.reduceAdd, Nat.reduceSub, Nat.reduceMul, Int.reduceBEq, Int.reduceBNe, Int.reduceLT, Int.reduceLE, Int.reduceEq, reduceIte, reduceCtorEq, da, int, boolA, RetP_go, resT, resC, resN, retV1, retV2, retV3, retV0, frzFZ, takeM, Option.some.injEq, dr, i0, i1, k56, d0a, d1a, d2, d3a, d3b, d4a, d4b]
theorem c15_g5 (h0 : ¬ t < 0) (h1 : ¬ u < 0) (h2 : ¬ t = u) (h3 : ¬ t > 1073741824) (h4 : ¬ u > 1073741824) (h5 : a < -10) : AW ftB c15 (mkE 134 (ofL [int t, int u, .agg [int a, int b]])) (hx Heap.empty []) (RetP r15 (boolA true)) := by
  unfold c15 r15
  have i0 : ∀ H j, iaddrA H (some 2) 1 (.ptr j 0 0) 0 = some (.ptr j 0 0) := fun _ _ => rfl
  have i1 : ∀ H j, iaddrA H (some 2) 1 (.ptr j 0 0) 1 = some (.ptr j 0 1) := fun _ _ => rfl
  have k56 := fun K L Q => @KW_of ftB _ _ _ Q _ _ (s56 (hx K L))
  simp only [boolA] at k56
  have d0a : (t < 0) = False := eq_false h0
  have d1a : (u < 0) = False := eq_false h1
  have d2 : (t == u) = false := by simpa using h2
  have d3a : (t > 1073741824) = False := eq_false h3
  have d3b : (1073741824 < t) = False := eq_false h3
  have d4a : (u > 1073741824) = False := eq_false h4
  have d4b : (1073741824 < u) = False := eq_false h4
  have d5a : (a < -10) = True := eq_true h5
  simp only [↓vp, vq0, vq1, vq2, vq3, vr0, vr1, vr2, vr3, vr4, vr5, vr6, vr7, vr8, vr9, vr10, vr11, vr12, vr13, vr14, vr15, vr16, vr17, vr18, vr19, vr20, vr21, vr22, vr23, vr24, vr25, vr26, vr27, vr28, vr29, vr30, vr31, vr32, vr33, vr34, opS, fpS, extO, okP, pack, nAl, allocA, shId, leaves, fillA, fillR, splice, Nat.reduceLT, Nat.reduceEqDiff, Nat.reduceLeDiff, Nat.reduceAdd, Nat.reduceSub, Nat.reduceMul, Int.reduceBEq, Int.reduceBNe, Int.reduceLT, Int.reduceLE, Int.reduceEq, reduceIte, reduceCtorEq, da, int, boolA, RetP_go, resT, resC, resN, retV1, retV2, retV3, retV0, frzFZ, takeM, Option.some.injEq, dr, i0, i1, k56, d0a, d1a, d2, d3a, d3b, d4a, d4b, d5a]
theorem c15_g6 (h0 : ¬ t < 0) (h1 : ¬ u < 0) (h2 : ¬ t = u) (h3 : ¬ t > 1073741824) (h4 : ¬ u > 1073741824) (h5 : ¬ a < -10) (h6 : a > 1099511627776) : AW ftB c15 (mkE 134 (ofL [int t, int u, .agg [int a, int b]])) (hx Heap.empty []) (RetP r15 (boolA true)) := by
  unfold c15 r15
  have i0 : ∀ H j, iaddrA H (some 2) 1 (.ptr j 0 0) 0 = some (.ptr j 0 0) := fun _ _ => rfl
  have i1 : ∀ H j, iaddrA H (some 2) 1 (.ptr j 0 0) 1 = some (.ptr j 0 1) := fun _ _ => rfl
  have k56 := fun K L Q => @KW_of ftB _ _ _ Q _ _ (s56 (hx K L))
  simp only [boolA] at k56
  have d0a : (t < 0) = False := eq_false h0
  have d1a : (u < 0) = False := eq_false h1
  have d2 : (t == u) = false := by simpa using h2
  have d3a : (t > 1073741824) = False := eq_false h3
  have d3b : (1073741824 < t) = False := eq_false h3
  have d4a : (u > 1073741824) = False := eq_false h4
  have d4b : (1073741824 < u) = False := eq_false h4
  have d5a : (a < -10) = False := eq_false h5
  have d6a : (a > 1099511627776) = True := eq_true h6
  have d6b : (1099511627776 < a) = True := eq_true h6
  simp only [↓vp, vq0, vq1, vq2, vq3, vr0, vr1, vr2, vr3, vr4, vr5, vr6, vr7, vr8, vr9, vr10, vr11, vr12, vr13, vr14, vr15, vr16, vr17, vr18, vr19, vr20, vr21, vr22, vr23, vr24, vr25, vr26, vr27, vr28, vr29, vr30, vr31, vr32, vr33, vr34, opS, fpS, extO, okP, pack, nAl, allocA, shId, leaves, fillA, fillR, splice, Nat.reduceLT, Nat.reduceEqDiff, Nat.reduceLeDiff, Nat.reduceAdd, Nat.reduceSub, Nat.reduceMul, Int.reduceBEq, Int.reduceBNe, Int.reduceLT, Int.reduceLE, Int.reduceEq, reduceIte, reduceCtorEq, da, int, boolA, RetP_go, resT, resC, resN, retV1, retV2, retV3, retV0, frzFZ, takeM, Option.some.injEq, dr, i0, i1, k56, d0a, d1a, d2, d3a, d3b, d4a, d4b, d5a, d6a, d6b]
theorem c15_g7 (h0 : ¬ t < 0) (h1 : ¬ u < 0) (h2 : ¬ t = u) (h3 : ¬ t > 1073741824) (h4 : ¬ u > 1073741824) (h5 : ¬ a < -10) (h6 : ¬ a > 1099511627776) (h7 : b < -10) : AW ftB c15 (mkE 134 (ofL [int t, int u, .agg [int a, int b]])) (hx Heap.empty []) (RetP r15 (boolA true)) := by
  unfold c15 r15
  have i0 : ∀ H j, iaddrA H (some 2) 1 (.ptr j 0 0) 0 = some (.ptr j 0 0) := fun _ _ => rfl
  have i1 : ∀ H j, iaddrA H (some 2) 1 (.ptr j 0 0) 1 = some (.ptr j 0 1) := fun _ _ => rfl
  have k56 := fun K L Q => @KW_of ftB _ _ _ Q _ _ (s56 (hx K L))
  simp only [boolA] at k56
  have d0a : (t < 0) = False := eq_false h0
  have d1a : (u < 0) = False := eq_false h1
  have d2 : (t == u) = false := by simpa using h2
  have d3a : (t > 1073741824) = False := eq_false h3
  have d3b : (1073741824 < t) = False := eq_false h3
  have d4a : (u > 1073741824) = False := eq_false h4
  have d4b : (1073741824 < u) = False := eq_false h4
  have d5a : (a < -10) = False := eq_false h5
  have d6a : (a > 1099511627776) = False := eq_false h6
  have d6b : (1099511627776 < a) = False := eq_false h6
  have d7a : (b < -10) = True := eq_true h7
  simp only [↓vp, vq0, vq1, vq2, vq3, vr0, vr1, vr2, vr3, vr4, vr5, vr6, vr7, vr8, vr9, vr10, vr11, vr12, vr13, vr14, vr15, vr16, vr17, vr18, vr19, vr20, vr21, vr22, vr23, vr24, vr25, vr26, vr27, vr28, vr29, vr30, vr31, vr32, vr33, vr34, opS, fpS, extO, okP, pack, nAl, allocA, shId, leaves, fillA, fillR, splice, Nat.reduceLT, Nat.reduceEqDiff, Nat.reduceLeDiff, Nat.reduceAdd, Nat.reduceSub, Nat.reduceMul, Int.reduceBEq, Int.reduceBNe, Int.reduceLT, Int.reduceLE, Int.reduceEq, reduceIte, reduceCtorEq, da, int, boolA, RetP_go, resT, resC, resN, retV1, retV2, retV3, retV0, frzFZ, takeM, Option.some.injEq, dr, i0, i1, k56, d0a, d1a, d2, d3a, d3b, d4a, d4b, d5a, d6a, d6b, d7a]
theorem s15 (t u a b : Int) (H : Heap) : callL ftB15 (.fn (.func 15) [] []) [int t, int u, .agg [int a, int b]] H = some (boolA true, H) := by
  refine call_p (as' := [int t, int u, .agg [int a, int b]]) rfl rfl (by simp) (AW_sub ftB15_sub ?_)
  by_cases h0 : t < 0
  · exact c15_g0 h0
  by_cases h1 : u < 0
  · exact c15_g1 h0 h1
  by_cases h2 : t = u
  · exact c15_g2 h0 h1 h2
  by_cases h3 : t > 1073741824
  · exact c15_g3 h0 h1 h2 h3
  by_cases h4 : u > 1073741824
  · exact c15_g4 h0 h1 h2 h3 h4
  by_cases h5 : a < -10
  · exact c15_g5 h0 h1 h2 h3 h4 h5
  by_cases h6 : a > 1099511627776
  · exact c15_g6 h0 h1 h2 h3 h4 h5 h6
  by_cases h7 : b < -10
  · exact c15_g7 h0 h1 h2 h3 h4 h5 h6 h7
  exact c15_body h0 h1 (by simpa using h2) h3 h4 h5 h6 h7
end
end Go.VI

set_option linter.unusedVariables false
set_option maxRecDepth 100000
namespace Go.VI
theorem fc15 : compF Go.Proofs.Try.prog 15 = some (134, r15, c15) := by kernel_rfl
theorem fn15 : (Go.Proofs.Try.prog.funcs[15]?).all (fun fn => !(fn.name == "runtime.NumGoroutine")) = true := by kernel_rfl
theorem ftB15_ok : FTOk Go.Proofs.Try.prog ftB15 := by
  intro k d h
  unfold ftB15 at h
  split at h
  · cases h; exact go_ok fc15 fn15
  · exact ftB_ok _ _ h
end Go.VI
