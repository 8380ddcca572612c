import Derived.Test.YtoinghjainpkfaaS6
/- What the claim hangs on, part 7: OF OG OH. -/
set_option linter.unusedVariables false
set_option linter.unusedSimpArgs false
set_option maxRecDepth 100000
namespace Go.VI
/-- A sum as the machine has it. -/
def wsum : Int → List Int → Int
  | s, [] => s
  | s, x :: r => wsum (IntKind.i64.wrap (s + x)) r
theorem wsum_app : ∀ (a b : List Int) (s : Int), wsum s (a ++ b) = wsum (wsum s a) b
  | [], b, s => rfl
  | x :: a, b, s => wsum_app a b _
theorem wsum_take (l : List Int) {i : Nat} (h : i < l.length) : wsum 0 (l.take (i + 1)) = IntKind.i64.wrap (wsum 0 (l.take i) + l[i]) := by
  rw [List.take_succ_eq_append_getElem h, wsum_app]
  rfl
theorem wsum_sum : ∀ (l : List Int) (s : Int), 0 ≤ s → (∀ x ∈ l, 0 ≤ x ∧ x ≤ 1000) → s + 1000 * l.length ≤ 9000000000000000000 → wsum s l = s + sumZ l
  | [], s, _, _, _ => by simp [wsum, sumZ]
  | x :: r, s, h0, h, hb => by
    have hx := h x (by simp)
    rw [List.length_cons] at hb
    unfold wsum sumZ
    rw [wrap_i64 (by omega), wsum_sum r (s + x) (by omega) (fun y hy => h y (by simp [hy])) (by omega)]
    omega
/-- What Right of the document's asks for. -/
structure RightP (g : Int) (n : NodeM) : Prop where
  g1 : 1 ≤ g
  g3 : g ≤ 3
  fit : wsum 0 (roomsM g n) ≤ capG g
  lf : n.leaf = true → n.kids = [] ∧ ∀ x ∈ n.items, rightD g x = true
  br : n.leaf = false → n.items = [] ∧ n.kids ≠ [] ∧ ∀ x ∈ n.kids, (x.key.length : Int) ≤ mxk g
theorem gen_of {g : Int} (h1 : 1 ≤ g) (h3 : g ≤ 3) : gen g = true := by simp [gen, h1, h3]
theorem mxk_le {g : Int} (h1 : 1 ≤ g) (h3 : g ≤ 3) : mxk g ≤ 24 := by
  have : g = 1 ∨ g = 2 ∨ g = 3 := by omega
  rcases this with rfl | rfl | rfl <;> decide
theorem cap_ge {g : Int} (h1 : 1 ≤ g) (h3 : g ≤ 3) : 240 ≤ capG g ∧ capG g ≤ 248 := by
  have : g = 1 ∨ g = 2 ∨ g = 3 := by omega
  rcases this with rfl | rfl | rfl <;> decide
theorem idw_step {a b : Int} (h1 : 1 ≤ a) (h2 : a ≤ b) (h3 : b ≤ 3) : 4 ≤ idw a ∧ idw a ≤ idw b ∧ idw b ≤ 8 ∧ idw b ≤ idw a + 4 := by
  have ha : a = 1 ∨ a = 2 ∨ a = 3 := by omega
  have hb : b = 1 ∨ b = 2 ∨ b = 3 := by omega
  rcases ha with rfl | rfl | rfl <;> rcases hb with rfl | rfl | rfl <;> first | omega | decide
/-- Of an item that may be. -/
theorem item_fact {a b : Int} (h1 : 1 ≤ a) (h2 : a ≤ b) (h3 : b ≤ 3) {x : ItemM} (h : rightD a x = true) : 5 ≤ roomI a x ∧ roomI a x ≤ 60 ∧ 0 ≤ roomI b x ∧ roomI b x ≤ 60 ∧ 9 * roomI b x ≤ 13 * roomI a x ∧ x.key.length ≤ 24 := by
  have hk := mxk_le h1 (by omega)
  obtain ⟨i1, i2, i3, i4⟩ := idw_step h1 h2 h3
  unfold rightD at h
  simp only [Bool.and_eq_true, decide_eq_true_eq] at h
  obtain ⟨⟨⟨_, k1⟩, k2⟩, _⟩ := h
  unfold roomI
  rw [gen_of h1 (by omega), gen_of (by omega) h3, if_pos rfl, if_pos rfl]
  cases hf : farM x with
  | true =>
    simp only [if_true]
    omega
  | false =>
    have : ¬ 32 < x.value.length := by
      unfold farM at hf
      simp only [Bool.or_eq_false_iff, decide_eq_false_iff_not] at hf
      exact hf.2
    simp only [Bool.false_eq_true, if_false]
    omega
theorem kid_fact {a b : Int} (h1 : 1 ≤ a) (h2 : a ≤ b) (h3 : b ≤ 3) {k : Bytes} (h : (k.length : Int) ≤ mxk a) : 5 ≤ roomK a k ∧ roomK a k ≤ 33 ∧ 0 ≤ roomK b k ∧ roomK b k ≤ 33 ∧ 5 * roomK b k ≤ 9 * roomK a k ∧ k.length ≤ 24 := by
  have hk := mxk_le h1 (by omega)
  obtain ⟨i1, i2, i3, i4⟩ := idw_step h1 h2 h3
  unfold roomK
  rw [gen_of h1 (by omega), gen_of (by omega) h3, if_pos rfl, if_pos rfl]
  omega
theorem sum_ratio {α : Type} (p q : Int) (u v : α → Int) : ∀ l : List α, (∀ x ∈ l, p * v x ≤ q * u x ∧ 5 ≤ u x) → p * sumZ (l.map v) ≤ q * sumZ (l.map u) ∧ 5 * (l.length : Int) ≤ sumZ (l.map u)
  | [], _ => by simp [sumZ]
  | x :: r, h => by
    obtain ⟨a, b⟩ := sum_ratio p q u v r fun y hy => h y (by simp [hy])
    obtain ⟨c, d⟩ := h x (by simp)
    simp only [List.map_cons, sumZ, List.length_cons]
    constructor
    · rw [Int.mul_add, Int.mul_add]; omega
    · omega
theorem right_small {a b : Int} (h2 : a ≤ b) (h3 : b ≤ 3) {n : NodeM} (hn : okN n) (h : RightP a n) : Good n ∧ roomM a n ≤ 248 ∧ n.items.length ≤ 49 ∧ n.kids.length ≤ 49 ∧ (n.leaf = true → 9 * roomM b n ≤ 13 * 248 ∧ ∀ x ∈ n.items, 0 ≤ roomI b x ∧ roomI b x ≤ 60) ∧ (n.leaf = false → 5 * roomM b n ≤ 9 * 248 ∧ ∀ x ∈ n.kids, 0 ≤ roomK b x.key ∧ roomK b x.key ≤ 33) := by
  have hc := cap_ge h.g1 h.g3
  have hfit := h.fit
  cases hl : n.leaf with
  | true =>
    obtain ⟨e, hr⟩ := h.lf hl
    have fa := fun x hx => item_fact h.g1 h2 h3 (hr x hx)
    obtain ⟨s1, s2⟩ := sum_ratio 9 13 (roomI a) (roomI b) n.items fun x hx => ⟨(fa x hx).2.2.2.2.1, (fa x hx).1⟩
    have er : ∀ g, roomsM g n = n.items.map (roomI g) := fun g => by unfold roomsM; rw [hl]; rfl
    have em : ∀ g, roomM g n = sumZ (n.items.map (roomI g)) := fun g => by unfold roomM; rw [er]
    have hm := hn.i.n
    unfold MX at hm
    rw [er, wsum_sum _ 0 (Int.le_refl _) (fun y hy => by
      obtain ⟨x, hx, rfl⟩ := List.mem_map.1 hy
      have := fa x hx
      omega) (by simp; omega)] at hfit
    refine ⟨⟨hn, by omega, by rw [e]; simp, by unfold pureM; rw [hl]; exact e, (fun x hx => by have := fa x hx; omega), (fun x hx => by rw [e] at hx; cases hx)⟩, by rw [em]; omega, by omega, by rw [e]; simp, fun _ => ⟨by rw [em]; omega, fun x hx => by have := fa x hx; omega⟩, fun h => by cases h⟩
  | false =>
    obtain ⟨e, _, hr⟩ := h.br hl
    have fa := fun (x : KidM) hx => kid_fact h.g1 h2 h3 (hr x hx)
    obtain ⟨s1, s2⟩ := sum_ratio 5 9 (fun x : KidM => roomK a x.key) (fun x : KidM => roomK b x.key) n.kids fun x hx => ⟨(fa x hx).2.2.2.2.1, (fa x hx).1⟩
    have er : ∀ g, roomsM g n = n.kids.map (fun x => roomK g x.key) := fun g => by unfold roomsM; rw [hl]; rfl
    have em : ∀ g, roomM g n = sumZ (n.kids.map (fun x => roomK g x.key)) := fun g => by unfold roomM; rw [er]
    have hm := hn.k.n
    unfold MX at hm
    rw [er, wsum_sum _ 0 (Int.le_refl _) (fun y hy => by
      obtain ⟨x, hx, rfl⟩ := List.mem_map.1 hy
      have := fa x hx
      omega) (by simp; omega)] at hfit
    refine ⟨⟨hn, by rw [e]; simp, by omega, by unfold pureM; rw [hl]; exact e, (fun x hx => by rw [e] at hx; cases hx), fun x hx => by have := fa x hx; omega⟩, by rw [em]; omega, by rw [e]; simp, by omega, (fun h => by cases h), fun _ => ⟨by rw [em]; omega, fun x hx => by have := fa x hx; omega⟩⟩
/-- The leaf with an item. -/
theorem three_leaf {a b : Int} (h2 : a ≤ b) (h3 : b ≤ 3) {n : NodeM} {it : ItemM} (hn : okN n) (hit : okIt it) (h : RightP a n) (hl : n.leaf = true) (hr : rightD a it = true) :
    Good (withM n it) ∧ (partsM b (roomsM b (withM n it)).length [] (withM n it)).length ≤ 3 ∧ ∀ p ∈ partsM b (roomsM b (withM n it)).length [] (withM n it), fitsM b p.2 = true := by
  obtain ⟨gd, _, l1, l2, hb, _⟩ := right_small h2 h3 hn h
  obtain ⟨hb1, hb2⟩ := hb hl
  obtain ⟨e, hri⟩ := h.lf hl
  have fi := item_fact h.g1 h2 h3 hr
  have hc := cap_ge (g := b) (by have := h.g1; omega) h3
  have hle := bsM_le n.items it.key
  have hmem : ∀ x ∈ withI n.items it, x = it ∨ x ∈ n.items := fun x hx => by
    unfold withI at hx
    split at hx
    · rcases List.mem_or_eq_of_mem_set hx with hx | rfl
      · exact .inr hx
      · exact .inl rfl
    · rcases List.mem_append.1 hx with hx | hx
      · exact .inr (List.mem_of_mem_take hx)
      · rcases List.mem_cons.1 hx with rfl | hx
        · exact .inl rfl
        · exact .inr (List.mem_of_mem_drop hx)
  have hfact : ∀ x ∈ withI n.items it, 0 ≤ roomI b x ∧ roomI b x ≤ 60 := fun x hx => by
    rcases hmem x hx with rfl | hx
    · omega
    · exact hb2 x hx
  have er : roomsM b (withM n it) = (withI n.items it).map (roomI b) := by unfold roomsM withM; rw [hl]; rfl
  have eo : roomM b n = sumZ (n.items.map (roomI b)) := by unfold roomM roomsM; rw [hl]; rfl
  have hsum : sumZ ((withI n.items it).map (roomI b)) ≤ sumZ (n.items.map (roomI b)) + 60 := by
    unfold withI
    split
    · rename_i hi
      have hlt := bsIs_lt hi
      have s1 := sum_split (n.items.map (roomI b)) (bsM n.items it.key)
      rw [List.set_eq_take_append_cons_drop, if_pos hlt, List.map_append, List.map_cons, sumZ_app]
      rw [← List.map_take, ← List.map_drop, List.drop_eq_getElem_cons hlt, List.map_cons] at s1
      simp only [sumZ] at s1 ⊢
      have := hb2 _ (List.getElem_mem hlt)
      omega
    · have s1 := sum_split (n.items.map (roomI b)) (bsM n.items it.key)
      rw [List.map_append, List.map_cons, sumZ_app]
      rw [← List.map_take, ← List.map_drop] at s1
      simp only [sumZ]
      omega
  obtain ⟨oi, li⟩ := okI_with gd.ok.i (by omega) hit
  have g2 : Good (withM n it) := ⟨okN_with gd.ok (by omega) hit, by show (withI _ _).length ≤ 60; omega, gd.k, by unfold pureM withM; rw [hl]; exact e, fun x hx => by
    rcases hmem x hx with rfl | hx
    · omega
    · exact gd.ki x hx, gd.kk⟩
  refine ⟨g2, parts_three (g := b) (m := 60) (by omega) (by omega) _ _ _ (Nat.le_refl _) (fun x hx => ?_) ?_ ?_⟩
  · rw [er] at hx
    obtain ⟨y, hy, rfl⟩ := List.mem_map.1 hx
    exact hfact y hy
  · unfold roomM; rw [er]; omega
  · unfold roomM; rw [er]; omega
/-- The branch with a kid. -/
theorem three_branch {a b : Int} (h2 : a ≤ b) (h3 : b ≤ 3) {n : NodeM} {key : Bytes} (hn : okN n) (hk : okB key) (h : RightP a n) (hl : n.leaf = false) (hr : (key.length : Int) ≤ mxk a) :
    Good (swapM n n.kids.length 0 [⟨key, 2⟩]) ∧ (partsM b (roomsM b (swapM n n.kids.length 0 [⟨key, 2⟩])).length [] (swapM n n.kids.length 0 [⟨key, 2⟩])).length ≤ 3 ∧ ∀ p ∈ partsM b (roomsM b (swapM n n.kids.length 0 [⟨key, 2⟩])).length [] (swapM n n.kids.length 0 [⟨key, 2⟩]), fitsM b p.2 = true := by
  obtain ⟨gd, _, l1, l2, _, hb⟩ := right_small h2 h3 hn h
  obtain ⟨hb1, hb2⟩ := hb hl
  obtain ⟨e, _, hri⟩ := h.br hl
  have fi := kid_fact h.g1 h2 h3 hr
  have hc := cap_ge (g := b) (by have := h.g1; omega) h3
  have es : swapM n n.kids.length 0 [⟨key, 2⟩] = ⟨n.leaf, n.items, n.kids ++ [⟨key, 2⟩]⟩ := by
    unfold swapM
    rw [List.take_length, Nat.add_zero, List.drop_length, List.append_nil]
  rw [es]
  have er : roomsM b ⟨n.leaf, n.items, n.kids ++ [⟨key, 2⟩]⟩ = n.kids.map (fun x => roomK b x.key) ++ [roomK b key] := by
    unfold roomsM
    simp [hl]
  have eo : roomM b n = sumZ (n.kids.map (fun x => roomK b x.key)) := by unfold roomM roomsM; rw [hl]; rfl
  have hm := hn.k.n
  refine ⟨⟨⟨gd.ok.i, ⟨by unfold MX; simp; omega, fun x hx => ?_⟩⟩, gd.i, by simp; omega, by unfold pureM; rw [hl]; exact e, gd.ki, fun x hx => ?_⟩, parts_three (g := b) (m := 33) (by omega) (by omega) _ _ _ (Nat.le_refl _) (fun x hx => ?_) ?_ ?_⟩
  · rcases List.mem_append.1 hx with hx | hx
    · exact gd.ok.k.h x hx
    · simp only [List.mem_singleton] at hx; subst hx; exact hk
  · rcases List.mem_append.1 hx with hx | hx
    · exact gd.kk x hx
    · simp only [List.mem_singleton] at hx; subst hx; simp; omega
  · rw [er] at hx
    rcases List.mem_append.1 hx with hx | hx
    · obtain ⟨y, hy, rfl⟩ := List.mem_map.1 hx
      exact hb2 y hy
    · simp only [List.mem_singleton] at hx; subst hx; omega
  · unfold roomM; rw [er, sumZ_app]; simp only [sumZ]; omega
  · unfold roomM; rw [er, sumZ_app]; simp only [sumZ]; omega
end Go.VI

set_option linter.unusedVariables false
set_option linter.unusedSimpArgs false
set_option maxRecDepth 100000
namespace Go.VI
attribute [local congr] AW_congr OW_congr DW_congr NW_congr VW_congr GW_congr PW_congr KW_congr ite_congr' GV_congr CV_congr KF_congr
theorem rooms_MX (g : Int) {n : NodeM} (hn : okN n) : (roomsM g n).length < 140737488355328000 := by
  have h1 := hn.i.n
  have h2 := hn.k.n
  unfold MX at h1 h2
  unfold roomsM
  split <;> simp <;> omega
theorem l33w (g : Int) (n : NodeM) (hn : okN n) {Q : AExit → Env → Heap → Prop} (hex : ∀ f', f' 7 = int (wsum 0 (roomsM g n)) → Q (.exit 0) (mkE 21 f') (hx Heap.empty [.box false (nodeC n)])) :
   ∀ (d i : Nat) (f : Nat → AV), i + d = (roomsM g n).length → f 0 = int g → f 2 = int (roomsM g n).length → f 4 = .ptr 0 0 0 → f 7 = int (wsum 0 ((roomsM g n).take i)) → f 8 = int i →
    AW ft (.loop c33L0) (mkE 21 f) (hx Heap.empty [.box false (nodeC n)]) Q := by
  intro d
  have hM := rooms_MX g hn
  induction d with
  | zero =>
    intro i f hd h0 h2 h4 h7 h8
    have g1 : ((i : Int) < ((roomsM g n).length : Int)) = False := by simp; omega
    rw [AW_loop]
    unfold c33L0
    rw [List.take_of_length_le (by omega)] at h7
    simp only [↓vp, vq0, vq1, vq2, vq3, vr0, vr1, vr2, vr3, vr4, vr5, vr6, vr7, vr8, vr9, vr10, vr11, vr12, vr13, vr14, vr15, vr16, vr17, vr18, vr19, vr20, vr21, vr22, vr23, vr24, vr25, vr26, vr27, vr28, vr29, vr30, vr31, vr32, vr33, vr34, opS, fpS, okP, pack, nAl, allocA, shId, leaves, fillA, fillR, splice, Nat.reduceLT, Nat.reduceEqDiff, Nat.reduceLeDiff, Nat.reduceAdd, Nat.reduceSub, Nat.reduceMul, Int.reduceBEq, Int.reduceBNe, Int.reduceLT, Int.reduceLE, Int.reduceEq, reduceIte, reduceCtorEq, da, int, boolA, h2, h8, g1]
    refine hex _ ?_
    simp only [↓vp, vq0, vq1, vq2, vq3, vr0, vr1, vr2, vr3, vr4, vr5, vr6, vr7, vr8, vr9, vr10, vr11, vr12, vr13, vr14, vr15, vr16, vr17, vr18, vr19, vr20, vr21, vr22, vr23, vr24, vr25, vr26, vr27, vr28, vr29, vr30, vr31, vr32, vr33, vr34, opS, fpS, okP, pack, nAl, allocA, shId, leaves, fillA, fillR, splice, Nat.reduceLT, Nat.reduceEqDiff, Nat.reduceLeDiff, Nat.reduceAdd, Nat.reduceSub, Nat.reduceMul, Int.reduceBEq, Int.reduceBNe, Int.reduceLT, Int.reduceLE, Int.reduceEq, reduceIte, reduceCtorEq, da, int, boolA, h7]
  | succ d ih =>
    intro i f hd h0 h2 h4 h7 h8
    have g1 : ((i : Int) < ((roomsM g n).length : Int)) = True := by simp; omega
    have gi : i < (roomsM g n).length := by omega
    have w1 := wrap_succ (show i < 9223372036854775807 by omega)
    have w2 := (wsum_take (roomsM g n) gi).symm
    have kk := fun K L Q => @k104 g n hn i gi K L Q
    simp only [int, nodeC, boolA] at kk
    rw [AW_loop]
    unfold c33L0
    simp only [↓vp, vq0, vq1, vq2, vq3, vr0, vr1, vr2, vr3, vr4, vr5, vr6, vr7, vr8, vr9, vr10, vr11, vr12, vr13, vr14, vr15, vr16, vr17, vr18, vr19, vr20, vr21, vr22, vr23, vr24, vr25, vr26, vr27, vr28, vr29, vr30, vr31, vr32, vr33, vr34, opS, fpS, okP, pack, nAl, allocA, shId, leaves, fillA, fillR, splice, Nat.reduceLT, Nat.reduceEqDiff, Nat.reduceLeDiff, Nat.reduceAdd, Nat.reduceSub, Nat.reduceMul, Int.reduceBEq, Int.reduceBNe, Int.reduceLT, Int.reduceLE, Int.reduceEq, reduceIte, reduceCtorEq, da, int, boolA, nodeC, h0, h2, h4, h7, h8, g1, kk, w1, w2]
    refine ih (i + 1) _ (by omega) ?_ ?_ ?_ ?_ ?_ <;> simp only [↓vp, vq0, vq1, vq2, vq3, vr0, vr1, vr2, vr3, vr4, vr5, vr6, vr7, vr8, vr9, vr10, vr11, vr12, vr13, vr14, vr15, vr16, vr17, vr18, vr19, vr20, vr21, vr22, vr23, vr24, vr25, vr26, vr27, vr28, vr29, vr30, vr31, vr32, vr33, vr34, opS, fpS, okP, pack, nAl, allocA, shId, leaves, fillA, fillR, splice, Nat.reduceLT, Nat.reduceEqDiff, Nat.reduceLeDiff, Nat.reduceAdd, Nat.reduceSub, Nat.reduceMul, Int.reduceBEq, Int.reduceBNe, Int.reduceLT, Int.reduceLE, Int.reduceEq, reduceIte, reduceCtorEq, da, int, boolA, h0, h2, h4]
theorem s33w (g : Int) (n : NodeM) (hn : okN n) (H : Heap) : callL ft (.fn (.func 33) [] []) [int g, .agg (nodeC n), int (roomsM g n).length] H = some (int (wsum 0 (roomsM g n)), H) := by
  refine call_p (as' := [int g, .agg (nodeC n), int (roomsM g n).length]) rfl rfl (by simp) ?_
  unfold c33 r33
  simp only [↓vp, vq0, vq1, vq2, vq3, vr0, vr1, vr2, vr3, vr4, vr5, vr6, vr7, vr8, vr9, vr10, vr11, vr12, vr13, vr14, vr15, vr16, vr17, vr18, vr19, vr20, vr21, vr22, vr23, vr24, vr25, vr26, vr27, vr28, vr29, vr30, vr31, vr32, vr33, vr34, opS, fpS, okP, pack, nAl, allocA, shId, leaves, fillA, fillR, splice, Nat.reduceLT, Nat.reduceEqDiff, Nat.reduceLeDiff, Nat.reduceAdd, Nat.reduceSub, Nat.reduceMul, Int.reduceBEq, Int.reduceBNe, Int.reduceLT, Int.reduceLE, Int.reduceEq, reduceIte, reduceCtorEq, da, int, boolA]
  refine l33w g n hn (fun f' q7 => ?_) (roomsM g n).length 0 _ (by simp) ?_ ?_ ?_ ?_ ?_
  · unfold c33R1
    simp only [↓vp, vq0, vq1, vq2, vq3, vr0, vr1, vr2, vr3, vr4, vr5, vr6, vr7, vr8, vr9, vr10, vr11, vr12, vr13, vr14, vr15, vr16, vr17, vr18, vr19, vr20, vr21, vr22, vr23, vr24, vr25, vr26, vr27, vr28, vr29, vr30, vr31, vr32, vr33, vr34, opS, fpS, okP, pack, nAl, allocA, shId, leaves, fillA, fillR, splice, Nat.reduceLT, Nat.reduceEqDiff, Nat.reduceLeDiff, Nat.reduceAdd, Nat.reduceSub, Nat.reduceMul, Int.reduceBEq, Int.reduceBNe, Int.reduceLT, Int.reduceLE, Int.reduceEq, reduceIte, reduceCtorEq, da, int, boolA, RetP_go, resT, resC, resN, retV1, retV2, retV3, retV0, frzFZ, takeM, Option.some.injEq, q7]
  all_goals first | rfl | (simp only [↓vp, vq0, vq1, vq2, vq3, vr0, vr1, vr2, vr3, vr4, vr5, vr6, vr7, vr8, vr9, vr10, vr11, vr12, vr13, vr14, vr15, vr16, vr17, vr18, vr19, vr20, vr21, vr22, vr23, vr24, vr25, vr26, vr27, vr28, vr29, vr30, vr31, vr32, vr33, vr34, opS, fpS, okP, pack, nAl, allocA, shId, leaves, fillA, fillR, splice, Nat.reduceLT, Nat.reduceEqDiff, Nat.reduceLeDiff, Nat.reduceAdd, Nat.reduceSub, Nat.reduceMul, Int.reduceBEq, Int.reduceBNe, Int.reduceLT, Int.reduceLE, Int.reduceEq, reduceIte, reduceCtorEq, da, int, boolA]; done)
theorem s86w (g : Int) (n : NodeM) (hn : okN n) (H : Heap) : callL ft (.fn (.func 86) [] []) [int g, .agg (nodeC n)] H = some (boolA (decide (wsum 0 (roomsM g n) ≤ capG g)), H) := by
  refine call_p (as' := [int g, .agg (nodeC n)]) rfl rfl (by simp) ?_
  unfold c86 r86
  have kk := fun K L Q => @KW_of ft _ _ _ Q _ _ (s33w g n hn (hx K L))
  have k1 := fun K L Q => @k34 n K L Q
  have k2 := fun g K L Q => @k145 g K L Q
  have p2 : pureV ft (.fn (.func 145) [] []) [.sc (.int .i64 g)] = some (false, []) := rfl
  simp only [many_rooms g n] at k1
  simp only [int] at kk k1 k2
  simp only [↓vp, vq0, vq1, vq2, vq3, vr0, vr1, vr2, vr3, vr4, vr5, vr6, vr7, vr8, vr9, vr10, vr11, vr12, vr13, vr14, vr15, vr16, vr17, vr18, vr19, vr20, vr21, vr22, vr23, vr24, vr25, vr26, vr27, vr28, vr29, vr30, vr31, vr32, vr33, vr34, opS, fpS, okP, pack, nAl, allocA, shId, leaves, fillA, fillR, splice, Nat.reduceLT, Nat.reduceEqDiff, Nat.reduceLeDiff, Nat.reduceAdd, Nat.reduceSub, Nat.reduceMul, Int.reduceBEq, Int.reduceBNe, Int.reduceLT, Int.reduceLE, Int.reduceEq, reduceIte, reduceCtorEq, da, int, boolA, RetP_go, resT, resC, resN, retV1, retV2, retV3, retV0, frzFZ, takeM, Option.some.injEq, kk, k1, k2, p2]
  try rfl
def RetB (P : Bool → Prop) (t : Nat) (x : AExit) (e : Env) (H : Heap) : Prop := leaves x = true ∧ ∃ b, e.getD t .bad = .sc (.bool b) ∧ P b
theorem RetB_go {P : Bool → Prop} {t n : Nat} {f : Nat → AV} {x : AExit} {H : Heap} (hx : leaves x = true) (ht : t < n) : RetB P t x (mkE n f) H ↔ ∃ b, f t = .sc (.bool b) ∧ P b := by
  unfold RetB
  rw [mkE_get, if_pos ht]
  simp [hx]
theorem call_pB {ft : FT} {k : FuncId} {first caps args as' : List AV} {H H1 : Heap} {n t : Nat} {body : ACode} {P : Bool → Prop} (hk : ft k = some (.go true n [.tmp t] body)) (hz : frzCells H (first ++ args ++ caps) = some (as', H1)) (hl : as'.length ≤ n)
    (h : AW ft body (mkE n (ofL as')) (hx Heap.empty []) (RetB P t)) : ∃ b, callL ft (.fn (.func k) first caps) args H = some (.sc (.bool b), H1) ∧ P b := by
  rw [hx_nil] at h
  obtain ⟨x, e', Hc, h1, hx, b, h2, h3⟩ := h
  exact ⟨b, call_pure hk hz hl ⟨x, e', Hc, h1, hx, .sc (.bool b), Hc, by unfold resultsA; simp only [List.mapM_cons, List.mapM_nil, resOf, h2]; rfl, rfl⟩, h3⟩
theorem l29a (g : Int) (n : NodeM) (hn : okN n) {Q : AExit → Env → Heap → Prop}
   (hex : ∀ f', (∀ x ∈ n.items, rightD g x = true) → f' 3 = .ptr 0 0 0 → Q (.exit 0) (mkE 124 f') (hx Heap.empty [.box false (nodeC n)]))
   (hret : ∀ f', f' 4 = .sc (.bool false) → Q .ret (mkE 124 f') (hx Heap.empty [.box false (nodeC n)])) :
   ∀ (d i : Nat) (f : Nat → AV), i + d = n.items.length → (∀ x ∈ n.items.take i, rightD g x = true) → f 0 = int g → f 3 = .ptr 0 0 0 → f 5 = int i →
    AW ft (.loop c29L0) (mkE 124 f) (hx Heap.empty [.box false (nodeC n)]) Q := by
  intro d
  have hM := hn.i.n
  unfold MX at hM
  induction d with
  | zero =>
    intro i f hd hall q0 q3 q5
    have g1 : ((i : Int) < (n.items.length : Int)) = False := eq_false (by omega)
    rw [AW_loop]
    unfold c29L0
    rw [List.take_of_length_le (by omega)] at hall
    simp only [↓vp, vq0, vq1, vq2, vq3, vr0, vr1, vr2, vr3, vr4, vr5, vr6, vr7, vr8, vr9, vr10, vr11, vr12, vr13, vr14, vr15, vr16, vr17, vr18, vr19, vr20, vr21, vr22, vr23, vr24, vr25, vr26, vr27, vr28, vr29, vr30, vr31, vr32, vr33, vr34, opS, fpS, okP, pack, nAl, allocA, shId, leaves, fillA, fillR, splice, Nat.reduceLT, Nat.reduceEqDiff, Nat.reduceLeDiff, Nat.reduceAdd, Nat.reduceSub, Nat.reduceMul, Int.reduceBEq, Int.reduceBNe, Int.reduceLT, Int.reduceLE, Int.reduceEq, reduceIte, reduceCtorEq, da, int, boolA, nodeC, q0, q3, q5, g1]
    refine hex _ hall ?_
    simp only [↓vp, vq0, vq1, vq2, vq3, vr0, vr1, vr2, vr3, vr4, vr5, vr6, vr7, vr8, vr9, vr10, vr11, vr12, vr13, vr14, vr15, vr16, vr17, vr18, vr19, vr20, vr21, vr22, vr23, vr24, vr25, vr26, vr27, vr28, vr29, vr30, vr31, vr32, vr33, vr34, opS, fpS, okP, pack, nAl, allocA, shId, leaves, fillA, fillR, splice, Nat.reduceLT, Nat.reduceEqDiff, Nat.reduceLeDiff, Nat.reduceAdd, Nat.reduceSub, Nat.reduceMul, Int.reduceBEq, Int.reduceBNe, Int.reduceLT, Int.reduceLE, Int.reduceEq, reduceIte, reduceCtorEq, da, int, boolA, q3]
  | succ d ih =>
    intro i f hd hall q0 q3 q5
    have g1 : ((i : Int) < (n.items.length : Int)) = True := eq_true (by omega)
    have gi : i < n.items.length := by omega
    have w1 := wrap_succ (show i < 9223372036854775807 by omega)
    have kR := fun K L Q => @k30 g n.items[i] K L Q
    simp only [int, boolA] at kR
    rw [AW_loop]
    unfold c29L0
    cases hr : rightD g n.items[i] with
    | false =>
      rw [hr] at kR
      simp only [↓vp, vq0, vq1, vq2, vq3, vr0, vr1, vr2, vr3, vr4, vr5, vr6, vr7, vr8, vr9, vr10, vr11, vr12, vr13, vr14, vr15, vr16, vr17, vr18, vr19, vr20, vr21, vr22, vr23, vr24, vr25, vr26, vr27, vr28, vr29, vr30, vr31, vr32, vr33, vr34, opS, fpS, okP, pack, nAl, allocA, shId, leaves, fillA, fillR, splice, Nat.reduceLT, Nat.reduceEqDiff, Nat.reduceLeDiff, Nat.reduceAdd, Nat.reduceSub, Nat.reduceMul, Int.reduceBEq, Int.reduceBNe, Int.reduceLT, Int.reduceLE, Int.reduceEq, reduceIte, reduceCtorEq, da, int, boolA, nodeC, q0, q3, q5, g1, atI gi, cI gi, kR]
      refine hret _ ?_
      simp only [↓vp, vq0, vq1, vq2, vq3, vr0, vr1, vr2, vr3, vr4, vr5, vr6, vr7, vr8, vr9, vr10, vr11, vr12, vr13, vr14, vr15, vr16, vr17, vr18, vr19, vr20, vr21, vr22, vr23, vr24, vr25, vr26, vr27, vr28, vr29, vr30, vr31, vr32, vr33, vr34, opS, fpS, okP, pack, nAl, allocA, shId, leaves, fillA, fillR, splice, Nat.reduceLT, Nat.reduceEqDiff, Nat.reduceLeDiff, Nat.reduceAdd, Nat.reduceSub, Nat.reduceMul, Int.reduceBEq, Int.reduceBNe, Int.reduceLT, Int.reduceLE, Int.reduceEq, reduceIte, reduceCtorEq]
    | true =>
      rw [hr] at kR
      have hall' : ∀ x ∈ n.items.take (i + 1), rightD g x = true := fun x hx_ => by
        rw [List.take_succ_eq_append_getElem gi] at hx_
        rcases List.mem_append.1 hx_ with h | h
        · exact hall x h
        · simp only [List.mem_singleton] at h; subst h; exact hr
      by_cases h0 : i = 0
      · have g2 : ((0 : Int) < (i : Int)) = False := eq_false (by omega)
        simp only [↓vp, vq0, vq1, vq2, vq3, vr0, vr1, vr2, vr3, vr4, vr5, vr6, vr7, vr8, vr9, vr10, vr11, vr12, vr13, vr14, vr15, vr16, vr17, vr18, vr19, vr20, vr21, vr22, vr23, vr24, vr25, vr26, vr27, vr28, vr29, vr30, vr31, vr32, vr33, vr34, opS, fpS, okP, pack, nAl, allocA, shId, leaves, fillA, fillR, splice, Nat.reduceLT, Nat.reduceEqDiff, Nat.reduceLeDiff, Nat.reduceAdd, Nat.reduceSub, Nat.reduceMul, Int.reduceBEq, Int.reduceBNe, Int.reduceLT, Int.reduceLE, Int.reduceEq, reduceIte, reduceCtorEq, da, int, boolA, nodeC, q0, q3, q5, g1, g2, w1, atI gi, cI gi, kR]
        refine ih (i + 1) _ (by omega) hall' ?_ ?_ ?_ <;> simp only [↓vp, vq0, vq1, vq2, vq3, vr0, vr1, vr2, vr3, vr4, vr5, vr6, vr7, vr8, vr9, vr10, vr11, vr12, vr13, vr14, vr15, vr16, vr17, vr18, vr19, vr20, vr21, vr22, vr23, vr24, vr25, vr26, vr27, vr28, vr29, vr30, vr31, vr32, vr33, vr34, opS, fpS, okP, pack, nAl, allocA, shId, leaves, fillA, fillR, splice, Nat.reduceLT, Nat.reduceEqDiff, Nat.reduceLeDiff, Nat.reduceAdd, Nat.reduceSub, Nat.reduceMul, Int.reduceBEq, Int.reduceBNe, Int.reduceLT, Int.reduceLE, Int.reduceEq, reduceIte, reduceCtorEq, da, int, boolA, q0, q3]
      · have g2 : ((0 : Int) < (i : Int)) = True := eq_true (by omega)
        have gj : i - 1 < n.items.length := by omega
        have w2 : IntKind.i64.wrap ((i : Int) - 1) = ((i - 1 : Nat) : Int) := by rw [wrap_i64 (by omega)]; omega
        have kC := fun K L Q => @k89 _ _ (hn.i.at_ gj).k (hn.i.at_ gi).k K L Q
        simp only [int] at kC
        simp only [itemC, int] at kR
        cases hc : (cmpB n.items[i - 1].key n.items[i].key != -1) with
        | true =>
          simp only [↓vp, vq0, vq1, vq2, vq3, vr0, vr1, vr2, vr3, vr4, vr5, vr6, vr7, vr8, vr9, vr10, vr11, vr12, vr13, vr14, vr15, vr16, vr17, vr18, vr19, vr20, vr21, vr22, vr23, vr24, vr25, vr26, vr27, vr28, vr29, vr30, vr31, vr32, vr33, vr34, opS, fpS, okP, pack, nAl, allocA, shId, leaves, fillA, fillR, splice, Nat.reduceLT, Nat.reduceEqDiff, Nat.reduceLeDiff, Nat.reduceAdd, Nat.reduceSub, Nat.reduceMul, Int.reduceBEq, Int.reduceBNe, Int.reduceLT, Int.reduceLE, Int.reduceEq, reduceIte, reduceCtorEq, da, int, boolA, nodeC, q0, q3, q5, g1, g2, w1, w2, atI gi, cI gi, atI gj, cI gj, kR, kC, itemC, hc]
          refine hret _ ?_
          simp only [↓vp, vq0, vq1, vq2, vq3, vr0, vr1, vr2, vr3, vr4, vr5, vr6, vr7, vr8, vr9, vr10, vr11, vr12, vr13, vr14, vr15, vr16, vr17, vr18, vr19, vr20, vr21, vr22, vr23, vr24, vr25, vr26, vr27, vr28, vr29, vr30, vr31, vr32, vr33, vr34, opS, fpS, okP, pack, nAl, allocA, shId, leaves, fillA, fillR, splice, Nat.reduceLT, Nat.reduceEqDiff, Nat.reduceLeDiff, Nat.reduceAdd, Nat.reduceSub, Nat.reduceMul, Int.reduceBEq, Int.reduceBNe, Int.reduceLT, Int.reduceLE, Int.reduceEq, reduceIte, reduceCtorEq]
        | false =>
          simp only [↓vp, vq0, vq1, vq2, vq3, vr0, vr1, vr2, vr3, vr4, vr5, vr6, vr7, vr8, vr9, vr10, vr11, vr12, vr13, vr14, vr15, vr16, vr17, vr18, vr19, vr20, vr21, vr22, vr23, vr24, vr25, vr26, vr27, vr28, vr29, vr30, vr31, vr32, vr33, vr34, opS, fpS, okP, pack, nAl, allocA, shId, leaves, fillA, fillR, splice, Nat.reduceLT, Nat.reduceEqDiff, Nat.reduceLeDiff, Nat.reduceAdd, Nat.reduceSub, Nat.reduceMul, Int.reduceBEq, Int.reduceBNe, Int.reduceLT, Int.reduceLE, Int.reduceEq, reduceIte, reduceCtorEq, da, int, boolA, nodeC, q0, q3, q5, g1, g2, w1, w2, atI gi, cI gi, atI gj, cI gj, kR, kC, itemC, hc]
          refine ih (i + 1) _ (by omega) hall' ?_ ?_ ?_ <;> simp only [↓vp, vq0, vq1, vq2, vq3, vr0, vr1, vr2, vr3, vr4, vr5, vr6, vr7, vr8, vr9, vr10, vr11, vr12, vr13, vr14, vr15, vr16, vr17, vr18, vr19, vr20, vr21, vr22, vr23, vr24, vr25, vr26, vr27, vr28, vr29, vr30, vr31, vr32, vr33, vr34, opS, fpS, okP, pack, nAl, allocA, shId, leaves, fillA, fillR, splice, Nat.reduceLT, Nat.reduceEqDiff, Nat.reduceLeDiff, Nat.reduceAdd, Nat.reduceSub, Nat.reduceMul, Int.reduceBEq, Int.reduceBNe, Int.reduceLT, Int.reduceLE, Int.reduceEq, reduceIte, reduceCtorEq, da, int, boolA, q0, q3]
theorem l29b (g : Int) (n : NodeM) (hn : okN n) {Q : AExit → Env → Heap → Prop}
   (hex : ∀ f' K, K.get 0 = some (.box false (nodeC n)) → (∀ x ∈ n.kids, (x.key.length : Int) ≤ mxk g) → f' 3 = .ptr 0 0 0 → Q (.exit 2) (mkE 124 f') (hx K []))
   (hret : ∀ f' K, f' 4 = .sc (.bool false) → Q .ret (mkE 124 f') (hx K [])) :
   ∀ (d i : Nat) (K : Heap) (f : Nat → AV), i + d = n.kids.length → (∀ x ∈ n.kids.take i, (x.key.length : Int) ≤ mxk g) → K.get 0 = some (.box false (nodeC n)) → f 0 = int g → f 3 = .ptr 0 0 0 → f 6 = int i →
    AW ft (.loop c29L2) (mkE 124 f) (hx K []) Q := by
  intro d
  have hM := hn.k.n
  unfold MX at hM
  have kM := fun g K L Q => @k99 g K L Q
  have pM : pureV ft (.fn (.func 99) [] []) [.sc (.int .i64 g)] = some (false, []) := rfl
  simp only [int] at kM
  induction d with
  | zero =>
    intro i K f hd hall hK q0 q3 q6
    have g1 : ((i : Int) < (n.kids.length : Int)) = False := eq_false (by omega)
    have hK' := fun L => get_old hK L
    simp only [nodeC, boolA] at hK'
    rw [AW_loop]
    unfold c29L2
    rw [List.take_of_length_le (by omega)] at hall
    simp only [↓vp, vq0, vq1, vq2, vq3, vr0, vr1, vr2, vr3, vr4, vr5, vr6, vr7, vr8, vr9, vr10, vr11, vr12, vr13, vr14, vr15, vr16, vr17, vr18, vr19, vr20, vr21, vr22, vr23, vr24, vr25, vr26, vr27, vr28, vr29, vr30, vr31, vr32, vr33, vr34, opS, fpS, okP, pack, nAl, allocA, shId, leaves, fillA, fillR, splice, Nat.reduceLT, Nat.reduceEqDiff, Nat.reduceLeDiff, Nat.reduceAdd, Nat.reduceSub, Nat.reduceMul, Int.reduceBEq, Int.reduceBNe, Int.reduceLT, Int.reduceLE, Int.reduceEq, reduceIte, reduceCtorEq, da, int, boolA, nodeC, q0, q3, q6, g1, hK']
    refine hex _ K hK hall ?_
    simp only [↓vp, vq0, vq1, vq2, vq3, vr0, vr1, vr2, vr3, vr4, vr5, vr6, vr7, vr8, vr9, vr10, vr11, vr12, vr13, vr14, vr15, vr16, vr17, vr18, vr19, vr20, vr21, vr22, vr23, vr24, vr25, vr26, vr27, vr28, vr29, vr30, vr31, vr32, vr33, vr34, opS, fpS, okP, pack, nAl, allocA, shId, leaves, fillA, fillR, splice, Nat.reduceLT, Nat.reduceEqDiff, Nat.reduceLeDiff, Nat.reduceAdd, Nat.reduceSub, Nat.reduceMul, Int.reduceBEq, Int.reduceBNe, Int.reduceLT, Int.reduceLE, Int.reduceEq, reduceIte, reduceCtorEq, da, int, boolA, q3]
  | succ d ih =>
    intro i K f hd hall hK q0 q3 q6
    have g1 : ((i : Int) < (n.kids.length : Int)) = True := eq_true (by omega)
    have gi : i < n.kids.length := by omega
    have w1 := wrap_succ (show i < 9223372036854775807 by omega)
    have hK' := fun L => get_old hK L
    simp only [nodeC, boolA] at hK'
    generalize hx_ : n.kids[i] = x
    have ai := fun H => atK (H := H) gi
    have ci := fun H off n => cK (H := H) (off := off) (n := n) gi
    rw [hx_] at ci
    rw [AW_loop]
    unfold c29L2
    have ok1 : okB x.key := hx_ ▸ hn.k.at_ gi
    by_cases r1 : x.ref < 2
    · simp only [↓vp, vq0, vq1, vq2, vq3, vr0, vr1, vr2, vr3, vr4, vr5, vr6, vr7, vr8, vr9, vr10, vr11, vr12, vr13, vr14, vr15, vr16, vr17, vr18, vr19, vr20, vr21, vr22, vr23, vr24, vr25, vr26, vr27, vr28, vr29, vr30, vr31, vr32, vr33, vr34, opS, fpS, okP, pack, nAl, allocA, shId, leaves, fillA, fillR, splice, Nat.reduceLT, Nat.reduceEqDiff, Nat.reduceLeDiff, Nat.reduceAdd, Nat.reduceSub, Nat.reduceMul, Int.reduceBEq, Int.reduceBNe, Int.reduceLT, Int.reduceLE, Int.reduceEq, reduceIte, reduceCtorEq, da, int, boolA, nodeC, kidC, q0, q3, q6, g1, hK', ai, ci, r1]
      rw [← hx_nil (hx _ _)]
      refine hret _ _ ?_
      simp only [↓vp, vq0, vq1, vq2, vq3, vr0, vr1, vr2, vr3, vr4, vr5, vr6, vr7, vr8, vr9, vr10, vr11, vr12, vr13, vr14, vr15, vr16, vr17, vr18, vr19, vr20, vr21, vr22, vr23, vr24, vr25, vr26, vr27, vr28, vr29, vr30, vr31, vr32, vr33, vr34, opS, fpS, okP, pack, nAl, allocA, shId, leaves, fillA, fillR, splice, Nat.reduceLT, Nat.reduceEqDiff, Nat.reduceLeDiff, Nat.reduceAdd, Nat.reduceSub, Nat.reduceMul, Int.reduceBEq, Int.reduceBNe, Int.reduceLT, Int.reduceLE, Int.reduceEq, reduceIte, reduceCtorEq]
    by_cases r2 : (16383 : Int) < x.ref
    · simp only [↓vp, vq0, vq1, vq2, vq3, vr0, vr1, vr2, vr3, vr4, vr5, vr6, vr7, vr8, vr9, vr10, vr11, vr12, vr13, vr14, vr15, vr16, vr17, vr18, vr19, vr20, vr21, vr22, vr23, vr24, vr25, vr26, vr27, vr28, vr29, vr30, vr31, vr32, vr33, vr34, opS, fpS, okP, pack, nAl, allocA, shId, leaves, fillA, fillR, splice, Nat.reduceLT, Nat.reduceEqDiff, Nat.reduceLeDiff, Nat.reduceAdd, Nat.reduceSub, Nat.reduceMul, Int.reduceBEq, Int.reduceBNe, Int.reduceLT, Int.reduceLE, Int.reduceEq, reduceIte, reduceCtorEq, da, int, boolA, nodeC, kidC, q0, q3, q6, g1, hK', ai, ci, r1, r2]
      rw [← hx_nil (hx _ _)]
      refine hret _ _ ?_
      simp only [↓vp, vq0, vq1, vq2, vq3, vr0, vr1, vr2, vr3, vr4, vr5, vr6, vr7, vr8, vr9, vr10, vr11, vr12, vr13, vr14, vr15, vr16, vr17, vr18, vr19, vr20, vr21, vr22, vr23, vr24, vr25, vr26, vr27, vr28, vr29, vr30, vr31, vr32, vr33, vr34, opS, fpS, okP, pack, nAl, allocA, shId, leaves, fillA, fillR, splice, Nat.reduceLT, Nat.reduceEqDiff, Nat.reduceLeDiff, Nat.reduceAdd, Nat.reduceSub, Nat.reduceMul, Int.reduceBEq, Int.reduceBNe, Int.reduceLT, Int.reduceLE, Int.reduceEq, reduceIte, reduceCtorEq]
    by_cases r3 : mxk g < (x.key.length : Int)
    · simp only [↓vp, vq0, vq1, vq2, vq3, vr0, vr1, vr2, vr3, vr4, vr5, vr6, vr7, vr8, vr9, vr10, vr11, vr12, vr13, vr14, vr15, vr16, vr17, vr18, vr19, vr20, vr21, vr22, vr23, vr24, vr25, vr26, vr27, vr28, vr29, vr30, vr31, vr32, vr33, vr34, opS, fpS, okP, pack, nAl, allocA, shId, leaves, fillA, fillR, splice, Nat.reduceLT, Nat.reduceEqDiff, Nat.reduceLeDiff, Nat.reduceAdd, Nat.reduceSub, Nat.reduceMul, Int.reduceBEq, Int.reduceBNe, Int.reduceLT, Int.reduceLE, Int.reduceEq, reduceIte, reduceCtorEq, da, int, boolA, nodeC, kidC, q0, q3, q6, g1, hK', ai, ci, r1, r2, r3, kM, pM]
      rw [← hx_nil (hx _ _)]
      refine hret _ _ ?_
      simp only [↓vp, vq0, vq1, vq2, vq3, vr0, vr1, vr2, vr3, vr4, vr5, vr6, vr7, vr8, vr9, vr10, vr11, vr12, vr13, vr14, vr15, vr16, vr17, vr18, vr19, vr20, vr21, vr22, vr23, vr24, vr25, vr26, vr27, vr28, vr29, vr30, vr31, vr32, vr33, vr34, opS, fpS, okP, pack, nAl, allocA, shId, leaves, fillA, fillR, splice, Nat.reduceLT, Nat.reduceEqDiff, Nat.reduceLeDiff, Nat.reduceAdd, Nat.reduceSub, Nat.reduceMul, Int.reduceBEq, Int.reduceBNe, Int.reduceLT, Int.reduceLE, Int.reduceEq, reduceIte, reduceCtorEq]
    have hall' : ∀ y ∈ n.kids.take (i + 1), (y.key.length : Int) ≤ mxk g := fun y hy => by
      rw [List.take_succ_eq_append_getElem gi, hx_] at hy
      rcases List.mem_append.1 hy with h | h
      · exact hall y h
      · simp only [List.mem_singleton] at h; subst h; omega
    cases r4 : (((i : Int) == 0) == ((x.key.length : Int) == 0)) with
    | false =>
      simp only [↓vp, vq0, vq1, vq2, vq3, vr0, vr1, vr2, vr3, vr4, vr5, vr6, vr7, vr8, vr9, vr10, vr11, vr12, vr13, vr14, vr15, vr16, vr17, vr18, vr19, vr20, vr21, vr22, vr23, vr24, vr25, vr26, vr27, vr28, vr29, vr30, vr31, vr32, vr33, vr34, opS, fpS, okP, pack, nAl, allocA, shId, leaves, fillA, fillR, splice, Nat.reduceLT, Nat.reduceEqDiff, Nat.reduceLeDiff, Nat.reduceAdd, Nat.reduceSub, Nat.reduceMul, Int.reduceBEq, Int.reduceBNe, Int.reduceLT, Int.reduceLE, Int.reduceEq, reduceIte, reduceCtorEq, da, int, boolA, nodeC, kidC, q0, q3, q6, g1, hK', ai, ci, r1, r2, r3, r4, kM, pM]
      rw [← hx_nil (hx _ _)]
      refine hret _ _ ?_
      simp only [↓vp, vq0, vq1, vq2, vq3, vr0, vr1, vr2, vr3, vr4, vr5, vr6, vr7, vr8, vr9, vr10, vr11, vr12, vr13, vr14, vr15, vr16, vr17, vr18, vr19, vr20, vr21, vr22, vr23, vr24, vr25, vr26, vr27, vr28, vr29, vr30, vr31, vr32, vr33, vr34, opS, fpS, okP, pack, nAl, allocA, shId, leaves, fillA, fillR, splice, Nat.reduceLT, Nat.reduceEqDiff, Nat.reduceLeDiff, Nat.reduceAdd, Nat.reduceSub, Nat.reduceMul, Int.reduceBEq, Int.reduceBNe, Int.reduceLT, Int.reduceLE, Int.reduceEq, reduceIte, reduceCtorEq]
    | true =>
      by_cases h1 : (1 : Int) < (i : Int)
      · have gj : i - 1 < n.kids.length := by omega
        have w2 : IntKind.i64.wrap ((i : Int) - 1) = ((i - 1 : Nat) : Int) := by rw [wrap_i64 (by omega)]; omega
        have kC := fun K L Q => @k89 _ _ (hn.k.at_ gj) ok1 K L Q
        simp only [int] at kC
        cases hc : (cmpB n.kids[i - 1].key x.key != -1) with
        | true =>
          simp only [↓vp, vq0, vq1, vq2, vq3, vr0, vr1, vr2, vr3, vr4, vr5, vr6, vr7, vr8, vr9, vr10, vr11, vr12, vr13, vr14, vr15, vr16, vr17, vr18, vr19, vr20, vr21, vr22, vr23, vr24, vr25, vr26, vr27, vr28, vr29, vr30, vr31, vr32, vr33, vr34, opS, fpS, okP, pack, nAl, allocA, shId, leaves, fillA, fillR, splice, Nat.reduceLT, Nat.reduceEqDiff, Nat.reduceLeDiff, Nat.reduceAdd, Nat.reduceSub, Nat.reduceMul, Int.reduceBEq, Int.reduceBNe, Int.reduceLT, Int.reduceLE, Int.reduceEq, reduceIte, reduceCtorEq, da, int, boolA, nodeC, kidC, q0, q3, q6, g1, hK', ai, ci, r1, r2, r3, r4, kM, pM, h1, w2, atK gj, cK gj, kC, hc]
          rw [← hx_nil (hx _ _)]
          refine hret _ _ ?_
          simp only [↓vp, vq0, vq1, vq2, vq3, vr0, vr1, vr2, vr3, vr4, vr5, vr6, vr7, vr8, vr9, vr10, vr11, vr12, vr13, vr14, vr15, vr16, vr17, vr18, vr19, vr20, vr21, vr22, vr23, vr24, vr25, vr26, vr27, vr28, vr29, vr30, vr31, vr32, vr33, vr34, opS, fpS, okP, pack, nAl, allocA, shId, leaves, fillA, fillR, splice, Nat.reduceLT, Nat.reduceEqDiff, Nat.reduceLeDiff, Nat.reduceAdd, Nat.reduceSub, Nat.reduceMul, Int.reduceBEq, Int.reduceBNe, Int.reduceLT, Int.reduceLE, Int.reduceEq, reduceIte, reduceCtorEq]
        | false =>
          simp only [↓vp, vq0, vq1, vq2, vq3, vr0, vr1, vr2, vr3, vr4, vr5, vr6, vr7, vr8, vr9, vr10, vr11, vr12, vr13, vr14, vr15, vr16, vr17, vr18, vr19, vr20, vr21, vr22, vr23, vr24, vr25, vr26, vr27, vr28, vr29, vr30, vr31, vr32, vr33, vr34, opS, fpS, okP, pack, nAl, allocA, shId, leaves, fillA, fillR, splice, Nat.reduceLT, Nat.reduceEqDiff, Nat.reduceLeDiff, Nat.reduceAdd, Nat.reduceSub, Nat.reduceMul, Int.reduceBEq, Int.reduceBNe, Int.reduceLT, Int.reduceLE, Int.reduceEq, reduceIte, reduceCtorEq, da, int, boolA, nodeC, kidC, q0, q3, q6, g1, hK', ai, ci, r1, r2, r3, r4, kM, pM, h1, w1, w2, atK gj, cK gj, kC, hc]
          rw [← hx_nil (hx _ _)]
          refine ih (i + 1) _ _ (by omega) hall' (get_old hK _) ?_ ?_ ?_ <;> simp only [↓vp, vq0, vq1, vq2, vq3, vr0, vr1, vr2, vr3, vr4, vr5, vr6, vr7, vr8, vr9, vr10, vr11, vr12, vr13, vr14, vr15, vr16, vr17, vr18, vr19, vr20, vr21, vr22, vr23, vr24, vr25, vr26, vr27, vr28, vr29, vr30, vr31, vr32, vr33, vr34, opS, fpS, okP, pack, nAl, allocA, shId, leaves, fillA, fillR, splice, Nat.reduceLT, Nat.reduceEqDiff, Nat.reduceLeDiff, Nat.reduceAdd, Nat.reduceSub, Nat.reduceMul, Int.reduceBEq, Int.reduceBNe, Int.reduceLT, Int.reduceLE, Int.reduceEq, reduceIte, reduceCtorEq, da, int, boolA, q0, q3]
      · simp only [↓vp, vq0, vq1, vq2, vq3, vr0, vr1, vr2, vr3, vr4, vr5, vr6, vr7, vr8, vr9, vr10, vr11, vr12, vr13, vr14, vr15, vr16, vr17, vr18, vr19, vr20, vr21, vr22, vr23, vr24, vr25, vr26, vr27, vr28, vr29, vr30, vr31, vr32, vr33, vr34, opS, fpS, okP, pack, nAl, allocA, shId, leaves, fillA, fillR, splice, Nat.reduceLT, Nat.reduceEqDiff, Nat.reduceLeDiff, Nat.reduceAdd, Nat.reduceSub, Nat.reduceMul, Int.reduceBEq, Int.reduceBNe, Int.reduceLT, Int.reduceLE, Int.reduceEq, reduceIte, reduceCtorEq, da, int, boolA, nodeC, kidC, q0, q3, q6, g1, hK', ai, ci, r1, r2, r3, r4, kM, pM, h1, w1]
        rw [← hx_nil (hx _ _)]
        refine ih (i + 1) _ _ (by omega) hall' (get_old hK _) ?_ ?_ ?_ <;> simp only [↓vp, vq0, vq1, vq2, vq3, vr0, vr1, vr2, vr3, vr4, vr5, vr6, vr7, vr8, vr9, vr10, vr11, vr12, vr13, vr14, vr15, vr16, vr17, vr18, vr19, vr20, vr21, vr22, vr23, vr24, vr25, vr26, vr27, vr28, vr29, vr30, vr31, vr32, vr33, vr34, opS, fpS, okP, pack, nAl, allocA, shId, leaves, fillA, fillR, splice, Nat.reduceLT, Nat.reduceEqDiff, Nat.reduceLeDiff, Nat.reduceAdd, Nat.reduceSub, Nat.reduceMul, Int.reduceBEq, Int.reduceBNe, Int.reduceLT, Int.reduceLE, Int.reduceEq, reduceIte, reduceCtorEq, da, int, boolA, q0, q3]
/-- Of any node: where it tells true, the node is small. -/
theorem s29 (g : Int) (n : NodeM) (hn : okN n) (H : Heap) : ∃ b, callL ft (.fn (.func 29) [] []) [int g, .agg (nodeC n)] H = some (.sc (.bool b), H) ∧ (b = true → RightP g n) := by
  refine call_pB (as' := [int g, .agg (nodeC n)]) (t := 4) rfl rfl (by simp) ?_
  unfold c29
  have kF := fun K L Q => @KW_of ft _ _ _ Q _ _ (s86w g n hn (hx K L))
  simp only [nodeC, int, boolA] at kF
  by_cases g1 : g < 1
  · simp only [↓vp, vq0, vq1, vq2, vq3, vr0, vr1, vr2, vr3, vr4, vr5, vr6, vr7, vr8, vr9, vr10, vr11, vr12, vr13, vr14, vr15, vr16, vr17, vr18, vr19, vr20, vr21, vr22, vr23, vr24, vr25, vr26, vr27, vr28, vr29, vr30, vr31, vr32, vr33, vr34, opS, fpS, okP, pack, nAl, allocA, shId, leaves, fillA, fillR, splice, Nat.reduceLT, Nat.reduceEqDiff, Nat.reduceLeDiff, Nat.reduceAdd, Nat.reduceSub, Nat.reduceMul, Int.reduceBEq, Int.reduceBNe, Int.reduceLT, Int.reduceLE, Int.reduceEq, reduceIte, reduceCtorEq, da, int, boolA, nodeC, g1]
    rw [RetB_go rfl (by decide)]
    exact ⟨false, by simp only [↓vp, vq0, vq1, vq2, vq3, vr0, vr1, vr2, vr3, vr4, vr5, vr6, vr7, vr8, vr9, vr10, vr11, vr12, vr13, vr14, vr15, vr16, vr17, vr18, vr19, vr20, vr21, vr22, vr23, vr24, vr25, vr26, vr27, vr28, vr29, vr30, vr31, vr32, vr33, vr34, opS, fpS, okP, pack, nAl, allocA, shId, leaves, fillA, fillR, splice, Nat.reduceLT, Nat.reduceEqDiff, Nat.reduceLeDiff, Nat.reduceAdd, Nat.reduceSub, Nat.reduceMul, Int.reduceBEq, Int.reduceBNe, Int.reduceLT, Int.reduceLE, Int.reduceEq, reduceIte, reduceCtorEq], fun h => by cases h⟩
  by_cases g3 : g > 3
  · simp only [↓vp, vq0, vq1, vq2, vq3, vr0, vr1, vr2, vr3, vr4, vr5, vr6, vr7, vr8, vr9, vr10, vr11, vr12, vr13, vr14, vr15, vr16, vr17, vr18, vr19, vr20, vr21, vr22, vr23, vr24, vr25, vr26, vr27, vr28, vr29, vr30, vr31, vr32, vr33, vr34, opS, fpS, okP, pack, nAl, allocA, shId, leaves, fillA, fillR, splice, Nat.reduceLT, Nat.reduceEqDiff, Nat.reduceLeDiff, Nat.reduceAdd, Nat.reduceSub, Nat.reduceMul, Int.reduceBEq, Int.reduceBNe, Int.reduceLT, Int.reduceLE, Int.reduceEq, reduceIte, reduceCtorEq, da, int, boolA, nodeC, g1, g3]
    rw [RetB_go rfl (by decide)]
    exact ⟨false, by simp only [↓vp, vq0, vq1, vq2, vq3, vr0, vr1, vr2, vr3, vr4, vr5, vr6, vr7, vr8, vr9, vr10, vr11, vr12, vr13, vr14, vr15, vr16, vr17, vr18, vr19, vr20, vr21, vr22, vr23, vr24, vr25, vr26, vr27, vr28, vr29, vr30, vr31, vr32, vr33, vr34, opS, fpS, okP, pack, nAl, allocA, shId, leaves, fillA, fillR, splice, Nat.reduceLT, Nat.reduceEqDiff, Nat.reduceLeDiff, Nat.reduceAdd, Nat.reduceSub, Nat.reduceMul, Int.reduceBEq, Int.reduceBNe, Int.reduceLT, Int.reduceLE, Int.reduceEq, reduceIte, reduceCtorEq], fun h => by cases h⟩
  by_cases hfit : wsum 0 (roomsM g n) ≤ capG g
  rotate_left
  · simp only [↓vp, vq0, vq1, vq2, vq3, vr0, vr1, vr2, vr3, vr4, vr5, vr6, vr7, vr8, vr9, vr10, vr11, vr12, vr13, vr14, vr15, vr16, vr17, vr18, vr19, vr20, vr21, vr22, vr23, vr24, vr25, vr26, vr27, vr28, vr29, vr30, vr31, vr32, vr33, vr34, opS, fpS, okP, pack, nAl, allocA, shId, leaves, fillA, fillR, splice, Nat.reduceLT, Nat.reduceEqDiff, Nat.reduceLeDiff, Nat.reduceAdd, Nat.reduceSub, Nat.reduceMul, Int.reduceBEq, Int.reduceBNe, Int.reduceLT, Int.reduceLE, Int.reduceEq, reduceIte, reduceCtorEq, da, int, boolA, nodeC, g1, g3, kF, hfit]
    rw [RetB_go rfl (by decide)]
    exact ⟨false, by simp only [↓vp, vq0, vq1, vq2, vq3, vr0, vr1, vr2, vr3, vr4, vr5, vr6, vr7, vr8, vr9, vr10, vr11, vr12, vr13, vr14, vr15, vr16, vr17, vr18, vr19, vr20, vr21, vr22, vr23, vr24, vr25, vr26, vr27, vr28, vr29, vr30, vr31, vr32, vr33, vr34, opS, fpS, okP, pack, nAl, allocA, shId, leaves, fillA, fillR, splice, Nat.reduceLT, Nat.reduceEqDiff, Nat.reduceLeDiff, Nat.reduceAdd, Nat.reduceSub, Nat.reduceMul, Int.reduceBEq, Int.reduceBNe, Int.reduceLT, Int.reduceLE, Int.reduceEq, reduceIte, reduceCtorEq], fun h => by cases h⟩
  cases hl : n.leaf with
  | true =>
    rw [hl] at kF
    simp only [↓vp, vq0, vq1, vq2, vq3, vr0, vr1, vr2, vr3, vr4, vr5, vr6, vr7, vr8, vr9, vr10, vr11, vr12, vr13, vr14, vr15, vr16, vr17, vr18, vr19, vr20, vr21, vr22, vr23, vr24, vr25, vr26, vr27, vr28, vr29, vr30, vr31, vr32, vr33, vr34, opS, fpS, okP, pack, nAl, allocA, shId, leaves, fillA, fillR, splice, Nat.reduceLT, Nat.reduceEqDiff, Nat.reduceLeDiff, Nat.reduceAdd, Nat.reduceSub, Nat.reduceMul, Int.reduceBEq, Int.reduceBNe, Int.reduceLT, Int.reduceLE, Int.reduceEq, reduceIte, reduceCtorEq, da, int, boolA, nodeC, g1, g3, kF, hfit, hl]
    have e : hx Heap.empty [Blk.box false [AV.sc (.bool true), encI n.items, encK n.kids]] = hx Heap.empty [.box false (nodeC n)] := by rw [nodeC, hl]; rfl
    rw [e]
    refine l29a g n hn (fun f' hall p3 => ?_) (fun f' p4 => ?_) n.items.length 0 _ (by omega) (by simp) ?_ ?_ ?_
    · unfold c29R1
      cases hz : ((n.kids.length : Int) == 0) with
      | true =>
        simp only [↓vp, vq0, vq1, vq2, vq3, vr0, vr1, vr2, vr3, vr4, vr5, vr6, vr7, vr8, vr9, vr10, vr11, vr12, vr13, vr14, vr15, vr16, vr17, vr18, vr19, vr20, vr21, vr22, vr23, vr24, vr25, vr26, vr27, vr28, vr29, vr30, vr31, vr32, vr33, vr34, opS, fpS, okP, pack, nAl, allocA, shId, leaves, fillA, fillR, splice, Nat.reduceLT, Nat.reduceEqDiff, Nat.reduceLeDiff, Nat.reduceAdd, Nat.reduceSub, Nat.reduceMul, Int.reduceBEq, Int.reduceBNe, Int.reduceLT, Int.reduceLE, Int.reduceEq, reduceIte, reduceCtorEq, da, int, boolA, nodeC, p3, hz]
        rw [RetB_go rfl (by decide)]
        refine ⟨true, by simp only [↓vp, vq0, vq1, vq2, vq3, vr0, vr1, vr2, vr3, vr4, vr5, vr6, vr7, vr8, vr9, vr10, vr11, vr12, vr13, vr14, vr15, vr16, vr17, vr18, vr19, vr20, vr21, vr22, vr23, vr24, vr25, vr26, vr27, vr28, vr29, vr30, vr31, vr32, vr33, vr34, opS, fpS, okP, pack, nAl, allocA, shId, leaves, fillA, fillR, splice, Nat.reduceLT, Nat.reduceEqDiff, Nat.reduceLeDiff, Nat.reduceAdd, Nat.reduceSub, Nat.reduceMul, Int.reduceBEq, Int.reduceBNe, Int.reduceLT, Int.reduceLE, Int.reduceEq, reduceIte, reduceCtorEq], fun _ => ⟨by omega, by omega, hfit, fun _ => ⟨?_, hall⟩, fun h => by rw [hl] at h; cases h⟩⟩
        have : (n.kids.length : Int) = 0 := by simpa using hz
        exact List.eq_nil_of_length_eq_zero (by omega)
      | false =>
        simp only [↓vp, vq0, vq1, vq2, vq3, vr0, vr1, vr2, vr3, vr4, vr5, vr6, vr7, vr8, vr9, vr10, vr11, vr12, vr13, vr14, vr15, vr16, vr17, vr18, vr19, vr20, vr21, vr22, vr23, vr24, vr25, vr26, vr27, vr28, vr29, vr30, vr31, vr32, vr33, vr34, opS, fpS, okP, pack, nAl, allocA, shId, leaves, fillA, fillR, splice, Nat.reduceLT, Nat.reduceEqDiff, Nat.reduceLeDiff, Nat.reduceAdd, Nat.reduceSub, Nat.reduceMul, Int.reduceBEq, Int.reduceBNe, Int.reduceLT, Int.reduceLE, Int.reduceEq, reduceIte, reduceCtorEq, da, int, boolA, nodeC, p3, hz]
        rw [RetB_go rfl (by decide)]
        exact ⟨false, by simp only [↓vp, vq0, vq1, vq2, vq3, vr0, vr1, vr2, vr3, vr4, vr5, vr6, vr7, vr8, vr9, vr10, vr11, vr12, vr13, vr14, vr15, vr16, vr17, vr18, vr19, vr20, vr21, vr22, vr23, vr24, vr25, vr26, vr27, vr28, vr29, vr30, vr31, vr32, vr33, vr34, opS, fpS, okP, pack, nAl, allocA, shId, leaves, fillA, fillR, splice, Nat.reduceLT, Nat.reduceEqDiff, Nat.reduceLeDiff, Nat.reduceAdd, Nat.reduceSub, Nat.reduceMul, Int.reduceBEq, Int.reduceBNe, Int.reduceLT, Int.reduceLE, Int.reduceEq, reduceIte, reduceCtorEq], fun h => by cases h⟩
    · simp only [↓vp, vq0, vq1, vq2, vq3, vr0, vr1, vr2, vr3, vr4, vr5, vr6, vr7, vr8, vr9, vr10, vr11, vr12, vr13, vr14, vr15, vr16, vr17, vr18, vr19, vr20, vr21, vr22, vr23, vr24, vr25, vr26, vr27, vr28, vr29, vr30, vr31, vr32, vr33, vr34, opS, fpS, okP, pack, nAl, allocA, shId, leaves, fillA, fillR, splice, Nat.reduceLT, Nat.reduceEqDiff, Nat.reduceLeDiff, Nat.reduceAdd, Nat.reduceSub, Nat.reduceMul, Int.reduceBEq, Int.reduceBNe, Int.reduceLT, Int.reduceLE, Int.reduceEq, reduceIte, reduceCtorEq]
      rw [RetB_go rfl (by decide)]
      exact ⟨false, p4, fun h => by cases h⟩
    all_goals simp only [↓vp, vq0, vq1, vq2, vq3, vr0, vr1, vr2, vr3, vr4, vr5, vr6, vr7, vr8, vr9, vr10, vr11, vr12, vr13, vr14, vr15, vr16, vr17, vr18, vr19, vr20, vr21, vr22, vr23, vr24, vr25, vr26, vr27, vr28, vr29, vr30, vr31, vr32, vr33, vr34, opS, fpS, okP, pack, nAl, allocA, shId, leaves, fillA, fillR, splice, Nat.reduceLT, Nat.reduceEqDiff, Nat.reduceLeDiff, Nat.reduceAdd, Nat.reduceSub, Nat.reduceMul, Int.reduceBEq, Int.reduceBNe, Int.reduceLT, Int.reduceLE, Int.reduceEq, reduceIte, reduceCtorEq, da, int, boolA, Int.natCast_zero]
  | false =>
    rw [hl] at kF
    simp only [↓vp, vq0, vq1, vq2, vq3, vr0, vr1, vr2, vr3, vr4, vr5, vr6, vr7, vr8, vr9, vr10, vr11, vr12, vr13, vr14, vr15, vr16, vr17, vr18, vr19, vr20, vr21, vr22, vr23, vr24, vr25, vr26, vr27, vr28, vr29, vr30, vr31, vr32, vr33, vr34, opS, fpS, okP, pack, nAl, allocA, shId, leaves, fillA, fillR, splice, Nat.reduceLT, Nat.reduceEqDiff, Nat.reduceLeDiff, Nat.reduceAdd, Nat.reduceSub, Nat.reduceMul, Int.reduceBEq, Int.reduceBNe, Int.reduceLT, Int.reduceLE, Int.reduceEq, reduceIte, reduceCtorEq, da, int, boolA, nodeC, g1, g3, kF, hfit, hl, c29R4]
    have hK : (hx Heap.empty [Blk.box false [AV.sc (.bool false), encI n.items, encK n.kids]]).get 0 = some (.box false (nodeC n)) := by rw [nodeC, hl]; rfl
    rw [← hx_nil (hx _ _)]
    refine l29b g n hn (fun f' K k0 hall p3 => ?_) (fun f' K p4 => ?_) n.kids.length 0 _ _ (by omega) (by simp) hK ?_ ?_ ?_
    · have k0' := fun L => get_old k0 L
      simp only [nodeC, boolA] at k0'
      unfold c29R3
      by_cases hk : (0 : Int) < (n.kids.length : Int)
      · cases hz : ((n.items.length : Int) == 0) with
        | true =>
          simp only [↓vp, vq0, vq1, vq2, vq3, vr0, vr1, vr2, vr3, vr4, vr5, vr6, vr7, vr8, vr9, vr10, vr11, vr12, vr13, vr14, vr15, vr16, vr17, vr18, vr19, vr20, vr21, vr22, vr23, vr24, vr25, vr26, vr27, vr28, vr29, vr30, vr31, vr32, vr33, vr34, opS, fpS, okP, pack, nAl, allocA, shId, leaves, fillA, fillR, splice, Nat.reduceLT, Nat.reduceEqDiff, Nat.reduceLeDiff, Nat.reduceAdd, Nat.reduceSub, Nat.reduceMul, Int.reduceBEq, Int.reduceBNe, Int.reduceLT, Int.reduceLE, Int.reduceEq, reduceIte, reduceCtorEq, da, int, boolA, nodeC, p3, hk, hz, k0']
          rw [RetB_go rfl (by decide)]
          refine ⟨true, by simp only [↓vp, vq0, vq1, vq2, vq3, vr0, vr1, vr2, vr3, vr4, vr5, vr6, vr7, vr8, vr9, vr10, vr11, vr12, vr13, vr14, vr15, vr16, vr17, vr18, vr19, vr20, vr21, vr22, vr23, vr24, vr25, vr26, vr27, vr28, vr29, vr30, vr31, vr32, vr33, vr34, opS, fpS, okP, pack, nAl, allocA, shId, leaves, fillA, fillR, splice, Nat.reduceLT, Nat.reduceEqDiff, Nat.reduceLeDiff, Nat.reduceAdd, Nat.reduceSub, Nat.reduceMul, Int.reduceBEq, Int.reduceBNe, Int.reduceLT, Int.reduceLE, Int.reduceEq, reduceIte, reduceCtorEq], fun _ => ⟨by omega, by omega, hfit, (fun h => by rw [hl] at h; cases h), fun _ => ⟨?_, (fun e => by rw [e] at hk; simp at hk), hall⟩⟩⟩
          have : (n.items.length : Int) = 0 := by simpa using hz
          exact List.eq_nil_of_length_eq_zero (by omega)
        | false =>
          simp only [↓vp, vq0, vq1, vq2, vq3, vr0, vr1, vr2, vr3, vr4, vr5, vr6, vr7, vr8, vr9, vr10, vr11, vr12, vr13, vr14, vr15, vr16, vr17, vr18, vr19, vr20, vr21, vr22, vr23, vr24, vr25, vr26, vr27, vr28, vr29, vr30, vr31, vr32, vr33, vr34, opS, fpS, okP, pack, nAl, allocA, shId, leaves, fillA, fillR, splice, Nat.reduceLT, Nat.reduceEqDiff, Nat.reduceLeDiff, Nat.reduceAdd, Nat.reduceSub, Nat.reduceMul, Int.reduceBEq, Int.reduceBNe, Int.reduceLT, Int.reduceLE, Int.reduceEq, reduceIte, reduceCtorEq, da, int, boolA, nodeC, p3, hk, hz, k0']
          rw [RetB_go rfl (by decide)]
          exact ⟨false, by simp only [↓vp, vq0, vq1, vq2, vq3, vr0, vr1, vr2, vr3, vr4, vr5, vr6, vr7, vr8, vr9, vr10, vr11, vr12, vr13, vr14, vr15, vr16, vr17, vr18, vr19, vr20, vr21, vr22, vr23, vr24, vr25, vr26, vr27, vr28, vr29, vr30, vr31, vr32, vr33, vr34, opS, fpS, okP, pack, nAl, allocA, shId, leaves, fillA, fillR, splice, Nat.reduceLT, Nat.reduceEqDiff, Nat.reduceLeDiff, Nat.reduceAdd, Nat.reduceSub, Nat.reduceMul, Int.reduceBEq, Int.reduceBNe, Int.reduceLT, Int.reduceLE, Int.reduceEq, reduceIte, reduceCtorEq], fun h => by cases h⟩
      · simp only [↓vp, vq0, vq1, vq2, vq3, vr0, vr1, vr2, vr3, vr4, vr5, vr6, vr7, vr8, vr9, vr10, vr11, vr12, vr13, vr14, vr15, vr16, vr17, vr18, vr19, vr20, vr21, vr22, vr23, vr24, vr25, vr26, vr27, vr28, vr29, vr30, vr31, vr32, vr33, vr34, opS, fpS, okP, pack, nAl, allocA, shId, leaves, fillA, fillR, splice, Nat.reduceLT, Nat.reduceEqDiff, Nat.reduceLeDiff, Nat.reduceAdd, Nat.reduceSub, Nat.reduceMul, Int.reduceBEq, Int.reduceBNe, Int.reduceLT, Int.reduceLE, Int.reduceEq, reduceIte, reduceCtorEq, da, int, boolA, nodeC, p3, hk, k0']
        rw [RetB_go rfl (by decide)]
        exact ⟨false, by simp only [↓vp, vq0, vq1, vq2, vq3, vr0, vr1, vr2, vr3, vr4, vr5, vr6, vr7, vr8, vr9, vr10, vr11, vr12, vr13, vr14, vr15, vr16, vr17, vr18, vr19, vr20, vr21, vr22, vr23, vr24, vr25, vr26, vr27, vr28, vr29, vr30, vr31, vr32, vr33, vr34, opS, fpS, okP, pack, nAl, allocA, shId, leaves, fillA, fillR, splice, Nat.reduceLT, Nat.reduceEqDiff, Nat.reduceLeDiff, Nat.reduceAdd, Nat.reduceSub, Nat.reduceMul, Int.reduceBEq, Int.reduceBNe, Int.reduceLT, Int.reduceLE, Int.reduceEq, reduceIte, reduceCtorEq], fun h => by cases h⟩
    · simp only [↓vp, vq0, vq1, vq2, vq3, vr0, vr1, vr2, vr3, vr4, vr5, vr6, vr7, vr8, vr9, vr10, vr11, vr12, vr13, vr14, vr15, vr16, vr17, vr18, vr19, vr20, vr21, vr22, vr23, vr24, vr25, vr26, vr27, vr28, vr29, vr30, vr31, vr32, vr33, vr34, opS, fpS, okP, pack, nAl, allocA, shId, leaves, fillA, fillR, splice, Nat.reduceLT, Nat.reduceEqDiff, Nat.reduceLeDiff, Nat.reduceAdd, Nat.reduceSub, Nat.reduceMul, Int.reduceBEq, Int.reduceBNe, Int.reduceLT, Int.reduceLE, Int.reduceEq, reduceIte, reduceCtorEq]
      rw [RetB_go rfl (by decide)]
      exact ⟨false, p4, fun h => by cases h⟩
    all_goals simp only [↓vp, vq0, vq1, vq2, vq3, vr0, vr1, vr2, vr3, vr4, vr5, vr6, vr7, vr8, vr9, vr10, vr11, vr12, vr13, vr14, vr15, vr16, vr17, vr18, vr19, vr20, vr21, vr22, vr23, vr24, vr25, vr26, vr27, vr28, vr29, vr30, vr31, vr32, vr33, vr34, opS, fpS, okP, pack, nAl, allocA, shId, leaves, fillA, fillR, splice, Nat.reduceLT, Nat.reduceEqDiff, Nat.reduceLeDiff, Nat.reduceAdd, Nat.reduceSub, Nat.reduceMul, Int.reduceBEq, Int.reduceBNe, Int.reduceLT, Int.reduceLE, Int.reduceEq, reduceIte, reduceCtorEq, da, int, boolA, Int.natCast_zero]
end Go.VI

set_option linter.unusedVariables false
set_option linter.unusedSimpArgs false
set_option maxRecDepth 100000
namespace Go.VI
attribute [local congr] AW_congr OW_congr DW_congr NW_congr VW_congr GW_congr PW_congr KW_congr ite_congr' GV_congr CV_congr KF_congr
theorem loop_NodeThree (g : Int) (ps : List (Bytes × NodeM)) (hl : ps.length ≤ 1000) (hps : ∀ p ∈ ps, Good p.2 ∧ fitsM g p.2 = true) {Q : AExit → Env → Heap → Prop}
   (hex : ∀ f' K', f' 10 = encP ps → Q (.exit 0) (mkE 78 f') (hx K' [])) :
   ∀ (d i : Nat) (K : Heap) (f : Nat → AV), i + d = ps.length → f 8 = int g → f 10 = encP ps → f 60 = encP ps → f 61 = int ps.length → f 62 = int i →
    AW ftX (.loop c4L0) (mkE 78 f) (hx K []) Q := by
  intro d
  induction d with
  | zero =>
    intro i K f hd q8 q10 q60 q61 q62
    have g1 : ((i : Int) < (ps.length : Int)) = False := eq_false (by omega)
    rw [AW_loop]
    unfold c4L0
    simp only [↓vp, vq0, vq1, vq2, vq3, vr0, vr1, vr2, vr3, vr4, vr5, vr6, vr7, vr8, vr9, vr10, vr11, vr12, vr13, vr14, vr15, vr16, vr17, vr18, vr19, vr20, vr21, vr22, vr23, vr24, vr25, vr26, vr27, vr28, vr29, vr30, vr31, vr32, vr33, vr34, opS, fpS, okP, pack, nAl, allocA, shId, leaves, fillA, fillR, splice, Nat.reduceLT, Nat.reduceEqDiff, Nat.reduceLeDiff, Nat.reduceAdd, Nat.reduceSub, Nat.reduceMul, Int.reduceBEq, Int.reduceBNe, Int.reduceLT, Int.reduceLE, Int.reduceEq, reduceIte, reduceCtorEq, da, int, boolA, q61, q62, g1]
    refine hex _ K ?_
    simp only [↓vp, vq0, vq1, vq2, vq3, vr0, vr1, vr2, vr3, vr4, vr5, vr6, vr7, vr8, vr9, vr10, vr11, vr12, vr13, vr14, vr15, vr16, vr17, vr18, vr19, vr20, vr21, vr22, vr23, vr24, vr25, vr26, vr27, vr28, vr29, vr30, vr31, vr32, vr33, vr34, opS, fpS, okP, pack, nAl, allocA, shId, leaves, fillA, fillR, splice, Nat.reduceLT, Nat.reduceEqDiff, Nat.reduceLeDiff, Nat.reduceAdd, Nat.reduceSub, Nat.reduceMul, Int.reduceBEq, Int.reduceBNe, Int.reduceLT, Int.reduceLE, Int.reduceEq, reduceIte, reduceCtorEq, da, int, boolA, q10]
  | succ d ih =>
    intro i K f hd q8 q10 q60 q61 q62
    have g1 : ((i : Int) < (ps.length : Int)) = True := eq_true (by omega)
    have w1 := wrap_succ (show i < 9223372036854775807 by omega)
    have gi : i < ps.length := by omega
    generalize hp : ps[i] = p
    obtain ⟨pg, pf⟩ := hps p (hp ▸ List.getElem_mem gi)
    have pi := pg.i
    have pkk := pg.k
    have at1 := fun H => atP (H := H) gi
    have c1 := fun H off n => cP (H := H) (off := off) (n := n) gi
    rw [hp] at c1
    have kF := fun K L Q => @KW_of ftX _ _ _ Q _ _ (callL_sub ft_sub (s26 g p.2 pg.ok (by omega) (by omega) (hx K L)))
    rw [pf] at kF
    simp only [nodeC, int, boolA] at kF
    rw [AW_loop]
    unfold c4L0
    simp only [↓vp, vq0, vq1, vq2, vq3, vr0, vr1, vr2, vr3, vr4, vr5, vr6, vr7, vr8, vr9, vr10, vr11, vr12, vr13, vr14, vr15, vr16, vr17, vr18, vr19, vr20, vr21, vr22, vr23, vr24, vr25, vr26, vr27, vr28, vr29, vr30, vr31, vr32, vr33, vr34, opS, fpS, okP, pack, nAl, allocA, shId, leaves, fillA, fillR, splice, Nat.reduceLT, Nat.reduceEqDiff, Nat.reduceLeDiff, Nat.reduceAdd, Nat.reduceSub, Nat.reduceMul, Int.reduceBEq, Int.reduceBNe, Int.reduceLT, Int.reduceLE, Int.reduceEq, reduceIte, reduceCtorEq, da, int, boolA, q8, q10, q60, q61, q62, g1, w1, at1, c1, partC, nodeC, kF]
    rw [← hx_nil (hx _ _)]
    refine ih (i + 1) _ _ (by omega) ?_ ?_ ?_ ?_ ?_ <;> simp only [↓vp, vq0, vq1, vq2, vq3, vr0, vr1, vr2, vr3, vr4, vr5, vr6, vr7, vr8, vr9, vr10, vr11, vr12, vr13, vr14, vr15, vr16, vr17, vr18, vr19, vr20, vr21, vr22, vr23, vr24, vr25, vr26, vr27, vr28, vr29, vr30, vr31, vr32, vr33, vr34, opS, fpS, okP, pack, nAl, allocA, shId, leaves, fillA, fillR, splice, Nat.reduceLT, Nat.reduceEqDiff, Nat.reduceLeDiff, Nat.reduceAdd, Nat.reduceSub, Nat.reduceMul, Int.reduceBEq, Int.reduceBNe, Int.reduceLT, Int.reduceLE, Int.reduceEq, reduceIte, reduceCtorEq, da, int, boolA, q8, q10, q60, q61]
theorem s4 (n : NodeM) (it : ItemM) (a b c : Int) (hn : okN n) (hit : okIt it) (H : Heap) : callL ftX (.fn (.func 4) [] []) [.agg (nodeC n), .agg (itemC it), .agg [int a, int b, int c]] H = some (boolA true, H) := by
  refine call_p (as' := [.agg (nodeC n), .agg (itemC it), .agg [int a, int b, int c]]) rfl rfl (by simp) ?_
  unfold c4 r4
  have kAl := fun K L Q => @KW_of ftX _ _ _ Q _ _ (s19 (hx K L))
  obtain ⟨bb, hbb, hP⟩ := s29 a n hn (hx Heap.empty [.box false (nodeC n), .box false (itemC it), .box false [int a, int b, int c]])
  have kR := fun Q => @KW_of ftX _ _ _ Q _ _ (callL_sub ft_sub hbb)
  have kRI := fun K L Q => @KW_of ftX _ _ _ Q _ _ (callL_sub ft_sub (s30 a it (hx K L)))
  have ib0 : ∀ H, iaddrA H (some 3) 1 (.ptr 2 0 0) 0 = some (.ptr 2 0 0) := fun _ => rfl
  have ib1 : ∀ H, iaddrA H (some 3) 1 (.ptr 2 0 0) 1 = some (.ptr 2 0 1) := fun _ => rfl
  simp only [nodeC, itemC, int, boolA] at kAl kR kRI
  cases bb with
  | false => simp only [↓vp, vq0, vq1, vq2, vq3, vr0, vr1, vr2, vr3, vr4, vr5, vr6, vr7, vr8, vr9, vr10, vr11, vr12, vr13, vr14, vr15, vr16, vr17, vr18, vr19, vr20, vr21, vr22, vr23, vr24, vr25, vr26, vr27, vr28, vr29, vr30, vr31, vr32, vr33, vr34, opS, fpS, okP, pack, nAl, allocA, shId, leaves, fillA, fillR, splice, Nat.reduceLT, Nat.reduceEqDiff, Nat.reduceLeDiff, Nat.reduceAdd, Nat.reduceSub, Nat.reduceMul, Int.reduceBEq, Int.reduceBNe, Int.reduceLT, Int.reduceLE, Int.reduceEq, reduceIte, reduceCtorEq, da, int, boolA, RetP_go, resT, resC, resN, retV1, retV2, retV3, retV0, frzFZ, takeM, Option.some.injEq, nodeC, itemC, ib0, ib1, kR, kAl]
  | true =>
  have rp := hP rfl
  have a1 : ¬ a < 1 := by have := rp.g1; omega
  by_cases hab : a > b
  · simp only [↓vp, vq0, vq1, vq2, vq3, vr0, vr1, vr2, vr3, vr4, vr5, vr6, vr7, vr8, vr9, vr10, vr11, vr12, vr13, vr14, vr15, vr16, vr17, vr18, vr19, vr20, vr21, vr22, vr23, vr24, vr25, vr26, vr27, vr28, vr29, vr30, vr31, vr32, vr33, vr34, opS, fpS, okP, pack, nAl, allocA, shId, leaves, fillA, fillR, splice, Nat.reduceLT, Nat.reduceEqDiff, Nat.reduceLeDiff, Nat.reduceAdd, Nat.reduceSub, Nat.reduceMul, Int.reduceBEq, Int.reduceBNe, Int.reduceLT, Int.reduceLE, Int.reduceEq, reduceIte, reduceCtorEq, da, int, boolA, RetP_go, resT, resC, resN, retV1, retV2, retV3, retV0, frzFZ, takeM, Option.some.injEq, nodeC, itemC, ib0, ib1, kR, kAl, a1, hab]
  by_cases hb3 : b > 3
  · simp only [↓vp, vq0, vq1, vq2, vq3, vr0, vr1, vr2, vr3, vr4, vr5, vr6, vr7, vr8, vr9, vr10, vr11, vr12, vr13, vr14, vr15, vr16, vr17, vr18, vr19, vr20, vr21, vr22, vr23, vr24, vr25, vr26, vr27, vr28, vr29, vr30, vr31, vr32, vr33, vr34, opS, fpS, okP, pack, nAl, allocA, shId, leaves, fillA, fillR, splice, Nat.reduceLT, Nat.reduceEqDiff, Nat.reduceLeDiff, Nat.reduceAdd, Nat.reduceSub, Nat.reduceMul, Int.reduceBEq, Int.reduceBNe, Int.reduceLT, Int.reduceLE, Int.reduceEq, reduceIte, reduceCtorEq, da, int, boolA, RetP_go, resT, resC, resN, retV1, retV2, retV3, retV0, frzFZ, takeM, Option.some.injEq, nodeC, itemC, ib0, ib1, kR, kAl, a1, hab, hb3]
  cases hr : rightD a it with
  | false =>
    rw [hr] at kRI
    simp only [↓vp, vq0, vq1, vq2, vq3, vr0, vr1, vr2, vr3, vr4, vr5, vr6, vr7, vr8, vr9, vr10, vr11, vr12, vr13, vr14, vr15, vr16, vr17, vr18, vr19, vr20, vr21, vr22, vr23, vr24, vr25, vr26, vr27, vr28, vr29, vr30, vr31, vr32, vr33, vr34, opS, fpS, okP, pack, nAl, allocA, shId, leaves, fillA, fillR, splice, Nat.reduceLT, Nat.reduceEqDiff, Nat.reduceLeDiff, Nat.reduceAdd, Nat.reduceSub, Nat.reduceMul, Int.reduceBEq, Int.reduceBNe, Int.reduceLT, Int.reduceLE, Int.reduceEq, reduceIte, reduceCtorEq, da, int, boolA, RetP_go, resT, resC, resN, retV1, retV2, retV3, retV0, frzFZ, takeM, Option.some.injEq, nodeC, itemC, ib0, ib1, kR, kRI, kAl, a1, hab, hb3]
  | true =>
  rw [hr] at kRI
  obtain ⟨gd, _, l1, l2, _, _⟩ := right_small (b := b) (by omega) (by omega) hn rp
  have kOf := fun K L Q => @KW_of ftX _ _ _ Q _ _ (callL_sub ft_sub (s20 n (by omega) (by omega) (hx K L)))
  simp only [nodeC, boolA] at kOf
  cases hl : n.leaf with
  | true =>
    obtain ⟨g2, h3, hfit⟩ := three_leaf (b := b) (by omega) (by omega) hn hit rp hl hr
    have kW := fun K L Q => @kX_with n it hn (by omega) hit K L Q
    generalize withM n it = y at *
    have kP := fun K L Q => @KW_of ftX _ _ _ Q _ _ (callL_sub ft_sub (s21 b y g2.ok (by have := g2.i; omega) (by have := g2.k; omega) (hx K L)))
    have hgood := parts_good b (roomsM b y).length [] y g2 okB_nil (by simp)
    generalize partsM b (roomsM b y).length [] y = ps at *
    have lP : ∀ H, lenV H 0 (encP ps) = some (.sc (.int .i64 (ps.length : Int)), H) := fun H => lenP ps
    have z3 : ((ps.length : Int) ≤ 3) = True := eq_true (by omega)
    simp only [nodeC, itemC, int, boolA] at kW kP
    rw [hl] at kR kOf kW
    simp only [↓vp, vq0, vq1, vq2, vq3, vr0, vr1, vr2, vr3, vr4, vr5, vr6, vr7, vr8, vr9, vr10, vr11, vr12, vr13, vr14, vr15, vr16, vr17, vr18, vr19, vr20, vr21, vr22, vr23, vr24, vr25, vr26, vr27, vr28, vr29, vr30, vr31, vr32, vr33, vr34, opS, fpS, okP, pack, nAl, allocA, shId, leaves, fillA, fillR, splice, Nat.reduceLT, Nat.reduceEqDiff, Nat.reduceLeDiff, Nat.reduceAdd, Nat.reduceSub, Nat.reduceMul, Int.reduceBEq, Int.reduceBNe, Int.reduceLT, Int.reduceLE, Int.reduceEq, reduceIte, reduceCtorEq, da, int, boolA, RetP_go, resT, resC, resN, retV1, retV2, retV3, retV0, frzFZ, takeM, Option.some.injEq, nodeC, itemC, ib0, ib1, kR, kRI, a1, hab, hb3, kOf, hl, kW, kP, lP]
    rw [← hx_nil (hx _ _)]
    refine loop_NodeThree b ps (by omega) (fun p hp => ⟨(hgood p hp).1, hfit p hp⟩) (fun f' K' p10 => ?_) ps.length 0 _ _ (by omega) ?_ ?_ ?_ ?_ ?_
    · unfold c4R1
      simp only [↓vp, vq0, vq1, vq2, vq3, vr0, vr1, vr2, vr3, vr4, vr5, vr6, vr7, vr8, vr9, vr10, vr11, vr12, vr13, vr14, vr15, vr16, vr17, vr18, vr19, vr20, vr21, vr22, vr23, vr24, vr25, vr26, vr27, vr28, vr29, vr30, vr31, vr32, vr33, vr34, opS, fpS, okP, pack, nAl, allocA, shId, leaves, fillA, fillR, splice, Nat.reduceLT, Nat.reduceEqDiff, Nat.reduceLeDiff, Nat.reduceAdd, Nat.reduceSub, Nat.reduceMul, Int.reduceBEq, Int.reduceBNe, Int.reduceLT, Int.reduceLE, Int.reduceEq, reduceIte, reduceCtorEq, da, int, boolA, RetP_go, resT, resC, resN, retV1, retV2, retV3, retV0, frzFZ, takeM, Option.some.injEq, p10, kAl, lP, z3]
    all_goals simp only [↓vp, vq0, vq1, vq2, vq3, vr0, vr1, vr2, vr3, vr4, vr5, vr6, vr7, vr8, vr9, vr10, vr11, vr12, vr13, vr14, vr15, vr16, vr17, vr18, vr19, vr20, vr21, vr22, vr23, vr24, vr25, vr26, vr27, vr28, vr29, vr30, vr31, vr32, vr33, vr34, opS, fpS, okP, pack, nAl, allocA, shId, leaves, fillA, fillR, splice, Nat.reduceLT, Nat.reduceEqDiff, Nat.reduceLeDiff, Nat.reduceAdd, Nat.reduceSub, Nat.reduceMul, Int.reduceBEq, Int.reduceBNe, Int.reduceLT, Int.reduceLE, Int.reduceEq, reduceIte, reduceCtorEq, da, int, boolA, Int.natCast_zero]
  | false =>
    have hkey : (it.key.length : Int) ≤ mxk a := by
      unfold rightD at hr
      simp only [Bool.and_eq_true, decide_eq_true_eq] at hr
      exact hr.1.2
    obtain ⟨g2, h3, hfit⟩ := three_branch (b := b) (by omega) (by omega) hn hit.k rp hl hkey
    obtain ⟨_, hk0, _⟩ := rp.br hl
    have hswap := fun H => callL_sub ft_sub (s32 n n.kids.length 0 [⟨it.key, 2⟩] hk0 (by omega) (by simp) (by omega) (args := [.agg (nodeC n), int n.kids.length, int ((0 : Nat) : Int), encK [⟨it.key, 2⟩]]) (H := H) (H1 := H) rfl)
    generalize swapM n n.kids.length 0 [⟨it.key, 2⟩] = y at *
    have kS : ∀ K L Q, KF ftX (.fn (.func 32) [] []) [.agg [.sc (.bool n.leaf), encI n.items, encK n.kids], .sc (.int .i64 (n.kids.length : Int)), .sc (.int .i64 0), .lst [[encB it.key, .sc (.int .i64 2)]]] (hx K L) Q ↔ Q (.agg (nodeC y)) (hx K L) := fun K L Q => KW_of (hswap _)
    have p32 := fun args K L Q => @KW_pure ftX 32 rfl args (hx K L) Q
    have kP := fun K L Q => @KW_of ftX _ _ _ Q _ _ (callL_sub ft_sub (s21 b y g2.ok (by have := g2.i; omega) (by have := g2.k; omega) (hx K L)))
    have hgood := parts_good b (roomsM b y).length [] y g2 okB_nil (by simp)
    generalize partsM b (roomsM b y).length [] y = ps at *
    have lP : ∀ H, lenV H 0 (encP ps) = some (.sc (.int .i64 (ps.length : Int)), H) := fun H => lenP ps
    have z3 : ((ps.length : Int) ≤ 3) = True := eq_true (by omega)
    simp only [nodeC, itemC, int, boolA] at kS kP
    rw [hl] at kR kOf kS
    simp only [↓vp, vq0, vq1, vq2, vq3, vr0, vr1, vr2, vr3, vr4, vr5, vr6, vr7, vr8, vr9, vr10, vr11, vr12, vr13, vr14, vr15, vr16, vr17, vr18, vr19, vr20, vr21, vr22, vr23, vr24, vr25, vr26, vr27, vr28, vr29, vr30, vr31, vr32, vr33, vr34, opS, fpS, okP, pack, nAl, allocA, shId, leaves, fillA, fillR, splice, Nat.reduceLT, Nat.reduceEqDiff, Nat.reduceLeDiff, Nat.reduceAdd, Nat.reduceSub, Nat.reduceMul, Int.reduceBEq, Int.reduceBNe, Int.reduceLT, Int.reduceLE, Int.reduceEq, reduceIte, reduceCtorEq, da, int, boolA, RetP_go, resT, resC, resN, retV1, retV2, retV3, retV0, frzFZ, takeM, Option.some.injEq, nodeC, itemC, ib0, ib1, kR, kRI, a1, hab, hb3, kOf, hl, p32, kS, kP, lP]
    rw [← hx_nil (hx _ _)]
    refine loop_NodeThree b ps (by omega) (fun p hp => ⟨(hgood p hp).1, hfit p hp⟩) (fun f' K' p10 => ?_) ps.length 0 _ _ (by omega) ?_ ?_ ?_ ?_ ?_
    · unfold c4R1
      simp only [↓vp, vq0, vq1, vq2, vq3, vr0, vr1, vr2, vr3, vr4, vr5, vr6, vr7, vr8, vr9, vr10, vr11, vr12, vr13, vr14, vr15, vr16, vr17, vr18, vr19, vr20, vr21, vr22, vr23, vr24, vr25, vr26, vr27, vr28, vr29, vr30, vr31, vr32, vr33, vr34, opS, fpS, okP, pack, nAl, allocA, shId, leaves, fillA, fillR, splice, Nat.reduceLT, Nat.reduceEqDiff, Nat.reduceLeDiff, Nat.reduceAdd, Nat.reduceSub, Nat.reduceMul, Int.reduceBEq, Int.reduceBNe, Int.reduceLT, Int.reduceLE, Int.reduceEq, reduceIte, reduceCtorEq, da, int, boolA, RetP_go, resT, resC, resN, retV1, retV2, retV3, retV0, frzFZ, takeM, Option.some.injEq, p10, kAl, lP, z3]
    all_goals simp only [↓vp, vq0, vq1, vq2, vq3, vr0, vr1, vr2, vr3, vr4, vr5, vr6, vr7, vr8, vr9, vr10, vr11, vr12, vr13, vr14, vr15, vr16, vr17, vr18, vr19, vr20, vr21, vr22, vr23, vr24, vr25, vr26, vr27, vr28, vr29, vr30, vr31, vr32, vr33, vr34, opS, fpS, okP, pack, nAl, allocA, shId, leaves, fillA, fillR, splice, Nat.reduceLT, Nat.reduceEqDiff, Nat.reduceLeDiff, Nat.reduceAdd, Nat.reduceSub, Nat.reduceMul, Int.reduceBEq, Int.reduceBNe, Int.reduceLT, Int.reduceLE, Int.reduceEq, reduceIte, reduceCtorEq, da, int, boolA, Int.natCast_zero]
end Go.VI
