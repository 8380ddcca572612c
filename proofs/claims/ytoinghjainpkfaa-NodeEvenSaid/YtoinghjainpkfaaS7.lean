import Derived.Test.YtoinghjainpkfaaS6
import Derived.OpenShut
/- What the claim hangs on, part 7: RG NY NZ OA OB OC. -/
set_option linter.unusedVariables false
set_option linter.unusedSimpArgs false
namespace Go.VI
open Go.Proofs
theorem RD.mono {P : Program} {W : World} {t : TypeId} {E E' : List AV → Prop} (h : RD P W t E) (hE : ∀ xs, E xs → E' xs) : RD P W t E' := fun H enc base spare held fuel cs x hx hw => by
  obtain ⟨xs, h1, h2⟩ := h H enc base spare held fuel cs x hx hw
  exact ⟨xs, hE xs h1, h2⟩
theorem rows_map {α : Type} {g : α → List AV} {p : α → Prop} : ∀ {rows : List (List AV)}, (∀ r ∈ rows, ∃ x, r = g x ∧ p x) → ∃ l : List α, rows = l.map g ∧ ∀ x ∈ l, p x
  | [], _ => ⟨[], rfl, by simp⟩
  | r :: rows, h => by
    obtain ⟨x, rfl, hx⟩ := h r List.mem_cons_self
    obtain ⟨l, rfl, hl⟩ := rows_map fun r hr => h r (List.mem_cons_of_mem _ hr)
    exact ⟨x :: l, rfl, fun y hy => by
      rcases List.mem_cons.1 hy with rfl | hy
      · exact hx
      · exact hl y hy⟩
theorem CVF.append {F : Fz} {a b : List AV} {cs : List Value} {n : Nat} (hn : n ≤ cs.length) (ha : CVF F a (cs.take n)) (hb : CVF F b (cs.drop n)) : CVF F (a ++ b) cs := by
  have hla : a.length = n := by rw [ha.1, List.length_take]; omega
  refine ⟨by rw [List.length_append, hb.1, hla, List.length_drop]; omega, fun i c h => ?_⟩
  by_cases hi : i < n
  · rw [List.getElem?_append_left (by omega)] at h
    obtain ⟨h1, h2⟩ := ha.2 i c h
    refine ⟨h1, ?_⟩
    rwa [List.getD_eq_getElem?_getD, List.getElem?_take_of_lt hi, ← List.getD_eq_getElem?_getD] at h2
  · rw [List.getElem?_append_right (by omega)] at h
    obtain ⟨h1, h2⟩ := hb.2 _ c h
    refine ⟨h1, ?_⟩
    rw [List.getD_eq_getElem?_getD, List.getElem?_drop] at h2
    rw [List.getD_eq_getElem?_getD]
    rwa [show n + (i - a.length) = i by omega] at h2
theorem okWide_stc {P : Program} {w : World} {r : Reach} {base : Nat} {t : TypeId} {fs : Array Field} {v : Value} (ht : P.underlying t = some (.struct fs)) (h : Value.okWide P w r base t v) : ∃ cs, v = .agg cs := by
  unfold Value.okWide at h
  rw [ht] at h
  obtain ⟨cs, h1, _⟩ := h
  exact ⟨cs, h1⟩
/-- Arguments: aggregates among them. -/
def CVA (F : Fz) (xs : List AV) (cs : List Value) : Prop := xs.length = cs.length ∧ ∀ i c, xs[i]? = some c → VF F c (cs.getD i undef)
theorem CVF.cva {F : Fz} {xs : List AV} {cs : List Value} (h : CVF F xs cs) : CVA F xs cs := ⟨h.1, fun i c hc => (h.2 i c hc).2⟩
theorem CVA.one {F : Fz} {a : AV} {v : Value} (h : VF F a v) : CVA F [a] [v] := ⟨rfl, fun i c hc => by
  cases i with
  | zero => cases hc; exact h
  | succ i => simp at hc⟩
theorem CVA.cons {F : Fz} {a : AV} {v : Value} {l : List AV} {vs : List Value} (h : CVA F [a] [v]) (ht : CVA F l vs) : CVA F (a :: l) (v :: vs) := ⟨by simp [ht.1], fun i c hc => by
  cases i with
  | zero => exact h.2 0 c hc
  | succ i => exact ht.2 i c hc⟩
theorem CVA.agg {F : Fz} {xs : List AV} {cs : Array Value} (h : CVF F xs cs.toList) : CVA F [.agg xs] [.agg cs] :=
  .one (.agg (by have := h.1; simpa using this.symm) (fun i c hc => (h.2 i c hc).1) (fun i c hc => by
    have := (h.2 i c hc).2
    rwa [List.getD_eq_getElem?_getD, Array.getElem?_toList, ← Array.getD_eq_getD_getElem?] at this))
theorem vrs_ofA {F : Fz} {m : Mp} {args : List AV} {vs : List Value} (h : CVA F args vs) : VRs m F args vs.toArray := by
  refine ⟨?_, ?_⟩
  · simp [h.1]
  · intro i c hc
    have := h.2 i c hc
    simpa using VR.fz this
variable (W : World)
theorem rdB : RD Try.prog W 27 fun xs => ∃ l : Bytes, xs = [encB l] ∧ okB l :=
  (rd_slice (sz := 1) (B := 1) Try.underlying27 (by kernel_rfl) (by decide) (by kernel_rfl) (rd_int Try.underlying5)).mono fun xs ⟨rows, h1, h2, h3⟩ => by
    obtain ⟨l, rfl, hl⟩ := rows_map (g := byteC) (p := fun n => (Lit.int .u8 n).wf = true) fun r hr => (h2 r hr).1
    refine ⟨l, h1, ?_, ?_⟩
    · simp only [List.length_map, reachBytes] at h3
      unfold MX
      omega
    · unfold byteR
      rw [List.all_eq_true]
      intro n hn
      have := hl n hn
      simp only [Lit.wf, IntKind.min, IntKind.max, IntKind.signed, IntKind.bits] at this
      simp at this
      simp
      omega
theorem rdN : RD Try.prog W 3 fun xs => ∃ n, xs = [int n] ∧ (Lit.int .i64 n).wf = true := rd_int Try.underlying3
theorem rdIt : RD Try.prog W 52 fun xs => ∃ x : ItemM, xs = itemC x ∧ okIt x :=
  (rd_struct (Es := [_, _, _, _]) Try.underlying52 (by kernel_rfl) ⟨rdB W, rdB W, rdN W, rdN W, trivial⟩).mono fun xs h => by
    obtain ⟨_, _, rfl, ⟨k, rfl, hk⟩, _, _, rfl, ⟨v, rfl, hv⟩, _, _, rfl, ⟨s, rfl, _⟩, _, _, rfl, ⟨r, rfl, _⟩, rfl⟩ := h
    exact ⟨⟨k, v, s, r⟩, rfl, hk, hv⟩
theorem rdI : RD Try.prog W 22 fun xs => ∃ l : List ItemM, xs = [encI l] ∧ okI l :=
  (rd_slice (sz := 4) (B := 64) Try.underlying22 (by kernel_rfl) (by decide) (by kernel_rfl) (rdIt W)).mono fun xs ⟨rows, h1, h2, h3⟩ => by
    obtain ⟨l, rfl, hl⟩ := rows_map (g := itemC) (p := okIt) fun r hr => (h2 r hr).1
    refine ⟨l, h1, ?_, hl⟩
    simp only [List.length_map, reachBytes] at h3
    unfold MX
    omega
theorem rdKd : RD Try.prog W 29 fun xs => ∃ x : KidM, xs = kidC x ∧ okB x.key :=
  (rd_struct (Es := [_, _]) Try.underlying29 (by kernel_rfl) ⟨rdB W, rdN W, trivial⟩).mono fun xs h => by
    obtain ⟨_, _, rfl, ⟨k, rfl, hk⟩, _, _, rfl, ⟨r, rfl, _⟩, rfl⟩ := h
    exact ⟨⟨k, r⟩, rfl, hk⟩
theorem rdK : RD Try.prog W 23 fun xs => ∃ l : List KidM, xs = [encK l] ∧ okK l :=
  (rd_slice (sz := 2) (B := 32) Try.underlying23 (by kernel_rfl) (by decide) (by kernel_rfl) (rdKd W)).mono fun xs ⟨rows, h1, h2, h3⟩ => by
    obtain ⟨l, rfl, hl⟩ := rows_map (g := kidC) (p := fun x => okB x.key) fun r hr => (h2 r hr).1
    refine ⟨l, h1, ?_, hl⟩
    simp only [List.length_map, reachBytes] at h3
    unfold MX
    omega
theorem rdNode : RD Try.prog W 25 fun xs => ∃ x : NodeM, xs = nodeC x ∧ okN x :=
  (rd_struct (Es := [_, _, _]) Try.underlying25 (by kernel_rfl) ⟨rd_bool Try.underlying4, rdI W, rdK W, trivial⟩).mono fun xs h => by
    obtain ⟨_, _, rfl, ⟨b, rfl⟩, _, _, rfl, ⟨i, rfl, hi⟩, _, _, rfl, ⟨k, rfl, hk⟩, rfl⟩ := h
    exact ⟨⟨b, i, k⟩, rfl, hi, hk⟩
end Go.VI

set_option linter.unusedVariables false
set_option linter.unusedSimpArgs false
set_option maxRecDepth 100000
namespace Go.VI
attribute [local congr] AW_congr OW_congr DW_congr NW_congr VW_congr GW_congr PW_congr KW_congr ite_congr' GV_congr CV_congr
def RetE (rs : List ARes) (R : AV) (P : Heap → Prop) (x : AExit) (e : Env) (H : Heap) : Prop := leaves x = true ∧ resultsA H e rs = some R ∧ P H
theorem call_oE {ft : FT} {k : FuncId} {first caps args : List AV} {H : Heap} {n : Nat} {rs : List ARes} {body : ACode} {R : AV} {P : Heap → Prop} (hk : ft k = some (.go false n rs body)) (hl : (first ++ args ++ caps).length ≤ n)
    (h : AW ft body (mkE n (ofL (first ++ args ++ caps))) (hx H []) (RetE rs R P)) : ∃ H1, callL ft (.fn (.func k) first caps) args H = some (R, H1) ∧ P H1 := by
  obtain ⟨x, e', Hc, h1, hx_, h2, h3⟩ := h
  refine ⟨Hc, ?_, h3⟩
  refine call_o hk hl ⟨x, e', Hc, h1, hx_, h2, rfl⟩
theorem RetE_go {rs : List ARes} {R : AV} {P : Heap → Prop} {x : AExit} {n : Nat} {f : Nat → AV} {H : Heap} : RetE rs R P x (mkE n f) H ↔ leaves x = true ∧ (rs.mapM (resOf H (mkE n f))).map retV = some R ∧ P H := Iff.rfl
theorem KW_ex {ft : FT} {f : AV} {args : List AV} {K : Heap} {Q : AV → Heap → Prop} {R : AV} {P : Heap → Prop} (h : ∃ H', callL ft f args K = some (R, H') ∧ P H') (hq : ∀ H', P H' → Q R H') : KW ft f args K Q := by
  obtain ⟨H', h1, h2⟩ := h
  exact ⟨R, H', h1, hq H' h2⟩
def cutF : AV := .fn (.func 82) [] [.ptr 0 0 0, .ptr 2 0 0, .ptr 3 0 0]
def partC (p : Bytes × NodeM) : List AV := encB p.1 :: nodeC p.2
/-- What the closure finds. -/
structure PSt (g : Int) (K : Heap) (rows : List (List AV)) : Prop where
  g : K.get 0 = some (.box false [int g])
  f : K.get 3 = some (.box false [cutF])
  out : ∃ S, K.get 2 = some (.box false [S]) ∧ Rep K 4 S rows
/-- Boxes stay, but that of what is made. -/
def Kp (K K' : Heap) : Prop := K.next ≤ K'.next ∧ ∀ j cs, j ≠ 2 → K.get j = some (.box false cs) → K'.get j = some (.box false cs)
theorem Kp.trans {K K' K'' : Heap} (h : Kp K K') (h' : Kp K' K'') : Kp K K'' := ⟨Nat.le_trans h.1 h'.1, fun j cs hj hb => h'.2 j cs hj (h.2 j cs hj hb)⟩
theorem Kp.hx (K : Heap) (L : List Blk) : Kp K (hx K L) := ⟨by rw [hx_next]; omega, fun j cs _ hb => get_old hb L⟩
theorem PSt.hx {g : Int} {K : Heap} {rows : List (List AV)} (h : PSt g K rows) (L : List Blk) : PSt g (hx K L) rows := by
  obtain ⟨S, h1, h2⟩ := h.out
  exact ⟨get_old h.g L, get_old h.f L, S, get_old h1 L, h2.mono fun id hid => get_old hid L⟩
theorem parts_len (g : Int) (d : Nat) (key : Bytes) (n : NodeM) : (partsM g d key n).length ≤ max 1 (roomsM g n).length := by
  induction d generalizing key n with
  | zero => simp [partsM]; omega
  | succ d ih =>
    unfold partsM
    split
    · simp; omega
    · rename_i hc
      have h2 : 2 ≤ (roomsM g n).length := by
        simp only [Bool.or_eq_true, decide_eq_true_eq, not_or] at hc
        omega
      obtain ⟨b1, b2⟩ := atM_bound g n h2
      have i1 := ih key (cutM n (atM g n)).1
      have i2 := ih (cutM n (atM g n)).2.2 (cutM n (atM g n)).2.1
      rw [rooms_cut_l, List.length_take] at i1
      rw [rooms_cut_r] at i2
      rw [List.length_append]
      omega
theorem okB_nil : okB [] := ⟨by unfold MX; simp, rfl⟩
theorem okI_take {l : List ItemM} (h : okI l) (k : Nat) : okI (l.take k) := ⟨by have := h.n; simp; omega, fun x hx => h.h x (List.mem_of_mem_take hx)⟩
theorem okI_drop {l : List ItemM} (h : okI l) (k : Nat) : okI (l.drop k) := ⟨by have := h.n; simp; omega, fun x hx => h.h x (List.mem_of_mem_drop hx)⟩
theorem okK_take {l : List KidM} (h : okK l) (k : Nat) : okK (l.take k) := ⟨by have := h.n; simp; omega, fun x hx => h.h x (List.mem_of_mem_take hx)⟩
theorem okK_drop {l : List KidM} (h : okK l) (k : Nat) : okK (l.drop k) := ⟨by have := h.n; simp; omega, fun x hx => h.h x (List.mem_of_mem_drop hx)⟩
theorem okK_noKey {l : List KidM} (h : okK l) : okK (noKey l) := ⟨by rw [noKey_len]; exact h.n, fun x hx => by
  cases l with
  | nil => cases hx
  | cons y r =>
    rcases List.mem_cons.1 hx with rfl | hx
    · exact okB_nil
    · exact h.h x (List.mem_cons_of_mem _ hx)⟩
theorem okI_nil : okI [] := ⟨by unfold MX; simp, fun _ h => by cases h⟩
theorem okK_nil : okK [] := ⟨by unfold MX; simp, fun _ h => by cases h⟩
theorem okN_cut {n : NodeM} (h : okN n) (k : Nat) : okN (cutM n k).1 ∧ okN (cutM n k).2.1 ∧ okB (cutM n k).2.2 := by
  unfold cutM
  split
  · refine ⟨⟨okI_take h.i k, okK_nil⟩, ⟨okI_drop h.i k, okK_nil⟩, ?_⟩
    show okB (((n.items[k]?).map (·.key)).getD [])
    cases hx : n.items[k]? with
    | none => exact okB_nil
    | some x => exact (h.i.h x (List.mem_of_getElem? hx)).k
  · refine ⟨⟨okI_nil, okK_take h.k k⟩, ⟨okI_nil, okK_noKey (okK_drop h.k k)⟩, ?_⟩
    show okB (((n.kids[k]?).map (·.key)).getD [])
    cases hx : n.kids[k]? with
    | none => exact okB_nil
    | some x => exact h.k.h x (List.mem_of_getElem? hx)
theorem cut_lens {n : NodeM} {k : Nat} (h1 : n.items.length ≤ 1000) (h2 : n.kids.length ≤ 1000) : (cutM n k).1.items.length ≤ 1000 ∧ (cutM n k).1.kids.length ≤ 1000 ∧ (cutM n k).2.1.items.length ≤ 1000 ∧ (cutM n k).2.1.kids.length ≤ 1000 := by
  unfold cutM
  split <;> simp [noKey_len] <;> omega
theorem old_at {K : Heap} {S : AV} {rows : List (List AV)} (hR : Rep K 4 S rows) {j : Nat} {cs : List AV} (hj : j ≠ 2) (h : K.get j = some (.box false cs)) (B : Blk) (L : List Blk) : (hx ((kill K S).set 2 B) L).get j = some (.box false cs) := by
  have h1 : (kill K S).get j = some (.box false cs) := kill_get hR h (fun r e => by cases e)
  rw [hx_get_old _ _ _ (by rw [Heap.next_set, kill_next]; exact Heap.get_lt h), Heap.get_set_ne _ hj, h1]
theorem push_end {g : Int} {K : Heap} {rows : List (List AV)} (hp : PSt g K rows) {S : AV} (hR : Rep K 4 S rows) {x : List AV} {b1 b2 : Blk} :
    PSt g (hx ((kill K S).set 2 (.box false [.sl (K.next + 2) 0 (rows.length + 1)])) [b1, b2, .row false 4 (rows ++ [x])]) (rows ++ [x]) ∧ Kp K (hx ((kill K S).set 2 (.box false [.sl (K.next + 2) 0 (rows.length + 1)])) [b1, b2, .row false 4 (rows ++ [x])]) := by
  have n0 : 3 < K.next := Heap.get_lt hp.f
  have hn : ((kill K S).set 2 (.box false [.sl (K.next + 2) 0 (rows.length + 1)])).next = K.next := by rw [Heap.next_set, kill_next]
  refine ⟨⟨old_at hR (by decide) hp.g _ _, old_at hR (by decide) hp.f _ _, .sl (K.next + 2) 0 (rows.length + 1), ?_, .inr ⟨K.next + 2, by simp, ?_⟩⟩, ?_, fun j cs hj h => old_at hR hj h _ _⟩
  · rw [hx_get_old _ _ _ (by rw [hn]; omega), Heap.get_set_self _ (by rw [kill_next]; omega)]
  · have := hx_get ((kill K S).set 2 (.box false [.sl (K.next + 2) 0 (rows.length + 1)])) [b1, b2, .row false 4 (rows ++ [x])] 2
    rw [hn] at this
    rw [this]
    rfl
  · rw [hx_next, hn]; omega
theorem sPush (g : Int) (key : Bytes) (kv : AV) (n : NodeM) (K : Heap) (rows : List (List AV)) (hn : okN n) (h1 : n.items.length ≤ 1000) (h2 : n.kids.length ≤ 1000) (hc : (fitsM g n || decide ((roomsM g n).length < 2)) = true) (ho : kv.one = true) (hf : ∀ j H, frz (j + 1) H kv = some (encB key, H))
    (hp : PSt g K rows) (hb : rows.length + 1 ≤ 100000) : ∃ K', callL ft cutF [.agg (kv :: nodeC n)] K = some (.tup [], K') ∧ PSt g K' (rows ++ [partC (key, n)]) ∧ Kp K K' := by
  refine call_oE rfl (by simp) ?_
  unfold c82 r82
  obtain ⟨S, hS, hR⟩ := hp.out
  have n0 : 3 < K.next := Heap.get_lt hp.f
  have q0 := fun L => get_old hp.g L
  have q2 := fun L => get_old hS L
  have q2' := fun L => kill_old hR hS (fun r e => by cases e) L
  have qs := fun L b => hx_set_old (kill K S) L b 2 (by rw [kill_next]; omega)
  have kF := fun K L Q => @k26 g n hn h1 h2 K L Q
  have kR := fun K L Q => @k83 g n hn h1 h2 K L Q
  have ap := fun nid L => appA_rep (nid := nid) (bytes := 80) hR (xs := [[encB key, .sc (.bool n.leaf), encI n.items, encK n.kids]]) (by simp) rfl (by simp; omega) L
  simp only [List.length_singleton] at ap
  simp only [nodeC, int, boolA] at kF kR
  simp only [int] at q0
  have he := fun b1 b2 => @push_end g K rows hp S hR (partC (key, n)) b1 b2
  simp only [partC, nodeC, boolA] at he
  cases hfit : fitsM g n with
  | true =>
    rw [hfit] at kF
    simp only [↓vp, vq0, vq1, vq2, vq3, vr0, vr1, vr2, vr3, vr4, vr5, vr6, vr7, vr8, vr9, vr10, vr11, vr12, vr13, vr14, vr15, vr16, vr17, vr18, vr19, vr20, vr21, vr22, vr23, vr24, vr25, vr26, vr27, vr28, vr29, vr30, vr31, vr32, vr33, vr34, opS, fpS, okP, pack, nAl, allocA, shId, leaves, fillA, fillR, splice, Nat.reduceLT, Nat.reduceEqDiff, Nat.reduceLeDiff, Nat.reduceAdd, Nat.reduceSub, Nat.reduceMul, Int.reduceBEq, Int.reduceBNe, Int.reduceLT, Int.reduceLE, Int.reduceEq, reduceIte, reduceCtorEq, da, int, boolA, nodeC, ho, q0, kF]
    simp only [↓vp, vq0, vq1, vq2, vq3, vr0, vr1, vr2, vr3, vr4, vr5, vr6, vr7, vr8, vr9, vr10, vr11, vr12, vr13, vr14, vr15, vr16, vr17, vr18, vr19, vr20, vr21, vr22, vr23, vr24, vr25, vr26, vr27, vr28, vr29, vr30, vr31, vr32, vr33, vr34, opS, fpS, okP, pack, nAl, allocA, shId, leaves, fillA, fillR, splice, Nat.reduceLT, Nat.reduceEqDiff, Nat.reduceLeDiff, Nat.reduceAdd, Nat.reduceSub, Nat.reduceMul, Int.reduceBEq, Int.reduceBNe, Int.reduceLT, Int.reduceLE, Int.reduceEq, reduceIte, reduceCtorEq, da, int, boolA, nodeC, ho, q0, kF, q2, q2', qs, hf, ap, kill_next, RetE_go, resT, resC, resN, retV0, partC]
    exact he _ _
  | false =>
    have hlt : (roomsM g n).length < 2 := by rw [hfit] at hc; simpa using hc
    have g1 : (((roomsM g n).length : Int) < 2) = True := eq_true (by omega)
    rw [hfit] at kF
    simp only [↓vp, vq0, vq1, vq2, vq3, vr0, vr1, vr2, vr3, vr4, vr5, vr6, vr7, vr8, vr9, vr10, vr11, vr12, vr13, vr14, vr15, vr16, vr17, vr18, vr19, vr20, vr21, vr22, vr23, vr24, vr25, vr26, vr27, vr28, vr29, vr30, vr31, vr32, vr33, vr34, opS, fpS, okP, pack, nAl, allocA, shId, leaves, fillA, fillR, splice, Nat.reduceLT, Nat.reduceEqDiff, Nat.reduceLeDiff, Nat.reduceAdd, Nat.reduceSub, Nat.reduceMul, Int.reduceBEq, Int.reduceBNe, Int.reduceLT, Int.reduceLE, Int.reduceEq, reduceIte, reduceCtorEq, da, int, boolA, nodeC, ho, q0, kF, kR, lenZ, g1]
    simp only [↓vp, vq0, vq1, vq2, vq3, vr0, vr1, vr2, vr3, vr4, vr5, vr6, vr7, vr8, vr9, vr10, vr11, vr12, vr13, vr14, vr15, vr16, vr17, vr18, vr19, vr20, vr21, vr22, vr23, vr24, vr25, vr26, vr27, vr28, vr29, vr30, vr31, vr32, vr33, vr34, opS, fpS, okP, pack, nAl, allocA, shId, leaves, fillA, fillR, splice, Nat.reduceLT, Nat.reduceEqDiff, Nat.reduceLeDiff, Nat.reduceAdd, Nat.reduceSub, Nat.reduceMul, Int.reduceBEq, Int.reduceBNe, Int.reduceLT, Int.reduceLE, Int.reduceEq, reduceIte, reduceCtorEq, da, int, boolA, nodeC, ho, q0, kF, q2, q2', qs, hf, ap, kill_next, RetE_go, resT, resC, resN, retV0, partC]
    exact he _ _
theorem sCut (g : Int) : ∀ (d : Nat) (key : Bytes) (kv : AV) (n : NodeM) (K : Heap) (rows : List (List AV)), okN n → n.items.length ≤ 1000 → n.kids.length ≤ 1000 → (roomsM g n).length ≤ d → kv.one = true → (∀ j H, frz (j + 1) H kv = some (encB key, H)) →
    PSt g K rows → rows.length + (roomsM g n).length + 1 ≤ 100000 → ∃ K', callL ft cutF [.agg (kv :: nodeC n)] K = some (.tup [], K') ∧ PSt g K' (rows ++ (partsM g d key n).map partC) ∧ Kp K K' := by
  intro d
  induction d with
  | zero =>
    intro key kv n K rows hn h1 h2 hd ho hf hp hb
    exact sPush g key kv n K rows hn h1 h2 (by simp; right; omega) ho hf hp (by omega)
  | succ d ih =>
    intro key kv n K rows hn h1 h2 hd ho hf hp hb
    cases hc : fitsM g n || decide ((roomsM g n).length < 2) with
    | true =>
      unfold partsM
      rw [hc, if_pos rfl]
      exact sPush g key kv n K rows hn h1 h2 hc ho hf hp (by omega)
    | false =>
      have hfit : fitsM g n = false := by simp at hc; exact hc.1
      have hlt : 2 ≤ (roomsM g n).length := by simp at hc; exact hc.2
      have g1 : (((roomsM g n).length : Int) < 2) = False := eq_false (by omega)
      obtain ⟨b1, b2⟩ := atM_bound g n hlt
      obtain ⟨o1, o2, o3⟩ := okN_cut hn (atM g n)
      obtain ⟨l1, l2, l3, l4⟩ := cut_lens (n := n) (k := atM g n) h1 h2
      have r1 := rooms_cut_l g n (atM g n)
      have r2 := rooms_cut_r g n (atM g n)
      have hmany : (atM g n : Int) < manyN n := by rw [many_rooms g n]; omega
      unfold partsM
      rw [hc, if_neg (by simp)]
      refine call_oE rfl (by simp) ?_
      unfold c82 r82
      have n0 : 3 < K.next := Heap.get_lt hp.f
      have q0 := fun L => get_old hp.g L
      have q3 := fun L => get_old hp.f L
      have kF := fun K L Q => @k26 g n hn h1 h2 K L Q
      have kR := fun K L Q => @k83 g n hn h1 h2 K L Q
      have kA := fun K L Q => @k85 g n hn h1 h2 (by omega) K L Q
      have kC := fun K L Q => @k84 n hn h1 h2 (atM g n) hmany K L Q
      have pA : pureV ft (.fn (.func 85) [] []) [.agg [.sc (.bool n.leaf), encI n.items, encK n.kids], .sc (.int .i64 g)] = some (false, []) := rfl
      have pC : pureV ft (.fn (.func 84) [] []) [.agg [.sc (.bool n.leaf), encI n.items, encK n.kids], .sc (.int .i64 (atM g n : Int))] = some (false, []) := rfl
      have d0 : ∀ i, (0 : Nat) ≠ K.next + i := fun i => by omega
      generalize cutM n (atM g n) = cc at *
      obtain ⟨a, b, kk⟩ := cc
      simp only at o1 o2 o3 l1 l2 l3 l4 r1 r2
      rw [hfit] at kF
      simp only [nodeC, int, boolA] at kF kR kA kC
      simp only [int] at q0
      simp only [↓vp, vq0, vq1, vq2, vq3, vr0, vr1, vr2, vr3, vr4, vr5, vr6, vr7, vr8, vr9, vr10, vr11, vr12, vr13, vr14, vr15, vr16, vr17, vr18, vr19, vr20, vr21, vr22, vr23, vr24, vr25, vr26, vr27, vr28, vr29, vr30, vr31, vr32, vr33, vr34, opS, fpS, okP, pack, nAl, allocA, shId, leaves, fillA, fillR, splice, Nat.reduceLT, Nat.reduceEqDiff, Nat.reduceLeDiff, Nat.reduceAdd, Nat.reduceSub, Nat.reduceMul, Int.reduceBEq, Int.reduceBNe, Int.reduceLT, Int.reduceLE, Int.reduceEq, reduceIte, reduceCtorEq, da, int, boolA, nodeC, ho, q0, kF, kR, lenZ, g1]
      have hcl : kv.cells = [kv] := by cases kv <;> first | rfl | cases ho
      simp only [↓vp, vq0, vq1, vq2, vq3, vr0, vr1, vr2, vr3, vr4, vr5, vr6, vr7, vr8, vr9, vr10, vr11, vr12, vr13, vr14, vr15, vr16, vr17, vr18, vr19, vr20, vr21, vr22, vr23, vr24, vr25, vr26, vr27, vr28, vr29, vr30, vr31, vr32, vr33, vr34, opS, fpS, okP, pack, nAl, allocA, shId, leaves, fillA, fillR, splice, Nat.reduceLT, Nat.reduceEqDiff, Nat.reduceLeDiff, Nat.reduceAdd, Nat.reduceSub, Nat.reduceMul, Int.reduceBEq, Int.reduceBNe, Int.reduceLT, Int.reduceLE, Int.reduceEq, reduceIte, reduceCtorEq, da, int, boolA, nodeC, ho, hcl, q0, q3, kA, kC, pA, pC, d0, compat_ll, apt, nin]
      refine ⟨rfl, ?_⟩
      refine KW_ex (ih key kv a _ rows o1 l1 l2 (by rw [r1, List.length_take]; omega) ho hf (hp.hx _) (by rw [r1, List.length_take]; omega)) fun K1 hk1 => ?_
      obtain ⟨p1, k1⟩ := hk1
      have e0 := k1.2 K.next _ (by omega) (hx_get0 _ _)
      have e2 := k1.2 (K.next + 2) _ (by omega) (hx_get _ _ 2)
      have s0 := fun L => get_old (K := K1) e0 L
      have s2 := fun L => get_old (K := K1) e2 L
      have s3 := fun L => get_old p1.f L
      rw [← hx_nil K1]
      simp only [↓vp, vq0, vq1, vq2, vq3, vr0, vr1, vr2, vr3, vr4, vr5, vr6, vr7, vr8, vr9, vr10, vr11, vr12, vr13, vr14, vr15, vr16, vr17, vr18, vr19, vr20, vr21, vr22, vr23, vr24, vr25, vr26, vr27, vr28, vr29, vr30, vr31, vr32, vr33, vr34, opS, fpS, okP, pack, nAl, allocA, shId, leaves, fillA, fillR, splice, Nat.reduceLT, Nat.reduceEqDiff, Nat.reduceLeDiff, Nat.reduceAdd, Nat.reduceSub, Nat.reduceMul, Int.reduceBEq, Int.reduceBNe, Int.reduceLT, Int.reduceLE, Int.reduceEq, reduceIte, reduceCtorEq, da, int, boolA, nodeC, ho, hcl, s3, s2]
      have pl := parts_len g d key a
      refine KW_ex (ih kk (encB kk) b _ _ o2 l3 l4 (by omega) rfl (fun _ _ => rfl) (p1.hx []) (by rw [List.length_append, List.length_map]; rw [r1, List.length_take] at pl; omega)) fun K2 hk2 => ?_
      obtain ⟨p2, k2⟩ := hk2
      rw [← hx_nil K2]
      simp only [↓vp, vq0, vq1, vq2, vq3, vr0, vr1, vr2, vr3, vr4, vr5, vr6, vr7, vr8, vr9, vr10, vr11, vr12, vr13, vr14, vr15, vr16, vr17, vr18, vr19, vr20, vr21, vr22, vr23, vr24, vr25, vr26, vr27, vr28, vr29, vr30, vr31, vr32, vr33, vr34, opS, fpS, okP, pack, nAl, allocA, shId, leaves, fillA, fillR, splice, Nat.reduceLT, Nat.reduceEqDiff, Nat.reduceLeDiff, Nat.reduceAdd, Nat.reduceSub, Nat.reduceMul, Int.reduceBEq, Int.reduceBNe, Int.reduceLT, Int.reduceLE, Int.reduceEq, reduceIte, reduceCtorEq, da, int, boolA, RetE_go, resT, resC, resN, retV0]
      rw [hx_nil, List.map_append, ← List.append_assoc]
      rw [hx_nil] at k2
      exact ⟨p2, (Kp.hx K _).trans (k1.trans k2)⟩
/-- The pieces, as the program tells them. -/
def encP (l : List (Bytes × NodeM)) : AV := .lst (l.map partC)
theorem s21 (g : Int) (n : NodeM) (hn : okN n) (h1 : n.items.length ≤ 1000) (h2 : n.kids.length ≤ 1000) (H : Heap) :
    callL ft (.fn (.func 21) [] []) [int g, .agg (nodeC n)] H = some (encP (partsM g (roomsM g n).length [] n), H) := by
  refine call_p (as' := [int g, .agg (nodeC n)]) rfl rfl (by simp) ?_
  unfold c21 r21
  simp only [↓vp, vq0, vq1, vq2, vq3, vr0, vr1, vr2, vr3, vr4, vr5, vr6, vr7, vr8, vr9, vr10, vr11, vr12, vr13, vr14, vr15, vr16, vr17, vr18, vr19, vr20, vr21, vr22, vr23, vr24, vr25, vr26, vr27, vr28, vr29, vr30, vr31, vr32, vr33, vr34, opS, fpS, okP, pack, nAl, allocA, shId, leaves, fillA, fillR, splice, Nat.reduceLT, Nat.reduceEqDiff, Nat.reduceLeDiff, Nat.reduceAdd, Nat.reduceSub, Nat.reduceMul, Int.reduceBEq, Int.reduceBNe, Int.reduceLT, Int.reduceLE, Int.reduceEq, reduceIte, reduceCtorEq, da, int, boolA, nodeC]
  have hp : PSt g (hx Heap.empty [.box false [int g], .box false (nodeC n), .box false [.sc (.slice none 0 0)], .box false [cutF]]) [] := ⟨rfl, rfl, _, rfl, .inl ⟨rfl, rfl⟩⟩
  have hl := rooms_len g h1 h2
  refine KW_ex (sCut g (roomsM g n).length [] (.sc (.slice none 0 0)) n _ [] hn h1 h2 (Nat.le_refl _) rfl (fun _ _ => rfl) hp (by simp; omega)) fun K1 hk1 => ?_
  obtain ⟨p1, _⟩ := hk1
  obtain ⟨S, hS, hR⟩ := p1.out
  have q2 := fun L => get_old hS L
  rw [← hx_nil K1]
  obtain ⟨K', hK'⟩ := frz_rep (L := []) (by rw [hx_nil]; exact hR) 23
  simp only [↓vp, vq0, vq1, vq2, vq3, vr0, vr1, vr2, vr3, vr4, vr5, vr6, vr7, vr8, vr9, vr10, vr11, vr12, vr13, vr14, vr15, vr16, vr17, vr18, vr19, vr20, vr21, vr22, vr23, vr24, vr25, vr26, vr27, vr28, vr29, vr30, vr31, vr32, vr33, vr34, opS, fpS, okP, pack, nAl, allocA, shId, leaves, fillA, fillR, splice, Nat.reduceLT, Nat.reduceEqDiff, Nat.reduceLeDiff, Nat.reduceAdd, Nat.reduceSub, Nat.reduceMul, Int.reduceBEq, Int.reduceBNe, Int.reduceLT, Int.reduceLE, Int.reduceEq, reduceIte, reduceCtorEq, da, int, boolA, RetP_go, resT, resC, resN, retV1, retV2, retV3, retV0, frzFZ, takeM, Option.some.injEq, q2, hK']
  rfl
end Go.VI

set_option linter.unusedVariables false
set_option linter.unusedSimpArgs false
set_option maxRecDepth 100000
namespace Go.VI
attribute [local congr] AW_congr OW_congr DW_congr NW_congr VW_congr GW_congr PW_congr KW_congr ite_congr' GV_congr CV_congr
def RetX (rs : List ARes) (P : AV → Heap → Prop) (x : AExit) (e : Env) (H : Heap) : Prop := leaves x = true ∧ ∃ R, resultsA H e rs = some R ∧ P R H
theorem call_oX {ft : FT} {k : FuncId} {first caps args : List AV} {H : Heap} {n : Nat} {rs : List ARes} {body : ACode} {P : AV → Heap → Prop} (hk : ft k = some (.go false n rs body)) (hl : (first ++ args ++ caps).length ≤ n)
    (h : AW ft body (mkE n (ofL (first ++ args ++ caps))) (hx H []) (RetX rs P)) : KW ft (.fn (.func k) first caps) args H P := by
  obtain ⟨x, e', Hc, h1, hx_, R, h2, h3⟩ := h
  exact ⟨R, Hc, call_o hk hl ⟨x, e', Hc, h1, hx_, h2, rfl⟩, h3⟩
theorem KW_mono {ft : FT} {f : AV} {args : List AV} {H : Heap} {P Q : AV → Heap → Prop} (h : KW ft f args H P) (hq : ∀ v H', P v H' → Q v H') : KW ft f args H Q := by
  obtain ⟨v, H', h1, h2⟩ := h
  exact ⟨v, H', h1, hq _ _ h2⟩
theorem RetX1 {t n : Nat} {f : Nat → AV} {P : AV → Heap → Prop} {x : AExit} {H : Heap} (hx : leaves x = true) (ht : t < n) : RetX [.tmp t] P x (mkE n f) H ↔ P (f t) H := by
  unfold RetX resultsA
  rw [resT, resN, if_pos ht]
  simp [hx]
theorem rowsOf_rep {H : Heap} {sz : Nat} {S : AV} {rows : List (List AV)} (h : Rep H sz S rows) : rowsOf (hx H []) S = some rows := by
  rcases h with ⟨rfl, rfl⟩ | ⟨id, rfl, h⟩
  · rfl
  · rw [rowsOf_sl, hx_nil, h]
    simp
theorem lDoc (g : Int) (n : NodeM) (hn : okN n) (h1 : n.items.length ≤ 1000) (h2 : n.kids.length ≤ 1000) (K : Heap) {Q : AExit → Env → Heap → Prop} {kv : AV} {e0 : Nat}
   (hex : ∀ f', f' 8 = int (docAt (roomM g n) (roomsM g n) e0 1) → f' 0 = int g → f' 1 = kv → f' 5 = .ptr K.next 0 0 → f' 7 = int (roomsM g n).length → Q (.exit 0) (mkE 69 f') (hx K [.box false (nodeC n)])) :
   ∀ (d k : Nat) (f : Nat → AV), 1 ≤ k → k ≤ (roomsM g n).length → (roomsM g n).length ≤ k + d + 1 → docAt (roomM g n) (roomsM g n) e0 1 = docAt (roomM g n) (roomsM g n) d k → f 0 = int g → f 1 = kv → f 5 = .ptr K.next 0 0 → f 7 = int (roomsM g n).length → f 8 = int k →
    AW ft (.loop c22L0) (mkE 69 f) (hx K [.box false (nodeC n)]) Q := by
  intro d
  have hlen := rooms_len g h1 h2
  have hsm := rooms_small g hn
  have w1 : IntKind.i64.wrap (((roomsM g n).length : Int) - 1) = ((roomsM g n).length : Int) - 1 := wrap_i64 (by omega)
  have kT := fun K L Q => @k33 g n hn h1 h2 (roomsM g n).length (Nat.le_refl _) K L Q
  rw [List.take_length] at kT
  have hT : sumZ (roomsM g n) = roomM g n := rfl
  rw [hT] at kT
  have pR : ∀ (v : AV) (m : Nat), v = .agg (nodeC n) → pureV ft (.fn (.func 33) [] []) [.sc (.int .i64 g), v, .sc (.int .i64 (m : Int))] = some (false, []) := fun v m e => by subst e; rfl
  have pR := fun m => pR _ m rfl
  have stop : ∀ (k : Nat) (f : Nat → AV), ¬ (k < (roomsM g n).length - 1 ∧ 2 * sumZ ((roomsM g n).take k) < roomM g n) → 1 ≤ k → k ≤ (roomsM g n).length → docAt (roomM g n) (roomsM g n) e0 1 = k → f 0 = int g → f 1 = kv → f 5 = .ptr K.next 0 0 → f 7 = int (roomsM g n).length → f 8 = int k →
      AW ft (.loop c22L0) (mkE 69 f) (hx K [.box false (nodeC n)]) Q := by
    intro k f hc k1 k2 hd q0 q1 q5 q7 q8
    rw [AW_loop]
    unfold c22L0
    by_cases c1 : k < (roomsM g n).length - 1
    · have g1 : ((k : Int) < ((roomsM g n).length : Int) - 1) = True := eq_true (by omega)
      have g2 : (2 * sumZ ((roomsM g n).take k) < roomM g n) = False := eq_false fun h => hc ⟨c1, h⟩
      have kk := fun K L Q => @k33 g n hn h1 h2 k k2 K L Q
      have sm := sumZ_small (hsm.take k)
      have w3 : IntKind.i64.wrap (2 * sumZ ((roomsM g n).take k)) = 2 * sumZ ((roomsM g n).take k) := by
        rw [List.length_take] at sm
        rw [wrap_i64 (by omega)]
      simp only [nodeC, int, boolA] at kk kT pR
      simp only [↓vp, vq0, vq1, vq2, vq3, vr0, vr1, vr2, vr3, vr4, vr5, vr6, vr7, vr8, vr9, vr10, vr11, vr12, vr13, vr14, vr15, vr16, vr17, vr18, vr19, vr20, vr21, vr22, vr23, vr24, vr25, vr26, vr27, vr28, vr29, vr30, vr31, vr32, vr33, vr34, opS, fpS, okP, pack, nAl, allocA, shId, leaves, fillA, fillR, splice, Nat.reduceLT, Nat.reduceEqDiff, Nat.reduceLeDiff, Nat.reduceAdd, Nat.reduceSub, Nat.reduceMul, Int.reduceBEq, Int.reduceBNe, Int.reduceLT, Int.reduceLE, Int.reduceEq, reduceIte, reduceCtorEq, da, int, boolA, q0, q1, q5, q7, q8, w1, w3, g1, g2, nodeC, kk, kT, pR]
      refine hex _ ?_ ?_ ?_ ?_ ?_ <;> simp only [↓vp, vq0, vq1, vq2, vq3, vr0, vr1, vr2, vr3, vr4, vr5, vr6, vr7, vr8, vr9, vr10, vr11, vr12, vr13, vr14, vr15, vr16, vr17, vr18, vr19, vr20, vr21, vr22, vr23, vr24, vr25, vr26, vr27, vr28, vr29, vr30, vr31, vr32, vr33, vr34, opS, fpS, okP, pack, nAl, allocA, shId, leaves, fillA, fillR, splice, Nat.reduceLT, Nat.reduceEqDiff, Nat.reduceLeDiff, Nat.reduceAdd, Nat.reduceSub, Nat.reduceMul, Int.reduceBEq, Int.reduceBNe, Int.reduceLT, Int.reduceLE, Int.reduceEq, reduceIte, reduceCtorEq, da, int, boolA, q0, q1, q5, q7, q8, hd]
    · have g1 : ((k : Int) < ((roomsM g n).length : Int) - 1) = False := eq_false (by omega)
      simp only [↓vp, vq0, vq1, vq2, vq3, vr0, vr1, vr2, vr3, vr4, vr5, vr6, vr7, vr8, vr9, vr10, vr11, vr12, vr13, vr14, vr15, vr16, vr17, vr18, vr19, vr20, vr21, vr22, vr23, vr24, vr25, vr26, vr27, vr28, vr29, vr30, vr31, vr32, vr33, vr34, opS, fpS, okP, pack, nAl, allocA, shId, leaves, fillA, fillR, splice, Nat.reduceLT, Nat.reduceEqDiff, Nat.reduceLeDiff, Nat.reduceAdd, Nat.reduceSub, Nat.reduceMul, Int.reduceBEq, Int.reduceBNe, Int.reduceLT, Int.reduceLE, Int.reduceEq, reduceIte, reduceCtorEq, da, int, boolA, q0, q1, q5, q7, q8, w1, g1, nodeC]
      refine hex _ ?_ ?_ ?_ ?_ ?_ <;> simp only [↓vp, vq0, vq1, vq2, vq3, vr0, vr1, vr2, vr3, vr4, vr5, vr6, vr7, vr8, vr9, vr10, vr11, vr12, vr13, vr14, vr15, vr16, vr17, vr18, vr19, vr20, vr21, vr22, vr23, vr24, vr25, vr26, vr27, vr28, vr29, vr30, vr31, vr32, vr33, vr34, opS, fpS, okP, pack, nAl, allocA, shId, leaves, fillA, fillR, splice, Nat.reduceLT, Nat.reduceEqDiff, Nat.reduceLeDiff, Nat.reduceAdd, Nat.reduceSub, Nat.reduceMul, Int.reduceBEq, Int.reduceBNe, Int.reduceLT, Int.reduceLE, Int.reduceEq, reduceIte, reduceCtorEq, da, int, boolA, q0, q1, q5, q7, q8, hd]
  induction d with
  | zero =>
    intro k f k1 k2 hd hc q0 q1 q5 q7 q8
    exact stop k f (by omega) k1 k2 hc q0 q1 q5 q7 q8
  | succ d ih =>
    intro k f k1 k2 hd hc q0 q1 q5 q7 q8
    unfold docAt at hc
    by_cases c : k < (roomsM g n).length - 1 ∧ 2 * sumZ ((roomsM g n).take k) < roomM g n
    · have hc' : docAt (roomM g n) (roomsM g n) e0 1 = docAt (roomM g n) (roomsM g n) d (k + 1) := by
        have := hc
        rw [if_pos c] at this
        cases e0 <;> exact this
      rw [AW_loop]
      unfold c22L0
      have g1 : ((k : Int) < ((roomsM g n).length : Int) - 1) = True := eq_true (by omega)
      have g2 : (2 * sumZ ((roomsM g n).take k) < roomM g n) = True := eq_true c.2
      have kk := fun K L Q => @k33 g n hn h1 h2 k k2 K L Q
      have sm := sumZ_small (hsm.take k)
      have w2 := wrap_succ (show k < 9223372036854775807 by omega)
      have w3 : IntKind.i64.wrap (2 * sumZ ((roomsM g n).take k)) = 2 * sumZ ((roomsM g n).take k) := by
        rw [List.length_take] at sm
        rw [wrap_i64 (by omega)]
      simp only [nodeC, int, boolA] at kk kT pR
      simp only [↓vp, vq0, vq1, vq2, vq3, vr0, vr1, vr2, vr3, vr4, vr5, vr6, vr7, vr8, vr9, vr10, vr11, vr12, vr13, vr14, vr15, vr16, vr17, vr18, vr19, vr20, vr21, vr22, vr23, vr24, vr25, vr26, vr27, vr28, vr29, vr30, vr31, vr32, vr33, vr34, opS, fpS, okP, pack, nAl, allocA, shId, leaves, fillA, fillR, splice, Nat.reduceLT, Nat.reduceEqDiff, Nat.reduceLeDiff, Nat.reduceAdd, Nat.reduceSub, Nat.reduceMul, Int.reduceBEq, Int.reduceBNe, Int.reduceLT, Int.reduceLE, Int.reduceEq, reduceIte, reduceCtorEq, da, int, boolA, q0, q1, q5, q7, q8, w1, w2, w3, g1, g2, nodeC, kk, kT, pR]
      refine ih (k + 1) _ (by omega) (by omega) (by omega) hc' ?_ ?_ ?_ ?_ ?_ <;> simp only [↓vp, vq0, vq1, vq2, vq3, vr0, vr1, vr2, vr3, vr4, vr5, vr6, vr7, vr8, vr9, vr10, vr11, vr12, vr13, vr14, vr15, vr16, vr17, vr18, vr19, vr20, vr21, vr22, vr23, vr24, vr25, vr26, vr27, vr28, vr29, vr30, vr31, vr32, vr33, vr34, opS, fpS, okP, pack, nAl, allocA, shId, leaves, fillA, fillR, splice, Nat.reduceLT, Nat.reduceEqDiff, Nat.reduceLeDiff, Nat.reduceAdd, Nat.reduceSub, Nat.reduceMul, Int.reduceBEq, Int.reduceBNe, Int.reduceLT, Int.reduceLE, Int.reduceEq, reduceIte, reduceCtorEq, da, int, boolA, q0, q1, q5, q7, q8]
    · refine stop k f c k1 k2 ?_ q0 q1 q5 q7 q8
      rw [if_neg c] at hc
      cases e0 <;> exact hc
/-- What the document's way leaves behind. -/
def DocPost (g : Int) (d : Nat) (key : Bytes) (n : NodeM) (K : Heap) (S : AV) (K' : Heap) : Prop := RepB K.next K' 4 S ((partsM g d key n).map partC) ∧ Stay K.next K K'
theorem doc_join {K H1 H2 : Heap} {b0 : Blk} {S1 S2 : AV} {rows1 rows2 : List (List AV)} (u1 : RepB (hx K [b0, .dead]).next H1 4 S1 rows1) (u2 : Stay (hx K [b0, .dead]).next (hx K [b0, .dead]) H1)
    (v1 : RepB (hx H1 []).next H2 4 S2 rows2) (v2 : Stay (hx H1 []).next (hx H1 []) H2) (l1 : rows1.length ≤ 2000) (l2 : rows2.length ≤ 2000) (hne : rows2 ≠ []) (hsz : allSz 4 rows2 = true) :
    rowsOf (hx H2 []) S2 = some rows2 ∧ ∃ H3, appA (K.next + 1) (hx H2 []) 4 80 S1 rows2 = some (.sl (K.next + 1) 0 (rows1.length + rows2.length), hx H3 []) ∧
    RepB K.next (hx H3 []) 4 (.sl (K.next + 1) 0 (rows1.length + rows2.length)) (rows1 ++ rows2) ∧ Stay K.next K (hx H3 []) := by
  rw [hx_nil] at v1 v2
  have nx : (hx K [b0, .dead]).next = K.next + 2 := by rw [hx_next]; rfl
  have hR : RepB (hx K [b0, .dead]).next H2 4 S1 rows1 := u1.mono fun id _ hg => by rw [v2.2 id (Heap.get_lt hg)]; exact hg
  have hn1 : K.next + 2 ≤ H1.next := by have := u2.1; omega
  have hn2 : H1.next ≤ H2.next := v2.1
  have hk : (hx (kill H2 S1) []).next = H2.next := by rw [hx_nil, kill_next]
  refine ⟨rowsOf_rep v1.rep, (hx (kill H2 S1) []).put (K.next + 1) (.row false 4 (rows1 ++ rows2)), by rw [appA_rep hR.rep hne hsz (by omega) [], hx_nil ((hx (kill H2 S1) []).put _ _)], .inr ⟨K.next + 1, by omega, by simp, ?_⟩, ?_, fun j hj => ?_⟩
  · rw [hx_nil, Heap.get_put_self _ (by rw [hk]; omega)]
  · rw [hx_nil]; exact Nat.le_trans (by rw [hk]; omega) (Heap.next_put_le _ _ _)
  · rw [hx_nil, Heap.get_put_ne _ (by rw [hk]; omega) (by omega), hx_nil, (hR.kill).2 j (by rw [nx]; omega), v2.2 j (by omega), u2.2 j (by rw [nx]; omega), hx_get_old _ _ _ hj]
theorem doc_one {g : Int} {d : Nat} {key : Bytes} {n : NodeM} {K : Heap} (hc : (fitsM g n || decide ((roomsM g n).length < 2)) = true) (b : Blk) : DocPost g d key n K (.sl (K.next + 1) 0 1) (hx K [b, .row false 4 [[encB key, .sc (.bool n.leaf), encI n.items, encK n.kids]]]) := by
  have e : partsM g d key n = [(key, n)] := by
    cases d with
    | zero => rfl
    | succ d => unfold partsM; rw [hc, if_pos rfl]
  unfold DocPost
  rw [e]
  refine ⟨.inr ⟨K.next + 1, by omega, rfl, hx_get K _ 1⟩, .hx _ (Nat.le_refl _)⟩
theorem sDoc1 (g : Int) (d : Nat) (key : Bytes) (kv : AV) (n : NodeM) (K : Heap) (hn : okN n) (h1 : n.items.length ≤ 1000) (h2 : n.kids.length ≤ 1000) (hc : (fitsM g n || decide ((roomsM g n).length < 2)) = true) (ho : kv.one = true) (hf : ∀ j H, frz (j + 1) H kv = some (encB key, H)) :
    KW ft (.fn (.func 22) [] []) [int g, kv, .agg (nodeC n)] K (DocPost g d key n K) := by
  refine call_oX rfl (by simp) ?_
  unfold c22 r22
  have hcl : kv.cells = [kv] := by cases kv <;> first | rfl | cases ho
  have kM := fun K L Q => @k34 n K L Q
  have kF := fun K L Q => @k86 g n hn h1 h2 K L Q
  simp only [many_rooms g n] at kM
  have hlen := rooms_len g h1 h2
  simp only [nodeC, int, boolA] at kM kF
  cases hfit : fitsM g n with
  | true =>
    rw [hfit] at kF
    simp only [↓vp, vq0, vq1, vq2, vq3, vr0, vr1, vr2, vr3, vr4, vr5, vr6, vr7, vr8, vr9, vr10, vr11, vr12, vr13, vr14, vr15, vr16, vr17, vr18, vr19, vr20, vr21, vr22, vr23, vr24, vr25, vr26, vr27, vr28, vr29, vr30, vr31, vr32, vr33, vr34, opS, fpS, okP, pack, nAl, allocA, shId, leaves, fillA, fillR, splice, Nat.reduceLT, Nat.reduceEqDiff, Nat.reduceLeDiff, Nat.reduceAdd, Nat.reduceSub, Nat.reduceMul, Int.reduceBEq, Int.reduceBNe, Int.reduceLT, Int.reduceLE, Int.reduceEq, reduceIte, reduceCtorEq, da, int, boolA, nodeC, kM, kF]
    simp only [↓vp, vq0, vq1, vq2, vq3, vr0, vr1, vr2, vr3, vr4, vr5, vr6, vr7, vr8, vr9, vr10, vr11, vr12, vr13, vr14, vr15, vr16, vr17, vr18, vr19, vr20, vr21, vr22, vr23, vr24, vr25, vr26, vr27, vr28, vr29, vr30, vr31, vr32, vr33, vr34, opS, fpS, okP, pack, nAl, allocA, shId, leaves, fillA, fillR, splice, Nat.reduceLT, Nat.reduceEqDiff, Nat.reduceLeDiff, Nat.reduceAdd, Nat.reduceSub, Nat.reduceMul, Int.reduceBEq, Int.reduceBNe, Int.reduceLT, Int.reduceLE, Int.reduceEq, reduceIte, reduceCtorEq, da, int, boolA, nodeC, kM, kF, hcl, ho, hf]
    rw [RetX1 rfl (by decide)]
    simp only [↓vp, vq0, vq1, vq2, vq3, vr0, vr1, vr2, vr3, vr4, vr5, vr6, vr7, vr8, vr9, vr10, vr11, vr12, vr13, vr14, vr15, vr16, vr17, vr18, vr19, vr20, vr21, vr22, vr23, vr24, vr25, vr26, vr27, vr28, vr29, vr30, vr31, vr32, vr33, vr34, opS, fpS, okP, pack, nAl, allocA, shId, leaves, fillA, fillR, splice, Nat.reduceLT, Nat.reduceEqDiff, Nat.reduceLeDiff, Nat.reduceAdd, Nat.reduceSub, Nat.reduceMul, Int.reduceBEq, Int.reduceBNe, Int.reduceLT, Int.reduceLE, Int.reduceEq, reduceIte, reduceCtorEq]
    exact doc_one hc _
  | false =>
    rw [hfit] at kF
    have hlt : (roomsM g n).length < 2 := by rw [hfit] at hc; simpa using hc
    have g1 : (((roomsM g n).length : Int) < 2) = True := eq_true (by omega)
    simp only [↓vp, vq0, vq1, vq2, vq3, vr0, vr1, vr2, vr3, vr4, vr5, vr6, vr7, vr8, vr9, vr10, vr11, vr12, vr13, vr14, vr15, vr16, vr17, vr18, vr19, vr20, vr21, vr22, vr23, vr24, vr25, vr26, vr27, vr28, vr29, vr30, vr31, vr32, vr33, vr34, opS, fpS, okP, pack, nAl, allocA, shId, leaves, fillA, fillR, splice, Nat.reduceLT, Nat.reduceEqDiff, Nat.reduceLeDiff, Nat.reduceAdd, Nat.reduceSub, Nat.reduceMul, Int.reduceBEq, Int.reduceBNe, Int.reduceLT, Int.reduceLE, Int.reduceEq, reduceIte, reduceCtorEq, da, int, boolA, nodeC, kM, kF, g1]
    simp only [↓vp, vq0, vq1, vq2, vq3, vr0, vr1, vr2, vr3, vr4, vr5, vr6, vr7, vr8, vr9, vr10, vr11, vr12, vr13, vr14, vr15, vr16, vr17, vr18, vr19, vr20, vr21, vr22, vr23, vr24, vr25, vr26, vr27, vr28, vr29, vr30, vr31, vr32, vr33, vr34, opS, fpS, okP, pack, nAl, allocA, shId, leaves, fillA, fillR, splice, Nat.reduceLT, Nat.reduceEqDiff, Nat.reduceLeDiff, Nat.reduceAdd, Nat.reduceSub, Nat.reduceMul, Int.reduceBEq, Int.reduceBNe, Int.reduceLT, Int.reduceLE, Int.reduceEq, reduceIte, reduceCtorEq, da, int, boolA, nodeC, kM, kF, hcl, ho, hf]
    rw [RetX1 rfl (by decide)]
    simp only [↓vp, vq0, vq1, vq2, vq3, vr0, vr1, vr2, vr3, vr4, vr5, vr6, vr7, vr8, vr9, vr10, vr11, vr12, vr13, vr14, vr15, vr16, vr17, vr18, vr19, vr20, vr21, vr22, vr23, vr24, vr25, vr26, vr27, vr28, vr29, vr30, vr31, vr32, vr33, vr34, opS, fpS, okP, pack, nAl, allocA, shId, leaves, fillA, fillR, splice, Nat.reduceLT, Nat.reduceEqDiff, Nat.reduceLeDiff, Nat.reduceAdd, Nat.reduceSub, Nat.reduceMul, Int.reduceBEq, Int.reduceBNe, Int.reduceLT, Int.reduceLE, Int.reduceEq, reduceIte, reduceCtorEq]
    exact doc_one hc _
theorem sDoc (g : Int) : ∀ (d : Nat) (key : Bytes) (kv : AV) (n : NodeM) (K : Heap), okN n → n.items.length ≤ 1000 → n.kids.length ≤ 1000 → (roomsM g n).length ≤ d → kv.one = true → (∀ j H, frz (j + 1) H kv = some (encB key, H)) →
    KW ft (.fn (.func 22) [] []) [int g, kv, .agg (nodeC n)] K (DocPost g d key n K) := by
  intro d
  induction d with
  | zero =>
    intro key kv n K hn h1 h2 hd ho hf
    exact sDoc1 g 0 key kv n K hn h1 h2 (by simp; right; omega) ho hf
  | succ d ih =>
    intro key kv n K hn h1 h2 hd ho hf
    cases hc : fitsM g n || decide ((roomsM g n).length < 2) with
    | true => exact sDoc1 g _ key kv n K hn h1 h2 hc ho hf
    | false =>
      have hfit : fitsM g n = false := by simp at hc; exact hc.1
      have hlt : ¬ (roomsM g n).length < 2 := by simp at hc; omega
      refine call_oX rfl (by simp) ?_
      unfold c22 r22
      have hcl : kv.cells = [kv] := by cases kv <;> first | rfl | cases ho
      have kM := fun K L Q => @k34 n K L Q
      have kF := fun K L Q => @k86 g n hn h1 h2 K L Q
      simp only [many_rooms g n] at kM
      have hlen := rooms_len g h1 h2
      simp only [nodeC, int, boolA] at kM kF
      rw [hfit] at kF
      · have g1 : (((roomsM g n).length : Int) < 2) = False := eq_false (by omega)
        simp only [↓vp, vq0, vq1, vq2, vq3, vr0, vr1, vr2, vr3, vr4, vr5, vr6, vr7, vr8, vr9, vr10, vr11, vr12, vr13, vr14, vr15, vr16, vr17, vr18, vr19, vr20, vr21, vr22, vr23, vr24, vr25, vr26, vr27, vr28, vr29, vr30, vr31, vr32, vr33, vr34, opS, fpS, okP, pack, nAl, allocA, shId, leaves, fillA, fillR, splice, Nat.reduceLT, Nat.reduceEqDiff, Nat.reduceLeDiff, Nat.reduceAdd, Nat.reduceSub, Nat.reduceMul, Int.reduceBEq, Int.reduceBNe, Int.reduceLT, Int.reduceLE, Int.reduceEq, reduceIte, reduceCtorEq, da, int, boolA, nodeC, kM, kF, g1]
        refine lDoc g n hn h1 h2 K (kv := kv) (e0 := (roomsM g n).length) (fun f' q8 q0 q1 q5 q7 => ?_) (roomsM g n).length 1 _ (Nat.le_refl _) (by omega) (by omega) rfl ?_ ?_ ?_ ?_ ?_
        · rw [docAt_eq g n (by omega) (Nat.le_refl _)] at q8
          obtain ⟨b1, b2⟩ := atM_bound g n (by omega)
          obtain ⟨o1, o2, o3⟩ := okN_cut hn (atM g n)
          obtain ⟨l1, l2, l3, l4⟩ := cut_lens (n := n) (k := atM g n) h1 h2
          have r1 := rooms_cut_l g n (atM g n)
          have r2 := rooms_cut_r g n (atM g n)
          have e1 := slice_l n (atM g n)
          have e2 := slice_r n (atM g n) (by omega)
          have e3 : (manyN n).toNat = (roomsM g n).length := by rw [many_rooms g n]; simp
          have kS1 := fun K L Q => @k87 n h1 h2 0 (atM g n) (by omega) (by rw [many_rooms g n]; omega) K L Q
          have kS2 := fun K L Q => @k87 n h1 h2 (atM g n) (roomsM g n).length (by omega) (by rw [many_rooms g n]; omega) K L Q
          rw [e3] at e2
          have e4 : (cutM n (atM g n)).2.2 = (if n.leaf then ((n.items[atM g n]?).map (·.key)).getD [] else ((n.kids[atM g n]?).map (·.key)).getD []) := by unfold cutM; split <;> rfl
          simp only [e1, e2, Int.natCast_zero] at kS1 kS2
          unfold c22R1 DocPost partsM
          rw [hfit, Bool.false_or, if_neg (by simpa using hlt)]
          generalize cutM n (atM g n) = cc at *
          obtain ⟨a, b, kk⟩ := cc
          simp only at o1 o2 o3 l1 l2 l3 l4 r1 r2 e4
          have pS1 : ∀ v : AV, v = .agg (nodeC n) → pureV ft (.fn (.func 87) [] []) [v, .sc (.int .i64 0), .sc (.int .i64 (atM g n : Int))] = some (false, []) := fun v e => by subst e; rfl
          have pS1 := pS1 _ rfl
          have pS2 : pureV ft (.fn (.func 22) [] []) = fun _ => none := rfl
          cases hl : n.leaf with
          | true =>
            have b3 := b2
            rw [rooms_count g n] at b2
            unfold countM at b2
            rw [hl] at b2 e4
            simp only [if_true] at b2 e4
            rw [List.getElem?_eq_getElem b2] at e4
            simp only [Option.map_some, Option.getD_some] at e4
            subst e4
            simp only [nodeC, int, boolA, hl] at kS1 kS2 pS1
            simp only [↓vp, vq0, vq1, vq2, vq3, vr0, vr1, vr2, vr3, vr4, vr5, vr6, vr7, vr8, vr9, vr10, vr11, vr12, vr13, vr14, vr15, vr16, vr17, vr18, vr19, vr20, vr21, vr22, vr23, vr24, vr25, vr26, vr27, vr28, vr29, vr30, vr31, vr32, vr33, vr34, opS, fpS, okP, pack, nAl, allocA, shId, leaves, fillA, fillR, splice, Nat.reduceLT, Nat.reduceEqDiff, Nat.reduceLeDiff, Nat.reduceAdd, Nat.reduceSub, Nat.reduceMul, Int.reduceBEq, Int.reduceBNe, Int.reduceLT, Int.reduceLE, Int.reduceEq, reduceIte, reduceCtorEq, da, int, boolA, nodeC, q0, q1, q5, q7, q8, hl, atI b2, cI b2, itemC, kS1, kS2, pS1, pS2, Int.natCast_zero]
            refine KW_mono (ih key kv a _ o1 l1 l2 (by rw [r1, List.length_take]; omega) ho hf) fun S1 H1 hp1 => ?_
            obtain ⟨u1, u2⟩ := hp1
            have gb : H1.get K.next = some (.box false [.sc (.bool n.leaf), encI n.items, encK n.kids]) := by
              rw [u2.2 K.next (by rw [hx_next]; simp)]
              exact (hx_get0 _ _).trans (by rw [← hl] <;> rfl)
            have gb' := fun L => get_old gb L
            rw [hl] at gb'
            rw [← hx_nil H1]
            simp only [↓vp, vq0, vq1, vq2, vq3, vr0, vr1, vr2, vr3, vr4, vr5, vr6, vr7, vr8, vr9, vr10, vr11, vr12, vr13, vr14, vr15, vr16, vr17, vr18, vr19, vr20, vr21, vr22, vr23, vr24, vr25, vr26, vr27, vr28, vr29, vr30, vr31, vr32, vr33, vr34, opS, fpS, okP, pack, nAl, allocA, shId, leaves, fillA, fillR, splice, Nat.reduceLT, Nat.reduceEqDiff, Nat.reduceLeDiff, Nat.reduceAdd, Nat.reduceSub, Nat.reduceMul, Int.reduceBEq, Int.reduceBNe, Int.reduceLT, Int.reduceLE, Int.reduceEq, reduceIte, reduceCtorEq, da, int, boolA, nodeC, q0, q1, q5, q7, q8, hl, gb', kS1, kS2, pS1, pS2]
            refine KW_mono (ih _ (encB _) b (hx H1 []) o2 l3 l4 (by omega) rfl (fun _ _ => rfl)) fun S2 H2 hp2 => ?_
            obtain ⟨v1, v2⟩ := hp2
            obtain ⟨hrw, H3, hap, hpost⟩ := doc_join (K := K) u1 u2 v1 v2 (Nat.le_trans (by rw [List.length_map]; exact parts_len g d _ a) (by rw [r1, List.length_take]; omega)) (Nat.le_trans (by rw [List.length_map]; exact parts_len g d _ b) (by omega)) (by simpa using parts_ne g d _ b) (by simp [allSz, partC, nodeC])
            rw [← hx_nil H2]
            simp only [↓vp, vq0, vq1, vq2, vq3, vr0, vr1, vr2, vr3, vr4, vr5, vr6, vr7, vr8, vr9, vr10, vr11, vr12, vr13, vr14, vr15, vr16, vr17, vr18, vr19, vr20, vr21, vr22, vr23, vr24, vr25, vr26, vr27, vr28, vr29, vr30, vr31, vr32, vr33, vr34, opS, fpS, okP, pack, nAl, allocA, shId, leaves, fillA, fillR, splice, Nat.reduceLT, Nat.reduceEqDiff, Nat.reduceLeDiff, Nat.reduceAdd, Nat.reduceSub, Nat.reduceMul, Int.reduceBEq, Int.reduceBNe, Int.reduceLT, Int.reduceLE, Int.reduceEq, reduceIte, reduceCtorEq, da, int, boolA, hap, hrw, gb', mkFQ_n, compat_la, sameAt1, Bool.and_eq_true]
            rw [RetX1 rfl (by decide)]
            simp only [↓vp, vq0, vq1, vq2, vq3, vr0, vr1, vr2, vr3, vr4, vr5, vr6, vr7, vr8, vr9, vr10, vr11, vr12, vr13, vr14, vr15, vr16, vr17, vr18, vr19, vr20, vr21, vr22, vr23, vr24, vr25, vr26, vr27, vr28, vr29, vr30, vr31, vr32, vr33, vr34, opS, fpS, okP, pack, nAl, allocA, shId, leaves, fillA, fillR, splice, Nat.reduceLT, Nat.reduceEqDiff, Nat.reduceLeDiff, Nat.reduceAdd, Nat.reduceSub, Nat.reduceMul, Int.reduceBEq, Int.reduceBNe, Int.reduceLT, Int.reduceLE, Int.reduceEq, reduceIte, reduceCtorEq]
            refine ⟨?_, ?_⟩
            · rw [compat_al, sameAt1, gb', hx_get0]
              rfl
            · rw [List.map_append]
              simpa only [List.length_map] using hpost
          | false =>
            have b3 := b2
            rw [rooms_count g n] at b2
            unfold countM at b2
            rw [hl] at b2 e4
            simp only [Bool.false_eq_true, if_false] at b2 e4
            rw [List.getElem?_eq_getElem b2] at e4
            simp only [Option.map_some, Option.getD_some] at e4
            subst e4
            simp only [nodeC, int, boolA, hl] at kS1 kS2 pS1
            simp only [↓vp, vq0, vq1, vq2, vq3, vr0, vr1, vr2, vr3, vr4, vr5, vr6, vr7, vr8, vr9, vr10, vr11, vr12, vr13, vr14, vr15, vr16, vr17, vr18, vr19, vr20, vr21, vr22, vr23, vr24, vr25, vr26, vr27, vr28, vr29, vr30, vr31, vr32, vr33, vr34, opS, fpS, okP, pack, nAl, allocA, shId, leaves, fillA, fillR, splice, Nat.reduceLT, Nat.reduceEqDiff, Nat.reduceLeDiff, Nat.reduceAdd, Nat.reduceSub, Nat.reduceMul, Int.reduceBEq, Int.reduceBNe, Int.reduceLT, Int.reduceLE, Int.reduceEq, reduceIte, reduceCtorEq, da, int, boolA, nodeC, q0, q1, q5, q7, q8, hl, atK b2, cK b2, kidC, kS1, kS2, pS1, pS2, Int.natCast_zero]
            refine KW_mono (ih key kv a _ o1 l1 l2 (by rw [r1, List.length_take]; omega) ho hf) fun S1 H1 hp1 => ?_
            obtain ⟨u1, u2⟩ := hp1
            have gb : H1.get K.next = some (.box false [.sc (.bool n.leaf), encI n.items, encK n.kids]) := by
              rw [u2.2 K.next (by rw [hx_next]; simp)]
              exact (hx_get0 _ _).trans (by rw [← hl] <;> rfl)
            have gb' := fun L => get_old gb L
            rw [hl] at gb'
            rw [← hx_nil H1]
            simp only [↓vp, vq0, vq1, vq2, vq3, vr0, vr1, vr2, vr3, vr4, vr5, vr6, vr7, vr8, vr9, vr10, vr11, vr12, vr13, vr14, vr15, vr16, vr17, vr18, vr19, vr20, vr21, vr22, vr23, vr24, vr25, vr26, vr27, vr28, vr29, vr30, vr31, vr32, vr33, vr34, opS, fpS, okP, pack, nAl, allocA, shId, leaves, fillA, fillR, splice, Nat.reduceLT, Nat.reduceEqDiff, Nat.reduceLeDiff, Nat.reduceAdd, Nat.reduceSub, Nat.reduceMul, Int.reduceBEq, Int.reduceBNe, Int.reduceLT, Int.reduceLE, Int.reduceEq, reduceIte, reduceCtorEq, da, int, boolA, nodeC, q0, q1, q5, q7, q8, hl, gb', kS1, kS2, pS1, pS2]
            refine KW_mono (ih _ (encB _) b (hx H1 []) o2 l3 l4 (by omega) rfl (fun _ _ => rfl)) fun S2 H2 hp2 => ?_
            obtain ⟨v1, v2⟩ := hp2
            obtain ⟨hrw, H3, hap, hpost⟩ := doc_join (K := K) u1 u2 v1 v2 (Nat.le_trans (by rw [List.length_map]; exact parts_len g d _ a) (by rw [r1, List.length_take]; omega)) (Nat.le_trans (by rw [List.length_map]; exact parts_len g d _ b) (by omega)) (by simpa using parts_ne g d _ b) (by simp [allSz, partC, nodeC])
            rw [← hx_nil H2]
            simp only [↓vp, vq0, vq1, vq2, vq3, vr0, vr1, vr2, vr3, vr4, vr5, vr6, vr7, vr8, vr9, vr10, vr11, vr12, vr13, vr14, vr15, vr16, vr17, vr18, vr19, vr20, vr21, vr22, vr23, vr24, vr25, vr26, vr27, vr28, vr29, vr30, vr31, vr32, vr33, vr34, opS, fpS, okP, pack, nAl, allocA, shId, leaves, fillA, fillR, splice, Nat.reduceLT, Nat.reduceEqDiff, Nat.reduceLeDiff, Nat.reduceAdd, Nat.reduceSub, Nat.reduceMul, Int.reduceBEq, Int.reduceBNe, Int.reduceLT, Int.reduceLE, Int.reduceEq, reduceIte, reduceCtorEq, da, int, boolA, hap, hrw, gb', mkFQ_n, compat_la, sameAt1, Bool.and_eq_true]
            rw [RetX1 rfl (by decide)]
            simp only [↓vp, vq0, vq1, vq2, vq3, vr0, vr1, vr2, vr3, vr4, vr5, vr6, vr7, vr8, vr9, vr10, vr11, vr12, vr13, vr14, vr15, vr16, vr17, vr18, vr19, vr20, vr21, vr22, vr23, vr24, vr25, vr26, vr27, vr28, vr29, vr30, vr31, vr32, vr33, vr34, opS, fpS, okP, pack, nAl, allocA, shId, leaves, fillA, fillR, splice, Nat.reduceLT, Nat.reduceEqDiff, Nat.reduceLeDiff, Nat.reduceAdd, Nat.reduceSub, Nat.reduceMul, Int.reduceBEq, Int.reduceBNe, Int.reduceLT, Int.reduceLE, Int.reduceEq, reduceIte, reduceCtorEq]
            refine ⟨?_, ?_⟩
            · rw [compat_al, sameAt1, gb', hx_get0]
              rfl
            · rw [List.map_append]
              simpa only [List.length_map] using hpost
        all_goals first | rfl | (simp only [↓vp, vq0, vq1, vq2, vq3, vr0, vr1, vr2, vr3, vr4, vr5, vr6, vr7, vr8, vr9, vr10, vr11, vr12, vr13, vr14, vr15, vr16, vr17, vr18, vr19, vr20, vr21, vr22, vr23, vr24, vr25, vr26, vr27, vr28, vr29, vr30, vr31, vr32, vr33, vr34, opS, fpS, okP, pack, nAl, allocA, shId, leaves, fillA, fillR, splice, Nat.reduceLT, Nat.reduceEqDiff, Nat.reduceLeDiff, Nat.reduceAdd, Nat.reduceSub, Nat.reduceMul, Int.reduceBEq, Int.reduceBNe, Int.reduceLT, Int.reduceLE, Int.reduceEq, reduceIte, reduceCtorEq, da, int, boolA]; done)
end Go.VI

set_option linter.unusedVariables false
set_option linter.unusedSimpArgs false
set_option maxRecDepth 100000
namespace Go.VI
attribute [local congr] AW_congr OW_congr DW_congr NW_congr VW_congr GW_congr PW_congr KW_congr ite_congr' GV_congr CV_congr
theorem call_frz {ft : FT} {k : FuncId} {args as' : List AV} {H H1 H2 : Heap} {v : AV} (hp : isPure ft k = true) (hz : frzCells H args = some (as', H1)) (hz2 : frzCells H1 as' = some (as', H1)) (h : callL ft (.fn (.func k) [] []) as' H1 = some (v, H2)) :
    callL ft (.fn (.func k) [] []) args H = some (v, H2) := by
  rw [callL_fn] at h ⊢
  unfold callF at h ⊢
  simp only [List.nil_append, List.append_nil] at h ⊢
  unfold isPure at hp
  split at hp
  · rename_i p n rs body hk
    subst hp
    simp only [hk, hz, hz2, Option.bind_some] at h ⊢
    exact h
  · rename_i p hk
    simp only [hk, hz, hz2, Option.bind_some] at h ⊢
    exact h
  · cases hp
theorem frz_again : ∀ (n : Nat), (∀ (v v' : AV) (H H1 : Heap), frz n H v = some (v', H1) → ∀ H2, frz n H2 v' = some (v', H2)) ∧ (∀ (cs cs' : List AV) (H H1 : Heap), frz.frzL n H cs = some (cs', H1) → ∀ H2, frz.frzL n H2 cs' = some (cs', H2)) := by
  intro n
  induction n with
  | zero => exact ⟨fun v v' H H1 h => by simp [frz] at h, fun cs cs' H H1 h => by simp [frz.frzL] at h⟩
  | succ n ih =>
    obtain ⟨ih1, ih2⟩ := ih
    refine ⟨fun v v' H H1 h H2 => ?_, fun cs cs' H H1 h H2 => ?_⟩
    · cases v with
      | bad => simp [frz] at h
      | sc v =>
        cases v <;> (cases h; rfl)
      | lst rows => simp only [frz] at h; cases h; rfl
      | pim rows i off => simp only [frz] at h; cases h; rfl
      | agg cs =>
        simp only [frz, Option.map_eq_some_iff] at h
        obtain ⟨⟨a, b⟩, h, h'⟩ := h
        cases h'
        simp only [frz, ih2 _ _ _ _ h H2, Option.map_some]
      | tup cs =>
        simp only [frz, Option.map_eq_some_iff] at h
        obtain ⟨⟨a, b⟩, h, h'⟩ := h
        cases h'
        simp only [frz, ih2 _ _ _ _ h H2, Option.map_some]
      | fn f a b =>
        simp only [frz, Option.bind_eq_bind, Option.bind_eq_some_iff] at h
        obtain ⟨⟨x, K1⟩, hx, ⟨y, K2⟩, hy, h⟩ := h
        cases h
        simp only [frz, Option.bind_eq_bind, ih2 _ _ _ _ hx H2, ih2 _ _ _ _ hy H2, Option.bind_some]
      | sl id off len =>
        simp only [frz] at h
        split at h
        · split at h
          · cases h; rfl
          · cases h
        · cases h
      | ptr id i off =>
        simp only [frz] at h
        split at h
        · cases h; rfl
        · split at h
          · cases h; rfl
          · cases h
        · split at h
          · simp only [Option.bind_eq_bind, Option.bind_eq_some_iff] at h
            obtain ⟨⟨x, H1⟩, hx, h⟩ := h
            split at h
            · cases h; rfl
            · cases h
          · cases h
        · cases h
      | mp id => simp [frz] at h
      | yld id => simp [frz] at h
    · cases cs with
      | nil => simp only [frz.frzL] at h; cases h; rfl
      | cons c cs =>
        simp only [frz.frzL, Option.bind_eq_bind, Option.bind_eq_some_iff] at h
        obtain ⟨⟨x, K1⟩, hx, ⟨y, K2⟩, hy, h⟩ := h
        cases h
        simp only [frz.frzL, Option.bind_eq_bind, ih1 _ _ _ _ hx H2, ih2 _ _ _ _ hy H2, Option.bind_some]
/-- A call whose arguments are finished. -/
def KF (ft : FT) (f : AV) (args : List AV) (H : Heap) (Q : AV → Heap → Prop) : Prop := KW ft f args H Q
theorem KF_congr {ft : FT} {f f' : AV} {args args' : List AV} {H H' : Heap} {K : AV → Heap → Prop} (h1 : f = f') (h2 : args = args') (h3 : H = H') : KF ft f args H K = KF ft f' args' H' K := by rw [h1, h2, h3]
/-- A pure call: its arguments are finished first. -/
theorem KW_pure {ft : FT} {k : FuncId} (hp : isPure ft k = true) {args : List AV} {H : Heap} {Q : AV → Heap → Prop} : KW ft (.fn (.func k) [] []) args H Q ↔ PW (frzCells H args) fun as' H1 => KF ft (.fn (.func k) [] []) as' H1 Q := by
  constructor
  · rintro ⟨v, H2, h, hq⟩
    have h0 := h
    rw [callL_fn] at h
    unfold callF at h
    simp only [List.nil_append, List.append_nil] at h
    have hz : ∃ as' H1, frzCells H args = some (as', H1) := by
      unfold isPure at hp
      split at hp
      · rename_i p n rs body hk
        subst hp
        simp only [hk, Option.bind_eq_some_iff] at h
        obtain ⟨⟨a, b⟩, h, _⟩ := h
        exact ⟨a, b, h⟩
      · rename_i p hk
        simp only [hk, Option.bind_eq_some_iff] at h
        obtain ⟨⟨a, b⟩, h, _⟩ := h
        exact ⟨a, b, h⟩
      · cases hp
    obtain ⟨as', H1, hz⟩ := hz
    refine ⟨as', H1, hz, v, H2, ?_, hq⟩
    have hz2 : frzCells H1 as' = some (as', H1) := (frz_again FZ).2 _ _ _ _ hz H1
    rw [callL_fn]
    unfold callF
    simp only [List.nil_append, List.append_nil]
    unfold isPure at hp
    split at hp
    · rename_i p n rs body hk
      subst hp
      simp only [hk, hz, hz2, Option.bind_some] at h ⊢
      exact h
    · rename_i p hk
      simp only [hk, hz, hz2, Option.bind_some] at h ⊢
      exact h
    · cases hp
  · rintro ⟨as', H1, hz, v, H2, h, hq⟩
    exact ⟨v, H2, call_frz hp hz ((frz_again FZ).2 _ _ _ _ hz H1) h, hq⟩
theorem frz_sl2 {K : Heap} {r1 r2 : List (List AV)} {n1 n2 : Nat} (h1 : n1 = r1.length) (h2 : n2 = r2.length) : frzCells (hx K [.row false 1 r1, .row false 1 r2]) [.sl K.next 0 n1, .sl (K.next + 1) 0 n2] = some ([.lst r1, .lst r2], hx K [.row true 1 r1, .row true 1 r2]) := by
  subst h1
  subst h2
  have e1 : (hx K [.row false 1 r1, .row false 1 r2]).get K.next = some (.row false 1 r1) := hx_get0 _ _
  have e2 : (hx K [.row true 1 r1, .row false 1 r2]).get (K.next + 1) = some (.row false 1 r2) := hx_get _ _ 1
  have e3 : (hx K [.row false 1 r1, .row false 1 r2]).set K.next (.row true 1 r1) = hx K [.row true 1 r1, .row false 1 r2] := hx_set0 _ _ _
  have e4 : (hx K [.row true 1 r1, .row false 1 r2]).set (K.next + 1) (.row true 1 r2) = hx K [.row true 1 r1, .row true 1 r2] := hx_set _ _ _ 1
  rw [frzCells_eq, frzL_cons, frz_sl, e1]
  simp [frzL_cons, frzL_nil, frz_sl, e2, e3, e4]
theorem okI_with {l : List ItemM} {it : ItemM} (h : okI l) (hl : l.length ≤ 1000) (hit : okIt it) : okI (withI l it) ∧ (withI l it).length ≤ l.length + 1 := by
  have hb := bsM_le l it.key
  unfold withI
  split
  · refine ⟨⟨by have := h.n; simpa using this, fun x hx => ?_⟩, by simp⟩
    rcases List.mem_or_eq_of_mem_set hx with hx | rfl
    · exact h.h x hx
    · exact hit
  · refine ⟨⟨?_, fun x hx => ?_⟩, ?_⟩
    · simp only [List.length_append, List.length_cons, List.length_take, List.length_drop]
      unfold MX
      omega
    · rcases List.mem_append.1 hx with hx | hx
      · exact h.h x (List.mem_of_mem_take hx)
      · rcases List.mem_cons.1 hx with rfl | hx
        · exact hit
        · exact h.h x (List.mem_of_mem_drop hx)
    · simp only [List.length_append, List.length_cons, List.length_take, List.length_drop]
      omega
theorem okN_with {n : NodeM} {it : ItemM} (h : okN n) (hl : n.items.length ≤ 1000) (hit : okIt it) : okN (withM n it) := ⟨(okI_with h.i hl hit).1, h.k⟩
def itA (i : Nat) : ItemM := ⟨[97, 98, 99, 100, 48 + (i : Int)], List.replicate 31 0, 0, 0⟩
def nodeA : Nat → NodeM
  | 0 => ⟨true, [], []⟩
  | i + 1 => withM (nodeA i) (itA i)
theorem okB_lit {l : Bytes} (h : byteR l = true) (hl : l.length ≤ 1000) : okB l := ⟨by unfold MX; omega, h⟩
theorem okIt_A {i : Nat} (h : i < 7) : okIt (itA i) := by
  refine ⟨okB_lit ?_ (by simp [itA]), okB_lit rfl (by simp [itA])⟩
  have : ∀ i < 7, byteR (itA i).key = true := by decide
  exact this i h
theorem nodeA_ok : ∀ {i : Nat}, i ≤ 7 → okN (nodeA i) ∧ (nodeA i).items.length ≤ i
  | 0, _ => ⟨⟨okI_nil, okK_nil⟩, Nat.le_refl _⟩
  | i + 1, h => by
    obtain ⟨h1, h2⟩ := nodeA_ok (i := i) (by omega)
    obtain ⟨_, h4⟩ := okI_with h1.i (by omega) (okIt_A (i := i) (by omega))
    exact ⟨okN_with h1 (by omega) (okIt_A (by omega)), by show (withI _ _).length ≤ _; omega⟩
theorem l19 {Q : AExit → Env → Heap → Prop} (hex : ∀ f' K', K'.get 0 = some (.box false (nodeC (nodeA 7))) → f' 1 = .ptr 0 0 0 → Q (.exit 0) (mkE 152 f') (hx K' [])) :
   ∀ (d i : Nat) (K : Heap) (f : Nat → AV) (c2 c3 : AV), i + d = 7 → K.get 0 = some (.box false [boolA true, c2, c3]) → (∀ H, frzCells H [.agg [boolA true, c2, c3], .agg (itemC (itA i))] = some ([.agg (nodeC (nodeA i)), .agg (itemC (itA i))], H)) → (i = 7 → c2 = encI (nodeA 7).items ∧ c3 = encK []) → f 1 = .ptr 0 0 0 → f 11 = int i →
    AW ftX (.loop c19L0) (mkE 152 f) (hx K []) Q := by
  intro d
  induction d with
  | zero =>
    intro i K f c2 c3 hd hK hz h7 q1 q11
    have g1 : ((i : Int) < 7) = False := eq_false (by omega)
    obtain rfl : i = 7 := by omega
    rw [AW_loop]
    unfold c19L0
    simp only [↓vp, vq0, vq1, vq2, vq3, vr0, vr1, vr2, vr3, vr4, vr5, vr6, vr7, vr8, vr9, vr10, vr11, vr12, vr13, vr14, vr15, vr16, vr17, vr18, vr19, vr20, vr21, vr22, vr23, vr24, vr25, vr26, vr27, vr28, vr29, vr30, vr31, vr32, vr33, vr34, opS, fpS, okP, pack, nAl, allocA, shId, leaves, fillA, fillR, splice, Nat.reduceLT, Nat.reduceEqDiff, Nat.reduceLeDiff, Nat.reduceAdd, Nat.reduceSub, Nat.reduceMul, Int.reduceBEq, Int.reduceBNe, Int.reduceLT, Int.reduceLE, Int.reduceEq, reduceIte, reduceCtorEq, da, int, boolA, q1, q11, g1]
    obtain ⟨rfl, rfl⟩ := h7 rfl
    refine hex _ K hK ?_
    simp only [↓vp, vq0, vq1, vq2, vq3, vr0, vr1, vr2, vr3, vr4, vr5, vr6, vr7, vr8, vr9, vr10, vr11, vr12, vr13, vr14, vr15, vr16, vr17, vr18, vr19, vr20, vr21, vr22, vr23, vr24, vr25, vr26, vr27, vr28, vr29, vr30, vr31, vr32, vr33, vr34, opS, fpS, okP, pack, nAl, allocA, shId, leaves, fillA, fillR, splice, Nat.reduceLT, Nat.reduceEqDiff, Nat.reduceLeDiff, Nat.reduceAdd, Nat.reduceSub, Nat.reduceMul, Int.reduceBEq, Int.reduceBNe, Int.reduceLT, Int.reduceLE, Int.reduceEq, reduceIte, reduceCtorEq, da, int, boolA, q1]
  | succ d ih =>
    intro i K f c2 c3 hd hK hz h7 q1 q11
    have g1 : ((i : Int) < 7) = True := eq_true (by omega)
    have w1 := wrap_succ (show i < 9223372036854775807 by omega)
    have w2 : IntKind.i64.wrap (48 + (i : Int)) = 48 + i := wrap_i64 (by omega)
    have w3 : IntKind.u8.wrap (48 + (i : Int)) = 48 + i := by
      have : ∀ i < 7, IntKind.u8.wrap (48 + ((i : Nat) : Int)) = 48 + (i : Int) := by decide
      exact this i (by omega)
    have g3 : ((31 : Int) * ((1 : Nat) : Int) ≤ 140737488355328) = True := eq_true (by omega)
    have sA : sidP [(0, .sc (.int .u8 97)), (1, .sc (.int .u8 98)), (2, .sc (.int .u8 99)), (3, .sc (.int .u8 100)), (4, .sc (.int .u8 (48 + (i : Int))))] = some [] := rfl
    have pO : pureV ftX (.fn (.func 75) [] []) [.sl K.next 0 5, .sl (K.next + 1) 0 31] = some (true, [K.next, K.next + 1]) := rfl
    obtain ⟨o1, o2⟩ := nodeA_ok (i := i) (by omega)
    have kw : ∀ H, callL ftX (.fn (.func 31) [] []) [.agg (nodeC (nodeA i)), .agg (itemC (itA i))] H = some (.agg (nodeC (withM (nodeA i) (itA i))), H) := fun H => call_pprim (as' := [.agg (nodeC (nodeA i)), .agg (itemC (itA i))]) (p := withP) (by unfold ftX; rw [if_pos rfl]) rfl (withP_eq o1 (by omega) (okIt_A (by omega)))
    have q0 := fun L => get_old hK L
    have n0 : 0 < K.next := Heap.get_lt hK
    have qs := fun L b => hx_set_old K L b 0 n0
    have d0 : ∀ i, (0 : Nat) ≠ K.next + i := fun i => by omega
    have d1 : (0 : Nat) ≠ K.next := by omega
    rw [AW_loop]
    unfold c19L0
    simp only [boolA] at q0
    simp only [↓vp, vq0, vq1, vq2, vq3, vr0, vr1, vr2, vr3, vr4, vr5, vr6, vr7, vr8, vr9, vr10, vr11, vr12, vr13, vr14, vr15, vr16, vr17, vr18, vr19, vr20, vr21, vr22, vr23, vr24, vr25, vr26, vr27, vr28, vr29, vr30, vr31, vr32, vr33, vr34, opS, fpS, okP, pack, nAl, allocA, shId, leaves, fillA, fillR, splice, Nat.reduceLT, Nat.reduceEqDiff, Nat.reduceLeDiff, Nat.reduceAdd, Nat.reduceSub, Nat.reduceMul, Int.reduceBEq, Int.reduceBNe, Int.reduceLT, Int.reduceLE, Int.reduceEq, reduceIte, reduceCtorEq, da, int, boolA, q0, q1, q11, g1, w1, w2, w3, g3, sA, pO, Int.reduceToNat, nodeC]
    refine (KW_of (call_frz rfl (frz_sl2 (r1 := (itA i).key.map byteC) (r2 := (itA i).value.map byteC) rfl rfl) rfl (callL_sub ft_sub (s75 (itA i).key (itA i).value (by simp [itA]) (by simp [itA]) _)))).2 ?_
    have ei : (⟨(itA i).key, (itA i).value, 0, 0⟩ : ItemM) = itA i := rfl
    rw [ei]
    simp only [↓vp, vq0, vq1, vq2, vq3, vr0, vr1, vr2, vr3, vr4, vr5, vr6, vr7, vr8, vr9, vr10, vr11, vr12, vr13, vr14, vr15, vr16, vr17, vr18, vr19, vr20, vr21, vr22, vr23, vr24, vr25, vr26, vr27, vr28, vr29, vr30, vr31, vr32, vr33, vr34, opS, fpS, okP, pack, nAl, allocA, shId, leaves, fillA, fillR, splice, Nat.reduceLT, Nat.reduceEqDiff, Nat.reduceLeDiff, Nat.reduceAdd, Nat.reduceSub, Nat.reduceMul, Int.reduceBEq, Int.reduceBNe, Int.reduceLT, Int.reduceLE, Int.reduceEq, reduceIte, reduceCtorEq, da, int, boolA, q0, q1, q11, g1, w1, w2, w3, d0, d1, qs, compat_ll, apt, nin]
    refine (KW_of (call_frz rfl (hz _) rfl (kw _))).2 ?_
    have hn : nodeC (withM (nodeA i) (itA i)) = [.sc (.bool true), encI (nodeA (i + 1)).items, encK []] := by
      have : ∀ i, (nodeA i).leaf = true ∧ (nodeA i).kids = [] := fun i => by
        induction i with
        | zero => exact ⟨rfl, rfl⟩
        | succ i ih => exact ih
      have h1 := this (i + 1)
      show nodeC (nodeA (i + 1)) = _
      simp only [nodeC, h1.1, h1.2]
      rfl
    simp only [↓vp, vq0, vq1, vq2, vq3, vr0, vr1, vr2, vr3, vr4, vr5, vr6, vr7, vr8, vr9, vr10, vr11, vr12, vr13, vr14, vr15, vr16, vr17, vr18, vr19, vr20, vr21, vr22, vr23, vr24, vr25, vr26, vr27, vr28, vr29, vr30, vr31, vr32, vr33, vr34, opS, fpS, okP, pack, nAl, allocA, shId, leaves, fillA, fillR, splice, Nat.reduceLT, Nat.reduceEqDiff, Nat.reduceLeDiff, Nat.reduceAdd, Nat.reduceSub, Nat.reduceMul, Int.reduceBEq, Int.reduceBNe, Int.reduceLT, Int.reduceLE, Int.reduceEq, reduceIte, reduceCtorEq, da, int, boolA, q0, q1, q11, g1, w1, w2, w3, d0, d1, qs, hn, compat_ll, apt, nin]
    refine ⟨rfl, ?_⟩
    rw [← hx_nil (hx _ _)]
    refine ih (i + 1) _ _ (encI (nodeA (i + 1)).items) (encK []) (by omega) ?_ (fun H => ?_) (fun h => by rw [h]; exact ⟨rfl, rfl⟩) ?_ ?_
    · rw [hx_get_old _ _ _ (by rw [Heap.next_set]; exact n0), Heap.get_set_self _ n0]
      rfl
    · rw [show nodeC (nodeA (i + 1)) = [boolA true, encI (nodeA (i + 1)).items, encK []] from hn]
      rfl
    all_goals simp only [↓vp, vq0, vq1, vq2, vq3, vr0, vr1, vr2, vr3, vr4, vr5, vr6, vr7, vr8, vr9, vr10, vr11, vr12, vr13, vr14, vr15, vr16, vr17, vr18, vr19, vr20, vr21, vr22, vr23, vr24, vr25, vr26, vr27, vr28, vr29, vr30, vr31, vr32, vr33, vr34, opS, fpS, okP, pack, nAl, allocA, shId, leaves, fillA, fillR, splice, Nat.reduceLT, Nat.reduceEqDiff, Nat.reduceLeDiff, Nat.reduceAdd, Nat.reduceSub, Nat.reduceMul, Int.reduceBEq, Int.reduceBNe, Int.reduceLT, Int.reduceLE, Int.reduceEq, reduceIte, reduceCtorEq, da, int, boolA, q1]
def itsA : List ItemM := [itA 0, itA 1, itA 2, itA 3, itA 4, itA 5, itA 6]
def a7 : NodeM := ⟨true, [itA 0, itA 1, itA 2, itA 3], []⟩
def b7 : NodeM := ⟨true, [itA 4, itA 5, itA 6], []⟩
def k7 : Bytes := [97, 98, 99, 100, 52]
theorem e7 : nodeA 7 = ⟨true, itsA, []⟩ := by rfl
theorem parts7 : partsM 1 (roomsM 1 (nodeA 7)).length [] (nodeA 7) = [([], a7), (k7, b7)] := by rfl
end Go.VI

set_option linter.unusedVariables false
set_option linter.unusedSimpArgs false
set_option maxRecDepth 100000
namespace Go.VI
attribute [local congr] AW_congr OW_congr DW_congr NW_congr VW_congr GW_congr PW_congr KW_congr ite_congr' GV_congr CV_congr KF_congr
def nb : NodeM := ⟨false, [], [⟨[], 2⟩, ⟨[109], 3⟩]⟩
def PS : List (Bytes × NodeM) := [([], a7), (k7, b7)]
theorem s19 (H : Heap) : callL ftX (.fn (.func 19) [] []) [] H = some (boolA true, H) := by
  refine call_p (as' := []) rfl rfl (by simp) ?_
  unfold c19 r19
  simp only [↓vp, vq0, vq1, vq2, vq3, vr0, vr1, vr2, vr3, vr4, vr5, vr6, vr7, vr8, vr9, vr10, vr11, vr12, vr13, vr14, vr15, vr16, vr17, vr18, vr19, vr20, vr21, vr22, vr23, vr24, vr25, vr26, vr27, vr28, vr29, vr30, vr31, vr32, vr33, vr34, opS, fpS, okP, pack, nAl, allocA, shId, leaves, fillA, fillR, splice, Nat.reduceLT, Nat.reduceEqDiff, Nat.reduceLeDiff, Nat.reduceAdd, Nat.reduceSub, Nat.reduceMul, Int.reduceBEq, Int.reduceBNe, Int.reduceLT, Int.reduceLE, Int.reduceEq, reduceIte, reduceCtorEq, da, int, boolA]
  rw [← hx_nil (hx _ _)]
  refine l19 (fun f' K hK q1 => ?_) 7 0 _ _ _ _ rfl rfl (fun _ => rfl) (fun h => by cases h) ?_ ?_
  · unfold c19R1
    obtain ⟨o7, l7⟩ := nodeA_ok (i := 7) (by omega)
    have n0 : 0 < K.next := Heap.get_lt hK
    rw [e7] at hK
    have q0 := fun L => get_old hK L
    have u1 : 1 ≤ 1000 := by omega
    have kP := fun K L Q => @KW_of ftX _ _ _ Q _ _ (callL_sub ft_sub (s21 1 (nodeA 7) o7 (by omega) (by rw [e7]; simp) (hx K L)))
    have hP : partsM 1 (roomsM 1 (nodeA 7)).length [] (nodeA 7) = PS := parts7
    rw [hP, e7] at kP
    have p76 := fun args K L Q => @KW_pure ftX 76 rfl args (hx K L) Q
    have p77 := fun args K L Q => @KW_pure ftX 77 rfl args (hx K L) Q
    have p32 := fun args K L Q => @KW_pure ftX 32 rfl args (hx K L) Q
    have p78 := fun args K L Q => @KW_pure ftX 78 rfl args (hx K L) Q
    have p79 := fun args K L Q => @KW_pure ftX 79 rfl args (hx K L) Q
    have p81 := fun args K L Q => @KW_pure ftX 81 rfl args (hx K L) Q
    have okn : okN ⟨true, itsA, []⟩ := by rw [← e7]; exact o7
    have okd : okB [97, 98, 99, 100, 51] := okB_lit rfl (by decide)
    have oknb : okN nb := ⟨okI_nil, by unfold MX; decide, fun x hx => by
      simp only [nb, List.mem_cons, List.not_mem_nil, or_false] at hx
      rcases hx with rfl | rfl <;> exact okB_lit rfl (by decide)⟩
    have f1 : bsM itsA [97, 98, 99, 100, 51] = 3 := by rfl
    have f2 : bsIs itsA [97, 98, 99, 100, 51] = true := by rfl
    have f3 : woutM ⟨true, itsA, []⟩ [97, 98, 99, 100, 51] = ⟨true, [itA 0, itA 1, itA 2, itA 4, itA 5, itA 6], []⟩ := by rfl
    have f4 : rightN 2 nb = true := by rfl
    have f5 : lowM 1 nb = true := by rfl
    have f6 : roomM 1 ⟨true, itsA, []⟩ = 280 := by rfl
    have f7 : fitsM 1 ⟨true, itsA, []⟩ = false := by rfl
    have f8 : joinM a7 b7 k7 = ⟨true, itsA, []⟩ := by rfl
    have f9 : sameN ⟨true, itsA, []⟩ ⟨true, itsA, []⟩ = true := by rfl
    have f10 : sideP nb.kids [122] = 1 := by rfl
    have hfind := fun H => callL_sub ft_sub (s76 ⟨true, itsA, []⟩ [97, 98, 99, 100, 51] okn (by decide) okd H)
    have hside := fun H => callL_sub ft_sub (s78 nb [122] oknb (okB_lit rfl (by decide)) H)
    have hright := fun H => callL_sub ft_sub (s79 2 nb oknb (by decide) (by decide) H)
    have hlow := fun H => callL_sub ft_sub (s81 1 nb oknb (by decide) (by decide) H)
    have hroom := fun H => callL_sub ft_sub (s80 1 ⟨true, itsA, []⟩ okn (by decide) (by decide) H)
    have hfits := fun H => callL_sub ft_sub (s26 1 ⟨true, itsA, []⟩ okn (by decide) (by decide) H)
    have hjoin := fun H => callL_sub ft_sub (s27 a7 b7 k7 (by decide) (by decide) (by decide) (by decide) (by decide) H)
    have hsame := fun H => callL_sub ft_sub (s28 ⟨true, itsA, []⟩ ⟨true, itsA, []⟩ okn okn H)
    have hswap := fun H => callL_sub ft_sub (s32 nb 1 1 [⟨[110], 4⟩] (by decide) (by decide) (by decide) (by decide) (args := [.agg (nodeC nb), int 1, int 1, encK [⟨[110], 4⟩]]) (H := H) (H1 := H) rfl)
    have hwout : ∀ H, callL ftX (.fn (.func 77) [] []) [.agg (nodeC ⟨true, itsA, []⟩), encB [97, 98, 99, 100, 51]] H = some (.tup [.agg (nodeC (woutM ⟨true, itsA, []⟩ [97, 98, 99, 100, 51])), boolA (bsIs itsA [97, 98, 99, 100, 51])], H) := fun H =>
      call_pprim (as' := [.agg (nodeC ⟨true, itsA, []⟩), encB [97, 98, 99, 100, 51]]) (p := woutP) (by unfold ftX; rw [if_neg (by decide), if_pos rfl]) rfl (woutP_eq okn (by decide) okd)
    rw [f1, f2] at hfind
    rw [f3, f2] at hwout
    rw [f4] at hright
    rw [f5] at hlow
    rw [f6] at hroom
    rw [f7] at hfits
    rw [f8] at hjoin
    rw [f9] at hsame
    rw [f10] at hside
    let n7 : AV := .agg [.sc (.bool true), encI itsA, encK []]
    have kFind : ∀ K L Q, KF ftX (.fn (.func 76) [] []) [.agg [.sc (.bool true), encI itsA, encK []], .lst [[.sc (.int .u8 97)], [.sc (.int .u8 98)], [.sc (.int .u8 99)], [.sc (.int .u8 100)], [.sc (.int .u8 51)]]] (hx K L) Q ↔ Q (.tup [.sc (.int .i64 3), .sc (.bool true)]) (hx K L) := fun K L Q => KW_of (hfind _)
    have kWout : ∀ K L Q, KF ftX (.fn (.func 77) [] []) [.agg [.sc (.bool true), encI itsA, encK []], .lst [[.sc (.int .u8 97)], [.sc (.int .u8 98)], [.sc (.int .u8 99)], [.sc (.int .u8 100)], [.sc (.int .u8 51)]]] (hx K L) Q ↔ Q (.tup [.agg [.sc (.bool true), encI [itA 0, itA 1, itA 2, itA 4, itA 5, itA 6], encK []], .sc (.bool true)]) (hx K L) := fun K L Q => KW_of (hwout _)
    have kSwap : ∀ K L Q, KF ftX (.fn (.func 32) [] []) [.agg [.sc (.bool false), .lst [], .lst [[.lst [], .sc (.int .i64 2)], [.lst [[.sc (.int .u8 109)]], .sc (.int .i64 3)]]], .sc (.int .i64 1), .sc (.int .i64 1), .lst [[.lst [[.sc (.int .u8 110)]], .sc (.int .i64 4)]]] (hx K L) Q ↔ Q (.agg [.sc (.bool false), .lst [], .lst [[.lst [], .sc (.int .i64 2)], [.lst [[.sc (.int .u8 110)]], .sc (.int .i64 4)]]]) (hx K L) := fun K L Q => KW_of (hswap _)
    have kSide : ∀ K L Q, KF ftX (.fn (.func 78) [] []) [.agg [.sc (.bool false), .lst [], .lst [[.lst [], .sc (.int .i64 2)], [.lst [[.sc (.int .u8 109)]], .sc (.int .i64 3)]]], .lst [[.sc (.int .u8 122)]]] (hx K L) Q ↔ Q (.sc (.int .i64 1)) (hx K L) := fun K L Q => KW_of (hside _)
    have kRight : ∀ K L Q, KF ftX (.fn (.func 79) [] []) [.sc (.int .i64 2), .agg [.sc (.bool false), .lst [], .lst [[.lst [], .sc (.int .i64 2)], [.lst [[.sc (.int .u8 109)]], .sc (.int .i64 3)]]]] (hx K L) Q ↔ Q (.sc (.bool true)) (hx K L) := fun K L Q => KW_of (hright _)
    have kLow : ∀ K L Q, KF ftX (.fn (.func 81) [] []) [.sc (.int .i64 1), .agg [.sc (.bool false), .lst [], .lst [[.lst [], .sc (.int .i64 2)], [.lst [[.sc (.int .u8 109)]], .sc (.int .i64 3)]]]] (hx K L) Q ↔ Q (.sc (.bool true)) (hx K L) := fun K L Q => KW_of (hlow _)
    have kRoom : ∀ K L Q, KW ftX (.fn (.func 80) [] []) [.sc (.int .i64 1), .agg [.sc (.bool true), encI itsA, encK []]] (hx K L) Q ↔ Q (.sc (.int .i64 280)) (hx K L) := fun K L Q => KW_of (hroom _)
    have kFits : ∀ K L Q, KW ftX (.fn (.func 26) [] []) [.sc (.int .i64 1), .agg [.sc (.bool true), encI itsA, encK []]] (hx K L) Q ↔ Q (.sc (.bool false)) (hx K L) := fun K L Q => KW_of (hfits _)
    have kJoin : ∀ K L Q, KW ftX (.fn (.func 27) [] []) [.agg [.sc (.bool true), encI a7.items, encK []], .agg [.sc (.bool true), encI b7.items, encK []], encB k7] (hx K L) Q ↔ Q (.agg [.sc (.bool true), encI itsA, encK []]) (hx K L) := fun K L Q => KW_of (hjoin _)
    have kSame : ∀ K L Q, KW ftX (.fn (.func 28) [] []) [.agg [.sc (.bool true), encI itsA, encK []], .agg [.sc (.bool true), encI itsA, encK []]] (hx K L) Q ↔ Q (.sc (.bool true)) (hx K L) := fun K L Q => KW_of (hsame _)
    have ip0 : ∀ H, iaddrA H none 4 (encP PS) 0 = some (.pim (PS.map partC) 0 0) := fun _ => rfl
    have ip1 : ∀ H, iaddrA H none 4 (encP PS) 1 = some (.pim (PS.map partC) 1 0) := fun _ => rfl
    have c02 : ∀ H, cellsAt H (.pim (PS.map partC) 0 2) 1 = some [encI a7.items] := fun _ => rfl
    have c12 : ∀ H, cellsAt H (.pim (PS.map partC) 1 2) 1 = some [encI b7.items] := fun _ => rfl
    have c10 : ∀ H, cellsAt H (.pim (PS.map partC) 1 0) 1 = some [encB k7] := fun _ => rfl
    have c01 : ∀ H, cellsAt H (.pim (PS.map partC) 0 1) 3 = some [.sc (.bool true), encI a7.items, encK []] := fun _ => rfl
    have c11 : ∀ H, cellsAt H (.pim (PS.map partC) 1 1) 3 = some [.sc (.bool true), encI b7.items, encK []] := fun _ => rfl
    have lP : ∀ H, lenV H 0 (encP PS) = some (.sc (.int .i64 2), H) := fun _ => rfl
    have la : ∀ H, lenV H 0 (encI a7.items) = some (.sc (.int .i64 4), H) := fun _ => rfl
    have lb : ∀ H, lenV H 0 (encI b7.items) = some (.sc (.int .i64 3), H) := fun _ => rfl
    have l6 : ∀ H, lenV H 0 (encI [itA 0, itA 1, itA 2, itA 4, itA 5, itA 6]) = some (.sc (.int .i64 6), H) := fun _ => rfl
    have ls : ∀ H a b, lenV H 0 (.lst [a, b]) = some (.sc (.int .i64 2), H) := fun _ _ _ => rfl
    have is1 : ∀ H a b c d, iaddrA H none 2 (.lst [[a, b], [c, d]]) 1 = some (.pim [[a, b], [c, d]] 1 0) := fun _ _ _ _ _ => rfl
    have cs1 : ∀ H a b c d, cellsAt H (.pim [[a, b], [c, d]] 1 1) 1 = some [d] := fun _ _ _ _ _ => rfl
    have sE : binA .eql 9 (.sc (.string (strOfNums k7))) (.sc (.string ⟨#[97, 98, 99, 100, 52]⟩)) = some (.sc (.bool true)) := by
      have h : strOfNums k7 = ⟨#[97, 98, 99, 100, 52]⟩ := by rfl
      rw [h]
      simp [binA, binOp, Op.stringOp, pureRun, ofScalar, isSc, pure]
    have pJ : pureV ftX (.fn (.func 27) [] []) [.agg [.sc (.bool true), encI a7.items, encK []], .agg [.sc (.bool true), encI b7.items, encK []], encB k7] = some (false, []) := rfl
    have sZ : sidP [(0, .sc (.int .u8 122))] = some [] := rfl
    simp only [nodeC, int, boolA] at q0 kP
    simp only [↓vp, vq0, vq1, vq2, vq3, vr0, vr1, vr2, vr3, vr4, vr5, vr6, vr7, vr8, vr9, vr10, vr11, vr12, vr13, vr14, vr15, vr16, vr17, vr18, vr19, vr20, vr21, vr22, vr23, vr24, vr25, vr26, vr27, vr28, vr29, vr30, vr31, vr32, vr33, vr34, opS, fpS, okP, pack, nAl, allocA, shId, leaves, fillA, fillR, splice, Nat.reduceLT, Nat.reduceEqDiff, Nat.reduceLeDiff, Nat.reduceAdd, Nat.reduceSub, Nat.reduceMul, Int.reduceBEq, Int.reduceBNe, Int.reduceLT, Int.reduceLE, Int.reduceEq, reduceIte, reduceCtorEq, da, int, boolA, q0, q1, kP, p76, p77, p32, p78, p79, p81, rowSz, kFind, kWout, kSwap]
    simp only [↓vp, vq0, vq1, vq2, vq3, vr0, vr1, vr2, vr3, vr4, vr5, vr6, vr7, vr8, vr9, vr10, vr11, vr12, vr13, vr14, vr15, vr16, vr17, vr18, vr19, vr20, vr21, vr22, vr23, vr24, vr25, vr26, vr27, vr28, vr29, vr30, vr31, vr32, vr33, vr34, opS, fpS, okP, pack, nAl, allocA, shId, leaves, fillA, fillR, splice, Nat.reduceLT, Nat.reduceEqDiff, Nat.reduceLeDiff, Nat.reduceAdd, Nat.reduceSub, Nat.reduceMul, Int.reduceBEq, Int.reduceBNe, Int.reduceLT, Int.reduceLE, Int.reduceEq, reduceIte, reduceCtorEq, da, int, boolA, RetP_go, resT, resC, resN, retV1, retV2, retV3, retV0, frzFZ, takeM, Option.some.injEq, q0, q1, kP, p78, p79, p81, rowSz, kSide, kRight, kLow, kRoom, kFits, kJoin, kSame, ip0, ip1, c02, c12, c10, c01, c11, lP, la, lb, l6, ls, is1, cs1, bytesOf_encB, sE, pJ, sZ]
  · simp only [↓vp, vq0, vq1, vq2, vq3, vr0, vr1, vr2, vr3, vr4, vr5, vr6, vr7, vr8, vr9, vr10, vr11, vr12, vr13, vr14, vr15, vr16, vr17, vr18, vr19, vr20, vr21, vr22, vr23, vr24, vr25, vr26, vr27, vr28, vr29, vr30, vr31, vr32, vr33, vr34, opS, fpS, okP, pack, nAl, allocA, shId, leaves, fillA, fillR, splice, Nat.reduceLT, Nat.reduceEqDiff, Nat.reduceLeDiff, Nat.reduceAdd, Nat.reduceSub, Nat.reduceMul, Int.reduceBEq, Int.reduceBNe, Int.reduceLT, Int.reduceLE, Int.reduceEq, reduceIte, reduceCtorEq, da, int, boolA]
  · simp only [↓vp, vq0, vq1, vq2, vq3, vr0, vr1, vr2, vr3, vr4, vr5, vr6, vr7, vr8, vr9, vr10, vr11, vr12, vr13, vr14, vr15, vr16, vr17, vr18, vr19, vr20, vr21, vr22, vr23, vr24, vr25, vr26, vr27, vr28, vr29, vr30, vr31, vr32, vr33, vr34, opS, fpS, okP, pack, nAl, allocA, shId, leaves, fillA, fillR, splice, Nat.reduceLT, Nat.reduceEqDiff, Nat.reduceLeDiff, Nat.reduceAdd, Nat.reduceSub, Nat.reduceMul, Int.reduceBEq, Int.reduceBNe, Int.reduceLT, Int.reduceLE, Int.reduceEq, reduceIte, reduceCtorEq, da, int, boolA, Int.natCast_zero]
end Go.VI

set_option linter.unusedVariables false
set_option linter.unusedSimpArgs false
set_option maxRecDepth 100000
namespace Go.VI
/-- A small node, as its kind has it. -/
structure Good (n : NodeM) : Prop where
  ok : okN n
  i : n.items.length ≤ 60
  k : n.kids.length ≤ 60
  p : pureM n
  ki : ∀ x ∈ n.items, x.key.length ≤ 60
  kk : ∀ x ∈ n.kids, x.key.length ≤ 60
theorem noKey_key {l : List KidM} {m : Nat} (h : ∀ x ∈ l, x.key.length ≤ m) : ∀ x ∈ noKey l, x.key.length ≤ m := fun x hx => by
  cases l with
  | nil => cases hx
  | cons y r =>
    rcases List.mem_cons.1 hx with rfl | hx
    · simp
    · exact h x (List.mem_cons_of_mem _ hx)
theorem Good.cut {n : NodeM} (h : Good n) (k : Nat) : Good (cutM n k).1 ∧ Good (cutM n k).2.1 ∧ okB (cutM n k).2.2 ∧ (cutM n k).2.2.length ≤ 60 := by
  obtain ⟨o1, o2, o3⟩ := okN_cut h.ok k
  obtain ⟨p1, p2⟩ := cut_pure n k
  have hi := h.i
  have hk := h.k
  refine ⟨⟨o1, ?_, ?_, p1, ?_, ?_⟩, ⟨o2, ?_, ?_, p2, ?_, ?_⟩, o3, ?_⟩ <;> (unfold cutM; split)
  · simp; omega
  · simp
  · simp
  · simp; omega
  · exact fun x hx => h.ki x (List.mem_of_mem_take hx)
  · exact fun x hx => by cases hx
  · exact fun x hx => by cases hx
  · exact fun x hx => h.kk x (List.mem_of_mem_take hx)
  · simp; omega
  · simp
  · simp
  · simp [noKey_len]; omega
  · exact fun x hx => h.ki x (List.mem_of_mem_drop hx)
  · exact fun x hx => by cases hx
  · exact fun x hx => by cases hx
  · exact noKey_key fun x hx => h.kk x (List.mem_of_mem_drop hx)
  · show (((n.items[k]?).map (·.key)).getD []).length ≤ 60
    cases hx : n.items[k]? with
    | none => simp
    | some x => exact h.ki x (List.mem_of_getElem? hx)
  · show (((n.kids[k]?).map (·.key)).getD []).length ≤ 60
    cases hx : n.kids[k]? with
    | none => simp
    | some x => exact h.kk x (List.mem_of_getElem? hx)
theorem parts_good (g : Int) : ∀ (d : Nat) (key : Bytes) (n : NodeM), Good n → okB key → key.length ≤ 60 → ∀ p ∈ partsM g d key n, Good p.2 ∧ okB p.1 ∧ p.1.length ≤ 60
  | 0, key, n, h, hk, hl, p, hp => by
    simp only [partsM, List.mem_singleton] at hp
    subst hp
    exact ⟨h, hk, hl⟩
  | d + 1, key, n, h, hk, hl, p, hp => by
    unfold partsM at hp
    split at hp
    · simp only [List.mem_singleton] at hp
      subst hp
      exact ⟨h, hk, hl⟩
    · obtain ⟨h1, h2, h3, h4⟩ := h.cut (atM g n)
      rcases List.mem_append.1 hp with hp | hp
      · exact parts_good g d _ _ h1 hk hl p hp
      · exact parts_good g d _ _ h2 h3 h4 p hp
theorem Good.count {n : NodeM} (h : Good n) : n.items.length + n.kids.length = countM n := by
  have := h.p
  unfold pureM at this
  unfold countM
  split at this <;> (rename_i hl; simp [hl, this])
theorem joinAll_len : ∀ (l : List (Bytes × NodeM)) (a : NodeM), a.items.length ≤ (joinAll a l).items.length ∧ a.kids.length ≤ (joinAll a l).kids.length
  | [], a => ⟨Nat.le_refl _, Nat.le_refl _⟩
  | p :: r, a => by
    obtain ⟨h1, h2⟩ := joinAll_len r (joinM a p.2 p.1)
    unfold joinAll
    refine ⟨Nat.le_trans ?_ h1, Nat.le_trans ?_ h2⟩ <;> simp [joinM]
theorem joinAll_take (l : List (Bytes × NodeM)) (a : NodeM) (k : Nat) : (joinAll a (l.take k)).items.length ≤ (joinAll a l).items.length ∧ (joinAll a (l.take k)).kids.length ≤ (joinAll a l).kids.length := by
  have := joinAll_len (l.drop k) (joinAll a (l.take k))
  rw [← joinAll_app, List.take_append_drop] at this
  exact this
theorem joinAll_succ (l : List (Bytes × NodeM)) (a : NodeM) {k : Nat} (h : k < l.length) : joinAll a (l.take (k + 1)) = joinM (joinAll a (l.take k)) l[k].2 l[k].1 := by
  rw [List.take_succ_eq_append_getElem h, joinAll_app]
  rfl
theorem cmpB_me : ∀ a : Bytes, cmpB a a = 0
  | [] => rfl
  | x :: r => by simp [cmpB, cmpB_me r]
theorem sameB_self (a : Bytes) : sameB a a = true := by simp [sameB, cmpB_me]
theorem sameN_self (n : NodeM) : sameN n n = true := by
  have h1 : ∀ l : List ItemM, sameIs l l = true := fun l => by
    induction l with
    | nil => rfl
    | cons x l ih => simp [sameIs, sameI, sameB_self, cmpB_me, ih]
  have h2 : ∀ l : List KidM, sameKs l l = true := fun l => by
    induction l with
    | nil => rfl
    | cons x l ih => simp [sameKs, sameK, cmpB_me, ih]
  simp [sameN, h1, h2]
/-- What the guard of the laws asks for. -/
theorem good_of {n : NodeM} (hn : okN n) (hf : few6 n = true) (h1 : n.leaf = true → n.kids = []) (h2 : n.leaf = false → n.items = []) : Good n := by
  simp only [few6, Bool.and_eq_true, decide_eq_true_eq, List.all_eq_true] at hf
  obtain ⟨⟨⟨f1, f2⟩, f3⟩, f4⟩ := hf
  refine ⟨hn, f1, f2, ?_, fun x hx => ?_, fun x hx => ?_⟩
  · unfold pureM
    cases hl : n.leaf with
    | true => simpa using h1 hl
    | false => simpa using h2 hl
  · have := f3 x hx
    simp [fewI] at this
    omega
  · have := f4 x hx
    simp [fewK] at this
    omega
theorem KW_sub {ft ft' : FT} (hs : Sub ft ft') {f : AV} {args : List AV} {H : Heap} {P : AV → Heap → Prop} (h : KW ft f args H P) : KW ft' f args H P := by
  obtain ⟨v, H', h1, h2⟩ := h
  exact ⟨v, H', callL_sub hs h1, h2⟩
theorem cells_row {H : Heap} {id i off n : Nat} {fz : Bool} {sz : Nat} {rs : List (List AV)} {r : List AV} (hg : H.get id = some (.row fz sz rs)) (hr : rs[i]? = some r) : cellsAt H (.ptr id i off) n = if off + n ≤ r.length then some ((r.drop off).take n) else none := by
  simp only [cellsAt, hg, hr]
theorem ia_row {H : Heap} {id len sz i : Nat} {fz : Bool} {rs : List (List AV)} (hg : H.get id = some (.row fz sz rs)) (hi : i < len) : iaddrA H none sz (.sl id 0 len) (i : Int) = some (.ptr id i 0) := by
  have hr : rowSz H id = some sz := by unfold rowSz; rw [hg]
  show (if 0 ≤ (i : Int) ∧ (i : Int) < (len : Int) ∧ rowSz H id = some sz then some (AV.ptr id (0 + (i : Int).toNat) 0) else none) = _
  rw [if_pos ⟨by omega, by omega, hr⟩]
  simp
theorem atP {H : Heap} {l : List (Bytes × NodeM)} {i : Nat} (h : i < l.length) : iaddrA H none 4 (encP l) (i : Int) = some (.pim (l.map partC) i 0) := iaddr_map h (fun _ => rfl)
theorem cP {H : Heap} {l : List (Bytes × NodeM)} {i off n : Nat} (h : i < l.length) : cellsAt H (.pim (l.map partC) i off) n = if off + n ≤ 4 then some (((partC l[i]).drop off).take n) else none := cells_map h
theorem lenP {H : Heap} (l : List (Bytes × NodeM)) : lenV H 0 (encP l) = some (.sc (.int .i64 (l.length : Int)), H) := by simp [lenV, lenOfA, encP]
end Go.VI
