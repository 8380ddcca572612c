/- VI, part S: maps; equal structs; copy. -/
import Derived.Test.YtkjeigdiojdfnaaVQ
set_option linter.unusedVariables false
set_option linter.unusedSimpArgs false
namespace Go.VI

section
variable {P : Program} {m : Mp} {F : Fz} {H : Heap} {w : World} {e : Env} {a : Act} {co : Oper} {nid : Nat} {al : Option Nat}

theorem sim_mkmap (hn : Free m H nid) (hs : Sit m F H w e a) {t : TypeId} (ho : co.op = .makeMap t none) (kd : Option IntKind) : OpOk P co a (some nid) m F w (.mp nid) (H.put nid (.mpb kd [])) := by
  obtain ⟨h1, h2⟩ := Inv.push hn hs.inv (wd := w) rfl rfl rfl rfl (.map #[] 0) (.mpb kd []) 0 0 0 ⟨#[], 0, heap_alloc_at, rfl, by simp⟩
  refine ⟨_, _, _, F, _, ?_, .inl rfl, .mp (mset_self _ _ _), h1, h2, Dom.mset _ _ _⟩
  simp [execOp, ho, Instr.makeMap]

theorem keyT_some {t : TypeId} {kd : Option IntKind × TypeId} (h : keyT P t = some kd) : ∃ kt, P.underlying t = some (.map kt kd.2) ∧ ((∃ k, kd.1 = some k ∧ P.underlying kt = some (.int k)) ∨ (kd.1 = none ∧ P.underlying kt = some .string)) := by
  unfold keyT at h
  split at h
  · rename_i kt el hu
    split at h
    · rename_i k hk
      cases h
      exact ⟨kt, hu, .inl ⟨k, rfl, hk⟩⟩
    · rename_i hk
      cases h
      exact ⟨kt, hu, .inr ⟨rfl, hk⟩⟩
    · cases h
  · cases h

def kval : Option IntKind → Value → Prop
  | some k, v => ∃ n, v = .int k n
  | none, v => ∃ s, v = .string s
theorem keyOk_val {kd : Option IntKind} {x : AV} {v : Value} (h : keyOk kd x = true) (hv : VR m F x v) : x = .sc v ∧ kval kd v := by
  unfold keyOk at h
  split at h
  · obtain ⟨rfl, _⟩ := vr_sc hv
    simp at h
    subst h
    exact ⟨rfl, _, rfl⟩
  · obtain ⟨rfl, _⟩ := vr_sc hv
    exact ⟨rfl, _, rfl⟩
  · cases h
theorem run_checkKey {kd : Option IntKind} {kt : TypeId} (hk : (∃ k, kd = some k ∧ P.underlying kt = some (.int k)) ∨ (kd = none ∧ P.underlying kt = some .string)) (v : Value) (b : Bool) : (Instr.checkKey b 10000 kt v).run P w = .ok () w := by
  rcases hk with ⟨k, _, hk⟩ | ⟨_, hk⟩
  · unfold Instr.checkKey; simp [run_under' hk]
  · unfold Instr.checkKey; simp [run_under' hk]

theorem ba_eq {x y : ByteArray} (h : (x == y) = true) : x = y := by
  rw [beq_toListBytes] at h
  have h := eq_of_beq h
  rw [ByteArray.toList_eq, ByteArray.toList_eq] at h
  cases x; cases y
  congr
  exact Array.toList_inj.1 h
theorem run_findKey {kd : Option IntKind} {kt : TypeId} (hk : (∃ k, kd = some k ∧ P.underlying kt = some (.int k)) ∨ (kd = none ∧ P.underlying kt = some .string)) {kx : Value} (hkx : kval kd kx) :
    ∀ (es : List (AV × AV)) (ens : List MapEntry) (i : Nat), ens.length = es.length → (∀ (j : Nat) (k v : AV), es[j]? = some (k, v) → ∃ en : MapEntry, ens[j]? = some en ∧ VR m F k en.key ∧ keyOk kd k = true ∧ VR m F v en.val) →
    (lookE (.sc kx) es = none ∧ Instr.findNow ((P.underlying kt).getD .bool) kx ens i = some none ∧ ∀ (x : AV), putE (.sc kx) x es = es ++ [(.sc kx, x)]) ∨
    (∃ j k v en, es[j]? = some (k, v) ∧ ens[j]? = some en ∧ VR m F v en.val ∧ k = .sc kx ∧ en.key = kx ∧ lookE (.sc kx) es = some v ∧ Instr.findNow ((P.underlying kt).getD .bool) kx ens i = some (some (i + j, en.val)) ∧ ∀ (x : AV), putE (.sc kx) x es = es.set j (.sc kx, x)) := by
  intro es
  induction es with
  | nil =>
    intro ens i hl h
    have : ens = [] := List.eq_nil_of_length_eq_zero (by simpa using hl)
    subst this
    exact .inl ⟨rfl, rfl, fun _ => rfl⟩
  | cons p es ih =>
    intro ens i hl h
    obtain ⟨k, v⟩ := p
    cases ens with
    | nil => simp at hl
    | cons en ens =>
      obtain ⟨en', h1, h2, h3, h4⟩ := h 0 k v rfl
      cases h1
      obtain ⟨rfl, hkv⟩ := keyOk_val h3 h2
      have hih := ih ens (i + 1) (by simpa using hl) (fun j k v hj => h (j + 1) k v (by simpa using hj))
      -- the test
      have key : ∃ b, keyEq (.sc kx) (.sc en.key) = b ∧ Instr.sameNow ((P.underlying kt).getD .bool) kx en.key = some b ∧ (b = true → en.key = kx) := by
        rcases hk with ⟨k, rfl, hk⟩ | ⟨rfl, hk⟩
        · obtain ⟨x, rfl⟩ := hkx
          obtain ⟨y, hy⟩ := hkv
          rw [hy, hk]
          exact ⟨x == y, rfl, by simp [Instr.sameNow], fun h => by rw [eq_of_beq h]⟩
        · obtain ⟨x, rfl⟩ := hkx
          obtain ⟨y, hy⟩ := hkv
          rw [hy, hk]
          exact ⟨x == y, rfl, by simp [Instr.sameNow], fun h => by rw [ba_eq h]⟩
      obtain ⟨b, k1, k2, k3⟩ := key
      cases b with
      | true =>
        refine .inr ⟨0, _, v, en, rfl, rfl, h4, by rw [k3 rfl], k3 rfl, ?_, ?_, fun x => ?_⟩
        · simp [lookE, k1]
        · simp [Instr.findNow, k2]
        · simp [putE, k1]
      | false =>
        rcases hih with ⟨a1, a2, a3⟩ | ⟨j, k', v', en2, b1, b2, b3, b4, b5, b6, b7, b8⟩
        · refine .inl ⟨by simp [lookE, k1, a1], by simp [Instr.findNow, k2, a2], fun x => by simp [putE, k1, a3]⟩
        · refine .inr ⟨j + 1, k', v', en2, by simpa using b1, by simpa using b2, b3, b4, b5, by simp [lookE, k1, b6], ?_, fun x => by simp [putE, k1, b8]⟩
          simp only [Instr.findNow, k2, b7]
          congr 3
          omega

theorem sim_look (hs : Sit m F H w e a) {t : TypeId} {mo ko : Operand} {ok : Bool} (ho : co.op = .lookup t mo ko ok) {kd : Option IntKind × TypeId} (hkd : keyT P t = some kd) {z : Value} (hz : (zeroValue kd.2).run P w = .ok z w) (hsz : isSc z = true)
    {v : AV} {H' : Heap} (h : opS nid e H (.look kd.1 (.sc z) mo ko ok) = some (v, H')) : OpOk P co a al m F w v H' := by
  obtain ⟨kt, hu, hk⟩ := keyT_some hkd
  simp only [opS] at h
  split at h
  rotate_left
  · cases h
  rename_i id hm'
  split at h
  rotate_left
  · cases h
  rename_i kd' es hg
  split at h
  rotate_left
  · cases h
  rename_i hh
  obtain ⟨rfl, hko⟩ := hh
  cases h
  obtain ⟨mb, hm, he⟩ := vr_mp (hm' ▸ hs.ev mo)
  obtain ⟨hke, hkv⟩ := keyOk_val hko (hs.ev ko)
  obtain ⟨ens, ck, h1, h2, h3⟩ := hs.inv.blk id mb _ hm hg
  have hund : P.underlying kt = some ((P.underlying kt).getD .bool) := by rcases hk with ⟨k, _, hk⟩ | ⟨_, hk⟩ <;> rw [hk] <;> rfl
  have hf := run_findKey (m := m) (F := F) hk hkv es ens.toList 0 (by simpa using h2) (fun j k v hj => by simpa using h3 j k v hj)
  rw [hke]
  have hrun : ∀ (r : Option (Nat × Value)) (u : Value) (b : Bool), Instr.findNow ((P.underlying kt).getD .bool) (a.eval ko) ens.toList 0 = some r → (u, b) = (match r with | some (_, v) => (v, true) | none => (z, false)) →
      (execOp a.eval co).run P w = .ok (.value (if ok then .tuple #[u, .bool b] else u)) w := by
    intro r u b hr hub
    simp only [execOp, ho, Instr.lookup, Sem.run_bind, run_under' hu, Result.andThen_ok, he, getObj, Sem.run, h1, Sem.run_pure, run_checkKey (w := w) hk, Instr.findKey, run_under' hund, hr]
    cases r with
    | none =>
      cases hub
      simp only [Sem.run_bind, hz, Result.andThen_ok, Sem.run_pure]
    | some p =>
      cases hub
      simp only [Sem.run_bind, Result.andThen_ok, Sem.run_pure]
  rcases hf with ⟨a1, a2, _⟩ | ⟨j, k, v, en, b1, b2, b3, b4, b5, b6, b7, _⟩
  · rw [a1]
    refine OpOk.still hs.inv (hrun _ z false a2 rfl) ?_
    cases ok
    · exact .fz (.sc hsz)
    · refine .tup (by simp) (fun i c hc => ?_)
      match i with
      | 0 => simp at hc; subst hc; exact .fz (.sc hsz)
      | 1 => simp at hc; subst hc; exact .fz (.sc rfl)
      | i + 2 => simp at hc
  · rw [b6]
    refine OpOk.still hs.inv (hrun _ en.val true b7 rfl) ?_
    cases ok
    · exact b3
    · refine .tup (by simp) (fun i c hc => ?_)
      match i with
      | 0 => simp at hc; subst hc; exact b3
      | 1 => simp at hc; subst hc; exact .fz (.sc rfl)
      | i + 2 => simp at hc

theorem sim_mput (hs : Sit m F H w e a) {t : TypeId} {mo ko vo : Operand} (ho : co.op = .mapUpdate t mo ko vo ∨ co.op = .insert t mo ko vo) {kd : Option IntKind × TypeId} (hkd : keyT P t = some kd)
    {v : AV} {H' : Heap} (h : opS nid e H (.mput kd.1 mo ko vo) = some (v, H')) : OpOk P co a al m F w v H' := by
  obtain ⟨kt, hu, hk⟩ := keyT_some hkd
  simp only [opS] at h
  split at h
  rotate_left
  · cases h
  rename_i id hm'
  split at h
  rotate_left
  · cases h
  rename_i kd2 es hg
  split at h
  rotate_left
  · cases h
  rename_i hh
  obtain ⟨rfl, hko⟩ := hh
  cases h
  obtain ⟨mb, hm, he⟩ := vr_mp (hm' ▸ hs.ev mo)
  obtain ⟨hke, hkv⟩ := keyOk_val hko (hs.ev ko)
  obtain ⟨ens, ck, h1, h2, h3⟩ := hs.inv.blk id mb _ hm hg
  have hlt := (hs.inv.lt _ _ hm).2
  have hund : P.underlying kt = some ((P.underlying kt).getD .bool) := by rcases hk with ⟨k, _, hk⟩ | ⟨_, hk⟩ <;> rw [hk] <;> rfl
  have hf := run_findKey (m := m) (F := F) hk hkv es ens.toList 0 (by simpa using h2) (fun j k v hj => by simpa using h3 j k v hj)
  rw [hke]
  have fin : ∀ (ens' : Array MapEntry) (ck' : Nat), (Instr.mapUpdate t (.map (some mb.cb)) (a.eval ko) (a.eval vo)).run P w = .ok () { w with heap := w.heap.setIfInBounds mb.cb (.map ens' ck') } → ens'.size = (putE (.sc (a.eval ko)) (ev e vo) es).length →
      (∀ (i : Nat) (k v : AV), (putE (.sc (a.eval ko)) (ev e vo) es)[i]? = some (k, v) → ∃ en : MapEntry, ens'[i]? = some en ∧ VR m F k en.key ∧ keyOk kd.1 k = true ∧ VR m F v en.val) →
      OpOk P co a al m F w .bad (H.set id (.mpb kd.1 (putE (.sc (a.eval ko)) (ev e vo) es))) := by
    intro ens' ck' hr hsz hes
    have hne : ∀ b, b ≠ mb.cb → ({ w with heap := w.heap.setIfInBounds mb.cb (.map ens' ck') } : World).heap[b]? = w.heap[b]? := fun b hb => by
      show (w.heap.setIfInBounds mb.cb _)[b]? = _
      rw [Array.getElem?_setIfInBounds_ne (Ne.symm hb)]
    have hat : ({ w with heap := w.heap.setIfInBounds mb.cb (.map ens' ck') } : World).heap[mb.cb]? = some (.map ens' ck') := by
      show (w.heap.setIfInBounds mb.cb _)[mb.cb]? = _
      simp [hlt]
    refine ⟨.skip, undef, m, F, { w with heap := w.heap.setIfInBounds mb.cb (.map ens' ck') }, ?_, .inr ⟨rfl, rfl⟩, .bad _, hs.inv.next (MLe.refl m) (FLe.refl F) (fun b o v hv => ?_) (fun j mj hj => ?_) (fun j mj B hj hB => ?_) (fun i j mi mj hi hj li lj e => ?_), ?_⟩
    · rcases ho with ho | ho <;> simp only [execOp, ho, he, Sem.run_bind, hr, Result.andThen_ok, Sem.run_pure]
    · have hb : b ≠ mb.cb := fun e => by
        have := hs.inv.fz b o v hv
        rw [e] at this
        simp [World.cell?, h1] at this
      rw [cell_of_heap (hne b hb)]
      exact hs.inv.fz b o v hv
    · have := hs.inv.lt j mj hj
      simpa using this
    · by_cases e : j = id
      · subst e
        rw [Heap.get_set_self _ (hs.inv.lt _ _ hm).1] at hB
        cases hB
        rw [hm] at hj
        cases hj
        exact .inr ⟨ens', ck', hat, hsz, hes⟩
      · rw [Heap.get_set_ne _ e] at hB
        by_cases hd : B = .dead
        · subst hd; exact .inr trivial
        · exact .inl ⟨hj, hB, hne _ (cb_other hs.inv hm hj (live_of hg (by simp)) (live_of hB hd) e), fun _ _ hv => hv⟩
    · exact hs.inv.inj i j mi mj hi hj (live_set li (.inl (live_of hg (by simp)))) (live_set lj (.inl (live_of hg (by simp)))) e
    · exact ⟨⟨MLe.refl m, FLe.refl F, by simp, rfl, rfl, rfl, fun b _ hb => hne b (fun e => hb id mb hm e.symm), fun _ _ x => .inl x, fun _ _ _ x => .inl x⟩, Dom.refl al m⟩
  have hrun : ∀ (r : Option (Nat × Value)), Instr.findNow ((P.underlying kt).getD .bool) (a.eval ko) ens.toList 0 = some r →
      (Instr.mapUpdate t (.map (some mb.cb)) (a.eval ko) (a.eval vo)).run P w = (match r with
        | some (i, _) => (do
            let key ← Instr.keyThatStays (((ens[i]?).map (fun en : MapEntry => en.key)).getD (a.eval ko)) (a.eval ko)
            setObj mb.cb (.map (ens.modify i fun e => { e with key, val := a.eval vo }) ck) : Sem Unit)
        | none => setObj mb.cb (.map (ens.push { key := a.eval ko, val := a.eval vo, born := ck }) (ck + 1))).run P w := by
    intro r hr
    simp only [Instr.mapUpdate, Sem.run_bind, run_under' hu, Result.andThen_ok, getObj, Sem.run, h1, Sem.run_pure, run_checkKey (w := w) hk, Instr.findKey, run_under' hund, hr]
    cases r with
    | none => rfl
    | some p => rfl
  rcases hf with ⟨a1, a2, a3⟩ | ⟨j, k, v, en, b1, b2, b3, b4, b5, b6, b7, b8⟩
  · refine fin (ens.push { key := a.eval ko, val := a.eval vo, born := ck }) (ck + 1) ?_ (by rw [a3]; simp [h2]) (fun i k v hi => ?_)
    · rw [hrun none a2]
      simp only [setObj, Sem.run, h1]
    · rw [a3] at hi
      rcases Nat.lt_or_ge i es.length with h5 | h5
      · rw [List.getElem?_append_left h5] at hi
        obtain ⟨en, c1, c2⟩ := h3 i k v hi
        exact ⟨en, by rw [Array.getElem?_push_lt (by omega)]; rw [← c1]; exact (Array.getElem?_eq_getElem (by omega)).symm, c2⟩
      · rw [List.getElem?_append_right h5] at hi
        have h6 : i - es.length = 0 := by have := (List.getElem?_eq_some_iff.1 hi).1; simp at this; omega
        rw [h6] at hi
        simp at hi
        obtain ⟨rfl, rfl⟩ := hi
        have : i = ens.size := by omega
        subst this
        refine ⟨_, Array.getElem?_push_size, ?_, ?_, hs.ev vo⟩
        · rw [← hke]; exact hs.ev ko
        · rw [← hke]; exact hko
  · have hjl : j < ens.size := by have := (List.getElem?_eq_some_iff.1 b2).1; simpa using this
    have hen : ens[j]? = some en := by simpa using b2
    refine fin (ens.modify j fun e => { e with key := a.eval ko, val := a.eval vo }) ck ?_ (by rw [b8]; simp [h2]) (fun i k v hi => ?_)
    · rw [hrun _ b7]
      simp only [Nat.zero_add, hen, Option.map_some, Option.getD_some, b5]
      have hks : (Instr.keyThatStays (a.eval ko) (a.eval ko)).run P w = .ok (a.eval ko) w := by
        have : Instr.sameBits 10000 (a.eval ko) (a.eval ko) = true := by
          generalize a.eval ko = q at hkv
          generalize hkk : kd.1 = kk at hkv
          cases kk with
          | none => obtain ⟨s, rfl⟩ := hkv; simp [Instr.sameBits, beq_toListBytes]
          | some k => obtain ⟨n, rfl⟩ := hkv; simp [Instr.sameBits]
        simp [Instr.keyThatStays, this]
      simp only [Sem.run_bind, hks, Result.andThen_ok, setObj, Sem.run, h1]
    · rw [b8] at hi
      rw [List.getElem?_set] at hi
      by_cases hji : j = i
      · subst hji
        rw [if_pos rfl, if_pos (by omega)] at hi
        simp at hi
        obtain ⟨rfl, rfl⟩ := hi
        refine ⟨_, by rw [Array.getElem?_modify]; simp [hen]; rfl, ?_, ?_, hs.ev vo⟩
        · rw [← hke]; exact hs.ev ko
        · rw [← hke]; exact hko
      · rw [if_neg hji] at hi
        obtain ⟨en', c1, c2⟩ := h3 i k v hi
        exact ⟨en', by rw [Array.getElem?_modify]; simp [hji, c1], c2⟩
end
end Go.VI
