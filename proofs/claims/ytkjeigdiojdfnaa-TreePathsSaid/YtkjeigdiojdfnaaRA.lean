/- VI, part RA: what a row's arguments stand for: data read out of the first world. -/
import Derived.Test.YtkjeigdiojdfnaaVB
import Derived.ChangeArms
import Derived.ChangeReads
import GoSem.ClaimJoined
set_option linter.unusedVariables false
set_option linter.unusedSimpArgs false
namespace Go.VI

/-- All cells of the first world. -/
def frzW (W : World) : Fz := fun b o => W.cell? ⟨b, o, none⟩
def CVF (F : Fz) (as : List AV) (cs : List Value) : Prop := as.length = cs.length ∧ ∀ i c, as[i]? = some c → c.one = true ∧ VF F c (cs.getD i undef)
def RD (P : Program) (W : World) (t : TypeId) (E : List AV → Prop) : Prop :=
  ∀ (H : Type) (enc : TypeId × Value → H) (base : Nat) (spare : Nat → Bool) (held : Bool) (fuel : Nat) (cs : List Value) (x : DataW H × List MemPlace),
    DataW.trod enc P W base spare held fuel t cs = some x → (∀ n ∈ x.1.weights P t, n ≤ reachBytes) → ∃ as, E as ∧ CVF (frzW W) as cs
theorem CVF.one {F : Fz} {a : AV} {v : Value} (h1 : a.one = true) (h : VF F a v) : CVF F [a] [v] := ⟨rfl, fun i c hc => by
  cases i with
  | zero => cases hc; exact ⟨h1, h⟩
  | succ i => simp at hc⟩
theorem CVF.cons {F : Fz} {a : AV} {v : Value} {l : List AV} {vs : List Value} (h : CVF F [a] [v]) (ht : CVF F l vs) : CVF F (a :: l) (v :: vs) := ⟨by simp [ht.1], fun i c hc => by
  cases i with
  | zero => exact h.2 0 c hc
  | succ i => exact ht.2 i c hc⟩
theorem rd_bool {P : Program} {W : World} {t : TypeId} (ht : P.underlying t = some .bool) : RD P W t fun as => ∃ b, as = [.sc (.bool b)] := fun H enc base spare held fuel cs x h _ => by
  obtain ⟨b, rfl, _⟩ := DataW.trod_bool ht h
  exact ⟨_, ⟨b, rfl⟩, .one rfl (.sc rfl)⟩
theorem rd_int {P : Program} {W : World} {t : TypeId} {k : IntKind} (ht : P.underlying t = some (.int k)) : RD P W t fun as => ∃ n, as = [.sc (.int k n)] ∧ (Lit.int k n).wf = true := fun H enc base spare held fuel cs x h _ => by
  obtain ⟨n, rfl, _, hw⟩ := DataW.trod_int ht h
  exact ⟨_, ⟨n, rfl, hw⟩, .one rfl (.sc rfl)⟩
theorem rd_str {P : Program} {W : World} {t : TypeId} (ht : P.underlying t = some .string) : RD P W t fun as => ∃ s : ByteArray, as = [.sc (.string s)] ∧ s.size ≤ reachBytes := fun H enc base spare held fuel cs x h hw => by
  obtain ⟨s, rfl, rfl, _⟩ := DataW.trod_string ht h
  refine ⟨_, ⟨s, rfl, ?_⟩, .one rfl (.sc rfl)⟩
  have := hw s.data.toList.length (by simp [DataW.weights])
  simpa using this

theorem cell_flat {W : World} {a : Addr} {v : Value} (h : W.cell? a = some v) : a.spot = none := by
  cases hs : a.spot with
  | none => rfl
  | some s =>
    simp only [World.cell?] at h
    split at h
    · simp [hs] at h
    · cases h
theorem add_flat (b o i : Nat) : (Addr.mk b o none).add i = ⟨b, o + i, none⟩ := by
  unfold Addr.add
  split
  · rename_i h; subst h; rfl
  · rfl
theorem weights_all {H : Type} {P : Program} {e : TypeId} : ∀ {l : List (DataW H)} {d : DataW H}, d ∈ l → ∀ n ∈ d.weights P e, n ∈ DataW.weightsAll P e l
  | x :: l, d, hd, n, hn => by
    simp only [DataW.weightsAll, List.mem_append]
    rcases List.mem_cons.1 hd with rfl | hd
    · exact .inl hn
    · exact .inr (weights_all hd n hn)
theorem rd_slice {P : Program} {W : World} {t e : TypeId} {E : List AV → Prop} {sz B : Nat} (ht : P.underlying t = some (.slice e)) (hc : P.cellsOf e = sz) (h0 : 0 < sz) (hB : P.bytesOf e = B) (he : RD P W e E) :
    RD P W t fun as => ∃ rows, as = [.lst rows] ∧ (∀ r ∈ rows, E r ∧ r.length = sz) ∧ rows.length * B ≤ reachBytes := fun H enc base spare held fuel cs x h hw => by
  rcases DataW.trod_slice ht h with ⟨rfl, rfl⟩ | ⟨a, len, cap, elems, rest, n, rfl, rfl, rfl, hb, hl, hm, hlen, hel, _, _⟩
  · exact ⟨_, ⟨[], rfl, by simp, by simp⟩, .one rfl (.lst (sz := 0) (b := 0) (o := 0) (fun _ _ => undef) (Nat.le_refl _) (fun h => absurd rfl h) (by simp) (by simp) (by simp) (by simp))⟩
  · rw [hc] at hel
    have hw1 : (len + rest.length) * B ≤ reachBytes := by
      have := hw ((elems.length + rest.length) * P.bytesOf e) (by simp [DataW.weights, ht])
      rwa [hB, hlen] at this
    have each : ∀ i : Nat, ∃ r : List AV, i < len → ∃ cs, W.cells? base (a.add (i * sz)) sz = some cs ∧ E r ∧ CVF (frzW W) r cs := fun i => by
      by_cases hi : i < len
      · have hy := hel i hi
        have hi' : i < elems.length := by omega
        rw [List.getElem?_eq_getElem hi', Option.bind_eq_some_iff] at hy
        obtain ⟨cs, hcs, hy⟩ := hy
        obtain ⟨r, hr, hv⟩ := he H enc base spare held n cs _ hy fun k hk => hw k (by
          simp only [DataW.weights, ht, List.mem_cons, List.mem_append]
          exact .inr (.inl (weights_all (List.mem_map.2 ⟨elems[i], List.getElem_mem hi', rfl⟩) k hk)))
        exact ⟨r, fun _ => ⟨cs, hcs, hr, hv⟩⟩
      · exact ⟨[], fun h => absurd h hi⟩
    obtain ⟨f, hf⟩ := Classical.skolem.1 each
    have hrows : ∀ i r, ((List.range len).map f)[i]? = some r → i < len ∧ r = f i := fun i r hr => by
      rw [List.getElem?_map, Option.map_eq_some_iff] at hr
      obtain ⟨j, hj, rfl⟩ := hr
      obtain ⟨h1, h2⟩ := List.getElem?_eq_some_iff.1 hj
      rw [List.getElem_range] at h2
      rw [List.length_range] at h1
      exact ⟨h1, by rw [h2]⟩
    have hlr : ∀ i, i < len → (f i).length = sz := fun i hi => by
      obtain ⟨cs, h1, _, h2⟩ := hf i hi
      rw [h2.1, (World.cells?_some h1).2.1]
    have cell : ∀ i j, i < len → j < sz → ∃ cs, W.cells? base (a.add (i * sz)) sz = some cs ∧ W.cell? ((a.add (i * sz)).add j) = cs[j]? ∧ ∃ v, cs[j]? = some v := fun i j hi hj => by
      obtain ⟨cs, h1, _, _⟩ := hf i hi
      obtain ⟨_, h2, h3⟩ := World.cells?_some h1
      exact ⟨cs, h1, h3 j hj, _, List.getElem?_eq_getElem (by omega)⟩
    have hflat : 0 < len → a = ⟨a.block, a.off, none⟩ := fun h => by
      obtain ⟨cs, _, h1, v, h2⟩ := cell 0 0 h h0
      rw [h2] at h1
      have h3 : (a.add (0 * sz)).add 0 = a := by rw [Nat.zero_mul]; simp [Addr.add]
      rw [h3] at h1
      have := cell_flat h1
      cases a
      simp only at this
      subst this
      rfl
    have hF : ∀ i j c, i < len → (f i)[j]? = some c → c.one = true ∧ ∃ v, frzW W a.block (a.off + i * sz + j) = some v ∧ VF (frzW W) c v := fun i j c hi hc => by
      have hj : j < sz := by rw [← hlr i hi]; exact (List.getElem?_eq_some_iff.1 hc).1
      obtain ⟨cs, h1, h2, v, h3⟩ := cell i j hi hj
      obtain ⟨cs', h1', _, h4⟩ := hf i hi
      rw [h1] at h1'
      cases h1'
      obtain ⟨h5, h6⟩ := h4.2 j c hc
      refine ⟨h5, v, ?_, ?_⟩
      · rw [hflat (by omega), add_flat, add_flat, h3] at h2
        exact h2
      · have : cs.getD j undef = v := by rw [List.getD_eq_getElem?_getD, h3]; rfl
        rwa [this] at h6
    refine ⟨_, ⟨(List.range len).map f, rfl, fun r hr => ?_, ?_⟩, .one rfl ?_⟩
    · obtain ⟨i, hi, rfl⟩ := List.mem_map.1 hr
      have hi := List.mem_range.1 hi
      obtain ⟨_, _, h1, _⟩ := hf i hi
      exact ⟨h1, hlr i hi⟩
    · simp only [List.length_map, List.length_range]
      exact Nat.le_trans (Nat.mul_le_mul_right _ (by omega)) hw1
    · have hll : ((List.range len).map f).length = len := by simp
      have := VF.lst (F := frzW W) (rows := (List.range len).map f) (A := some a) (cap := cap) (sz := sz) (b := a.block) (o := a.off) (fun i j => (frzW W a.block (a.off + i * sz + j)).getD undef)
        (by simpa using hl) (fun h => by rw [← hflat (by
          cases len with
          | zero => simp at h
          | succ => omega)]) (fun i r hr => by obtain ⟨h1, rfl⟩ := hrows i r hr; exact hlr i h1)
        (fun i r j c hr hc => by obtain ⟨h1, rfl⟩ := hrows i r hr; exact (hF i j c h1 hc).1)
        (fun i r j c hr hc => by
          obtain ⟨h1, rfl⟩ := hrows i r hr
          obtain ⟨_, v, h2, _⟩ := hF i j c h1 hc
          rw [h2]; rfl)
        (fun i r j c hr hc => by
          obtain ⟨h1, rfl⟩ := hrows i r hr
          obtain ⟨_, v, h2, h3⟩ := hF i j c h1 hc
          rw [h2]; exact h3)
      rwa [hll] at this

/-! ### structs -/
/-- Parts, one behind the other. -/
def SE : List (List AV → Prop) → List AV → Prop
  | [], as => as = []
  | E :: Es, as => ∃ a b, as = a ++ b ∧ E a ∧ SE Es b
def consec (P : Program) : List Field → Nat → Nat → Bool
  | [], off, en => off == en
  | f :: fs, off, en => f.offset == off && consec P fs (off + P.cellsOf f.type) en
theorem consec_le {P : Program} : ∀ {fs : List Field} {off en : Nat}, consec P fs off en = true → off ≤ en
  | [], off, en, h => by simp [consec] at h; omega
  | f :: fs, off, en, h => by
    simp only [consec, Bool.and_eq_true] at h
    have := consec_le h.2
    omega
def RDs (P : Program) (W : World) : List Field → List (List AV → Prop) → Prop
  | [], [] => True
  | f :: fs, E :: Es => RD P W f.type E ∧ RDs P W fs Es
  | _, _ => False
theorem rd_fields {P : Program} {W : World} {H : Type} {enc : TypeId × Value → H} {base : Nat} {spare : Nat → Bool} {held : Bool} {n : Nat} {cs : List Value} : ∀ (fs : List Field) (Es : List (List AV → Prop)) (off : Nat) (xs : List (DataW H × List MemPlace)),
    RDs P W fs Es → consec P fs off cs.length = true → xs.length = fs.length → (∀ (i : Nat) (f : Field), fs[i]? = some f → DataW.trod enc P W base spare held n f.type ((cs.drop f.offset).take (P.cellsOf f.type)) = xs[i]?) →
    (∀ k ∈ DataW.weightsEach P (fs.map (·.type)) (xs.map (·.1)), k ≤ reachBytes) → ∃ as, SE Es as ∧ CVF (frzW W) as (cs.drop off)
  | [], [], off, xs, _, hc, _, _, _ => by
    simp only [consec, beq_iff_eq] at hc
    refine ⟨[], rfl, by simp [hc], fun i c h => by simp at h⟩
  | [], _ :: _, _, _, h, _, _, _, _ => h.elim
  | _ :: _, [], _, _, h, _, _, _, _ => h.elim
  | f :: fs, E :: Es, off, [], _, _, hl, _, _ => by simp at hl
  | f :: fs, E :: Es, off, x :: xs, hr, hc, hl, ht, hw => by
    simp only [consec, Bool.and_eq_true, beq_iff_eq] at hc
    obtain ⟨ho, hc⟩ := hc
    have hle := consec_le hc
    simp only [List.map_cons, DataW.weightsEach, List.mem_append] at hw
    have h0 := ht 0 f rfl
    rw [ho] at h0
    obtain ⟨a, ha, hva⟩ := hr.1 H enc base spare held n _ x h0 fun k hk => hw k (.inl hk)
    obtain ⟨b, hb, hvb⟩ := rd_fields fs Es (off + P.cellsOf f.type) xs hr.2 hc (by simpa using hl) (fun i g hg => ht (i + 1) g hg) fun k hk => hw k (.inr hk)
    have hla : a.length = P.cellsOf f.type := by
      rw [hva.1]
      simp
      omega
    refine ⟨a ++ b, ⟨a, b, rfl, ha, hb⟩, ?_, fun i c h => ?_⟩
    · rw [List.length_append, hvb.1, hla]
      simp
      omega
    · by_cases hi : i < a.length
      · rw [List.getElem?_append_left hi] at h
        obtain ⟨h1, h2⟩ := hva.2 i c h
        refine ⟨h1, ?_⟩
        have : ((cs.drop off).take (P.cellsOf f.type)).getD i undef = (cs.drop off).getD i undef := by
          rw [List.getD_eq_getElem?_getD, List.getD_eq_getElem?_getD, List.getElem?_take_of_lt (by omega)]
        rwa [this] at h2
      · rw [List.getElem?_append_right (by omega)] at h
        obtain ⟨h1, h2⟩ := hvb.2 _ c h
        refine ⟨h1, ?_⟩
        have : (cs.drop (off + P.cellsOf f.type)).getD (i - a.length) undef = (cs.drop off).getD i undef := by
          rw [List.getD_eq_getElem?_getD, List.getD_eq_getElem?_getD, List.getElem?_drop, List.getElem?_drop]
          congr 2
          omega
        rwa [this] at h2
theorem rd_struct {P : Program} {W : World} {t : TypeId} {fs : Array Field} {Es : List (List AV → Prop)} (ht : P.underlying t = some (.struct fs)) (hc : consec P fs.toList 0 (P.cellsOf t) = true) (hr : RDs P W fs.toList Es) :
    RD P W t (SE Es) := fun H enc base spare held fuel cs x h hw => by
  obtain ⟨xs, n, rfl, rfl, hl, hx, hf⟩ := DataW.trod_struct ht h
  have := rd_fields (cs := cs) fs.toList Es 0 xs hr (by rw [hl]; exact hc) (by simpa using hx) (fun i f hi => hf i f (by simpa using hi)) (fun k hk => hw k (by simpa [DataW.weights, ht] using hk))
  simpa using this
end Go.VI
