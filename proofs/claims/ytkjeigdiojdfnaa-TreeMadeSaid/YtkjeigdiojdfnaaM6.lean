import Derived.Test.YtkjeigdiojdfnaaM1
import Derived.ChangeArms
import Derived.ChangeReads
import GoSem.ClaimJoined
import Derived.Test.YtkjeigdiojdfnaaM2
import Derived.Below
import Derived.Test.YtkjeigdiojdfnaaM3
import Derived.Test.YtkjeigdiojdfnaaChecked
import Derived.KernelRfl
import Derived.Test.YtkjeigdiojdfnaaM4
/- VI, part RA: what a row's arguments stand for: data read out of the first world. -/
set_option linter.unusedVariables false
set_option linter.unusedSimpArgs false
namespace Go.VI

/-- All cells of the first world. -/
def frzW (W : World) : Fz := fun b o => W.cell? ⟨b, o, none⟩
def CVF (F : Fz) (xs : List AV) (cs : List Value) : Prop := xs.length = cs.length ∧ ∀ i c, xs[i]? = some c → c.one = true ∧ VF F c (cs.getD i undef)
def RD (P : Program) (W : World) (t : TypeId) (E : List AV → Prop) : Prop :=
  ∀ (H : Type) (enc : TypeId × Value → H) (base : Nat) (spare : Nat → Bool) (held : Bool) (fuel : Nat) (cs : List Value) (x : DataW H × List MemPlace),
    DataW.trod enc P W base spare held fuel t cs = some x → (∀ n ∈ x.1.weights P t, n ≤ reachBytes) → ∃ xs, E xs ∧ CVF (frzW W) xs cs
theorem CVF.one {F : Fz} {a : AV} {v : Value} (h1 : a.one = true) (h : VF F a v) : CVF F [a] [v] := ⟨rfl, fun i c hc => by
  cases i with
  | zero => cases hc; exact ⟨h1, h⟩
  | succ i => simp at hc⟩
theorem CVF.cons {F : Fz} {a : AV} {v : Value} {l : List AV} {vs : List Value} (h : CVF F [a] [v]) (ht : CVF F l vs) : CVF F (a :: l) (v :: vs) := ⟨by simp [ht.1], fun i c hc => by
  cases i with
  | zero => exact h.2 0 c hc
  | succ i => exact ht.2 i c hc⟩
theorem rd_bool {P : Program} {W : World} {t : TypeId} (ht : P.underlying t = some .bool) : RD P W t fun xs => ∃ b, xs = [.sc (.bool b)] := fun H enc base spare held fuel cs x h _ => by
  obtain ⟨b, rfl, _⟩ := DataW.trod_bool ht h
  exact ⟨_, ⟨b, rfl⟩, .one rfl (.sc rfl)⟩
theorem rd_int {P : Program} {W : World} {t : TypeId} {k : IntKind} (ht : P.underlying t = some (.int k)) : RD P W t fun xs => ∃ n, xs = [.sc (.int k n)] ∧ (Lit.int k n).wf = true := fun H enc base spare held fuel cs x h _ => by
  obtain ⟨n, rfl, _, hw⟩ := DataW.trod_int ht h
  exact ⟨_, ⟨n, rfl, hw⟩, .one rfl (.sc rfl)⟩
theorem rd_str {P : Program} {W : World} {t : TypeId} (ht : P.underlying t = some .string) : RD P W t fun xs => ∃ s : ByteArray, xs = [.sc (.string s)] ∧ s.size ≤ reachBytes := fun H enc base spare held fuel cs x h hw => by
  obtain ⟨s, rfl, rfl, _⟩ := DataW.trod_string ht h
  refine ⟨_, ⟨s, rfl, ?_⟩, .one rfl (.sc rfl)⟩
  have := hw s.data.toList.length (by simp [DataW.weights])
  simpa using this

theorem cell_flat {W : World} {a : Addr} {v : Value} (h : W.cell? a = some v) : a.spot = none := by
  cases hs : a.spot with
  | none => rfl
  | some s =>
    simp only [World.cell?] at h
    split at h
    · simp [hs] at h
    · cases h
theorem add_flat (b o i : Nat) : (Addr.mk b o none).add i = ⟨b, o + i, none⟩ := by
  unfold Addr.add
  split
  · rename_i h; subst h; rfl
  · rfl
theorem weights_all {H : Type} {P : Program} {e : TypeId} : ∀ {l : List (DataW H)} {d : DataW H}, d ∈ l → ∀ n ∈ d.weights P e, n ∈ DataW.weightsAll P e l
  | x :: l, d, hd, n, hn => by
    simp only [DataW.weightsAll, List.mem_append]
    rcases List.mem_cons.1 hd with rfl | hd
    · exact .inl hn
    · exact .inr (weights_all hd n hn)
theorem rd_slice {P : Program} {W : World} {t e : TypeId} {E : List AV → Prop} {sz B : Nat} (ht : P.underlying t = some (.slice e)) (hc : P.cellsOf e = sz) (h0 : 0 < sz) (hB : P.bytesOf e = B) (he : RD P W e E) :
    RD P W t fun xs => ∃ rows, xs = [.lst rows] ∧ (∀ r ∈ rows, E r ∧ r.length = sz) ∧ rows.length * B ≤ reachBytes := fun H enc base spare held fuel cs x h hw => by
  rcases DataW.trod_slice ht h with ⟨rfl, rfl⟩ | ⟨a, len, cap, elems, rest, n, rfl, rfl, rfl, hb, hl, hm, hlen, hel, _, _⟩
  · exact ⟨_, ⟨[], rfl, by simp, by simp⟩, .one rfl (.lst (sz := 0) (b := 0) (o := 0) (fun _ _ => undef) (Nat.le_refl _) (fun h => absurd rfl h) (by simp) (by simp) (by simp) (by simp))⟩
  · rw [hc] at hel
    have hw1 : (len + rest.length) * B ≤ reachBytes := by
      have := hw ((elems.length + rest.length) * P.bytesOf e) (by simp [DataW.weights, ht])
      rwa [hB, hlen] at this
    have each : ∀ i : Nat, ∃ r : List AV, i < len → ∃ cs, W.cells? base (a.add (i * sz)) sz = some cs ∧ E r ∧ CVF (frzW W) r cs := fun i => by
      by_cases hi : i < len
      · have hy := hel i hi
        have hi' : i < elems.length := by omega
        rw [List.getElem?_eq_getElem hi', Option.bind_eq_some_iff] at hy
        obtain ⟨cs, hcs, hy⟩ := hy
        obtain ⟨r, hr, hv⟩ := he H enc base spare held n cs _ hy fun k hk => hw k (by
          simp only [DataW.weights, ht, List.mem_cons, List.mem_append]
          exact .inr (.inl (weights_all (List.mem_map.2 ⟨elems[i], List.getElem_mem hi', rfl⟩) k hk)))
        exact ⟨r, fun _ => ⟨cs, hcs, hr, hv⟩⟩
      · exact ⟨[], fun h => absurd h hi⟩
    obtain ⟨f, hf⟩ := Classical.skolem.1 each
    have hrows : ∀ i r, ((List.range len).map f)[i]? = some r → i < len ∧ r = f i := fun i r hr => by
      rw [List.getElem?_map, Option.map_eq_some_iff] at hr
      obtain ⟨j, hj, rfl⟩ := hr
      obtain ⟨h1, h2⟩ := List.getElem?_eq_some_iff.1 hj
      rw [List.getElem_range] at h2
      rw [List.length_range] at h1
      exact ⟨h1, by rw [h2]⟩
    have hlr : ∀ i, i < len → (f i).length = sz := fun i hi => by
      obtain ⟨cs, h1, _, h2⟩ := hf i hi
      rw [h2.1, (World.cells?_some h1).2.1]
    have cell : ∀ i j, i < len → j < sz → ∃ cs, W.cells? base (a.add (i * sz)) sz = some cs ∧ W.cell? ((a.add (i * sz)).add j) = cs[j]? ∧ ∃ v, cs[j]? = some v := fun i j hi hj => by
      obtain ⟨cs, h1, _, _⟩ := hf i hi
      obtain ⟨_, h2, h3⟩ := World.cells?_some h1
      exact ⟨cs, h1, h3 j hj, _, List.getElem?_eq_getElem (by omega)⟩
    have hflat : 0 < len → a = ⟨a.block, a.off, none⟩ := fun h => by
      obtain ⟨cs, _, h1, v, h2⟩ := cell 0 0 h h0
      rw [h2] at h1
      have h3 : (a.add (0 * sz)).add 0 = a := by rw [Nat.zero_mul]; simp [Addr.add]
      rw [h3] at h1
      have := cell_flat h1
      cases a
      simp only at this
      subst this
      rfl
    have hF : ∀ i j c, i < len → (f i)[j]? = some c → c.one = true ∧ ∃ v, frzW W a.block (a.off + i * sz + j) = some v ∧ VF (frzW W) c v := fun i j c hi hc => by
      have hj : j < sz := by rw [← hlr i hi]; exact (List.getElem?_eq_some_iff.1 hc).1
      obtain ⟨cs, h1, h2, v, h3⟩ := cell i j hi hj
      obtain ⟨cs', h1', _, h4⟩ := hf i hi
      rw [h1] at h1'
      cases h1'
      obtain ⟨h5, h6⟩ := h4.2 j c hc
      refine ⟨h5, v, ?_, ?_⟩
      · rw [hflat (by omega), add_flat, add_flat, h3] at h2
        exact h2
      · have : cs.getD j undef = v := by rw [List.getD_eq_getElem?_getD, h3]; rfl
        rwa [this] at h6
    refine ⟨_, ⟨(List.range len).map f, rfl, fun r hr => ?_, ?_⟩, .one rfl ?_⟩
    · obtain ⟨i, hi, rfl⟩ := List.mem_map.1 hr
      have hi := List.mem_range.1 hi
      obtain ⟨_, _, h1, _⟩ := hf i hi
      exact ⟨h1, hlr i hi⟩
    · simp only [List.length_map, List.length_range]
      exact Nat.le_trans (Nat.mul_le_mul_right _ (by omega)) hw1
    · have hll : ((List.range len).map f).length = len := by simp
      have := VF.lst (F := frzW W) (rows := (List.range len).map f) (A := some a) (cap := cap) (sz := sz) (b := a.block) (o := a.off) (fun i j => (frzW W a.block (a.off + i * sz + j)).getD undef)
        (by simpa using hl) (fun h => by rw [← hflat (by
          cases len with
          | zero => simp at h
          | succ => omega)]) (fun i r hr => by obtain ⟨h1, rfl⟩ := hrows i r hr; exact hlr i h1)
        (fun i r j c hr hc => by obtain ⟨h1, rfl⟩ := hrows i r hr; exact (hF i j c h1 hc).1)
        (fun i r j c hr hc => by
          obtain ⟨h1, rfl⟩ := hrows i r hr
          obtain ⟨_, v, h2, _⟩ := hF i j c h1 hc
          rw [h2]; rfl)
        (fun i r j c hr hc => by
          obtain ⟨h1, rfl⟩ := hrows i r hr
          obtain ⟨_, v, h2, h3⟩ := hF i j c h1 hc
          rw [h2]; exact h3)
      rwa [hll] at this

/-! ### structs -/
/-- Parts, one behind the other. -/
def SE : List (List AV → Prop) → List AV → Prop
  | [], xs => xs = []
  | E :: Es, xs => ∃ a b, xs = a ++ b ∧ E a ∧ SE Es b
def consec (P : Program) : List Field → Nat → Nat → Bool
  | [], off, en => off == en
  | f :: fs, off, en => f.offset == off && consec P fs (off + P.cellsOf f.type) en
theorem consec_le {P : Program} : ∀ {fs : List Field} {off en : Nat}, consec P fs off en = true → off ≤ en
  | [], off, en, h => by simp [consec] at h; omega
  | f :: fs, off, en, h => by
    simp only [consec, Bool.and_eq_true] at h
    have := consec_le h.2
    omega
def RDs (P : Program) (W : World) : List Field → List (List AV → Prop) → Prop
  | [], [] => True
  | f :: fs, E :: Es => RD P W f.type E ∧ RDs P W fs Es
  | _, _ => False
theorem rd_fields {P : Program} {W : World} {H : Type} {enc : TypeId × Value → H} {base : Nat} {spare : Nat → Bool} {held : Bool} {n : Nat} {cs : List Value} : ∀ (fs : List Field) (Es : List (List AV → Prop)) (off : Nat) (xs : List (DataW H × List MemPlace)),
    RDs P W fs Es → consec P fs off cs.length = true → xs.length = fs.length → (∀ (i : Nat) (f : Field), fs[i]? = some f → DataW.trod enc P W base spare held n f.type ((cs.drop f.offset).take (P.cellsOf f.type)) = xs[i]?) →
    (∀ k ∈ DataW.weightsEach P (fs.map (·.type)) (xs.map (·.1)), k ≤ reachBytes) → ∃ xs, SE Es xs ∧ CVF (frzW W) xs (cs.drop off)
  | [], [], off, xs, _, hc, _, _, _ => by
    simp only [consec, beq_iff_eq] at hc
    refine ⟨[], rfl, by simp [hc], fun i c h => by simp at h⟩
  | [], _ :: _, _, _, h, _, _, _, _ => h.elim
  | _ :: _, [], _, _, h, _, _, _, _ => h.elim
  | f :: fs, E :: Es, off, [], _, _, hl, _, _ => by simp at hl
  | f :: fs, E :: Es, off, x :: xs, hr, hc, hl, ht, hw => by
    simp only [consec, Bool.and_eq_true, beq_iff_eq] at hc
    obtain ⟨ho, hc⟩ := hc
    have hle := consec_le hc
    simp only [List.map_cons, DataW.weightsEach, List.mem_append] at hw
    have h0 := ht 0 f rfl
    rw [ho] at h0
    obtain ⟨a, ha, hva⟩ := hr.1 H enc base spare held n _ x h0 fun k hk => hw k (.inl hk)
    obtain ⟨b, hb, hvb⟩ := rd_fields fs Es (off + P.cellsOf f.type) xs hr.2 hc (by simpa using hl) (fun i g hg => ht (i + 1) g hg) fun k hk => hw k (.inr hk)
    have hla : a.length = P.cellsOf f.type := by
      rw [hva.1]
      simp
      omega
    refine ⟨a ++ b, ⟨a, b, rfl, ha, hb⟩, ?_, fun i c h => ?_⟩
    · rw [List.length_append, hvb.1, hla]
      simp
      omega
    · by_cases hi : i < a.length
      · rw [List.getElem?_append_left hi] at h
        obtain ⟨h1, h2⟩ := hva.2 i c h
        refine ⟨h1, ?_⟩
        have : ((cs.drop off).take (P.cellsOf f.type)).getD i undef = (cs.drop off).getD i undef := by
          rw [List.getD_eq_getElem?_getD, List.getD_eq_getElem?_getD, List.getElem?_take_of_lt (by omega)]
        rwa [this] at h2
      · rw [List.getElem?_append_right (by omega)] at h
        obtain ⟨h1, h2⟩ := hvb.2 _ c h
        refine ⟨h1, ?_⟩
        have : (cs.drop (off + P.cellsOf f.type)).getD (i - a.length) undef = (cs.drop off).getD i undef := by
          rw [List.getD_eq_getElem?_getD, List.getD_eq_getElem?_getD, List.getElem?_drop, List.getElem?_drop]
          congr 2
          omega
        rwa [this] at h2
theorem rd_struct {P : Program} {W : World} {t : TypeId} {fs : Array Field} {Es : List (List AV → Prop)} (ht : P.underlying t = some (.struct fs)) (hc : consec P fs.toList 0 (P.cellsOf t) = true) (hr : RDs P W fs.toList Es) :
    RD P W t (SE Es) := fun H enc base spare held fuel cs x h hw => by
  obtain ⟨xs, n, rfl, rfl, hl, hx, hf⟩ := DataW.trod_struct ht h
  have := rd_fields (cs := cs) fs.toList Es 0 xs hr (by rw [hl]; exact hc) (by simpa using hx) (fun i f hi => hf i f (by simpa using hi)) (fun k hk => hw k (by simpa [DataW.weights, ht] using hk))
  simpa using this
end Go.VI

/- VI, part RB: from a reckoned call to the machine's call: true is told, and all that was there is as it was. -/
set_option linter.unusedVariables false
set_option linter.unusedSimpArgs false
namespace Go.VI
open Go.RowKit

def m0 : Mp := fun _ => none
theorem inv0 (W : World) : Inv m0 (frzW W) Heap.empty W :=
  ⟨fun b o v h => h, fun id mb h => absurd h (by simp [m0]), fun id mb B h => absurd h (by simp [m0]), fun id id' mb mb' h => absurd h (by simp [m0])⟩
theorem below_of {F' : Fz} {m' : Mp} {W W' : World} (h : Ext m0 (frzW W) W m' F' W') : Below W.heap.size W W' :=
  ⟨h.os, h.tape, h.out, h.sz, fun k hk => h.blk k hk fun id mb hm => absurd hm (by simp [m0])⟩
theorem law_calls {P : Program} (hP : P.follows .mixedOrders = true) {ft : FT} (hft : FTOk P ft) {k : FuncId} {args : List AV} {vs : Array Value} {W : World} {H' : Heap} (hgo : ∃ p n rs body, ft k = some (.go p n rs body))
    (h : callL ft (.fn (.func k) [] []) args Heap.empty = some (.sc (.bool true), H')) (hv : VRs m0 (frzW W) args vs) :
    Calls P k vs W fun e W' => e = .returned (.bool true) ∧ Below W.heap.size W W' := by
  obtain ⟨n, hn⟩ := callL_some.1 h
  have hn' : callF ft (exec ft n) k args Heap.empty = some (.sc (.bool true), H') := by simpa [callV] using hn
  refine (callF_sound hP hft n hn' (inv0 W) hv hgo).mono fun e W' he => ?_
  obtain ⟨u, m', F', rfl, hu, _, hx, _⟩ := he
  refine ⟨?_, below_of hx⟩
  cases hu with
  | fz hu => cases hu; rfl
theorem go_ok {P : Program} {k : FuncId} {n : Nat} {rs : List ARes} {body : ACode} (h : compF P k = some (n, rs, body)) (hn : (P.funcs[k]?).all (fun fn => !(fn.name == "runtime.NumGoroutine")) = true) :
    ∃ fn c, P.funcs[k]? = some fn ∧ (fn.name == "runtime.NumGoroutine") = false ∧ fn.body = some c ∧ compC P c = some body ∧ fn.ntmps = n ∧ fn.results.toList.mapM (compRes P) = some rs := by
  unfold compF at h
  simp only [Option.bind_eq_some_iff, Option.map_eq_some_iff, Prod.mk.injEq] at h
  obtain ⟨fn, h1, b, h2, c, h3, rs', h4, rfl, rfl, rfl⟩ := h
  rw [h1] at hn
  exact ⟨fn, b, h1, by simpa using hn, h2, h3, rfl, h4⟩
theorem vrs_of {F : Fz} {m : Mp} {args : List AV} {vs : List Value} (h : CVF F args vs) : VRs m F args vs.toArray := by
  refine ⟨?_, ?_⟩
  · simp [h.1]
  · intro i c hc
    have := (h.2 i c hc).2
    simpa using VR.fz this
end Go.VI

/- VI, part RF: the table of functions is the program's. Printed by wip/vi/gen/ftok.py. -/
set_option linter.unusedVariables false
set_option maxRecDepth 100000
namespace Go.VI
theorem fc3 : compF Go.Proofs.Try.prog 3 = some (139, r3, c3) := by rfl
theorem fn3 : (Go.Proofs.Try.prog.funcs[3]?).all (fun fn => !(fn.name == "runtime.NumGoroutine")) = true := by kernel_rfl
theorem fc4 : compF Go.Proofs.Try.prog 4 = some (94, r4, c4) := by rfl
theorem fn4 : (Go.Proofs.Try.prog.funcs[4]?).all (fun fn => !(fn.name == "runtime.NumGoroutine")) = true := by kernel_rfl
theorem fc5 : compF Go.Proofs.Try.prog 5 = some (109, r5, c5) := by rfl
theorem fn5 : (Go.Proofs.Try.prog.funcs[5]?).all (fun fn => !(fn.name == "runtime.NumGoroutine")) = true := by kernel_rfl
theorem fc6 : compF Go.Proofs.Try.prog 6 = some (125, r6, c6) := by rfl
theorem fn6 : (Go.Proofs.Try.prog.funcs[6]?).all (fun fn => !(fn.name == "runtime.NumGoroutine")) = true := by kernel_rfl
theorem fc7 : compF Go.Proofs.Try.prog 7 = some (133, r7, c7) := by rfl
theorem fn7 : (Go.Proofs.Try.prog.funcs[7]?).all (fun fn => !(fn.name == "runtime.NumGoroutine")) = true := by kernel_rfl
theorem fc8 : compF Go.Proofs.Try.prog 8 = some (99, r8, c8) := by rfl
theorem fn8 : (Go.Proofs.Try.prog.funcs[8]?).all (fun fn => !(fn.name == "runtime.NumGoroutine")) = true := by kernel_rfl
theorem fc9 : compF Go.Proofs.Try.prog 9 = some (103, r9, c9) := by rfl
theorem fn9 : (Go.Proofs.Try.prog.funcs[9]?).all (fun fn => !(fn.name == "runtime.NumGoroutine")) = true := by kernel_rfl
theorem fc10 : compF Go.Proofs.Try.prog 10 = some (114, r10, c10) := by rfl
theorem fn10 : (Go.Proofs.Try.prog.funcs[10]?).all (fun fn => !(fn.name == "runtime.NumGoroutine")) = true := by kernel_rfl
theorem fc12 : compF Go.Proofs.Try.prog 12 = some (93, r12, c12) := by rfl
theorem fn12 : (Go.Proofs.Try.prog.funcs[12]?).all (fun fn => !(fn.name == "runtime.NumGoroutine")) = true := by kernel_rfl
theorem fc13 : compF Go.Proofs.Try.prog 13 = some (31, r13, c13) := by rfl
theorem fn13 : (Go.Proofs.Try.prog.funcs[13]?).all (fun fn => !(fn.name == "runtime.NumGoroutine")) = true := by kernel_rfl
theorem fc14 : compF Go.Proofs.Try.prog 14 = some (156, r14, c14) := by rfl
theorem fn14 : (Go.Proofs.Try.prog.funcs[14]?).all (fun fn => !(fn.name == "runtime.NumGoroutine")) = true := by kernel_rfl
theorem fc15 : compF Go.Proofs.Try.prog 15 = some (49, r15, c15) := by rfl
theorem fn15 : (Go.Proofs.Try.prog.funcs[15]?).all (fun fn => !(fn.name == "runtime.NumGoroutine")) = true := by kernel_rfl
theorem fc16 : compF Go.Proofs.Try.prog 16 = some (14, r16, c16) := by rfl
theorem fn16 : (Go.Proofs.Try.prog.funcs[16]?).all (fun fn => !(fn.name == "runtime.NumGoroutine")) = true := by kernel_rfl
theorem fc17 : compF Go.Proofs.Try.prog 17 = some (4, r17, c17) := by rfl
theorem fn17 : (Go.Proofs.Try.prog.funcs[17]?).all (fun fn => !(fn.name == "runtime.NumGoroutine")) = true := by kernel_rfl
theorem fc18 : compF Go.Proofs.Try.prog 18 = some (102, r18, c18) := by rfl
theorem fn18 : (Go.Proofs.Try.prog.funcs[18]?).all (fun fn => !(fn.name == "runtime.NumGoroutine")) = true := by kernel_rfl
theorem fc19 : compF Go.Proofs.Try.prog 19 = some (14, r19, c19) := by rfl
theorem fn19 : (Go.Proofs.Try.prog.funcs[19]?).all (fun fn => !(fn.name == "runtime.NumGoroutine")) = true := by kernel_rfl
theorem fc20 : compF Go.Proofs.Try.prog 20 = some (56, r20, c20) := by rfl
theorem fn20 : (Go.Proofs.Try.prog.funcs[20]?).all (fun fn => !(fn.name == "runtime.NumGoroutine")) = true := by kernel_rfl
theorem fc21 : compF Go.Proofs.Try.prog 21 = some (29, r21, c21) := by rfl
theorem fn21 : (Go.Proofs.Try.prog.funcs[21]?).all (fun fn => !(fn.name == "runtime.NumGoroutine")) = true := by kernel_rfl
theorem fc22 : compF Go.Proofs.Try.prog 22 = some (172, r22, c22) := by rfl
theorem fn22 : (Go.Proofs.Try.prog.funcs[22]?).all (fun fn => !(fn.name == "runtime.NumGoroutine")) = true := by kernel_rfl
theorem fc23 : compF Go.Proofs.Try.prog 23 = some (33, r23, c23) := by rfl
theorem fn23 : (Go.Proofs.Try.prog.funcs[23]?).all (fun fn => !(fn.name == "runtime.NumGoroutine")) = true := by kernel_rfl
theorem fc24 : compF Go.Proofs.Try.prog 24 = some (57, r24, c24) := by rfl
theorem fn24 : (Go.Proofs.Try.prog.funcs[24]?).all (fun fn => !(fn.name == "runtime.NumGoroutine")) = true := by kernel_rfl
theorem fc25 : compF Go.Proofs.Try.prog 25 = some (46, r25, c25) := by rfl
theorem fn25 : (Go.Proofs.Try.prog.funcs[25]?).all (fun fn => !(fn.name == "runtime.NumGoroutine")) = true := by kernel_rfl
theorem fc26 : compF Go.Proofs.Try.prog 26 = some (131, r26, c26) := by rfl
theorem fn26 : (Go.Proofs.Try.prog.funcs[26]?).all (fun fn => !(fn.name == "runtime.NumGoroutine")) = true := by kernel_rfl
theorem fc27 : compF Go.Proofs.Try.prog 27 = some (51, r27, c27) := by rfl
theorem fn27 : (Go.Proofs.Try.prog.funcs[27]?).all (fun fn => !(fn.name == "runtime.NumGoroutine")) = true := by kernel_rfl
theorem fc29 : compF Go.Proofs.Try.prog 29 = some (33, r29, c29) := by rfl
theorem fn29 : (Go.Proofs.Try.prog.funcs[29]?).all (fun fn => !(fn.name == "runtime.NumGoroutine")) = true := by kernel_rfl
theorem fc30 : compF Go.Proofs.Try.prog 30 = some (11, r30, c30) := by rfl
theorem fn30 : (Go.Proofs.Try.prog.funcs[30]?).all (fun fn => !(fn.name == "runtime.NumGoroutine")) = true := by kernel_rfl
theorem fc31 : compF Go.Proofs.Try.prog 31 = some (63, r31, c31) := by rfl
theorem fn31 : (Go.Proofs.Try.prog.funcs[31]?).all (fun fn => !(fn.name == "runtime.NumGoroutine")) = true := by kernel_rfl
theorem fc32 : compF Go.Proofs.Try.prog 32 = some (44, r32, c32) := by rfl
theorem fn32 : (Go.Proofs.Try.prog.funcs[32]?).all (fun fn => !(fn.name == "runtime.NumGoroutine")) = true := by kernel_rfl
theorem fc33 : compF Go.Proofs.Try.prog 33 = some (21, r33, c33) := by rfl
theorem fn33 : (Go.Proofs.Try.prog.funcs[33]?).all (fun fn => !(fn.name == "runtime.NumGoroutine")) = true := by kernel_rfl
theorem fc34 : compF Go.Proofs.Try.prog 34 = some (21, r34, c34) := by rfl
theorem fn34 : (Go.Proofs.Try.prog.funcs[34]?).all (fun fn => !(fn.name == "runtime.NumGoroutine")) = true := by kernel_rfl
theorem fc35 : compF Go.Proofs.Try.prog 35 = some (21, r35, c35) := by rfl
theorem fn35 : (Go.Proofs.Try.prog.funcs[35]?).all (fun fn => !(fn.name == "runtime.NumGoroutine")) = true := by kernel_rfl
theorem fc36 : compF Go.Proofs.Try.prog 36 = some (21, r36, c36) := by rfl
theorem fn36 : (Go.Proofs.Try.prog.funcs[36]?).all (fun fn => !(fn.name == "runtime.NumGoroutine")) = true := by kernel_rfl
theorem fc37 : compF Go.Proofs.Try.prog 37 = some (59, r37, c37) := by rfl
theorem fn37 : (Go.Proofs.Try.prog.funcs[37]?).all (fun fn => !(fn.name == "runtime.NumGoroutine")) = true := by kernel_rfl
theorem fc38 : compF Go.Proofs.Try.prog 38 = some (17, r38, c38) := by rfl
theorem fn38 : (Go.Proofs.Try.prog.funcs[38]?).all (fun fn => !(fn.name == "runtime.NumGoroutine")) = true := by kernel_rfl
theorem fc39 : compF Go.Proofs.Try.prog 39 = some (8, r39, c39) := by rfl
theorem fn39 : (Go.Proofs.Try.prog.funcs[39]?).all (fun fn => !(fn.name == "runtime.NumGoroutine")) = true := by kernel_rfl
theorem fc40 : compF Go.Proofs.Try.prog 40 = some (8, r40, c40) := by rfl
theorem fn40 : (Go.Proofs.Try.prog.funcs[40]?).all (fun fn => !(fn.name == "runtime.NumGoroutine")) = true := by kernel_rfl
theorem fc41 : compF Go.Proofs.Try.prog 41 = some (59, r41, c41) := by rfl
theorem fn41 : (Go.Proofs.Try.prog.funcs[41]?).all (fun fn => !(fn.name == "runtime.NumGoroutine")) = true := by kernel_rfl
theorem fc42 : compF Go.Proofs.Try.prog 42 = some (18, r42, c42) := by rfl
theorem fn42 : (Go.Proofs.Try.prog.funcs[42]?).all (fun fn => !(fn.name == "runtime.NumGoroutine")) = true := by kernel_rfl
theorem fc43 : compF Go.Proofs.Try.prog 43 = some (12, r43, c43) := by rfl
theorem fn43 : (Go.Proofs.Try.prog.funcs[43]?).all (fun fn => !(fn.name == "runtime.NumGoroutine")) = true := by kernel_rfl
theorem fc44 : compF Go.Proofs.Try.prog 44 = some (27, r44, c44) := by rfl
theorem fn44 : (Go.Proofs.Try.prog.funcs[44]?).all (fun fn => !(fn.name == "runtime.NumGoroutine")) = true := by kernel_rfl
theorem fc45 : compF Go.Proofs.Try.prog 45 = some (16, r45, c45) := by rfl
theorem fn45 : (Go.Proofs.Try.prog.funcs[45]?).all (fun fn => !(fn.name == "runtime.NumGoroutine")) = true := by kernel_rfl
theorem fc46 : compF Go.Proofs.Try.prog 46 = some (26, r46, c46) := by rfl
theorem fn46 : (Go.Proofs.Try.prog.funcs[46]?).all (fun fn => !(fn.name == "runtime.NumGoroutine")) = true := by kernel_rfl
theorem fc47 : compF Go.Proofs.Try.prog 47 = some (40, r47, c47) := by rfl
theorem fn47 : (Go.Proofs.Try.prog.funcs[47]?).all (fun fn => !(fn.name == "runtime.NumGoroutine")) = true := by kernel_rfl
theorem fc48 : compF Go.Proofs.Try.prog 48 = some (11, r48, c48) := by rfl
theorem fn48 : (Go.Proofs.Try.prog.funcs[48]?).all (fun fn => !(fn.name == "runtime.NumGoroutine")) = true := by kernel_rfl
theorem fc49 : compF Go.Proofs.Try.prog 49 = some (33, r49, c49) := by rfl
theorem fn49 : (Go.Proofs.Try.prog.funcs[49]?).all (fun fn => !(fn.name == "runtime.NumGoroutine")) = true := by kernel_rfl
theorem fc50 : compF Go.Proofs.Try.prog 50 = some (25, r50, c50) := by rfl
theorem fn50 : (Go.Proofs.Try.prog.funcs[50]?).all (fun fn => !(fn.name == "runtime.NumGoroutine")) = true := by kernel_rfl
theorem fc51 : compF Go.Proofs.Try.prog 51 = some (17, r51, c51) := by rfl
theorem fn51 : (Go.Proofs.Try.prog.funcs[51]?).all (fun fn => !(fn.name == "runtime.NumGoroutine")) = true := by kernel_rfl
theorem fc52 : compF Go.Proofs.Try.prog 52 = some (85, r52, c52) := by rfl
theorem fn52 : (Go.Proofs.Try.prog.funcs[52]?).all (fun fn => !(fn.name == "runtime.NumGoroutine")) = true := by kernel_rfl
theorem fc53 : compF Go.Proofs.Try.prog 53 = some (40, r53, c53) := by rfl
theorem fn53 : (Go.Proofs.Try.prog.funcs[53]?).all (fun fn => !(fn.name == "runtime.NumGoroutine")) = true := by kernel_rfl
theorem fc54 : compF Go.Proofs.Try.prog 54 = some (32, r54, c54) := by rfl
theorem fn54 : (Go.Proofs.Try.prog.funcs[54]?).all (fun fn => !(fn.name == "runtime.NumGoroutine")) = true := by kernel_rfl
theorem fc55 : compF Go.Proofs.Try.prog 55 = some (84, r55, c55) := by rfl
theorem fn55 : (Go.Proofs.Try.prog.funcs[55]?).all (fun fn => !(fn.name == "runtime.NumGoroutine")) = true := by kernel_rfl
theorem fc56 : compF Go.Proofs.Try.prog 56 = some (48, r56, c56) := by rfl
theorem fn56 : (Go.Proofs.Try.prog.funcs[56]?).all (fun fn => !(fn.name == "runtime.NumGoroutine")) = true := by kernel_rfl
theorem fc57 : compF Go.Proofs.Try.prog 57 = some (62, r57, c57) := by rfl
theorem fn57 : (Go.Proofs.Try.prog.funcs[57]?).all (fun fn => !(fn.name == "runtime.NumGoroutine")) = true := by kernel_rfl
theorem fc58 : compF Go.Proofs.Try.prog 58 = some (27, r58, c58) := by rfl
theorem fn58 : (Go.Proofs.Try.prog.funcs[58]?).all (fun fn => !(fn.name == "runtime.NumGoroutine")) = true := by kernel_rfl
theorem fc59 : compF Go.Proofs.Try.prog 59 = some (56, r59, c59) := by rfl
theorem fn59 : (Go.Proofs.Try.prog.funcs[59]?).all (fun fn => !(fn.name == "runtime.NumGoroutine")) = true := by kernel_rfl
theorem fc60 : compF Go.Proofs.Try.prog 60 = some (12, r60, c60) := by rfl
theorem fn60 : (Go.Proofs.Try.prog.funcs[60]?).all (fun fn => !(fn.name == "runtime.NumGoroutine")) = true := by kernel_rfl
theorem fc61 : compF Go.Proofs.Try.prog 61 = some (8, r61, c61) := by rfl
theorem fn61 : (Go.Proofs.Try.prog.funcs[61]?).all (fun fn => !(fn.name == "runtime.NumGoroutine")) = true := by kernel_rfl
theorem fc62 : compF Go.Proofs.Try.prog 62 = some (113, r62, c62) := by rfl
theorem fn62 : (Go.Proofs.Try.prog.funcs[62]?).all (fun fn => !(fn.name == "runtime.NumGoroutine")) = true := by kernel_rfl
theorem fc63 : compF Go.Proofs.Try.prog 63 = some (48, r63, c63) := by rfl
theorem fn63 : (Go.Proofs.Try.prog.funcs[63]?).all (fun fn => !(fn.name == "runtime.NumGoroutine")) = true := by kernel_rfl
theorem fc64 : compF Go.Proofs.Try.prog 64 = some (33, r64, c64) := by rfl
theorem fn64 : (Go.Proofs.Try.prog.funcs[64]?).all (fun fn => !(fn.name == "runtime.NumGoroutine")) = true := by kernel_rfl
theorem fc65 : compF Go.Proofs.Try.prog 65 = some (8, r65, c65) := by rfl
theorem fn65 : (Go.Proofs.Try.prog.funcs[65]?).all (fun fn => !(fn.name == "runtime.NumGoroutine")) = true := by kernel_rfl
theorem fc66 : compF Go.Proofs.Try.prog 66 = some (49, r66, c66) := by rfl
theorem fn66 : (Go.Proofs.Try.prog.funcs[66]?).all (fun fn => !(fn.name == "runtime.NumGoroutine")) = true := by kernel_rfl
theorem fc67 : compF Go.Proofs.Try.prog 67 = some (9, r67, c67) := by rfl
theorem fn67 : (Go.Proofs.Try.prog.funcs[67]?).all (fun fn => !(fn.name == "runtime.NumGoroutine")) = true := by kernel_rfl
theorem fc68 : compF Go.Proofs.Try.prog 68 = some (106, r68, c68) := by rfl
theorem fn68 : (Go.Proofs.Try.prog.funcs[68]?).all (fun fn => !(fn.name == "runtime.NumGoroutine")) = true := by kernel_rfl
theorem fc70 : compF Go.Proofs.Try.prog 70 = some (38, r70, c70) := by rfl
theorem fn70 : (Go.Proofs.Try.prog.funcs[70]?).all (fun fn => !(fn.name == "runtime.NumGoroutine")) = true := by kernel_rfl
theorem fc71 : compF Go.Proofs.Try.prog 71 = some (31, r71, c71) := by rfl
theorem fn71 : (Go.Proofs.Try.prog.funcs[71]?).all (fun fn => !(fn.name == "runtime.NumGoroutine")) = true := by kernel_rfl
theorem ft_ok : FTOk Go.Proofs.Try.prog ft := by
  intro k d h
  unfold ft at h
  split at h
  · cases h; exact go_ok fc3 fn3
  · cases h; exact go_ok fc4 fn4
  · cases h; exact go_ok fc5 fn5
  · cases h; exact go_ok fc6 fn6
  · cases h; exact go_ok fc7 fn7
  · cases h; exact go_ok fc8 fn8
  · cases h; exact go_ok fc9 fn9
  · cases h; exact go_ok fc10 fn10
  · cases h; exact go_ok fc12 fn12
  · cases h; exact go_ok fc13 fn13
  · cases h; exact go_ok fc14 fn14
  · cases h; exact go_ok fc15 fn15
  · cases h; exact go_ok fc16 fn16
  · cases h; exact go_ok fc17 fn17
  · cases h; exact go_ok fc18 fn18
  · cases h; exact go_ok fc19 fn19
  · cases h; exact go_ok fc20 fn20
  · cases h; exact go_ok fc21 fn21
  · cases h; exact go_ok fc22 fn22
  · cases h; exact go_ok fc23 fn23
  · cases h; exact go_ok fc24 fn24
  · cases h; exact go_ok fc25 fn25
  · cases h; exact go_ok fc26 fn26
  · cases h; exact go_ok fc27 fn27
  · cases h; exact go_ok fc29 fn29
  · cases h; exact go_ok fc30 fn30
  · cases h; exact go_ok fc31 fn31
  · cases h; exact go_ok fc32 fn32
  · cases h; exact go_ok fc33 fn33
  · cases h; exact go_ok fc34 fn34
  · cases h; exact go_ok fc35 fn35
  · cases h; exact go_ok fc36 fn36
  · cases h; exact go_ok fc37 fn37
  · cases h; exact go_ok fc38 fn38
  · cases h; exact go_ok fc39 fn39
  · cases h; exact go_ok fc40 fn40
  · cases h; exact go_ok fc41 fn41
  · cases h; exact go_ok fc42 fn42
  · cases h; exact go_ok fc43 fn43
  · cases h; exact go_ok fc44 fn44
  · cases h; exact go_ok fc45 fn45
  · cases h; exact go_ok fc46 fn46
  · cases h; exact go_ok fc47 fn47
  · cases h; exact go_ok fc48 fn48
  · cases h; exact go_ok fc49 fn49
  · cases h; exact go_ok fc50 fn50
  · cases h; exact go_ok fc51 fn51
  · cases h; exact go_ok fc52 fn52
  · cases h; exact go_ok fc53 fn53
  · cases h; exact go_ok fc54 fn54
  · cases h; exact go_ok fc55 fn55
  · cases h; exact go_ok fc56 fn56
  · cases h; exact go_ok fc57 fn57
  · cases h; exact go_ok fc58 fn58
  · cases h; exact go_ok fc59 fn59
  · cases h; exact go_ok fc60 fn60
  · cases h; exact go_ok fc61 fn61
  · cases h; exact go_ok fc62 fn62
  · cases h; exact go_ok fc63 fn63
  · cases h; exact go_ok fc64 fn64
  · cases h; exact go_ok fc65 fn65
  · cases h; exact go_ok fc66 fn66
  · cases h; exact go_ok fc67 fn67
  · cases h; exact go_ok fc68 fn68
  · cases h; exact go_ok fc70 fn70
  · cases h; exact go_ok fc71 fn71
  · cases h; exact cmp_ok Go.Proofs.Try.func69 (by kernel_rfl) (by kernel_rfl) (by kernel_rfl) (by kernel_rfl)
  · cases h
theorem follows : Go.Proofs.Try.prog.follows .mixedOrders = true := by kernel_rfl
end Go.VI

/- VI, part RG: what the arguments of this seat's laws stand for. -/
set_option linter.unusedVariables false
set_option linter.unusedSimpArgs false
namespace Go.VI
open Go.Proofs

theorem RD.mono {P : Program} {W : World} {t : TypeId} {E E' : List AV → Prop} (h : RD P W t E) (hE : ∀ xs, E xs → E' xs) : RD P W t E' := fun H enc base spare held fuel cs x hx hw => by
  obtain ⟨xs, h1, h2⟩ := h H enc base spare held fuel cs x hx hw
  exact ⟨xs, hE xs h1, h2⟩
theorem rows_map {α : Type} {g : α → List AV} {p : α → Prop} : ∀ {rows : List (List AV)}, (∀ r ∈ rows, ∃ x, r = g x ∧ p x) → ∃ l : List α, rows = l.map g ∧ ∀ x ∈ l, p x
  | [], _ => ⟨[], rfl, by simp⟩
  | r :: rows, h => by
    obtain ⟨x, rfl, hx⟩ := h r List.mem_cons_self
    obtain ⟨l, rfl, hl⟩ := rows_map fun r hr => h r (List.mem_cons_of_mem _ hr)
    exact ⟨x :: l, rfl, fun y hy => by
      rcases List.mem_cons.1 hy with rfl | hy
      · exact hx
      · exact hl y hy⟩
variable (W : World)
theorem rdB : RD Try.prog W 23 fun xs => ∃ l : Bytes, xs = [encB l] ∧ okB l :=
  (rd_slice (sz := 1) (B := 1) Try.underlying23 (by kernel_rfl) (by decide) (by kernel_rfl) (rd_int Try.underlying5)).mono fun xs ⟨rows, h1, h2, h3⟩ => by
    obtain ⟨l, rfl, hl⟩ := rows_map (g := byteC) (p := fun n => (Lit.int .u8 n).wf = true) fun r hr => (h2 r hr).1
    refine ⟨l, h1, ?_, ?_⟩
    · simp only [List.length_map, reachBytes] at h3
      unfold MX
      omega
    · unfold byteR
      rw [List.all_eq_true]
      intro n hn
      have := hl n hn
      simp only [Lit.wf, IntKind.min, IntKind.max, IntKind.signed, IntKind.bits] at this
      simp at this
      simp
      omega
theorem rdN : RD Try.prog W 3 fun xs => ∃ n, xs = [int n] ∧ (Lit.int .i64 n).wf = true := rd_int Try.underlying3
theorem rdIt : RD Try.prog W 59 fun xs => ∃ x : ItemM, xs = itemC x ∧ okIt x :=
  (rd_struct (Es := [_, _, _, _]) Try.underlying59 (by kernel_rfl) ⟨rdB W, rdB W, rdN W, rdN W, trivial⟩).mono fun xs h => by
    obtain ⟨_, _, rfl, ⟨k, rfl, hk⟩, _, _, rfl, ⟨v, rfl, hv⟩, _, _, rfl, ⟨s, rfl, _⟩, _, _, rfl, ⟨r, rfl, _⟩, rfl⟩ := h
    exact ⟨⟨k, v, s, r⟩, rfl, hk, hv⟩
theorem rdI : RD Try.prog W 26 fun xs => ∃ l : List ItemM, xs = [encI l] ∧ okI l :=
  (rd_slice (sz := 4) (B := 64) Try.underlying26 (by kernel_rfl) (by decide) (by kernel_rfl) (rdIt W)).mono fun xs ⟨rows, h1, h2, h3⟩ => by
    obtain ⟨l, rfl, hl⟩ := rows_map (g := itemC) (p := okIt) fun r hr => (h2 r hr).1
    refine ⟨l, h1, ?_, hl⟩
    simp only [List.length_map, reachBytes] at h3
    unfold MX
    omega
theorem rdKd : RD Try.prog W 93 fun xs => ∃ x : KidM, xs = kidC x ∧ okB x.key :=
  (rd_struct (Es := [_, _]) Try.underlying93 (by kernel_rfl) ⟨rdB W, rdN W, trivial⟩).mono fun xs h => by
    obtain ⟨_, _, rfl, ⟨k, rfl, hk⟩, _, _, rfl, ⟨r, rfl, _⟩, rfl⟩ := h
    exact ⟨⟨k, r⟩, rfl, hk⟩
theorem rdK : RD Try.prog W 27 fun xs => ∃ l : List KidM, xs = [encK l] ∧ okK l :=
  (rd_slice (sz := 2) (B := 32) Try.underlying27 (by kernel_rfl) (by decide) (by kernel_rfl) (rdKd W)).mono fun xs ⟨rows, h1, h2, h3⟩ => by
    obtain ⟨l, rfl, hl⟩ := rows_map (g := kidC) (p := fun x => okB x.key) fun r hr => (h2 r hr).1
    refine ⟨l, h1, ?_, hl⟩
    simp only [List.length_map, reachBytes] at h3
    unfold MX
    omega
theorem rdNode : RD Try.prog W 29 fun xs => ∃ x : NodeM, xs = nodeC x ∧ okN x :=
  (rd_struct (Es := [_, _, _]) Try.underlying29 (by kernel_rfl) ⟨rd_bool Try.underlying4, rdI W, rdK W, trivial⟩).mono fun xs h => by
    obtain ⟨_, _, rfl, ⟨b, rfl⟩, _, _, rfl, ⟨i, rfl, hi⟩, _, _, rfl, ⟨k, rfl, hk⟩, rfl⟩ := h
    exact ⟨⟨b, i, k⟩, rfl, hi, hk⟩
theorem rdNm : RD Try.prog W 31 fun xs => ∃ x : NamedM, xs = namedC x ∧ okN x.n :=
  (rd_struct (Es := [_, _]) Try.underlying31 (by kernel_rfl) ⟨rdN W, rdNode W, trivial⟩).mono fun xs h => by
    obtain ⟨_, _, rfl, ⟨r, rfl, _⟩, _, _, rfl, ⟨n, rfl, hn⟩, rfl⟩ := h
    exact ⟨⟨r, n⟩, by simp [namedC], hn⟩
theorem rdL : RD Try.prog W 22 fun xs => ∃ l : List NamedM, xs = [encL l] ∧ okL l :=
  (rd_slice (sz := 4) (B := 64) Try.underlying22 (by kernel_rfl) (by decide) (by kernel_rfl) (rdNm W)).mono fun xs ⟨rows, h1, h2, h3⟩ => by
    obtain ⟨l, rfl, hl⟩ := rows_map (g := namedC) (p := fun x => okN x.n) fun r hr => (h2 r hr).1
    refine ⟨l, h1, ?_, hl⟩
    simp only [List.length_map, reachBytes] at h3
    unfold MX
    omega
end Go.VI

