/- VI, part YA: rules that only fire where slots and heap are known. -/
import Derived.Test.YtkjeigdiojdfnaaVY
set_option linter.unusedVariables false
set_option linter.unusedSimpArgs false
namespace Go.VI

/-- A heap that is known: K, and new blocks behind it. -/
def hx (K : Heap) (L : List Blk) : Heap := ⟨K.bs ++ L⟩
theorem hx_nil (K : Heap) : hx K [] = K := by simp [hx]
section
variable (K : Heap) (L : List Blk) (b : Blk) (i : Nat)
theorem hx_next : (hx K L).next = K.next + L.length := by simp [hx, Heap.next]
theorem hx_put : (hx K L).put (K.next + i) b = if i < L.length then hx K (L.set i b) else hx K (L ++ [b]) := by
  unfold Heap.put
  rw [hx_next]
  by_cases h : i < L.length
  · rw [if_pos (by omega), if_pos h]
    simp only [Heap.set, hx, Heap.next]
    congr 1
    rw [List.set_append_right _ _ (by omega)]
    congr 2
    omega
  · rw [if_neg (by omega), if_neg h]
    simp [Heap.push, hx]
theorem hx_put0 : (hx K L).put K.next b = if 0 < L.length then hx K (L.set 0 b) else hx K (L ++ [b]) := hx_put K L b 0
theorem hx_get : (hx K L).get (K.next + i) = L[i]? := by
  simp only [Heap.get, hx, Heap.next]
  rw [List.getElem?_append_right (by omega)]
  congr 1
  omega
theorem hx_get0 : (hx K L).get K.next = L[0]? := hx_get K L 0
theorem hx_get_old (h : i < K.next) : (hx K L).get i = K.get i := by
  simp only [Heap.get, hx, Heap.next] at *
  rw [List.getElem?_append_left h]
theorem hx_set : (hx K L).set (K.next + i) b = hx K (L.set i b) := by
  simp only [Heap.set, hx, Heap.next]
  rw [List.set_append_right _ _ (by omega)]
  congr 3
  omega
theorem hx_set0 : (hx K L).set K.next b = hx K (L.set 0 b) := hx_set K L b 0
theorem hx_set_old (h : i < K.next) : (hx K L).set i b = hx (K.set i b) L := by
  simp only [Heap.set, hx, Heap.next] at *
  rw [List.set_append_left _ _ h]
theorem hx_pad : (hx K L).pad i = hx K (L ++ List.replicate i .dead) := by simp [hx, Heap.pad]
theorem hxe_put : (hx Heap.empty L).put i b = if i < L.length then hx Heap.empty (L.set i b) else hx Heap.empty (L ++ [b]) := by
  have := hx_put Heap.empty L b i
  rwa [Heap.next_empty, Nat.zero_add] at this
theorem hxe_get : (hx Heap.empty L).get i = L[i]? := by
  have := hx_get Heap.empty L i
  rwa [Heap.next_empty, Nat.zero_add] at this
theorem hxe_set : (hx Heap.empty L).set i b = hx Heap.empty (L.set i b) := by
  have := hx_set Heap.empty L b i
  rwa [Heap.next_empty, Nat.zero_add] at this
theorem hxe_next : (hx Heap.empty L).next = L.length := by rw [hx_next]; simp
end
section
variable {K : Heap} {L : List Blk} {b : Blk} {i N : Nat} (h : K.next = N)
include h
theorem hx_putN : (hx K L).put (N + i) b = if i < L.length then hx K (L.set i b) else hx K (L ++ [b]) := h ▸ hx_put K L b i
theorem hx_putN0 : (hx K L).put N b = if 0 < L.length then hx K (L.set 0 b) else hx K (L ++ [b]) := h ▸ hx_put0 K L b
theorem hx_getN : (hx K L).get (N + i) = L[i]? := h ▸ hx_get K L i
theorem hx_getN0 : (hx K L).get N = L[0]? := h ▸ hx_get0 K L
theorem hx_setN : (hx K L).set (N + i) b = hx K (L.set i b) := h ▸ hx_set K L b i
theorem hx_setN0 : (hx K L).set N b = hx K (L.set 0 b) := h ▸ hx_set0 K L b
end
theorem nAls_nil : nAls [] = 0 := rfl
theorem nAls_cons (o : AOper) (os : List AOper) : nAls (o :: os) = nAl o + nAls os := rfl

section
variable {ft : FT} {n : Nat} {f : Nat → AV} {K : Heap} {L : List Blk} {Q : AExit → Env → Heap → Prop}
theorem kw_skip : AW ft .skip (mkE n f) (hx K L) Q ↔ Q .normal (mkE n f) (hx K L) := AW_skip
theorem kw_exit {id : Nat} : AW ft (.exit id) (mkE n f) (hx K L) Q ↔ Q (.exit id) (mkE n f) (hx K L) := AW_exit
theorem kw_ret : AW ft .ret (mkE n f) (hx K L) Q ↔ Q .ret (mkE n f) (hx K L) := AW_ret
theorem kw_seq {a b : ACode} : AW ft (.seq a b) (mkE n f) (hx K L) Q ↔ AW ft a (mkE n f) (hx K L) (thenA (fun e H => AW ft b e H Q) Q) := AW_seq
theorem kw_block {id : Nat} {c : ACode} : AW ft (.block id c) (mkE n f) (hx K L) Q ↔ AW ft c (mkE n f) (hx K L) (blockA id Q) := AW_block
theorem kw_region {os : List AOper} : AW ft (.region os false []) (mkE n f) (hx K L) Q ↔ OW ft os (mkE n f) (hx K L) (Q .normal) := AW_region
theorem kw_drawn {os : List AOper} {prs : List (Nat × Nat)} : AW ft (.region os true prs) (mkE n f) (hx K L) Q ↔ DW ft (hx K L).next os [] (mkE n f) ((hx K L).pad (nAls os)) (fun fs e H => okP prs fs = true ∧ Q .normal e H) := AW_drawn
theorem kw_cond {c : Operand} {a b : ACode} : AW ft (.cond c a b) (mkE n f) (hx K L) Q ↔ CV (ev (mkE n f) c) (AW ft a (mkE n f) (hx K L) Q) (AW ft b (mkE n f) (hx K L) Q) := AW_cond'
theorem ko_nil {Q : Env → Heap → Prop} : OW ft [] (mkE n f) (hx K L) Q ↔ Q (mkE n f) (hx K L) := OW_nil
theorem ko_cons {d : Option Nat} {op : AOp} {g : Option (Option Nat × Bool)} {os : List AOper} {Q : Env → Heap → Prop} : OW ft (⟨d, op, g⟩ :: os) (mkE n f) (hx K L) Q ↔
    GW g (mkE n f) (VW ft (hx K L).next (mkE n f) (hx K L) op fun v H' => OW ft os (putA (mkE n f) d v) H' Q) (OW ft os (putA (mkE n f) d (.tup [])) (hx K L) Q) := OW_cons
theorem kd_nil {nid : Nat} {fs : List FP} {Q : List FP → Env → Heap → Prop} : DW ft nid [] fs (mkE n f) (hx K L) Q ↔ Q fs (mkE n f) (hx K L) := DW_nil
theorem kd_cons {nid : Nat} {d : Option Nat} {op : AOp} {g : Option (Option Nat × Bool)} {os : List AOper} {fs : List FP} {Q : List FP → Env → Heap → Prop} : DW ft nid (⟨d, op, g⟩ :: os) fs (mkE n f) (hx K L) Q ↔
    GW g (mkE n f) (VW ft nid (mkE n f) (hx K L) op fun v H' => DW ft (nid + nAl ⟨d, op, g⟩) os (fs ++ [fpS (pureV ft) nid (mkE n f) op]) (putA (mkE n f) d v) H' Q) (DW ft (nid + nAl ⟨d, op, g⟩) os (fs ++ [some (false, [])]) (putA (mkE n f) d (.tup [])) (hx K L) Q) := DW_cons
end
/-- The same, where no two are to be looked at. -/
def NW (ft : FT) (nid : Nat) (os : List AOper) (e : Env) (H : Heap) (Q : Env → Heap → Prop) : Prop := ∃ fs e' H', runs (callL ft) (pureV ft) nid os e H = some (fs, e', H') ∧ Q e' H'
theorem DW_NW {ft : FT} {nid : Nat} {os : List AOper} {fs : List FP} {e : Env} {H : Heap} {Q : Env → Heap → Prop} : DW ft nid os fs e H (fun _ e H => Q e H) ↔ NW ft nid os e H Q := Iff.rfl
theorem NW_congr {ft : FT} {nid nid' : Nat} {os : List AOper} {e e' : Env} {H H' : Heap} {Q : Env → Heap → Prop} (h0 : nid = nid') (h1 : e = e') (h2 : H = H') : NW ft nid os e H Q = NW ft nid' os e' H' Q := by rw [h0, h1, h2]
section
variable {ft : FT} {n : Nat} {f : Nat → AV} {K : Heap} {L : List Blk} {Q : AExit → Env → Heap → Prop}
theorem kw_drawn0 {os : List AOper} : AW ft (.region os true []) (mkE n f) (hx K L) Q ↔ NW ft (hx K L).next os (mkE n f) ((hx K L).pad (nAls os)) (Q .normal) := by
  rw [AW_drawn, ← DW_NW (fs := [])]
  simp [okP]
theorem kw_drawn1 {os : List AOper} {p : Nat × Nat} {prs : List (Nat × Nat)} : AW ft (.region os true (p :: prs)) (mkE n f) (hx K L) Q ↔ DW ft (hx K L).next os [] (mkE n f) ((hx K L).pad (nAls os)) (fun fs e H => okP (p :: prs) fs = true ∧ Q .normal e H) := AW_drawn
theorem kn_nil {nid : Nat} {Q : Env → Heap → Prop} : NW ft nid [] (mkE n f) (hx K L) Q ↔ Q (mkE n f) (hx K L) := by
  rw [← DW_NW (fs := []), DW_nil]
theorem kn_cons {nid : Nat} {d : Option Nat} {op : AOp} {g : Option (Option Nat × Bool)} {os : List AOper} {Q : Env → Heap → Prop} : NW ft nid (⟨d, op, g⟩ :: os) (mkE n f) (hx K L) Q ↔
    GW g (mkE n f) (VW ft nid (mkE n f) (hx K L) op fun v H' => NW ft (nid + nAl ⟨d, op, g⟩) os (putA (mkE n f) d v) H' Q) (NW ft (nid + nAl ⟨d, op, g⟩) os (putA (mkE n f) d (.tup [])) (hx K L) Q) := by
  rw [← DW_NW (fs := []), DW_cons]
  rfl
end
theorem PW_known {α : Type} {v : α} {H : Heap} {L : List Blk} {K : α → Heap → Prop} : PW (some (v, hx H L)) K ↔ K v (hx H L) := PW_some

theorem frzCells_eq (H : Heap) (cs : List AV) : frzCells H cs = frz.frzL 24 H cs := rfl
theorem frz_sl (n : Nat) (H : Heap) (id off len : Nat) : frz (n + 1) H (.sl id off len) = match H.get id with
      | some (.row fz sz rs) => if off + len ≤ rs.length then some (.lst ((rs.drop off).take len), if fz then H else H.set id (.row true sz rs)) else none
      | _ => none := rfl
theorem frz_agg (n : Nat) (H : Heap) (cs : List AV) : frz (n + 1) H (.agg cs) = (frz.frzL n H cs).map fun p => (.agg p.1, p.2) := rfl
theorem frz_tup (n : Nat) (H : Heap) (cs : List AV) : frz (n + 1) H (.tup cs) = (frz.frzL n H cs).map fun p => (.tup p.1, p.2) := rfl
theorem frz_fn (n : Nat) (H : Heap) (f : Fn) (a b : List AV) : frz (n + 1) H (.fn f a b) = (frz.frzL n H a).bind fun p => (frz.frzL n p.2 b).bind fun q => some (.fn f p.1 q.1, q.2) := rfl
theorem frz_ptr (n : Nat) (H : Heap) (id i off : Nat) : frz (n + 1) H (.ptr id i off) = match H.get id with
      | some (.row fz sz rs) => some (.pim rs i off, if fz then H else H.set id (.row true sz rs))
      | some (.box true cs) => if i = 0 then some (.pim [cs] 0 off, H) else none
      | some (.box false cs) => if i = 0 then (frz.frzL n H cs).bind fun p =>
          match p.2.get id with
          | some (.box false _) => some (.pim [p.1] 0 off, p.2.set id (.box true p.1))
          | _ => none
        else none
      | _ => none := rfl

/-! ### pairs that do not meet -/
theorem compat_ne {w1 w2 : Bool} {i j : Nat} (h : i ≠ j) : compat (some (w1, [i])) (some (w2, [j])) = true := by
  have : (i == j) = false := by simpa using h
  simp [compat, h, this]
theorem nne1 (n k : Nat) : (n = n + (k + 1)) = False := eq_false (by omega)
theorem nne2 (n k : Nat) : (n + (k + 1) = n) = False := eq_false (by omega)
theorem nne3 (n a b : Nat) : (n + a = n + b) = (a = b) := by simp
/-! ### what is stored -/
theorem sids_int (k : IntKind) (n : Int) : sids [.sc (.int k n)] = some [] := rfl
theorem sids_bool (b : Bool) : sids [.sc (.bool b)] = some [] := rfl
theorem sids_str (b : ByteArray) : sids [.sc (.string b)] = some [] := rfl
theorem sids_nils : sids [.sc (.slice none 0 0)] = some [] := rfl
theorem sids_nilf : sids [.sc .nilFunc] = some [] := rfl
theorem sids_lst (r : List (List AV)) : sids [.lst r] = some [] := rfl
theorem sids_pim (r : List (List AV)) (i o : Nat) : sids [.pim r i o] = some [] := rfl
theorem sids_sl (id off len : Nat) : sids [.sl id off len] = some [id] := rfl

/-! ### growing slices -/
theorem rowsOf_sl (H : Heap) (id off len : Nat) : rowsOf H (.sl id off len) = match H.get id with
    | some (.row _ _ rs) => if off + len ≤ rs.length then some ((rs.drop off).take len) else none
    | _ => none := rfl
theorem rowsOf_lst (H : Heap) (r : List (List AV)) : rowsOf H (.lst r) = some r := rfl
theorem rowsOf_nil (H : Heap) : rowsOf H (.sc (.slice none 0 0)) = some [] := rfl
theorem appA_nil (nid : Nat) (H : Heap) (sz bytes : Nat) (xs : List (List AV)) : appA nid H sz bytes (.sc (.slice none 0 0)) xs = if xs.length = 0 then some (.sc (.slice none 0 0), H)
    else if xs.length * bytes ≤ 140737488355328 ∧ allSz sz xs = true then some (.sl nid 0 xs.length, H.put nid (.row false sz xs)) else none := rfl
theorem appA_sl (nid : Nat) (H : Heap) (sz bytes id off len : Nat) (xs : List (List AV)) : appA nid H sz bytes (.sl id off len) xs = match H.get id with
    | some (.row false sz' rs) =>
      if sz' = sz ∧ off + len ≤ rs.length ∧ (len + xs.length) * bytes ≤ 140737488355328 ∧ allSz sz xs = true then
        some (.sl nid 0 (len + xs.length), (H.set id .dead).put nid (.row false sz ((rs.drop off).take len ++ xs)))
      else none
    | _ => none := rfl
theorem allSz_nil (sz : Nat) : allSz sz [] = true := rfl
theorem allSz_cons (sz : Nat) (r : List AV) (rs : List (List AV)) : allSz sz (r :: rs) = (r.length == sz && allSz sz rs) := rfl
/-- A slice that is made by appending. -/
def Rep (K : Heap) (sz : Nat) (S : AV) (rows : List (List AV)) : Prop := (S = .sc (.slice none 0 0) ∧ rows = []) ∨ ∃ id, S = .sl id 0 rows.length ∧ K.get id = some (.row false sz rows)
theorem Rep.mono {K K' : Heap} {sz : Nat} {S : AV} {rows : List (List AV)} (h : Rep K sz S rows) (hk : ∀ id, K.get id = some (.row false sz rows) → K'.get id = some (.row false sz rows)) : Rep K' sz S rows := by
  rcases h with h | ⟨id, h1, h2⟩
  · exact .inl h
  · exact .inr ⟨id, h1, hk id h2⟩

/-! ### one operand -/
def unA (op : UnOp) (v : AV) : Option AV := (toV v).bind fun v => (pureRun (Op.unary op v)).bind ofScalar
theorem uw_un {ft : FT} {e : Env} {H : Heap} {nid : Nat} {K : AV → Heap → Prop} (a : UnOp) (x : Operand) : VW ft nid e H (.un a x) K ↔ PW ((unA a (ev e x)).map fun v => (v, H)) K := by
  have : opC (callL ft) nid e H (.un a x) = (unA a (ev e x)).map fun v => (v, H) := by
    simp only [opC, opS, unA]
    cases toV (ev e x) <;> simp
    rename_i v
    cases pureRun (Op.unary a v) <;> simp
  unfold VW PW
  rw [this]
theorem unA_not (b : Bool) : unA .not (.sc (.bool b)) = some (.sc (.bool (!b))) := rfl

/-! ### lengths -/
def lenV (H : Heap) (kd : Nat) (v : AV) : Option (AV × Heap) := match v with
  | .mp id => if kd = 2 then match H.get id with
      | some (.mpb _ es) => some (.sc (.int .i64 (es.length : Int)), H)
      | _ => none
      else none
  | v => (lenOfA kd v).map fun (n : Nat) => (.sc (.int .i64 (n : Int)), H)
theorem lw_len {ft : FT} {e : Env} {H : Heap} {nid : Nat} {K : AV → Heap → Prop} (k : Nat) (x : Operand) : VW ft nid e H (.len k x) K ↔ PW (lenV H k (ev e x)) K := Iff.rfl
theorem lenV_lst (H : Heap) (rows : List (List AV)) : lenV H 0 (.lst rows) = some (.sc (.int .i64 (rows.length : Int)), H) := rfl
theorem lenV_sl (H : Heap) (id off len : Nat) : lenV H 0 (.sl id off len) = some (.sc (.int .i64 (len : Int)), H) := rfl
theorem lenV_nil (H : Heap) : lenV H 0 (.sc (.slice none 0 0)) = some (.sc (.int .i64 (0 : Int)), H) := rfl
theorem lenV_str (H : Heap) (s : ByteArray) : lenV H 1 (.sc (.string s)) = some (.sc (.int .i64 (s.size : Int)), H) := rfl
theorem lenV_mp (H : Heap) (id : Nat) : lenV H 2 (.mp id) = match H.get id with
      | some (.mpb _ es) => some (.sc (.int .i64 (es.length : Int)), H)
      | _ => none := rfl

/-! ### memory -/
theorem ofL_at (l : List AV) (t : Nat) : ofL l t = l.getD t .bad := rfl
theorem cells_agg (cs : List AV) : (AV.agg cs).cells = cs := rfl
theorem cells_sc (v : Value) : (AV.sc v).cells = [.sc v] := rfl
theorem cells_lst (r : List (List AV)) : (AV.lst r).cells = [.lst r] := rfl
theorem cells_sl (a b c : Nat) : (AV.sl a b c).cells = [.sl a b c] := rfl
theorem cells_ptr' (a b c : Nat) : (AV.ptr a b c).cells = [.ptr a b c] := rfl
theorem cells_pim' (r : List (List AV)) (b c : Nat) : (AV.pim r b c).cells = [.pim r b c] := rfl
theorem cells_fn (f : Fn) (a b : List AV) : (AV.fn f a b).cells = [.fn f a b] := rfl
theorem cells_mp (a : Nat) : (AV.mp a).cells = [.mp a] := rfl
theorem one_sc (v : Value) : (AV.sc v).one = true := rfl
theorem one_lst (r : List (List AV)) : (AV.lst r).one = true := rfl
theorem one_sl (a b c : Nat) : (AV.sl a b c).one = true := rfl
theorem one_ptr (a b c : Nat) : (AV.ptr a b c).one = true := rfl
theorem one_pim (r : List (List AV)) (b c : Nat) : (AV.pim r b c).one = true := rfl
theorem one_fn (f : Fn) (a b : List AV) : (AV.fn f a b).one = true := rfl
theorem one_mp (a : Nat) : (AV.mp a).one = true := rfl
theorem oneAll_nil : oneAll [] = true := rfl
theorem oneAll_cons (c : AV) (cs : List AV) : oneAll (c :: cs) = (c.one && oneAll cs) := rfl
theorem cellsAt_ptr (H : Heap) (id i off n : Nat) : cellsAt H (.ptr id i off) n = match H.get id with
    | some (.box _ cs) => if i = 0 ∧ off + n ≤ cs.length then some ((cs.drop off).take n) else none
    | some (.row _ _ rs) => match rs[i]? with
      | some r => if off + n ≤ r.length then some ((r.drop off).take n) else none
      | none => none
    | _ => none := rfl
theorem storeA_ptr (H : Heap) (id i off n : Nat) (v : AV) : storeA H (.ptr id i off) n v = if v.cells.length = n ∧ oneAll v.cells = true then
      match H.get id with
      | some (.box false cs) => if i = 0 ∧ off + n ≤ cs.length then some (H.set id (.box false (splice cs off v.cells))) else none
      | some (.row false _ _) => (frzCells H v.cells).bind fun (cs, H) =>
          match H.get id with
          | some (.row false sz rs) => match rs[i]? with
            | some r => if off + n ≤ r.length then some (H.set id (.row false sz (rs.set i (splice r off cs)))) else none
            | none => none
          | _ => none
      | _ => none
      else none := rfl

/-! ### what a function hands back -/
def RetP (rs : List ARes) (R : AV) (x : AExit) (e : Env) (H : Heap) : Prop := leaves x = true ∧ ∃ r0 H', resultsA H e rs = some r0 ∧ frz FZ H r0 = some (R, H')
def RetO (rs : List ARes) (R : AV) (H1 : Heap) (x : AExit) (e : Env) (H : Heap) : Prop := leaves x = true ∧ resultsA H e rs = some R ∧ H = H1
theorem call_p {ft : FT} {k : FuncId} {first caps args as' : List AV} {H H1 : Heap} {n : Nat} {rs : List ARes} {body : ACode} {R : AV} (hk : ft k = some (.go true n rs body)) (hz : frzCells H (first ++ args ++ caps) = some (as', H1)) (hl : as'.length ≤ n)
    (h : AW ft body (mkE n (ofL as')) (hx Heap.empty []) (RetP rs R)) : callL ft (.fn (.func k) first caps) args H = some (R, H1) := by
  rw [hx_nil] at h
  exact call_pure hk hz hl h
theorem call_o {ft : FT} {k : FuncId} {first caps args : List AV} {H H1 : Heap} {n : Nat} {rs : List ARes} {body : ACode} {R : AV} (hk : ft k = some (.go false n rs body)) (hl : (first ++ args ++ caps).length ≤ n)
    (h : AW ft body (mkE n (ofL (first ++ args ++ caps))) (hx H []) (RetO rs R H1)) : callL ft (.fn (.func k) first caps) args H = some (R, H1) := by
  rw [hx_nil] at h
  exact call_open hk hl h
theorem resT (H : Heap) (n : Nat) (f : Nat → AV) (t : Nat) (rs : List ARes) : (ARes.tmp t :: rs).mapM (resOf H (mkE n f)) = (rs.mapM (resOf H (mkE n f))).map fun vs => (if t < n then f t else .bad) :: vs := by
  rw [List.mapM_cons]
  simp only [resOf, mkE_get]
  cases rs.mapM (resOf H (mkE n f)) <;> rfl
theorem resC (H : Heap) (n : Nat) (f : Nat → AV) (t m : Nat) (g : Bool) (rs : List ARes) : (ARes.cell t g m :: rs).mapM (resOf H (mkE n f)) = ((cellsAt H (if t < n then f t else .bad) m).bind (pack g)).bind fun v => (rs.mapM (resOf H (mkE n f))).map fun vs => v :: vs := by
  rw [List.mapM_cons]
  simp only [resOf, mkE_get]
  cases (cellsAt H (if t < n then f t else .bad) m).bind (pack g)
  · rfl
  · cases rs.mapM (resOf H (mkE n f)) <;> rfl
theorem resN (H : Heap) (e : Env) : ([] : List ARes).mapM (resOf H e) = some [] := rfl
theorem RetP_iff {rs : List ARes} {R : AV} {x : AExit} {e : Env} {H : Heap} : RetP rs R x e H ↔ leaves x = true ∧ ∃ vs H', rs.mapM (resOf H e) = some vs ∧ frz FZ H (match vs with | [v] => v | vs => .tup vs) = some (R, H') := by
  unfold RetP resultsA
  constructor
  · rintro ⟨h, r0, H', h1, h2⟩
    rw [Option.map_eq_some_iff] at h1
    obtain ⟨vs, h1, rfl⟩ := h1
    exact ⟨h, vs, H', h1, h2⟩
  · rintro ⟨h, vs, H', h1, h2⟩
    exact ⟨h, _, H', by rw [h1]; rfl, h2⟩
def retV : List AV → AV
  | [v] => v
  | vs => .tup vs
theorem takeM {α β : Type} (g : α → β) (l : List α) : (l.map g).take l.length = l.map g := by
  rw [List.take_of_length_le (by simp)]
theorem retV1 (v : AV) : retV [v] = v := rfl
theorem retV2 (a b : AV) : retV [a, b] = .tup [a, b] := rfl
theorem retV3 (a b c : AV) : retV [a, b, c] = .tup [a, b, c] := rfl
theorem retV0 : retV [] = .tup [] := rfl
theorem frzFZ (H : Heap) (v : AV) : frz FZ H v = frz 24 H v := rfl
/-- What is handed back, to be reckoned. -/
theorem RetP_go {rs : List ARes} {R : AV} {x : AExit} {n : Nat} {f : Nat → AV} {H : Heap} : RetP rs R x (mkE n f) H ↔ leaves x = true ∧ ((rs.mapM (resOf H (mkE n f))).bind fun vs => (frz FZ H (retV vs)).map Prod.fst) = some R := by
  rw [RetP_iff]
  refine and_congr_right fun _ => ?_
  constructor
  · rintro ⟨vs, H', h1, h2⟩
    rw [h1, Option.bind_some, Option.map_eq_some_iff]
    exact ⟨_, h2, rfl⟩
  · intro h
    rw [Option.bind_eq_some_iff] at h
    obtain ⟨vs, h1, h2⟩ := h
    rw [Option.map_eq_some_iff] at h2
    obtain ⟨⟨v, H'⟩, h2, rfl⟩ := h2
    exact ⟨vs, H', h1, h2⟩
/-- One result in a slot. -/
theorem ret1 {t n : Nat} {f : Nat → AV} {R : AV} {H : Heap} {x : AExit} (hx : leaves x = true) (ht : t < n) (h : ∃ H', frz FZ H (f t) = some (R, H')) : RetP [.tmp t] R x (mkE n f) H :=
  let ⟨H', h⟩ := h
  RetP_iff.2 ⟨hx, [f t], H', by rw [resT, resN, if_pos ht]; rfl, h⟩
theorem ret2 {t u n : Nat} {f : Nat → AV} {R : AV} {H : Heap} {x : AExit} (hx : leaves x = true) (ht : t < n) (hu : u < n) (h : ∃ H', frz FZ H (.tup [f t, f u]) = some (R, H')) : RetP [.tmp t, .tmp u] R x (mkE n f) H :=
  let ⟨H', h⟩ := h
  RetP_iff.2 ⟨hx, [f t, f u], H', by rw [resT, resT, resN, if_pos ht, if_pos hu]; rfl, h⟩

set_option linter.defProp false
def vp := (⟨@kw_seq, @kw_skip, @kw_exit, @kw_ret, @kw_block, @kw_region, @kw_drawn0, @kw_drawn1, @kn_cons, @kn_nil, @kw_cond, @ko_cons, @ko_nil, @kd_cons, @kd_nil, @thenA_normal, @thenA_exit, @thenA_ret, @blockA_normal, @blockA_ret, @blockA_exit, @GW_none, @GW_tmp, @VW_mov, @VW_pick, @VW_alloc, @VW_box, @VW_build, @VW_bslice, @VW_load, @VW_store, @VW_nilck, @VW_bin, @VW_isnil, @VW_eqs, @VW_eqb, @uw_un, @VW_conv, @VW_stringish, @VW_tostr, @VW_mkfn, @VW_mkslice, @VW_slice, @VW_slstr, @VW_faddr, @VW_field, @VW_iaddr, @VW_index, @VW_ext, @lw_len, @VW_mx2, @VW_mn2, @VW_app, @VW_copy, @VW_mkmap, @VW_look, @VW_mput, @VW_call⟩ : _ ∧ _ ∧ _ ∧ _ ∧ _ ∧ _ ∧ _ ∧ _ ∧ _ ∧ _ ∧ _ ∧ _ ∧ _ ∧ _ ∧ _ ∧ _ ∧ _ ∧ _ ∧ _ ∧ _ ∧ _ ∧ _ ∧ _ ∧ _ ∧ _ ∧ _ ∧ _ ∧ _ ∧ _ ∧ _ ∧ _ ∧ _ ∧ _ ∧ _ ∧ _ ∧ _ ∧ _ ∧ _ ∧ _ ∧ _ ∧ _ ∧ _ ∧ _ ∧ _ ∧ _ ∧ _ ∧ _ ∧ _ ∧ _ ∧ _ ∧ _ ∧ _ ∧ _ ∧ _ ∧ _ ∧ _ ∧ _ ∧ _)
def vq0 := (⟨@decide_true, @decide_false, @GV_true, @GV_false, @GV_skip, @CV_bool, @putA_mkE, @putA_none, @ev_tmp, @ev_const, @ev_func, @upd_at, @ofC_int, @ofC_bool, @ofC_slice, @ofC_str, @ofC_nilF, @ofC_nilP, @ofC_nilM, @toI_sc, @toB_sc, @bin_add, @bin_sub, @bin_mul, @bin_lss, @bin_leq, @bin_gtr, @bin_geq, @bin_eql, @bin_neq, @lenV_lst, @lenV_sl, @lenV_nil, @lenV_str, @lenV_mp, @Nat.zero_add, @Nat.add_zero, @Nat.add_assoc, @Bool.true_eq_false, @Bool.false_eq_true⟩ : _ ∧ _ ∧ _ ∧ _ ∧ _ ∧ _ ∧ _ ∧ _ ∧ _ ∧ _ ∧ _ ∧ _ ∧ _ ∧ _ ∧ _ ∧ _ ∧ _ ∧ _ ∧ _ ∧ _ ∧ _ ∧ _ ∧ _ ∧ _ ∧ _ ∧ _ ∧ _ ∧ _ ∧ _ ∧ _ ∧ _ ∧ _ ∧ _ ∧ _ ∧ _ ∧ _ ∧ _ ∧ _ ∧ _ ∧ _)
def vq1 := (⟨@decide_eq_true_eq, @sids_int, @sids_bool, @sids_str, @sids_nils, @sids_nilf, @sids_lst, @sids_pim, @sids_sl, @compat_nil_l, @compat_nil_r, @compat_ne, @nne1, @nne2, @nne3, @not_false_eq_true, @true_and, @and_true, @Bool.and_true, @Bool.true_and, @hx_next, @hx_putN, @hx_putN0, @hx_getN, @hx_getN0, @hx_setN, @hx_setN0, @Heap.next_set, @hx_pad, @hxe_put, @hxe_get, @hxe_set, @hxe_next, @nAls_nil, @nAls_cons, @Heap.next_empty, @rowsOf_sl, @rowsOf_lst, @rowsOf_nil, @appA_nil⟩ : _ ∧ _ ∧ _ ∧ _ ∧ _ ∧ _ ∧ _ ∧ _ ∧ _ ∧ _ ∧ _ ∧ _ ∧ _ ∧ _ ∧ _ ∧ _ ∧ _ ∧ _ ∧ _ ∧ _ ∧ _ ∧ _ ∧ _ ∧ _ ∧ _ ∧ _ ∧ _ ∧ _ ∧ _ ∧ _ ∧ _ ∧ _ ∧ _ ∧ _ ∧ _ ∧ _ ∧ _ ∧ _ ∧ _ ∧ _)
def vq2 := (⟨@appA_sl, @allSz_nil, @allSz_cons, @unA_not, @Bool.not_true, @Bool.not_false, @Bool.bne_true, @Bool.bne_false, @Bool.not_eq_true', @frzCells_eq, @frz_sl, @frz_agg, @frz_tup, @frz_fn, @frz_ptr, @frz_lst, @frz_pim, @frz_int, @frz_bool, @frz_str, @frz_nils, @frz_nilf, @frzL_nil, @frzL_cons, @ofL_at, @cells_agg, @cells_sc, @cells_lst, @cells_sl, @cells_ptr', @cells_pim', @cells_fn, @cells_mp, @one_sc, @one_lst, @one_sl, @one_ptr, @one_pim, @one_fn, @one_mp⟩ : _ ∧ _ ∧ _ ∧ _ ∧ _ ∧ _ ∧ _ ∧ _ ∧ _ ∧ _ ∧ _ ∧ _ ∧ _ ∧ _ ∧ _ ∧ _ ∧ _ ∧ _ ∧ _ ∧ _ ∧ _ ∧ _ ∧ _ ∧ _ ∧ _ ∧ _ ∧ _ ∧ _ ∧ _ ∧ _ ∧ _ ∧ _ ∧ _ ∧ _ ∧ _ ∧ _ ∧ _ ∧ _ ∧ _ ∧ _)
def vq3 := (⟨@oneAll_nil, @oneAll_cons, @cellsAt_ptr, @storeA_ptr, @and_self, @Nat.le_refl⟩ : _ ∧ _ ∧ _ ∧ _ ∧ _ ∧ _)
def vr0 := @gt_iff_lt
def vr1 := @ge_iff_le
def vr2 := @PW_known
def vr3 := @PW_ite
def vr4 := @PW_none
def vr5 := @List.drop_zero
def vr6 := @List.drop_succ_cons
def vr7 := @List.take_succ_cons
def vr8 := @List.take_zero
def vr9 := @List.length_cons
def vr10 := @List.length_nil
def vr11 := @List.length_map
def vr12 := @List.map_cons
def vr13 := @List.map_nil
def vr14 := @Option.map_some
def vr15 := @Option.bind_some
def vr16 := @Option.map_none
def vr17 := @Option.bind_none
def vr18 := @if_true
def vr19 := @if_false
def vr20 := @beq_self_eq_true
def vr21 := @ne_eq
def vr22 := @List.nil_append
def vr23 := @List.cons_append
def vr24 := @List.all_nil
def vr25 := @List.all_cons
def vr26 := @List.replicate_succ
def vr27 := @List.replicate_zero
def vr28 := @List.append_nil
def vr29 := @List.getElem?_cons_zero
def vr30 := @List.getElem?_cons_succ
def vr31 := @List.set_cons_zero
def vr32 := @List.set_cons_succ
def vr33 := @List.getD_cons_zero
def vr34 := @List.getD_cons_succ
end Go.VI
