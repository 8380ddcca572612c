import Derived.Test.YtkjeigdiojdfnaaS2
import Derived.Lib.BytesEntry
/- What the claim hangs on, part 3: VYA VP VZ SA SB SC SD SE. -/
set_option linter.unusedVariables false
set_option linter.unusedSimpArgs false
namespace Go.VI
/-- A heap that is known: K, and new blocks behind it. -/
def hx (K : Heap) (L : List Blk) : Heap := ⟨K.bs ++ L⟩
theorem hx_nil (K : Heap) : hx K [] = K := by simp [hx]
section
variable (K : Heap) (L : List Blk) (b : Blk) (i : Nat)
theorem hx_next : (hx K L).next = K.next + L.length := by simp [hx, Heap.next]
theorem hx_put : (hx K L).put (K.next + i) b = if i < L.length then hx K (L.set i b) else hx K (L ++ [b]) := by
  unfold Heap.put
  rw [hx_next]
  by_cases h : i < L.length
  · rw [if_pos (by omega), if_pos h]
    simp only [Heap.set, hx, Heap.next]
    congr 1
    rw [List.set_append_right _ _ (by omega)]
    congr 2
    omega
  · rw [if_neg (by omega), if_neg h]
    simp [Heap.push, hx]
theorem hx_put0 : (hx K L).put K.next b = if 0 < L.length then hx K (L.set 0 b) else hx K (L ++ [b]) := hx_put K L b 0
theorem hx_get : (hx K L).get (K.next + i) = L[i]? := by
  simp only [Heap.get, hx, Heap.next]
  rw [List.getElem?_append_right (by omega)]
  congr 1
  omega
theorem hx_get0 : (hx K L).get K.next = L[0]? := hx_get K L 0
theorem hx_get_old (h : i < K.next) : (hx K L).get i = K.get i := by
  simp only [Heap.get, hx, Heap.next] at *
  rw [List.getElem?_append_left h]
theorem hx_set : (hx K L).set (K.next + i) b = hx K (L.set i b) := by
  simp only [Heap.set, hx, Heap.next]
  rw [List.set_append_right _ _ (by omega)]
  congr 3
  omega
theorem hx_set0 : (hx K L).set K.next b = hx K (L.set 0 b) := hx_set K L b 0
theorem hx_set_old (h : i < K.next) : (hx K L).set i b = hx (K.set i b) L := by
  simp only [Heap.set, hx, Heap.next] at *
  rw [List.set_append_left _ _ h]
theorem hx_pad : (hx K L).pad i = hx K (L ++ List.replicate i .dead) := by simp [hx, Heap.pad]
theorem hxe_put : (hx Heap.empty L).put i b = if i < L.length then hx Heap.empty (L.set i b) else hx Heap.empty (L ++ [b]) := by
  have := hx_put Heap.empty L b i
  rwa [Heap.next_empty, Nat.zero_add] at this
theorem hxe_get : (hx Heap.empty L).get i = L[i]? := by
  have := hx_get Heap.empty L i
  rwa [Heap.next_empty, Nat.zero_add] at this
theorem hxe_set : (hx Heap.empty L).set i b = hx Heap.empty (L.set i b) := by
  have := hx_set Heap.empty L b i
  rwa [Heap.next_empty, Nat.zero_add] at this
theorem hxe_next : (hx Heap.empty L).next = L.length := by rw [hx_next]; simp
end
section
variable {K : Heap} {L : List Blk} {b : Blk} {i N : Nat} (h : K.next = N)
include h
theorem hx_putN : (hx K L).put (N + i) b = if i < L.length then hx K (L.set i b) else hx K (L ++ [b]) := h ▸ hx_put K L b i
theorem hx_putN0 : (hx K L).put N b = if 0 < L.length then hx K (L.set 0 b) else hx K (L ++ [b]) := h ▸ hx_put0 K L b
theorem hx_getN : (hx K L).get (N + i) = L[i]? := h ▸ hx_get K L i
theorem hx_getN0 : (hx K L).get N = L[0]? := h ▸ hx_get0 K L
theorem hx_setN : (hx K L).set (N + i) b = hx K (L.set i b) := h ▸ hx_set K L b i
theorem hx_setN0 : (hx K L).set N b = hx K (L.set 0 b) := h ▸ hx_set0 K L b
end
theorem nAls_nil : nAls [] = 0 := rfl
theorem nAls_cons (o : AOper) (os : List AOper) : nAls (o :: os) = nAl o + nAls os := rfl
section
variable {ft : FT} {n : Nat} {f : Nat → AV} {K : Heap} {L : List Blk} {Q : AExit → Env → Heap → Prop}
theorem kw_skip : AW ft .skip (mkE n f) (hx K L) Q ↔ Q .normal (mkE n f) (hx K L) := AW_skip
theorem kw_exit {id : Nat} : AW ft (.exit id) (mkE n f) (hx K L) Q ↔ Q (.exit id) (mkE n f) (hx K L) := AW_exit
theorem kw_ret : AW ft .ret (mkE n f) (hx K L) Q ↔ Q .ret (mkE n f) (hx K L) := AW_ret
theorem kw_seq {a b : ACode} : AW ft (.seq a b) (mkE n f) (hx K L) Q ↔ AW ft a (mkE n f) (hx K L) (thenA (fun e H => AW ft b e H Q) Q) := AW_seq
theorem kw_block {id : Nat} {c : ACode} : AW ft (.block id c) (mkE n f) (hx K L) Q ↔ AW ft c (mkE n f) (hx K L) (blockA id Q) := AW_block
theorem kw_region {os : List AOper} : AW ft (.region os false []) (mkE n f) (hx K L) Q ↔ OW ft os (mkE n f) (hx K L) (Q .normal) := AW_region
theorem kw_cond {c : Operand} {a b : ACode} : AW ft (.cond c a b) (mkE n f) (hx K L) Q ↔ CV (ev (mkE n f) c) (AW ft a (mkE n f) (hx K L) Q) (AW ft b (mkE n f) (hx K L) Q) := AW_cond'
theorem ko_nil {Q : Env → Heap → Prop} : OW ft [] (mkE n f) (hx K L) Q ↔ Q (mkE n f) (hx K L) := OW_nil
theorem ko_cons {d : Option Nat} {op : AOp} {g : Option (Option Nat × Bool)} {os : List AOper} {Q : Env → Heap → Prop} : OW ft (⟨d, op, g⟩ :: os) (mkE n f) (hx K L) Q ↔
    GW g (mkE n f) (VW ft (hx K L).next (mkE n f) (hx K L) op fun v H' => OW ft os (putA (mkE n f) d v) H' Q) (OW ft os (putA (mkE n f) d (.tup [])) (hx K L) Q) := OW_cons
theorem kd_nil {nid : Nat} {fs : List FP} {Q : List FP → Env → Heap → Prop} : DW ft nid [] fs (mkE n f) (hx K L) Q ↔ Q fs (mkE n f) (hx K L) := DW_nil
theorem kd_cons {nid : Nat} {d : Option Nat} {op : AOp} {g : Option (Option Nat × Bool)} {os : List AOper} {fs : List FP} {Q : List FP → Env → Heap → Prop} : DW ft nid (⟨d, op, g⟩ :: os) fs (mkE n f) (hx K L) Q ↔
    GW g (mkE n f) (VW ft nid (mkE n f) (hx K L) op fun v H' => DW ft (nid + nAl ⟨d, op, g⟩) os (fs ++ [fpS (pureV ft) nid (mkE n f) op]) (putA (mkE n f) d v) H' Q) (DW ft (nid + nAl ⟨d, op, g⟩) os (fs ++ [some (false, [])]) (putA (mkE n f) d (.tup [])) (hx K L) Q) := DW_cons
end
/-- The same, where no two are to be looked at. -/
def NW (ft : FT) (nid : Nat) (os : List AOper) (e : Env) (H : Heap) (Q : Env → Heap → Prop) : Prop := ∃ fs e' H', runs (callL ft) (pureV ft) nid os e H = some (fs, e', H') ∧ Q e' H'
theorem DW_NW {ft : FT} {nid : Nat} {os : List AOper} {fs : List FP} {e : Env} {H : Heap} {Q : Env → Heap → Prop} : DW ft nid os fs e H (fun _ e H => Q e H) ↔ NW ft nid os e H Q := Iff.rfl
theorem NW_congr {ft : FT} {nid nid' : Nat} {os : List AOper} {e e' : Env} {H H' : Heap} {Q : Env → Heap → Prop} (h0 : nid = nid') (h1 : e = e') (h2 : H = H') : NW ft nid os e H Q = NW ft nid' os e' H' Q := by rw [h0, h1, h2]
section
variable {ft : FT} {n : Nat} {f : Nat → AV} {K : Heap} {L : List Blk} {Q : AExit → Env → Heap → Prop}
theorem kw_drawn0 {os : List AOper} : AW ft (.region os true []) (mkE n f) (hx K L) Q ↔ NW ft (hx K L).next os (mkE n f) ((hx K L).pad (nAls os)) (Q .normal) := by
  rw [AW_drawn, ← DW_NW (fs := [])]
  simp [okP]
theorem kw_drawn1 {os : List AOper} {p : Nat × Nat} {prs : List (Nat × Nat)} : AW ft (.region os true (p :: prs)) (mkE n f) (hx K L) Q ↔ DW ft (hx K L).next os [] (mkE n f) ((hx K L).pad (nAls os)) (fun fs e H => okP (p :: prs) fs = true ∧ Q .normal e H) := AW_drawn
theorem kn_nil {nid : Nat} {Q : Env → Heap → Prop} : NW ft nid [] (mkE n f) (hx K L) Q ↔ Q (mkE n f) (hx K L) := by
  rw [← DW_NW (fs := []), DW_nil]
theorem kn_cons {nid : Nat} {d : Option Nat} {op : AOp} {g : Option (Option Nat × Bool)} {os : List AOper} {Q : Env → Heap → Prop} : NW ft nid (⟨d, op, g⟩ :: os) (mkE n f) (hx K L) Q ↔
    GW g (mkE n f) (VW ft nid (mkE n f) (hx K L) op fun v H' => NW ft (nid + nAl ⟨d, op, g⟩) os (putA (mkE n f) d v) H' Q) (NW ft (nid + nAl ⟨d, op, g⟩) os (putA (mkE n f) d (.tup [])) (hx K L) Q) := by
  rw [← DW_NW (fs := []), DW_cons]
  rfl
end
theorem PW_known {α : Type} {v : α} {H : Heap} {L : List Blk} {K : α → Heap → Prop} : PW (some (v, hx H L)) K ↔ K v (hx H L) := PW_some
theorem frzCells_eq (H : Heap) (cs : List AV) : frzCells H cs = frz.frzL 24 H cs := rfl
theorem frz_sl (n : Nat) (H : Heap) (id off len : Nat) : frz (n + 1) H (.sl id off len) = match H.get id with
      | some (.row fz sz rs) => if off + len ≤ rs.length then some (.lst ((rs.drop off).take len), if fz then H else H.set id (.row true sz rs)) else none
      | _ => none := rfl
theorem frz_agg (n : Nat) (H : Heap) (cs : List AV) : frz (n + 1) H (.agg cs) = (frz.frzL n H cs).map fun p => (.agg p.1, p.2) := rfl
theorem frz_tup (n : Nat) (H : Heap) (cs : List AV) : frz (n + 1) H (.tup cs) = (frz.frzL n H cs).map fun p => (.tup p.1, p.2) := rfl
theorem frz_fn (n : Nat) (H : Heap) (f : Fn) (a b : List AV) : frz (n + 1) H (.fn f a b) = (frz.frzL n H a).bind fun p => (frz.frzL n p.2 b).bind fun q => some (.fn f p.1 q.1, q.2) := rfl
theorem frz_ptr (n : Nat) (H : Heap) (id i off : Nat) : frz (n + 1) H (.ptr id i off) = match H.get id with
      | some (.row fz sz rs) => some (.pim rs i off, if fz then H else H.set id (.row true sz rs))
      | some (.box true cs) => if i = 0 then some (.pim [cs] 0 off, H) else none
      | some (.box false cs) => if i = 0 then (frz.frzL n H cs).bind fun p =>
          match p.2.get id with
          | some (.box false _) => some (.pim [p.1] 0 off, p.2.set id (.box true p.1))
          | _ => none
        else none
      | _ => none := rfl
theorem compat_ne {w1 w2 : Bool} {i j : Nat} (h : i ≠ j) : compat (some (w1, [i])) (some (w2, [j])) = true := by
  have : (i == j) = false := by simpa using h
  simp [compat, h, this]
theorem nne1 (n k : Nat) : (n = n + (k + 1)) = False := eq_false (by omega)
theorem nne2 (n k : Nat) : (n + (k + 1) = n) = False := eq_false (by omega)
theorem nne3 (n a b : Nat) : (n + a = n + b) = (a = b) := by simp
theorem sids_int (k : IntKind) (n : Int) : sids [.sc (.int k n)] = some [] := rfl
theorem sids_bool (b : Bool) : sids [.sc (.bool b)] = some [] := rfl
theorem sids_str (b : ByteArray) : sids [.sc (.string b)] = some [] := rfl
theorem sids_nils : sids [.sc (.slice none 0 0)] = some [] := rfl
theorem sids_nilf : sids [.sc .nilFunc] = some [] := rfl
theorem sids_lst (r : List (List AV)) : sids [.lst r] = some [] := rfl
theorem sids_pim (r : List (List AV)) (i o : Nat) : sids [.pim r i o] = some [] := rfl
theorem sids_sl (id off len : Nat) : sids [.sl id off len] = some [id] := rfl
theorem rowsOf_sl (H : Heap) (id off len : Nat) : rowsOf H (.sl id off len) = match H.get id with
    | some (.row _ _ rs) => if off + len ≤ rs.length then some ((rs.drop off).take len) else none
    | _ => none := rfl
theorem rowsOf_lst (H : Heap) (r : List (List AV)) : rowsOf H (.lst r) = some r := rfl
theorem rowsOf_nil (H : Heap) : rowsOf H (.sc (.slice none 0 0)) = some [] := rfl
theorem appA_nil (nid : Nat) (H : Heap) (sz bytes : Nat) (xs : List (List AV)) : appA nid H sz bytes (.sc (.slice none 0 0)) xs = if xs.length = 0 then some (.sc (.slice none 0 0), H)
    else if xs.length * bytes ≤ 140737488355328 ∧ allSz sz xs = true then some (.sl nid 0 xs.length, H.put nid (.row false sz xs)) else none := rfl
theorem appA_sl (nid : Nat) (H : Heap) (sz bytes id off len : Nat) (xs : List (List AV)) : appA nid H sz bytes (.sl id off len) xs = match H.get id with
    | some (.row false sz' rs) =>
      if sz' = sz ∧ off + len ≤ rs.length ∧ (len + xs.length) * bytes ≤ 140737488355328 ∧ allSz sz xs = true then
        some (.sl nid 0 (len + xs.length), (H.set id .dead).put nid (.row false sz ((rs.drop off).take len ++ xs)))
      else none
    | _ => none := rfl
theorem allSz_nil (sz : Nat) : allSz sz [] = true := rfl
theorem allSz_cons (sz : Nat) (r : List AV) (rs : List (List AV)) : allSz sz (r :: rs) = (r.length == sz && allSz sz rs) := rfl
/-- A slice that is made by appending. -/
def Rep (K : Heap) (sz : Nat) (S : AV) (rows : List (List AV)) : Prop := (S = .sc (.slice none 0 0) ∧ rows = []) ∨ ∃ id, S = .sl id 0 rows.length ∧ K.get id = some (.row false sz rows)
theorem Rep.mono {K K' : Heap} {sz : Nat} {S : AV} {rows : List (List AV)} (h : Rep K sz S rows) (hk : ∀ id, K.get id = some (.row false sz rows) → K'.get id = some (.row false sz rows)) : Rep K' sz S rows := by
  rcases h with h | ⟨id, h1, h2⟩
  · exact .inl h
  · exact .inr ⟨id, h1, hk id h2⟩
def unA (op : UnOp) (v : AV) : Option AV := (toV v).bind fun v => (pureRun (Op.unary op v)).bind ofScalar
theorem uw_un {ft : FT} {e : Env} {H : Heap} {nid : Nat} {K : AV → Heap → Prop} (a : UnOp) (x : Operand) : VW ft nid e H (.un a x) K ↔ PW ((unA a (ev e x)).map fun v => (v, H)) K := by
  have : opC (callL ft) nid e H (.un a x) = (unA a (ev e x)).map fun v => (v, H) := by
    simp only [opC, opS, unA]
    cases toV (ev e x) <;> simp
    rename_i v
    cases pureRun (Op.unary a v) <;> simp
  unfold VW PW
  rw [this]
theorem unA_not (b : Bool) : unA .not (.sc (.bool b)) = some (.sc (.bool (!b))) := rfl
def lenV (H : Heap) (kd : Nat) (v : AV) : Option (AV × Heap) := match v with
  | .mp id => if kd = 2 then match H.get id with
      | some (.mpb _ es) => some (.sc (.int .i64 (es.length : Int)), H)
      | _ => none
      else none
  | v => (lenOfA kd v).map fun (n : Nat) => (.sc (.int .i64 (n : Int)), H)
theorem lw_len {ft : FT} {e : Env} {H : Heap} {nid : Nat} {K : AV → Heap → Prop} (k : Nat) (x : Operand) : VW ft nid e H (.len k x) K ↔ PW (lenV H k (ev e x)) K := Iff.rfl
theorem lenV_lst (H : Heap) (rows : List (List AV)) : lenV H 0 (.lst rows) = some (.sc (.int .i64 (rows.length : Int)), H) := rfl
theorem lenV_sl (H : Heap) (id off len : Nat) : lenV H 0 (.sl id off len) = some (.sc (.int .i64 (len : Int)), H) := rfl
theorem lenV_nil (H : Heap) : lenV H 0 (.sc (.slice none 0 0)) = some (.sc (.int .i64 (0 : Int)), H) := rfl
theorem lenV_str (H : Heap) (s : ByteArray) : lenV H 1 (.sc (.string s)) = some (.sc (.int .i64 (s.size : Int)), H) := rfl
theorem lenV_mp (H : Heap) (id : Nat) : lenV H 2 (.mp id) = match H.get id with
      | some (.mpb _ es) => some (.sc (.int .i64 (es.length : Int)), H)
      | _ => none := rfl
theorem ofL_at (l : List AV) (t : Nat) : ofL l t = l.getD t .bad := rfl
theorem cells_agg (cs : List AV) : (AV.agg cs).cells = cs := rfl
theorem cells_sc (v : Value) : (AV.sc v).cells = [.sc v] := rfl
theorem cells_lst (r : List (List AV)) : (AV.lst r).cells = [.lst r] := rfl
theorem cells_sl (a b c : Nat) : (AV.sl a b c).cells = [.sl a b c] := rfl
theorem cells_ptr' (a b c : Nat) : (AV.ptr a b c).cells = [.ptr a b c] := rfl
theorem cells_pim' (r : List (List AV)) (b c : Nat) : (AV.pim r b c).cells = [.pim r b c] := rfl
theorem cells_fn (f : Fn) (a b : List AV) : (AV.fn f a b).cells = [.fn f a b] := rfl
theorem cells_mp (a : Nat) : (AV.mp a).cells = [.mp a] := rfl
theorem one_sc (v : Value) : (AV.sc v).one = true := rfl
theorem one_lst (r : List (List AV)) : (AV.lst r).one = true := rfl
theorem one_sl (a b c : Nat) : (AV.sl a b c).one = true := rfl
theorem one_ptr (a b c : Nat) : (AV.ptr a b c).one = true := rfl
theorem one_pim (r : List (List AV)) (b c : Nat) : (AV.pim r b c).one = true := rfl
theorem one_fn (f : Fn) (a b : List AV) : (AV.fn f a b).one = true := rfl
theorem one_mp (a : Nat) : (AV.mp a).one = true := rfl
theorem oneAll_nil : oneAll [] = true := rfl
theorem oneAll_cons (c : AV) (cs : List AV) : oneAll (c :: cs) = (c.one && oneAll cs) := rfl
theorem cellsAt_ptr (H : Heap) (id i off n : Nat) : cellsAt H (.ptr id i off) n = match H.get id with
    | some (.box _ cs) => if i = 0 ∧ off + n ≤ cs.length then some ((cs.drop off).take n) else none
    | some (.row _ _ rs) => match rs[i]? with
      | some r => if off + n ≤ r.length then some ((r.drop off).take n) else none
      | none => none
    | _ => none := rfl
theorem storeA_ptr (H : Heap) (id i off n : Nat) (v : AV) : storeA H (.ptr id i off) n v = if v.cells.length = n ∧ oneAll v.cells = true then
      match H.get id with
      | some (.box false cs) => if i = 0 ∧ off + n ≤ cs.length then some (H.set id (.box false (splice cs off v.cells))) else none
      | some (.row false _ _) => (frzCells H v.cells).bind fun (cs, H) =>
          match H.get id with
          | some (.row false sz rs) => match rs[i]? with
            | some r => if off + n ≤ r.length then some (H.set id (.row false sz (rs.set i (splice r off cs)))) else none
            | none => none
          | _ => none
      | _ => none
      else none := rfl
def RetP (rs : List ARes) (R : AV) (x : AExit) (e : Env) (H : Heap) : Prop := leaves x = true ∧ ∃ r0 H', resultsA H e rs = some r0 ∧ frz FZ H r0 = some (R, H')
def RetO (rs : List ARes) (R : AV) (H1 : Heap) (x : AExit) (e : Env) (H : Heap) : Prop := leaves x = true ∧ resultsA H e rs = some R ∧ H = H1
theorem call_p {ft : FT} {k : FuncId} {first caps args as' : List AV} {H H1 : Heap} {n : Nat} {rs : List ARes} {body : ACode} {R : AV} (hk : ft k = some (.go true n rs body)) (hz : frzCells H (first ++ args ++ caps) = some (as', H1)) (hl : as'.length ≤ n)
    (h : AW ft body (mkE n (ofL as')) (hx Heap.empty []) (RetP rs R)) : callL ft (.fn (.func k) first caps) args H = some (R, H1) := by
  rw [hx_nil] at h
  exact call_pure hk hz hl h
theorem call_o {ft : FT} {k : FuncId} {first caps args : List AV} {H H1 : Heap} {n : Nat} {rs : List ARes} {body : ACode} {R : AV} (hk : ft k = some (.go false n rs body)) (hl : (first ++ args ++ caps).length ≤ n)
    (h : AW ft body (mkE n (ofL (first ++ args ++ caps))) (hx H []) (RetO rs R H1)) : callL ft (.fn (.func k) first caps) args H = some (R, H1) := by
  rw [hx_nil] at h
  exact call_open hk hl h
theorem resT (H : Heap) (n : Nat) (f : Nat → AV) (t : Nat) (rs : List ARes) : (ARes.tmp t :: rs).mapM (resOf H (mkE n f)) = (rs.mapM (resOf H (mkE n f))).map fun vs => (if t < n then f t else .bad) :: vs := by
  rw [List.mapM_cons]
  simp only [resOf, mkE_get]
  cases rs.mapM (resOf H (mkE n f)) <;> rfl
theorem resC (H : Heap) (n : Nat) (f : Nat → AV) (t m : Nat) (g : Bool) (rs : List ARes) : (ARes.cell t g m :: rs).mapM (resOf H (mkE n f)) = ((cellsAt H (if t < n then f t else .bad) m).bind (pack g)).bind fun v => (rs.mapM (resOf H (mkE n f))).map fun vs => v :: vs := by
  rw [List.mapM_cons]
  simp only [resOf, mkE_get]
  cases (cellsAt H (if t < n then f t else .bad) m).bind (pack g)
  · rfl
  · cases rs.mapM (resOf H (mkE n f)) <;> rfl
theorem resN (H : Heap) (e : Env) : ([] : List ARes).mapM (resOf H e) = some [] := rfl
theorem RetP_iff {rs : List ARes} {R : AV} {x : AExit} {e : Env} {H : Heap} : RetP rs R x e H ↔ leaves x = true ∧ ∃ vs H', rs.mapM (resOf H e) = some vs ∧ frz FZ H (match vs with | [v] => v | vs => .tup vs) = some (R, H') := by
  unfold RetP resultsA
  constructor
  · rintro ⟨h, r0, H', h1, h2⟩
    rw [Option.map_eq_some_iff] at h1
    obtain ⟨vs, h1, rfl⟩ := h1
    exact ⟨h, vs, H', h1, h2⟩
  · rintro ⟨h, vs, H', h1, h2⟩
    exact ⟨h, _, H', by rw [h1]; rfl, h2⟩
def retV : List AV → AV
  | [v] => v
  | vs => .tup vs
theorem takeM {α β : Type} (g : α → β) (l : List α) : (l.map g).take l.length = l.map g := by
  rw [List.take_of_length_le (by simp)]
theorem retV1 (v : AV) : retV [v] = v := rfl
theorem retV2 (a b : AV) : retV [a, b] = .tup [a, b] := rfl
theorem retV3 (a b c : AV) : retV [a, b, c] = .tup [a, b, c] := rfl
theorem retV0 : retV [] = .tup [] := rfl
theorem frzFZ (H : Heap) (v : AV) : frz FZ H v = frz 24 H v := rfl
/-- What is handed back, to be reckoned. -/
theorem RetP_go {rs : List ARes} {R : AV} {x : AExit} {n : Nat} {f : Nat → AV} {H : Heap} : RetP rs R x (mkE n f) H ↔ leaves x = true ∧ ((rs.mapM (resOf H (mkE n f))).bind fun vs => (frz FZ H (retV vs)).map Prod.fst) = some R := by
  rw [RetP_iff]
  refine and_congr_right fun _ => ?_
  constructor
  · rintro ⟨vs, H', h1, h2⟩
    rw [h1, Option.bind_some, Option.map_eq_some_iff]
    exact ⟨_, h2, rfl⟩
  · intro h
    rw [Option.bind_eq_some_iff] at h
    obtain ⟨vs, h1, h2⟩ := h
    rw [Option.map_eq_some_iff] at h2
    obtain ⟨⟨v, H'⟩, h2, rfl⟩ := h2
    exact ⟨vs, H', h1, h2⟩
set_option linter.defProp false
def vp := (⟨@kw_seq, @kw_skip, @kw_exit, @kw_ret, @kw_block, @kw_region, @kw_drawn0, @kw_drawn1, @kn_cons, @kn_nil, @kw_cond, @ko_cons, @ko_nil, @kd_cons, @kd_nil, @thenA_normal, @thenA_exit, @thenA_ret, @blockA_normal, @blockA_ret, @blockA_exit, @GW_none, @GW_tmp, @VW_mov, @VW_pick, @VW_alloc, @VW_box, @VW_build, @VW_bslice, @VW_load, @VW_store, @VW_nilck, @VW_bin, @VW_isnil, @VW_eqs, @VW_eqb, @uw_un, @VW_conv, @VW_stringish, @VW_tostr, @VW_mkfn, @VW_mkslice, @VW_slice, @VW_slstr, @VW_faddr, @VW_field, @VW_iaddr, @VW_index, @VW_ext, @lw_len, @VW_mx2, @VW_mn2, @VW_app, @VW_copy, @VW_mkmap, @VW_look, @VW_mput, @VW_call⟩ : _ ∧ _ ∧ _ ∧ _ ∧ _ ∧ _ ∧ _ ∧ _ ∧ _ ∧ _ ∧ _ ∧ _ ∧ _ ∧ _ ∧ _ ∧ _ ∧ _ ∧ _ ∧ _ ∧ _ ∧ _ ∧ _ ∧ _ ∧ _ ∧ _ ∧ _ ∧ _ ∧ _ ∧ _ ∧ _ ∧ _ ∧ _ ∧ _ ∧ _ ∧ _ ∧ _ ∧ _ ∧ _ ∧ _ ∧ _ ∧ _ ∧ _ ∧ _ ∧ _ ∧ _ ∧ _ ∧ _ ∧ _ ∧ _ ∧ _ ∧ _ ∧ _ ∧ _ ∧ _ ∧ _ ∧ _ ∧ _ ∧ _)
def vq0 := (⟨@decide_true, @decide_false, @GV_true, @GV_false, @GV_skip, @CV_bool, @putA_mkE, @putA_none, @ev_tmp, @ev_const, @ev_func, @upd_at, @ofC_int, @ofC_bool, @ofC_slice, @ofC_str, @ofC_nilF, @ofC_nilP, @ofC_nilM, @toI_sc, @toB_sc, @bin_add, @bin_sub, @bin_mul, @bin_lss, @bin_leq, @bin_gtr, @bin_geq, @bin_eql, @bin_neq, @lenV_lst, @lenV_sl, @lenV_nil, @lenV_str, @lenV_mp, @Nat.zero_add, @Nat.add_zero, @Nat.add_assoc, @Bool.true_eq_false, @Bool.false_eq_true⟩ : _ ∧ _ ∧ _ ∧ _ ∧ _ ∧ _ ∧ _ ∧ _ ∧ _ ∧ _ ∧ _ ∧ _ ∧ _ ∧ _ ∧ _ ∧ _ ∧ _ ∧ _ ∧ _ ∧ _ ∧ _ ∧ _ ∧ _ ∧ _ ∧ _ ∧ _ ∧ _ ∧ _ ∧ _ ∧ _ ∧ _ ∧ _ ∧ _ ∧ _ ∧ _ ∧ _ ∧ _ ∧ _ ∧ _ ∧ _)
def vq1 := (⟨@decide_eq_true_eq, @sids_int, @sids_bool, @sids_str, @sids_nils, @sids_nilf, @sids_lst, @sids_pim, @sids_sl, @compat_nil_l, @compat_nil_r, @compat_ne, @nne1, @nne2, @nne3, @not_false_eq_true, @true_and, @and_true, @Bool.and_true, @Bool.true_and, @hx_next, @hx_putN, @hx_putN0, @hx_getN, @hx_getN0, @hx_setN, @hx_setN0, @Heap.next_set, @hx_pad, @hxe_put, @hxe_get, @hxe_set, @hxe_next, @nAls_nil, @nAls_cons, @Heap.next_empty, @rowsOf_sl, @rowsOf_lst, @rowsOf_nil, @appA_nil⟩ : _ ∧ _ ∧ _ ∧ _ ∧ _ ∧ _ ∧ _ ∧ _ ∧ _ ∧ _ ∧ _ ∧ _ ∧ _ ∧ _ ∧ _ ∧ _ ∧ _ ∧ _ ∧ _ ∧ _ ∧ _ ∧ _ ∧ _ ∧ _ ∧ _ ∧ _ ∧ _ ∧ _ ∧ _ ∧ _ ∧ _ ∧ _ ∧ _ ∧ _ ∧ _ ∧ _ ∧ _ ∧ _ ∧ _ ∧ _)
def vq2 := (⟨@appA_sl, @allSz_nil, @allSz_cons, @unA_not, @Bool.not_true, @Bool.not_false, @Bool.bne_true, @Bool.bne_false, @Bool.not_eq_true', @frzCells_eq, @frz_sl, @frz_agg, @frz_tup, @frz_fn, @frz_ptr, @frz_lst, @frz_pim, @frz_int, @frz_bool, @frz_str, @frz_nils, @frz_nilf, @frzL_nil, @frzL_cons, @ofL_at, @cells_agg, @cells_sc, @cells_lst, @cells_sl, @cells_ptr', @cells_pim', @cells_fn, @cells_mp, @one_sc, @one_lst, @one_sl, @one_ptr, @one_pim, @one_fn, @one_mp⟩ : _ ∧ _ ∧ _ ∧ _ ∧ _ ∧ _ ∧ _ ∧ _ ∧ _ ∧ _ ∧ _ ∧ _ ∧ _ ∧ _ ∧ _ ∧ _ ∧ _ ∧ _ ∧ _ ∧ _ ∧ _ ∧ _ ∧ _ ∧ _ ∧ _ ∧ _ ∧ _ ∧ _ ∧ _ ∧ _ ∧ _ ∧ _ ∧ _ ∧ _ ∧ _ ∧ _ ∧ _ ∧ _ ∧ _ ∧ _)
def vq3 := (⟨@oneAll_nil, @oneAll_cons, @cellsAt_ptr, @storeA_ptr, @and_self, @Nat.le_refl⟩ : _ ∧ _ ∧ _ ∧ _ ∧ _ ∧ _)
def vr0 := @gt_iff_lt
def vr1 := @ge_iff_le
def vr2 := @PW_known
def vr3 := @PW_ite
def vr4 := @PW_none
def vr5 := @List.drop_zero
def vr6 := @List.drop_succ_cons
def vr7 := @List.take_succ_cons
def vr8 := @List.take_zero
def vr9 := @List.length_cons
def vr10 := @List.length_nil
def vr11 := @List.length_map
def vr12 := @List.map_cons
def vr13 := @List.map_nil
def vr14 := @Option.map_some
def vr15 := @Option.bind_some
def vr16 := @Option.map_none
def vr17 := @Option.bind_none
def vr18 := @if_true
def vr19 := @if_false
def vr20 := @beq_self_eq_true
def vr21 := @ne_eq
def vr22 := @List.nil_append
def vr23 := @List.cons_append
def vr24 := @List.all_nil
def vr25 := @List.all_cons
def vr26 := @List.replicate_succ
def vr27 := @List.replicate_zero
def vr28 := @List.append_nil
def vr29 := @List.getElem?_cons_zero
def vr30 := @List.getElem?_cons_succ
def vr31 := @List.set_cons_zero
def vr32 := @List.set_cons_succ
def vr33 := @List.getD_cons_zero
def vr34 := @List.getD_cons_succ
end Go.VI

set_option linter.unusedVariables false
set_option linter.unusedSimpArgs false
namespace Go.VI
variable {P : Program}
def cmpB : List Int → List Int → Int
  | x :: a, y :: b => if x < y then -1 else if y < x then 1 else cmpB a b
  | [], _ :: _ => -1
  | _ :: _, [] => 1
  | [], [] => 0
def byteR (l : List Int) : Bool := l.all fun n => decide (0 ≤ n) && decide (n < 256)
def cmpP : List AV → Option AV
  | [.lst r, .lst s] => (bytesOfRows r).bind fun l => (bytesOfRows s).bind fun k => if byteR l && byteR k then some (.sc (.int .i64 (cmpB l k))) else none
  | _ => none
theorem compareBytes_cmpB : ∀ (l k : List Int), byteR l = true → byteR k = true → Lib.compareBytes (Lib.bytesOf l) (Lib.bytesOf k) = cmpB l k
  | [], [], _, _ => rfl
  | [], _ :: _, _, _ => rfl
  | _ :: _, [], _, _ => rfl
  | x :: l, y :: k, hl, hk => by
    simp only [byteR, List.all_cons, Bool.and_eq_true, decide_eq_true_eq] at hl hk
    have ih := compareBytes_cmpB l k hl.2 hk.2
    have hx : (UInt8.ofNat x.toNat).toNat = x.toNat := by
      rw [UInt8.toNat_ofNat']; omega
    have hy : (UInt8.ofNat y.toNat).toNat = y.toNat := by
      rw [UInt8.toNat_ofNat']; omega
    have h1 : (UInt8.ofNat x.toNat < UInt8.ofNat y.toNat) ↔ x < y := by
      rw [UInt8.lt_iff_toNat_lt, hx, hy]; omega
    have h2 : (UInt8.ofNat y.toNat < UInt8.ofNat x.toNat) ↔ y < x := by
      rw [UInt8.lt_iff_toNat_lt, hx, hy]; omega
    simp only [Lib.bytesOf, List.map_cons, Lib.compareBytes, cmpB, h1, h2]
    simp only [Lib.bytesOf] at ih
    rw [ih]
section
variable {P : Program} {m : Mp} {F : Fz} {H : Heap} {w : World}
theorem run_bytesOfA (hI : Inv P m F H w) {rows : List (List AV)} {v : Value} (hv : VF F (.lst rows) v) {l : List Int} (hl : bytesOfRows rows = some l) :
    (Extern.Bytes.bytesOf v).run P w = .ok ⟨(Lib.bytesOf l).toArray⟩ w := by
  obtain ⟨A, cap, rfl, hrows⟩ := rowsOf_sound hI (.fz hv) (rfl : rowsOf H (.lst rows) = some rows)
  obtain ⟨k1, k2, k3⟩ := bytesOf_spec rows l hl
  obtain ⟨us, hul, hucell, huone, hur, hua⟩ := hrows 1 k1
  cases A with
  | none =>
    have : us = [] := by
      cases us with
      | nil => rfl
      | cons u us =>
        obtain ⟨ad, h, _⟩ := hucell 0 u rfl
        cases h
    subst this
    have : l = [] := List.eq_nil_of_length_eq_zero (by simp at hul; omega)
    subst this
    rfl
  | some a =>
    have hcell : ∀ j x, l[j]? = some x → w.cell? (a.add j) = some (.int .u8 x) := fun j x hj => by
      have hjl := (List.getElem?_eq_some_iff.1 hj).1
      have hi2 : j < us.length := by omega
      obtain ⟨ad, had, _, hc⟩ := hucell j us[j] (List.getElem?_eq_getElem hi2)
      cases had
      rw [hc]
      have h5 := (hur.cell j _ 0 _ (k3 j _ hj) rfl).2
      have h7 : us.toArray.getD (j * 1 + 0) undef = us[j] := by simp [hi2]
      rw [h7] at h5
      rw [(vr_sc (m := fun _ => none) (.fz h5)).1]
    have := Lib.run_loadBytesX (P := P) w l a .empty hcell
    rw [k2] at this
    show (Extern.Bytes.loadBytes a rows.length .empty).run P w = _
    rw [this]
    congr 1
    apply ByteArray.ext
    simp
theorem cmp_ok {k : FuncId} {fn : Func} (hf : P.funcs[k]? = some fn) (hname : (fn.name == "runtime.NumGoroutine") = false) (hb : fn.body.isNone = true) (hn : Extern.findNext fn = none) (he : Extern.find fn = some Extern.BytealgCompare.compare) : PPrimOk P k cmpP := by
  intro args r h m F H w vs hI hsz hv
  unfold cmpP at h
  split at h
  rotate_left
  · cases h
  rename_i r1 s1
  simp only [Option.bind_eq_some_iff] at h
  obtain ⟨l, hl, k', hk, h⟩ := h
  split at h
  rotate_left
  · cases h
  rename_i hr
  cases h
  simp only [Bool.and_eq_true] at hr
  have h0 := run_bytesOfA (P := P) hI (hv 0 _ rfl) hl
  have h1 := run_bytesOfA (P := P) hI (hv 1 _ rfl) hk
  have hvs : vs = #[vs.getD 0 undef, vs.getD 1 undef] := by
    have hsz' : vs.size = 2 := hsz
    apply Array.ext
    · simp [hsz']
    · intro i h1 h2
      have h3 : i < 2 := by omega
      match i, h3 with
      | 0, _ => simp [hsz']
      | 1, _ => simp [hsz']
  have hrun : (Extern.BytealgCompare.compare vs).run P w = .ok (.int .i64 (cmpB l k')) w := by
    rw [hvs]
    change Sem.run P (do pure (goInt (Extern.BytealgCompare.cmp (← Extern.Bytes.bytesOf (vs.getD 0 undef)) (← Extern.Bytes.bytesOf (vs.getD 1 undef))))) w = _
    simp only [Sem.run_bind, h0, h1, Result.andThen_ok, Sem.run_pure, Lib.cmp_eq]
    have := compareBytes_cmpB l k' hr.1 hr.2
    show Result.ok (Value.int .i64 (Lib.compareBytes (Lib.bytesOf l) (Lib.bytesOf k'))) w = _
    rw [this]
  refine .inr ⟨.int .i64 (cmpB l k'), w, ?_, _, m, F, rfl, .fz (.sc rfl), hI, Ext.refl m F w, Grew.refl m H⟩
  rw [run_callFunc_extern hf hname hb hn he, hrun]
  rfl
end
theorem bytesOfRows_map : ∀ (l : List Int), bytesOfRows (l.map fun n => [.sc (.int .u8 n)]) = some l
  | [] => rfl
  | x :: l => by simp [bytesOfRows, bytesOfRows_map l]
end Go.VI

set_option linter.unusedVariables false
set_option maxRecDepth 100000
namespace Go.VI
def c3L0 : ACode := (.seq (.region [⟨(some 33), (.bin .lss 3 (.tmp 32) (.tmp 31)), none⟩] false []) (.seq (.cond (.tmp 33) .skip (.exit 0)) (.seq (.block 1 (.seq (.region [⟨(some 34), (.iaddr none 4 (.tmp 30) (.tmp 32)), none⟩, ⟨(some 35), (.load true 4 (.tmp 34)), none⟩, ⟨(some 8), (.alloc [(.sc (.int .i64 0)), (.sc (.bool false)), (.sc (.slice none 0 0)), (.sc (.slice none 0 0))]), none⟩, ⟨none, (.store 4 (.tmp 8) (.tmp 35)), none⟩] false []) (.seq (.region [⟨(some 36), (.faddr 1 (.tmp 8)), none⟩, ⟨(some 37), (.load true 3 (.tmp 36)), none⟩, ⟨(some 38), (.call (.func 15) [(.tmp 37)]), none⟩, ⟨(some 39), (.un .not (.tmp 38)), none⟩, ⟨(some 40), (.mov (.tmp 39)), none⟩, ⟨(some 41), (.faddr 1 (.tmp 8)), (some ((some 40), false))⟩, ⟨(some 42), (.faddr 0 (.tmp 41)), (some ((some 40), false))⟩, ⟨(some 43), (.load false 1 (.tmp 42)), (some ((some 40), false))⟩, ⟨(some 44), (.mov (.tmp 43)), (some ((some 40), false))⟩, ⟨(some 45), (.faddr 1 (.tmp 8)), (some ((some 44), true))⟩, ⟨(some 46), (.faddr 2 (.tmp 45)), (some ((some 44), true))⟩, ⟨(some 47), (.load false 1 (.tmp 46)), (some ((some 44), true))⟩, ⟨(some 48), (.len 0 (.tmp 47)), (some ((some 44), true))⟩, ⟨(some 49), (.bin .gtr 3 (.tmp 48) (.const (.int .i64 0))), (some ((some 44), true))⟩, ⟨(some 50), (.pick (.tmp 44) (.tmp 49) (.const (.bool false))), (some ((some 40), false))⟩, ⟨(some 51), (.pick (.tmp 40) (.const (.bool true)) (.tmp 50)), none⟩, ⟨(some 52), (.mov (.tmp 51)), none⟩, ⟨(some 53), (.faddr 1 (.tmp 8)), (some ((some 52), false))⟩, ⟨(some 54), (.faddr 0 (.tmp 53)), (some ((some 52), false))⟩, ⟨(some 55), (.load false 1 (.tmp 54)), (some ((some 52), false))⟩, ⟨(some 56), (.un .not (.tmp 55)), (some ((some 52), false))⟩, ⟨(some 57), (.mov (.tmp 56)), (some ((some 52), false))⟩, ⟨(some 58), (.faddr 1 (.tmp 8)), (some ((some 57), true))⟩, ⟨(some 59), (.faddr 1 (.tmp 58)), (some ((some 57), true))⟩, ⟨(some 60), (.load false 1 (.tmp 59)), (some ((some 57), true))⟩, ⟨(some 61), (.len 0 (.tmp 60)), (some ((some 57), true))⟩, ⟨(some 62), (.bin .gtr 3 (.tmp 61) (.const (.int .i64 0))), (some ((some 57), true))⟩, ⟨(some 63), (.pick (.tmp 57) (.tmp 62) (.const (.bool false))), (some ((some 52), false))⟩, ⟨(some 64), (.pick (.tmp 52) (.const (.bool true)) (.tmp 63)), none⟩] false []) (.cond (.tmp 64) (.seq (.region [⟨(some 65), (.call (.func 14) []), none⟩, ⟨(some 6), (.mov (.tmp 65)), none⟩] false []) .ret) .skip)))) (.region [⟨(some 66), (.bin .add 3 (.tmp 32) (.const (.int .i64 1))), none⟩, ⟨(some 32), (.mov (.tmp 66)), none⟩] false []))))
def c3R1 : ACode := (.seq (.region [⟨(some 68), (.mov (.tmp 0)), none⟩, ⟨(some 69), (.call (.func 17) [(.tmp 68)]), none⟩, ⟨(some 70), (.mov (.tmp 1)), none⟩, ⟨(some 71), (.mov (.tmp 2)), none⟩, ⟨(some 72), (.call (.func 16) [(.tmp 69), (.tmp 70), (.tmp 71)]), none⟩, ⟨(some 67), (.mov (.tmp 72)), none⟩, ⟨(some 73), (.ext (.tmp 67) 0), none⟩, ⟨(some 74), (.ext (.tmp 67) 1), none⟩, ⟨(some 9), (.mov (.tmp 73)), none⟩, ⟨(some 10), (.mov (.tmp 74)), none⟩] false []) (.seq (.region [⟨(some 76), (.mov (.tmp 0)), none⟩, ⟨(some 77), (.mov (.tmp 1)), none⟩, ⟨(some 78), (.mov (.tmp 2)), none⟩, ⟨(some 79), (.call (.func 18) [(.tmp 76), (.tmp 77), (.const (.int .i64 0)), (.tmp 78), (.const (.int .i64 12))]), none⟩, ⟨(some 75), (.mov (.tmp 79)), none⟩, ⟨(some 80), (.ext (.tmp 75) 0), none⟩, ⟨(some 81), (.ext (.tmp 75) 1), none⟩, ⟨(some 11), (.mov (.tmp 80)), none⟩, ⟨(some 12), (.mov (.tmp 81)), none⟩] false []) (.seq (.region [⟨(some 83), (.mov (.tmp 0)), none⟩, ⟨(some 84), (.call (.func 17) [(.tmp 83)]), none⟩, ⟨(some 85), (.mov (.tmp 1)), none⟩, ⟨(some 86), (.call (.func 19) [(.tmp 84), (.tmp 85), (.const (.bool false))]), none⟩, ⟨(some 82), (.mov (.tmp 86)), none⟩, ⟨(some 87), (.ext (.tmp 82) 0), none⟩, ⟨(some 88), (.ext (.tmp 82) 1), none⟩, ⟨(some 13), (.mov (.tmp 87)), none⟩, ⟨(some 14), (.mov (.tmp 88)), none⟩] false []) (.seq (.region [⟨(some 90), (.mov (.tmp 0)), none⟩, ⟨(some 91), (.mov (.tmp 1)), none⟩, ⟨(some 92), (.call (.func 18) [(.tmp 90), (.tmp 91), (.const (.int .i64 1)), (.const (.slice none 0 0)), (.const (.int .i64 12))]), none⟩, ⟨(some 89), (.mov (.tmp 92)), none⟩, ⟨(some 93), (.ext (.tmp 89) 0), none⟩, ⟨(some 94), (.ext (.tmp 89) 1), none⟩, ⟨(some 15), (.mov (.tmp 93)), none⟩, ⟨(some 16), (.mov (.tmp 94)), none⟩] false []) (.seq (.region [⟨(some 96), (.mov (.tmp 0)), none⟩, ⟨(some 97), (.call (.func 17) [(.tmp 96)]), none⟩, ⟨(some 98), (.mov (.tmp 1)), none⟩, ⟨(some 99), (.call (.func 19) [(.tmp 97), (.tmp 98), (.const (.bool true))]), none⟩, ⟨(some 95), (.mov (.tmp 99)), none⟩, ⟨(some 100), (.ext (.tmp 95) 0), none⟩, ⟨(some 101), (.ext (.tmp 95) 1), none⟩, ⟨(some 17), (.mov (.tmp 100)), none⟩, ⟨(some 18), (.mov (.tmp 101)), none⟩] false []) (.seq (.region [⟨(some 103), (.mov (.tmp 0)), none⟩, ⟨(some 104), (.mov (.tmp 1)), none⟩, ⟨(some 105), (.call (.func 18) [(.tmp 103), (.tmp 104), (.const (.int .i64 2)), (.const (.slice none 0 0)), (.const (.int .i64 12))]), none⟩, ⟨(some 102), (.mov (.tmp 105)), none⟩, ⟨(some 106), (.ext (.tmp 102) 0), none⟩, ⟨(some 107), (.ext (.tmp 102) 1), none⟩, ⟨(some 19), (.mov (.tmp 106)), none⟩, ⟨(some 20), (.mov (.tmp 107)), none⟩] false []) (.seq (.region [⟨(some 108), (.call (.func 14) []), none⟩, ⟨(some 109), (.mov (.tmp 108)), none⟩, ⟨(some 110), (.mov (.tmp 10)), (some ((some 109), true))⟩, ⟨(some 111), (.mov (.tmp 12)), (some ((some 109), true))⟩, ⟨(some 112), (.bin .eql 34 (.tmp 110) (.tmp 111)), (some ((some 109), true))⟩, ⟨(some 113), (.pick (.tmp 109) (.tmp 112) (.const (.bool false))), none⟩, ⟨(some 114), (.mov (.tmp 113)), none⟩, ⟨(some 115), (.mov (.tmp 14)), (some ((some 114), true))⟩, ⟨(some 116), (.mov (.tmp 16)), (some ((some 114), true))⟩, ⟨(some 117), (.bin .eql 34 (.tmp 115) (.tmp 116)), (some ((some 114), true))⟩, ⟨(some 118), (.pick (.tmp 114) (.tmp 117) (.const (.bool false))), none⟩, ⟨(some 119), (.mov (.tmp 118)), none⟩, ⟨(some 120), (.mov (.tmp 18)), (some ((some 119), true))⟩, ⟨(some 121), (.mov (.tmp 20)), (some ((some 119), true))⟩, ⟨(some 122), (.bin .eql 34 (.tmp 120) (.tmp 121)), (some ((some 119), true))⟩, ⟨(some 123), (.pick (.tmp 119) (.tmp 122) (.const (.bool false))), none⟩, ⟨(some 124), (.mov (.tmp 123)), none⟩, ⟨(some 125), (.mov (.tmp 9)), (some ((some 124), true))⟩, ⟨(some 126), (.mov (.tmp 11)), (some ((some 124), true))⟩, ⟨(some 127), (.call (.func 20) [(.tmp 125), (.tmp 126)]), (some ((some 124), true))⟩, ⟨(some 128), (.pick (.tmp 124) (.tmp 127) (.const (.bool false))), none⟩, ⟨(some 129), (.mov (.tmp 128)), none⟩, ⟨(some 130), (.mov (.tmp 13)), (some ((some 129), true))⟩, ⟨(some 131), (.mov (.tmp 15)), (some ((some 129), true))⟩, ⟨(some 132), (.call (.func 20) [(.tmp 130), (.tmp 131)]), (some ((some 129), true))⟩, ⟨(some 133), (.pick (.tmp 129) (.tmp 132) (.const (.bool false))), none⟩, ⟨(some 134), (.mov (.tmp 133)), none⟩, ⟨(some 135), (.mov (.tmp 17)), (some ((some 134), true))⟩, ⟨(some 136), (.mov (.tmp 19)), (some ((some 134), true))⟩, ⟨(some 137), (.call (.func 20) [(.tmp 135), (.tmp 136)]), (some ((some 134), true))⟩, ⟨(some 138), (.pick (.tmp 134) (.tmp 137) (.const (.bool false))), none⟩, ⟨(some 6), (.mov (.tmp 138)), none⟩] false []) .ret)))))))
def c3 : ACode := (.seq (.region [⟨(some 6), (.mov (.const (.bool false))), none⟩] false []) (.seq (.seq (.region [⟨(some 21), (.mov (.tmp 0)), none⟩, ⟨(some 22), (.call (.func 13) [(.tmp 21)]), none⟩, ⟨(some 23), (.un .not (.tmp 22)), none⟩, ⟨(some 24), (.mov (.tmp 23)), none⟩, ⟨(some 25), (.mov (.tmp 2)), (some ((some 24), false))⟩, ⟨(some 26), (.len 0 (.tmp 25)), (some ((some 24), false))⟩, ⟨(some 27), (.bin .gtr 3 (.tmp 26) (.const (.int .i64 100))), (some ((some 24), false))⟩, ⟨(some 28), (.pick (.tmp 24) (.const (.bool true)) (.tmp 27)), none⟩] false []) (.cond (.tmp 28) (.seq (.region [⟨(some 29), (.call (.func 14) []), none⟩, ⟨(some 6), (.mov (.tmp 29)), none⟩] false []) .ret) .skip)) (.seq (.seq (.region [⟨(some 30), (.mov (.tmp 0)), none⟩, ⟨(some 31), (.len 0 (.tmp 30)), none⟩, ⟨(some 32), (.mov (.const (.int .i64 0))), none⟩] false []) (.block 0 (.loop c3L0))) c3R1)))
def r3 : List ARes := [(.tmp 6)]
def c11L0 : ACode := (.seq (.region [⟨(some 48), (.bin .lss 3 (.tmp 47) (.tmp 46)), none⟩] false []) (.seq (.cond (.tmp 48) .skip (.exit 0)) (.seq (.block 1 (.seq (.region [⟨(some 49), (.iaddr none 2 (.tmp 45) (.tmp 47)), none⟩, ⟨(some 50), (.load true 2 (.tmp 49)), none⟩, ⟨(some 12), (.alloc [(.sc (.int .i64 0)), (.sc (.slice none 0 0))]), none⟩, ⟨none, (.store 2 (.tmp 12) (.tmp 50)), none⟩] false []) (.seq (.seq (.region [⟨(some 51), (.faddr 0 (.tmp 12)), none⟩, ⟨(some 52), (.load false 1 (.tmp 51)), none⟩, ⟨(some 53), (.bin .lss 3 (.tmp 52) (.const (.int .i64 0))), none⟩, ⟨(some 54), (.mov (.tmp 53)), none⟩, ⟨(some 55), (.faddr 0 (.tmp 12)), (some ((some 54), false))⟩, ⟨(some 56), (.load false 1 (.tmp 55)), (some ((some 54), false))⟩, ⟨(some 57), (.bin .gtr 3 (.tmp 56) (.const (.int .i64 4))), (some ((some 54), false))⟩, ⟨(some 58), (.pick (.tmp 54) (.const (.bool true)) (.tmp 57)), none⟩] false []) (.cond (.tmp 58) (.exit 1) .skip)) (.seq (.region [⟨(some 60), (.mov (.tmp 10)), none⟩, ⟨(some 61), (.load true 2 (.tmp 12)), none⟩, ⟨(some 62), (.call (.func 32) [(.tmp 60), (.tmp 61)]), none⟩, ⟨(some 59), (.mov (.tmp 62)), none⟩, ⟨(some 63), (.ext (.tmp 59) 0), none⟩, ⟨(some 64), (.ext (.tmp 59) 1), none⟩, ⟨(some 65), (.ext (.tmp 59) 2), none⟩, ⟨(some 13), (.alloc [(.sc (.slice none 0 0)), (.sc (.slice none 0 0)), (.sc (.int .i64 0)), (.sc (.int .i64 0))]), none⟩, ⟨none, (.store 4 (.tmp 13) (.tmp 63)), none⟩, ⟨(some 14), (.mov (.tmp 64)), none⟩, ⟨(some 15), (.mov (.tmp 65)), none⟩] false []) (.seq (.seq (.region [⟨(some 66), (.mov (.tmp 15)), none⟩, ⟨(some 67), (.bin .neq 34 (.tmp 66) (.const (.int .i64 0))), none⟩, ⟨(some 68), (.mov (.tmp 67)), none⟩, ⟨(some 69), (.mov (.tmp 15)), (some ((some 68), true))⟩, ⟨(some 70), (.bin .neq 34 (.tmp 69) (.const (.int .i64 10))), (some ((some 68), true))⟩, ⟨(some 71), (.mov (.tmp 70)), (some ((some 68), true))⟩, ⟨(some 72), (.mov (.tmp 14)), (some ((some 71), false))⟩, ⟨(some 73), (.pick (.tmp 71) (.const (.bool true)) (.tmp 72)), (some ((some 68), true))⟩, ⟨(some 74), (.mov (.tmp 73)), (some ((some 68), true))⟩, ⟨(some 75), (.faddr 0 (.tmp 13)), (some ((some 74), false))⟩, ⟨(some 76), (.load false 1 (.tmp 75)), (some ((some 74), false))⟩, ⟨(some 77), (.len 0 (.tmp 76)), (some ((some 74), false))⟩, ⟨(some 78), (.bin .gtr 3 (.tmp 77) (.const (.int .i64 0))), (some ((some 74), false))⟩, ⟨(some 79), (.pick (.tmp 74) (.const (.bool true)) (.tmp 78)), (some ((some 68), true))⟩, ⟨(some 80), (.pick (.tmp 68) (.tmp 79) (.const (.bool false))), none⟩] false []) (.cond (.tmp 80) (.seq (.region [⟨(some 6), (.mov (.const (.bool false))), none⟩] false []) .ret) .skip)) (.seq (.region [⟨(some 81), (.mov (.tmp 15)), none⟩, ⟨(some 82), (.bin .neq 34 (.tmp 81) (.const (.int .i64 0))), none⟩] false []) (.cond (.tmp 82) (.seq (.region [⟨(some 84), (.mov (.tmp 10)), none⟩, ⟨(some 85), (.call (.func 34) [(.tmp 84)]), none⟩, ⟨(some 83), (.mov (.tmp 85)), none⟩, ⟨(some 86), (.ext (.tmp 83) 0), none⟩, ⟨(some 87), (.ext (.tmp 83) 1), none⟩, ⟨(some 88), (.ext (.tmp 83) 2), none⟩, ⟨(some 16), (.alloc [(.sc (.slice none 0 0)), (.sc (.slice none 0 0)), (.sc (.int .i64 0)), (.sc (.int .i64 0))]), none⟩, ⟨none, (.store 4 (.tmp 16) (.tmp 86)), none⟩, ⟨(some 17), (.mov (.tmp 87)), none⟩, ⟨(some 18), (.mov (.tmp 88)), none⟩] false []) (.seq (.region [⟨(some 90), (.mov (.tmp 9)), none⟩, ⟨(some 91), (.iaddr (some 2) 1 (.tmp 4) (.const (.int .i64 0))), none⟩, ⟨(some 92), (.load false 1 (.tmp 91)), none⟩, ⟨(some 93), (.call (.func 30) [(.tmp 90), (.tmp 92)]), none⟩, ⟨(some 94), (.call (.func 33) [(.tmp 93)]), none⟩, ⟨(some 89), (.mov (.tmp 94)), none⟩, ⟨(some 95), (.ext (.tmp 89) 0), none⟩, ⟨(some 96), (.ext (.tmp 89) 1), none⟩, ⟨(some 97), (.ext (.tmp 89) 2), none⟩, ⟨(some 19), (.alloc [(.sc (.slice none 0 0)), (.sc (.slice none 0 0)), (.sc (.int .i64 0)), (.sc (.int .i64 0))]), none⟩, ⟨none, (.store 4 (.tmp 19) (.tmp 95)), none⟩, ⟨(some 20), (.mov (.tmp 96)), none⟩, ⟨(some 21), (.mov (.tmp 97)), none⟩] false []) (.seq (.region [⟨(some 98), (.mov (.tmp 18)), none⟩, ⟨(some 99), (.mov (.tmp 21)), none⟩, ⟨(some 100), (.bin .neq 34 (.tmp 98) (.tmp 99)), none⟩] false []) (.cond (.tmp 100) (.seq (.region [⟨(some 6), (.mov (.const (.bool false))), none⟩] false []) .ret) .skip)))) .skip))))))) (.region [⟨(some 101), (.bin .add 3 (.tmp 47) (.const (.int .i64 1))), none⟩, ⟨(some 47), (.mov (.tmp 101)), none⟩] false []))))
def c11A1 : ACode := .skip
def c11B1 : ACode := (.block 3 (.region [⟨(some 107), (.load false 1 (.tmp 22)), none⟩, ⟨(some 108), (.bin .add 3 (.tmp 107) (.const (.int .i64 1))), none⟩, ⟨none, (.store 1 (.tmp 22) (.tmp 108)), none⟩] false []))
def c11R2 : ACode := (.seq (.region [⟨(some 22), (.alloc [(.sc (.int .i64 0))]), none⟩, ⟨none, (.store 1 (.tmp 22) (.const (.int .i64 0))), none⟩] false []) (.seq (.seq (.region [⟨(some 102), (.mov (.tmp 9)), none⟩, ⟨(some 103), (.iaddr (some 2) 1 (.tmp 4) (.const (.int .i64 0))), none⟩, ⟨(some 104), (.load false 1 (.tmp 103)), none⟩, ⟨(some 105), (.call (.func 39) [(.tmp 102), (.tmp 104), (.const (.slice none 0 0))]), none⟩] false []) (.block 2 (.rangeF (.tmp 105) [106] c11A1 c11B1))) (.seq (.region [⟨(some 109), (.call (.func 28) []), none⟩, ⟨(some 110), (.mov (.tmp 109)), none⟩, ⟨(some 111), (.load false 1 (.tmp 22)), (some ((some 110), true))⟩, ⟨(some 112), (.bin .leq 3 (.tmp 111) (.const (.int .i64 200))), (some ((some 110), true))⟩, ⟨(some 113), (.pick (.tmp 110) (.tmp 112) (.const (.bool false))), none⟩, ⟨(some 6), (.mov (.tmp 113)), none⟩] false []) .ret)))
def c11 : ACode := (.seq (.region [⟨(some 3), (.box 1 (.tmp 0)), none⟩, ⟨(some 4), (.box 2 (.tmp 1)), none⟩, ⟨(some 6), (.mov (.const (.bool false))), none⟩] false []) (.seq (.seq (.region [⟨(some 23), (.load false 1 (.tmp 3)), none⟩, ⟨(some 24), (.mov (.tmp 2)), none⟩, ⟨(some 25), (.call (.func 27) [(.tmp 23), (.tmp 24)]), none⟩, ⟨(some 26), (.un .not (.tmp 25)), none⟩] false []) (.cond (.tmp 26) (.seq (.region [⟨(some 27), (.call (.func 28) []), none⟩, ⟨(some 6), (.mov (.tmp 27)), none⟩] false []) .ret) .skip)) (.seq (.seq (.region [⟨(some 29), (.load false 1 (.tmp 3)), none⟩, ⟨(some 30), (.iaddr (some 2) 1 (.tmp 4) (.const (.int .i64 0))), none⟩, ⟨(some 31), (.load false 1 (.tmp 30)), none⟩, ⟨(some 32), (.call (.func 29) [(.tmp 29), (.tmp 31)]), none⟩, ⟨(some 28), (.mov (.tmp 32)), none⟩, ⟨(some 33), (.ext (.tmp 28) 0), none⟩, ⟨(some 34), (.ext (.tmp 28) 1), none⟩, ⟨(some 7), (.mov (.tmp 33)), none⟩, ⟨(some 8), (.mov (.tmp 34)), none⟩] false []) (.seq (.region [⟨(some 35), (.mov (.tmp 8)), none⟩, ⟨(some 36), (.un .not (.tmp 35)), none⟩] false []) (.cond (.tmp 36) (.seq (.region [⟨(some 37), (.call (.func 28) []), none⟩, ⟨(some 6), (.mov (.tmp 37)), none⟩] false []) .ret) .skip))) (.seq (.region [⟨(some 38), (.mkfn (.func 38) [] [(.tmp 4), (.tmp 3)]), none⟩, ⟨(some 9), (.mov (.tmp 38)), none⟩] false []) (.seq (.region [⟨(some 39), (.mov (.tmp 9)), none⟩, ⟨(some 40), (.iaddr (some 2) 1 (.tmp 4) (.const (.int .i64 0))), none⟩, ⟨(some 41), (.load false 1 (.tmp 40)), none⟩, ⟨(some 42), (.call (.func 30) [(.tmp 39), (.tmp 41)]), none⟩, ⟨(some 10), (.mov (.tmp 42)), none⟩] false []) (.seq (.seq (.region [⟨(some 43), (.mov (.tmp 10)), none⟩, ⟨(some 44), (.isnil false 1 (.tmp 43)), none⟩] false []) (.cond (.tmp 44) (.seq (.region [⟨(some 6), (.mov (.const (.bool false))), none⟩] false []) .ret) .skip)) (.seq (.seq (.region [⟨(some 45), (.mov (.tmp 2)), none⟩, ⟨(some 46), (.len 0 (.tmp 45)), none⟩, ⟨(some 47), (.mov (.const (.int .i64 0))), none⟩] false []) (.block 0 (.loop c11L0))) c11R2)))))))
def r11 : List ARes := [(.tmp 6)]
def c16 : ACode := (.seq (.region [⟨(some 5), (.box 1 (.tmp 2)), none⟩, ⟨(some 6), (.mov (.const (.slice none 0 0))), none⟩, ⟨(some 7), (.mov (.const (.int .i64 0))), none⟩] false []) (.seq (.region [⟨(some 8), (.mov (.tmp 0)), none⟩, ⟨(some 9), (.mov (.tmp 1)), none⟩, ⟨(some 10), (.mkfn (.func 42) [] [(.tmp 5)]), none⟩, ⟨(some 11), (.call (.func 41) [(.tmp 8), (.tmp 9), (.tmp 10)]), none⟩, ⟨(some 12), (.ext (.tmp 11) 0), none⟩, ⟨(some 13), (.ext (.tmp 11) 1), none⟩, ⟨(some 6), (.mov (.tmp 12)), none⟩, ⟨(some 7), (.mov (.tmp 13)), none⟩] false []) .ret))
def r16 : List ARes := [(.tmp 6), (.tmp 7)]
def c17 : ACode := (.seq (.region [⟨(some 1), (.box 1 (.tmp 0)), none⟩, ⟨(some 2), (.mov (.const .nilFunc)), none⟩] false []) (.seq (.region [⟨(some 3), (.mkfn (.func 45) [] [(.tmp 1)]), none⟩, ⟨(some 2), (.mov (.tmp 3)), none⟩] false []) .ret))
def r17 : List ARes := [(.tmp 2)]
def c19 : ACode := (.seq (.region [⟨(some 5), (.box 1 (.tmp 2)), none⟩, ⟨(some 6), (.mov (.const (.slice none 0 0))), none⟩, ⟨(some 7), (.mov (.const (.int .i64 0))), none⟩] false []) (.seq (.region [⟨(some 8), (.mov (.tmp 0)), none⟩, ⟨(some 9), (.mov (.tmp 1)), none⟩, ⟨(some 10), (.mkfn (.func 51) [] [(.tmp 5)]), none⟩, ⟨(some 11), (.call (.func 41) [(.tmp 8), (.tmp 9), (.tmp 10)]), none⟩, ⟨(some 12), (.ext (.tmp 11) 0), none⟩, ⟨(some 13), (.ext (.tmp 11) 1), none⟩, ⟨(some 6), (.mov (.tmp 12)), none⟩, ⟨(some 7), (.mov (.tmp 13)), none⟩] false []) .ret))
def r19 : List ARes := [(.tmp 6), (.tmp 7)]
def c21 : ACode := (.seq (.region [⟨(some 4), (.alloc [(.sc (.slice none 0 0)), (.sc (.slice none 0 0)), (.sc (.int .i64 0))]), none⟩, ⟨(some 5), (.mov (.const (.int .i64 0))), none⟩] false []) (.seq (.seq (.region [⟨(some 9), (.mov (.tmp 0)), none⟩, ⟨(some 10), (.isnil false 3 (.tmp 9)), none⟩] false []) (.cond (.tmp 10) (.seq (.region [⟨(some 11), (.build [(.sc (.slice none 0 0)), (.sc (.slice none 0 0)), (.sc (.int .i64 0))] []), none⟩, ⟨none, (.store 3 (.tmp 4) (.tmp 11)), none⟩, ⟨(some 5), (.mov (.const (.int .i64 1))), none⟩] false []) .ret) .skip)) (.seq (.region [⟨(some 12), (.mov (.tmp 0)), none⟩, ⟨(some 13), (.mkmap (some .i64)), none⟩, ⟨(some 14), (.build [(.sc .nilFunc), (.sc (.slice none 0 0)), (.sc (.slice none 0 0)), (.sc (.int .i64 0)), (.sc (.map none))] [(0, (1, (.tmp 12))), (4, (1, (.tmp 13)))]), none⟩, ⟨(some 15), (.box 5 (.tmp 14)), none⟩, ⟨(some 6), (.alloc [(.sc (.pointer none))]), none⟩, ⟨none, (.store 1 (.tmp 6) (.tmp 15)), none⟩] false []) (.seq (.region [⟨(some 7), (.alloc [(.sc .nilFunc)]), none⟩] false []) (.seq (.region [⟨(some 16), (.mkfn (.func 54) [] [(.tmp 6), (.tmp 7)]), none⟩, ⟨none, (.store 1 (.tmp 7) (.tmp 16)), none⟩] false []) (.seq (.seq (.region [⟨(some 17), (.load false 1 (.tmp 7)), none⟩, ⟨(some 18), (.mov (.tmp 1)), none⟩, ⟨(some 19), (.build [(.sc (.int .i64 0)), (.sc (.int .i64 0)), (.sc (.bool false)), (.sc (.slice none 0 0)), (.sc (.bool false)), (.sc (.slice none 0 0))] [(0, (1, (.tmp 18))), (1, (1, (.const (.int .i64 1))))]), none⟩, ⟨(some 20), (.call (.tmp 17) [(.tmp 19)]), none⟩, ⟨(some 8), (.mov (.tmp 20)), none⟩] false []) (.seq (.region [⟨(some 21), (.mov (.tmp 8)), none⟩, ⟨(some 22), (.bin .neq 34 (.tmp 21) (.const (.int .i64 0))), none⟩] false []) (.cond (.tmp 22) (.seq (.region [⟨(some 23), (.build [(.sc (.slice none 0 0)), (.sc (.slice none 0 0)), (.sc (.int .i64 0))] []), none⟩, ⟨(some 24), (.mov (.tmp 8)), none⟩, ⟨none, (.store 3 (.tmp 4) (.tmp 23)), none⟩, ⟨(some 5), (.mov (.tmp 24)), none⟩] false []) .ret) .skip))) (.seq (.region [⟨(some 25), (.load false 1 (.tmp 6)), none⟩, ⟨(some 26), (.nilck (.tmp 25)), none⟩, ⟨(some 27), (.faddr 1 (.tmp 26)), none⟩, ⟨(some 28), (.load true 3 (.tmp 27)), none⟩, ⟨none, (.store 3 (.tmp 4) (.tmp 28)), none⟩, ⟨(some 5), (.mov (.const (.int .i64 0))), none⟩] false []) .ret)))))))
def r21 : List ARes := [(.cell 4 true 3), (.tmp 5)]
def c26L0 : ACode := (.seq (.seq (.region [⟨(some 32), (.mov (.tmp 13)), none⟩, ⟨(some 33), (.mov (.tmp 0)), none⟩, ⟨(some 34), (.len 0 (.tmp 33)), none⟩, ⟨(some 35), (.bin .lss 3 (.tmp 32) (.tmp 34)), none⟩, ⟨(some 36), (.mov (.tmp 35)), none⟩, ⟨(some 37), (.mov (.tmp 13)), (some ((some 36), true))⟩, ⟨(some 38), (.mov (.tmp 11)), (some ((some 36), true))⟩, ⟨(some 39), (.mov (.tmp 1)), (some ((some 36), true))⟩, ⟨(some 40), (.bin .add 3 (.tmp 38) (.tmp 39)), (some ((some 36), true))⟩, ⟨(some 41), (.bin .lss 3 (.tmp 37) (.tmp 40)), (some ((some 36), true))⟩, ⟨(some 42), (.pick (.tmp 36) (.tmp 41) (.const (.bool false))), none⟩] false []) (.cond (.tmp 42) .skip (.exit 2))) (.seq (.block 3 (.region [⟨(some 45), (.faddr 1 (.tmp 12)), none⟩, ⟨(some 46), (.load false 1 (.tmp 45)), none⟩, ⟨(some 47), (.mov (.tmp 0)), none⟩, ⟨(some 48), (.mov (.tmp 13)), none⟩, ⟨(some 49), (.iaddr none 4 (.tmp 47) (.tmp 48)), none⟩, ⟨(some 50), (.load true 4 (.tmp 49)), none⟩, ⟨(some 51), (.bslice 4 [(.sc (.slice none 0 0)), (.sc (.slice none 0 0)), (.sc (.int .i64 0)), (.sc (.int .i64 0))] 1 [(0, (.tmp 50))]), none⟩, ⟨(some 52), (.app 4 64 (.tmp 46) (.tmp 51)), none⟩, ⟨(some 53), (.faddr 1 (.tmp 12)), none⟩, ⟨none, (.store 1 (.tmp 53) (.tmp 52)), none⟩] true [(1, 6)])) (.region [⟨(some 43), (.mov (.tmp 13)), none⟩, ⟨(some 44), (.bin .add 3 (.tmp 43) (.const (.int .i64 1))), none⟩, ⟨(some 13), (.mov (.tmp 44)), none⟩] false [])))
def c26R1 : ACode := (.seq (.region [⟨(some 54), (.mov (.tmp 10)), none⟩, ⟨(some 55), (.build [(.sc (.slice none 0 0)), (.sc (.int .i64 0))] [(1, (1, (.tmp 54)))]), none⟩, ⟨(some 14), (.alloc [(.sc (.slice none 0 0)), (.sc (.int .i64 0))]), none⟩, ⟨none, (.store 2 (.tmp 14) (.tmp 55)), none⟩] false []) (.seq (.seq (.region [⟨(some 56), (.faddr 1 (.tmp 12)), none⟩, ⟨(some 57), (.load false 1 (.tmp 56)), none⟩, ⟨(some 58), (.len 0 (.tmp 57)), none⟩, ⟨(some 59), (.bin .gtr 3 (.tmp 58) (.const (.int .i64 0))), none⟩] false []) (.cond (.tmp 59) (.region [⟨(some 60), (.faddr 1 (.tmp 12)), none⟩, ⟨(some 61), (.load false 1 (.tmp 60)), none⟩, ⟨(some 62), (.iaddr none 4 (.tmp 61) (.const (.int .i64 0))), none⟩, ⟨(some 63), (.faddr 0 (.tmp 62)), none⟩, ⟨(some 64), (.load false 1 (.tmp 63)), none⟩, ⟨(some 65), (.faddr 0 (.tmp 14)), none⟩, ⟨none, (.store 1 (.tmp 65) (.tmp 64)), none⟩] false []) .skip)) (.seq (.region [⟨(some 66), (.mov (.tmp 8)), none⟩, ⟨(some 67), (.mov (.tmp 10)), none⟩, ⟨(some 68), (.load true 3 (.tmp 12)), none⟩, ⟨(some 69), (.build [(.sc (.int .i64 0)), (.sc (.bool false)), (.sc (.slice none 0 0)), (.sc (.slice none 0 0))] [(0, (1, (.tmp 67))), (1, (3, (.tmp 68)))]), none⟩, ⟨(some 70), (.bslice 4 [(.sc (.int .i64 0)), (.sc (.bool false)), (.sc (.slice none 0 0)), (.sc (.slice none 0 0))] 1 [(0, (.tmp 69))]), none⟩, ⟨(some 71), (.app 4 64 (.tmp 66) (.tmp 70)), none⟩, ⟨(some 8), (.mov (.tmp 71)), none⟩] false []) (.seq (.region [⟨(some 72), (.mov (.tmp 9)), none⟩, ⟨(some 73), (.load true 2 (.tmp 14)), none⟩, ⟨(some 74), (.bslice 2 [(.sc (.slice none 0 0)), (.sc (.int .i64 0))] 1 [(0, (.tmp 73))]), none⟩, ⟨(some 75), (.app 2 32 (.tmp 72) (.tmp 74)), none⟩, ⟨(some 9), (.mov (.tmp 75)), none⟩] false []) (.region [⟨(some 76), (.mov (.tmp 10)), none⟩, ⟨(some 77), (.bin .add 3 (.tmp 76) (.const (.int .i64 1))), none⟩, ⟨(some 10), (.mov (.tmp 77)), none⟩] false [])))))
def c26R2 : ACode := (.region [⟨(some 27), (.mov (.tmp 11)), none⟩, ⟨(some 28), (.mov (.tmp 1)), none⟩, ⟨(some 29), (.bin .add 3 (.tmp 27) (.tmp 28)), none⟩, ⟨(some 11), (.mov (.tmp 29)), none⟩] false [])
def c26L3 : ACode := (.seq (.seq (.region [⟨(some 19), (.mov (.tmp 11)), none⟩, ⟨(some 20), (.mov (.tmp 0)), none⟩, ⟨(some 21), (.len 0 (.tmp 20)), none⟩, ⟨(some 22), (.bin .lss 3 (.tmp 19) (.tmp 21)), none⟩, ⟨(some 23), (.mov (.tmp 22)), none⟩, ⟨(some 24), (.mov (.tmp 11)), (some ((some 23), false))⟩, ⟨(some 25), (.bin .eql 3 (.tmp 24) (.const (.int .i64 0))), (some ((some 23), false))⟩, ⟨(some 26), (.pick (.tmp 23) (.const (.bool true)) (.tmp 25)), none⟩] false []) (.cond (.tmp 26) .skip (.exit 0))) (.seq (.block 1 (.seq (.region [⟨(some 30), (.build [(.sc (.bool false)), (.sc (.slice none 0 0)), (.sc (.slice none 0 0))] [(0, (1, (.const (.bool true))))]), none⟩, ⟨(some 12), (.alloc [(.sc (.bool false)), (.sc (.slice none 0 0)), (.sc (.slice none 0 0))]), none⟩, ⟨none, (.store 3 (.tmp 12) (.tmp 30)), none⟩] false []) (.seq (.seq (.region [⟨(some 31), (.mov (.tmp 11)), none⟩, ⟨(some 13), (.mov (.tmp 31)), none⟩] false []) (.block 2 (.loop c26L0))) c26R1))) c26R2))
def c26L4 : ACode := (.seq (.seq (.region [⟨(some 81), (.mov (.tmp 16)), none⟩, ⟨(some 82), (.mov (.tmp 9)), none⟩, ⟨(some 83), (.len 0 (.tmp 82)), none⟩, ⟨(some 84), (.bin .lss 3 (.tmp 81) (.tmp 83)), none⟩] false []) (.cond (.tmp 84) .skip (.exit 6))) (.block 7 (.seq (.region [⟨(some 85), (.mov (.tmp 16)), none⟩, ⟨(some 86), (.mov (.tmp 2)), none⟩, ⟨(some 87), (.bin .add 3 (.tmp 85) (.tmp 86)), none⟩, ⟨(some 17), (.mov (.tmp 87)), none⟩] false []) (.seq (.seq (.region [⟨(some 88), (.mov (.tmp 17)), none⟩, ⟨(some 89), (.bin .add 3 (.tmp 88) (.const (.int .i64 1))), none⟩, ⟨(some 90), (.mov (.tmp 9)), none⟩, ⟨(some 91), (.len 0 (.tmp 90)), none⟩, ⟨(some 92), (.bin .geq 3 (.tmp 89) (.tmp 91)), none⟩] false []) (.cond (.tmp 92) (.region [⟨(some 93), (.mov (.tmp 9)), none⟩, ⟨(some 94), (.len 0 (.tmp 93)), none⟩, ⟨(some 17), (.mov (.tmp 94)), none⟩] false []) .skip)) (.seq (.region [⟨(some 95), (.bslice 2 [(.sc (.slice none 0 0)), (.sc (.int .i64 0))] 0 []), none⟩, ⟨(some 96), (.mov (.tmp 9)), none⟩, ⟨(some 97), (.mov (.tmp 16)), none⟩, ⟨(some 98), (.mov (.tmp 17)), none⟩, ⟨(some 99), (.slice 2 (.tmp 96) (some (.tmp 97)) (some (.tmp 98)) none), none⟩, ⟨(some 100), (.app 2 32 (.tmp 95) (.tmp 99)), none⟩, ⟨(some 101), (.build [(.sc (.bool false)), (.sc (.slice none 0 0)), (.sc (.slice none 0 0))] [(2, (1, (.tmp 100)))]), none⟩, ⟨(some 18), (.alloc [(.sc (.bool false)), (.sc (.slice none 0 0)), (.sc (.slice none 0 0))]), none⟩, ⟨none, (.store 3 (.tmp 18) (.tmp 101)), none⟩] false []) (.seq (.region [⟨(some 102), (.mov (.tmp 15)), none⟩, ⟨(some 103), (.faddr 2 (.tmp 18)), none⟩, ⟨(some 104), (.load false 1 (.tmp 103)), none⟩, ⟨(some 105), (.iaddr none 2 (.tmp 104) (.const (.int .i64 0))), none⟩, ⟨(some 106), (.faddr 0 (.tmp 105)), none⟩, ⟨(some 107), (.load false 1 (.tmp 106)), none⟩, ⟨(some 108), (.mov (.tmp 10)), none⟩, ⟨(some 109), (.build [(.sc (.slice none 0 0)), (.sc (.int .i64 0))] [(0, (1, (.tmp 107))), (1, (1, (.tmp 108)))]), none⟩, ⟨(some 110), (.bslice 2 [(.sc (.slice none 0 0)), (.sc (.int .i64 0))] 1 [(0, (.tmp 109))]), none⟩, ⟨(some 111), (.app 2 32 (.tmp 102) (.tmp 110)), none⟩, ⟨(some 15), (.mov (.tmp 111)), none⟩] false []) (.seq (.region [⟨(some 112), (.faddr 2 (.tmp 18)), none⟩, ⟨(some 113), (.load false 1 (.tmp 112)), none⟩, ⟨(some 114), (.iaddr none 2 (.tmp 113) (.const (.int .i64 0))), none⟩, ⟨(some 115), (.faddr 0 (.tmp 114)), none⟩, ⟨none, (.store 1 (.tmp 115) (.const (.slice none 0 0))), none⟩] false []) (.seq (.region [⟨(some 116), (.mov (.tmp 8)), none⟩, ⟨(some 117), (.mov (.tmp 10)), none⟩, ⟨(some 118), (.load true 3 (.tmp 18)), none⟩, ⟨(some 119), (.build [(.sc (.int .i64 0)), (.sc (.bool false)), (.sc (.slice none 0 0)), (.sc (.slice none 0 0))] [(0, (1, (.tmp 117))), (1, (3, (.tmp 118)))]), none⟩, ⟨(some 120), (.bslice 4 [(.sc (.int .i64 0)), (.sc (.bool false)), (.sc (.slice none 0 0)), (.sc (.slice none 0 0))] 1 [(0, (.tmp 119))]), none⟩, ⟨(some 121), (.app 4 64 (.tmp 116) (.tmp 120)), none⟩, ⟨(some 8), (.mov (.tmp 121)), none⟩] false []) (.seq (.region [⟨(some 122), (.mov (.tmp 10)), none⟩, ⟨(some 123), (.bin .add 3 (.tmp 122) (.const (.int .i64 1))), none⟩, ⟨(some 10), (.mov (.tmp 123)), none⟩] false []) (.region [⟨(some 124), (.mov (.tmp 17)), none⟩, ⟨(some 16), (.mov (.tmp 124)), none⟩] false []))))))))))
def c26R5 : ACode := (.region [⟨(some 125), (.mov (.tmp 15)), none⟩, ⟨(some 9), (.mov (.tmp 125)), none⟩] false [])
def c26L6 : ACode := (.seq (.seq (.region [⟨(some 78), (.mov (.tmp 9)), none⟩, ⟨(some 79), (.len 0 (.tmp 78)), none⟩, ⟨(some 80), (.bin .gtr 3 (.tmp 79) (.const (.int .i64 1))), none⟩] false []) (.cond (.tmp 80) .skip (.exit 4))) (.block 5 (.seq (.region [⟨(some 15), (.mov (.const (.slice none 0 0))), none⟩] false []) (.seq (.seq (.region [⟨(some 16), (.mov (.const (.int .i64 0))), none⟩] false []) (.block 6 (.loop c26L4))) c26R5))))
def c26R7 : ACode := (.seq (.region [⟨(some 126), (.mov (.tmp 8)), none⟩, ⟨(some 127), (.mov (.tmp 9)), none⟩, ⟨(some 128), (.iaddr none 2 (.tmp 127) (.const (.int .i64 0))), none⟩, ⟨(some 129), (.faddr 1 (.tmp 128)), none⟩, ⟨(some 130), (.load false 1 (.tmp 129)), none⟩, ⟨(some 6), (.mov (.tmp 126)), none⟩, ⟨(some 7), (.mov (.tmp 130)), none⟩] true []) .ret)
def c26 : ACode := (.seq (.region [⟨(some 6), (.mov (.const (.slice none 0 0))), none⟩, ⟨(some 7), (.mov (.const (.int .i64 0))), none⟩] false []) (.seq (.region [⟨(some 8), (.mov (.const (.slice none 0 0))), none⟩] false []) (.seq (.region [⟨(some 9), (.mov (.const (.slice none 0 0))), none⟩] false []) (.seq (.region [⟨(some 10), (.mov (.const (.int .i64 2))), none⟩] false []) (.seq (.seq (.region [⟨(some 11), (.mov (.const (.int .i64 0))), none⟩] false []) (.block 0 (.loop c26L3))) (.seq (.block 4 (.loop c26L6)) c26R7))))))
def r26 : List ARes := [(.tmp 6), (.tmp 7)]
def c27L0 : ACode := (.seq (.region [⟨(some 13), (.bin .lss 3 (.tmp 12) (.tmp 11)), none⟩] false []) (.seq (.cond (.tmp 13) .skip (.exit 0)) (.seq (.block 1 (.seq (.region [⟨(some 14), (.iaddr none 4 (.tmp 10) (.tmp 12)), none⟩, ⟨(some 15), (.load true 4 (.tmp 14)), none⟩, ⟨(some 7), (.alloc [(.sc (.int .i64 0)), (.sc (.bool false)), (.sc (.slice none 0 0)), (.sc (.slice none 0 0))]), none⟩, ⟨none, (.store 4 (.tmp 7) (.tmp 15)), none⟩] false []) (.region [⟨(some 16), (.mov (.tmp 5)), none⟩, ⟨(some 17), (.faddr 1 (.tmp 7)), none⟩, ⟨(some 18), (.faddr 1 (.tmp 17)), none⟩, ⟨(some 19), (.load false 1 (.tmp 18)), none⟩, ⟨(some 20), (.len 0 (.tmp 19)), none⟩, ⟨(some 21), (.faddr 1 (.tmp 7)), none⟩, ⟨(some 22), (.faddr 2 (.tmp 21)), none⟩, ⟨(some 23), (.load false 1 (.tmp 22)), none⟩, ⟨(some 24), (.len 0 (.tmp 23)), none⟩, ⟨(some 25), (.bin .add 3 (.tmp 20) (.tmp 24)), none⟩, ⟨(some 26), (.bin .add 3 (.tmp 16) (.tmp 25)), none⟩, ⟨(some 5), (.mov (.tmp 26)), none⟩] false []))) (.region [⟨(some 27), (.bin .add 3 (.tmp 12) (.const (.int .i64 1))), none⟩, ⟨(some 12), (.mov (.tmp 27)), none⟩] false []))))
def c27L1 : ACode := (.seq (.region [⟨(some 31), (.bin .lss 3 (.tmp 30) (.tmp 29)), none⟩] false []) (.seq (.cond (.tmp 31) .skip (.exit 2)) (.seq (.block 3 (.seq (.region [⟨(some 32), (.iaddr none 2 (.tmp 28) (.tmp 30)), none⟩, ⟨(some 33), (.load true 2 (.tmp 32)), none⟩, ⟨(some 9), (.alloc [(.sc (.int .i64 0)), (.sc (.slice none 0 0))]), none⟩, ⟨none, (.store 2 (.tmp 9) (.tmp 33)), none⟩] false []) (.seq (.region [⟨(some 34), (.faddr 1 (.tmp 9)), none⟩, ⟨(some 35), (.load false 1 (.tmp 34)), none⟩, ⟨(some 36), (.len 0 (.tmp 35)), none⟩, ⟨(some 37), (.bin .gtr 3 (.tmp 36) (.const (.int .i64 100))), none⟩] false []) (.cond (.tmp 37) (.seq (.region [⟨(some 4), (.mov (.const (.bool false))), none⟩] false []) .ret) .skip)))) (.region [⟨(some 38), (.bin .add 3 (.tmp 30) (.const (.int .i64 1))), none⟩, ⟨(some 30), (.mov (.tmp 38)), none⟩] false []))))
def c27R2 : ACode := (.seq (.region [⟨(some 39), (.mov (.tmp 0)), none⟩, ⟨(some 40), (.len 0 (.tmp 39)), none⟩, ⟨(some 41), (.bin .leq 3 (.tmp 40) (.const (.int .i64 40))), none⟩, ⟨(some 42), (.mov (.tmp 41)), none⟩, ⟨(some 43), (.mov (.tmp 5)), (some ((some 42), true))⟩, ⟨(some 44), (.bin .leq 3 (.tmp 43) (.const (.int .i64 200))), (some ((some 42), true))⟩, ⟨(some 45), (.pick (.tmp 42) (.tmp 44) (.const (.bool false))), none⟩, ⟨(some 46), (.mov (.tmp 45)), none⟩, ⟨(some 47), (.mov (.tmp 1)), (some ((some 46), true))⟩, ⟨(some 48), (.len 0 (.tmp 47)), (some ((some 46), true))⟩, ⟨(some 49), (.bin .leq 3 (.tmp 48) (.const (.int .i64 100))), (some ((some 46), true))⟩, ⟨(some 50), (.pick (.tmp 46) (.tmp 49) (.const (.bool false))), none⟩, ⟨(some 4), (.mov (.tmp 50)), none⟩] false []) .ret)
def c27R3 : ACode := (.seq (.seq (.region [⟨(some 28), (.mov (.tmp 1)), none⟩, ⟨(some 29), (.len 0 (.tmp 28)), none⟩, ⟨(some 30), (.mov (.const (.int .i64 0))), none⟩] false []) (.block 2 (.loop c27L1))) c27R2)
def c27 : ACode := (.seq (.region [⟨(some 4), (.mov (.const (.bool false))), none⟩] false []) (.seq (.region [⟨(some 5), (.mov (.const (.int .i64 0))), none⟩] false []) (.seq (.seq (.region [⟨(some 10), (.mov (.tmp 0)), none⟩, ⟨(some 11), (.len 0 (.tmp 10)), none⟩, ⟨(some 12), (.mov (.const (.int .i64 0))), none⟩] false []) (.block 0 (.loop c27L0))) c27R3)))
def r27 : List ARes := [(.tmp 4)]
def c28A0 : ACode := .skip
def c28B0 : ACode := (.block 1 (.region [⟨(some 75), (.load false 1 (.tmp 16)), none⟩, ⟨(some 76), (.bin .add 3 (.tmp 75) (.const (.int .i64 1))), none⟩, ⟨none, (.store 1 (.tmp 16) (.tmp 76)), none⟩] false []))
def c28 : ACode := (.seq (.region [⟨(some 0), (.mov (.const (.bool false))), none⟩] false []) (.seq (.region [⟨(some 18), (.bslice 1 [(.sc (.int .u8 0))] 1 [(0, (.const (.int .u8 97)))]), none⟩, ⟨(some 19), (.stringish (.tmp 18)), none⟩, ⟨(some 20), (.build [(.sc (.slice none 0 0)), (.sc (.slice none 0 0)), (.sc (.int .i64 0)), (.sc (.int .i64 0))] [(0, (1, (.tmp 19)))]), none⟩, ⟨(some 21), (.bslice 1 [(.sc (.int .u8 0))] 1 [(0, (.const (.int .u8 99)))]), none⟩, ⟨(some 22), (.stringish (.tmp 21)), none⟩, ⟨(some 23), (.build [(.sc (.slice none 0 0)), (.sc (.slice none 0 0)), (.sc (.int .i64 0)), (.sc (.int .i64 0))] [(0, (1, (.tmp 22)))]), none⟩, ⟨(some 24), (.bslice 1 [(.sc (.int .u8 0))] 1 [(0, (.const (.int .u8 100)))]), none⟩, ⟨(some 25), (.stringish (.tmp 24)), none⟩, ⟨(some 26), (.build [(.sc (.slice none 0 0)), (.sc (.slice none 0 0)), (.sc (.int .i64 0)), (.sc (.int .i64 0))] [(0, (1, (.tmp 25)))]), none⟩, ⟨(some 27), (.bslice 4 [(.sc (.slice none 0 0)), (.sc (.slice none 0 0)), (.sc (.int .i64 0)), (.sc (.int .i64 0))] 3 [(0, (.tmp 20)), (1, (.tmp 23)), (2, (.tmp 26))]), none⟩, ⟨(some 28), (.call (.func 26) [(.tmp 27), (.const (.int .i64 1)), (.const (.int .i64 3))]), none⟩, ⟨(some 17), (.mov (.tmp 28)), none⟩, ⟨(some 29), (.ext (.tmp 17) 0), none⟩, ⟨(some 30), (.ext (.tmp 17) 1), none⟩, ⟨(some 1), (.mov (.tmp 29)), none⟩, ⟨(some 2), (.mov (.tmp 30)), none⟩] false []) (.seq (.region [⟨(some 31), (.mov (.tmp 1)), none⟩, ⟨(some 32), (.call (.func 17) [(.tmp 31)]), none⟩, ⟨(some 33), (.mov (.tmp 2)), none⟩, ⟨(some 34), (.call (.func 30) [(.tmp 32), (.tmp 33)]), none⟩, ⟨(some 3), (.mov (.tmp 34)), none⟩] false []) (.seq (.seq (.region [⟨(some 35), (.mov (.tmp 3)), none⟩, ⟨(some 36), (.isnil false 1 (.tmp 35)), none⟩, ⟨(some 37), (.mov (.tmp 36)), none⟩, ⟨(some 38), (.mov (.tmp 2)), (some ((some 37), false))⟩, ⟨(some 39), (.call (.func 30) [(.const .nilFunc), (.tmp 38)]), (some ((some 37), false))⟩, ⟨(some 40), (.isnil true 1 (.tmp 39)), (some ((some 37), false))⟩, ⟨(some 41), (.pick (.tmp 37) (.const (.bool true)) (.tmp 40)), none⟩] false []) (.cond (.tmp 41) (.seq (.region [⟨(some 0), (.mov (.const (.bool false))), none⟩] false []) .ret) .skip)) (.seq (.region [⟨(some 43), (.mov (.tmp 3)), none⟩, ⟨(some 44), (.bslice 1 [(.sc (.int .u8 0))] 1 [(0, (.const (.int .u8 98)))]), none⟩, ⟨(some 45), (.stringish (.tmp 44)), none⟩, ⟨(some 46), (.call (.func 37) [(.tmp 43), (.tmp 45)]), none⟩, ⟨(some 42), (.mov (.tmp 46)), none⟩, ⟨(some 47), (.ext (.tmp 42) 0), none⟩, ⟨(some 48), (.ext (.tmp 42) 1), none⟩, ⟨(some 49), (.ext (.tmp 42) 2), none⟩, ⟨(some 4), (.alloc [(.sc (.slice none 0 0)), (.sc (.slice none 0 0)), (.sc (.int .i64 0)), (.sc (.int .i64 0))]), none⟩, ⟨none, (.store 4 (.tmp 4) (.tmp 47)), none⟩, ⟨(some 5), (.mov (.tmp 48)), none⟩, ⟨(some 6), (.mov (.tmp 49)), none⟩] false []) (.seq (.region [⟨(some 51), (.mov (.tmp 3)), none⟩, ⟨(some 52), (.call (.func 36) [(.tmp 51)]), none⟩, ⟨(some 50), (.mov (.tmp 52)), none⟩, ⟨(some 53), (.ext (.tmp 50) 0), none⟩, ⟨(some 54), (.ext (.tmp 50) 1), none⟩, ⟨(some 55), (.ext (.tmp 50) 2), none⟩, ⟨(some 7), (.alloc [(.sc (.slice none 0 0)), (.sc (.slice none 0 0)), (.sc (.int .i64 0)), (.sc (.int .i64 0))]), none⟩, ⟨none, (.store 4 (.tmp 7) (.tmp 53)), none⟩, ⟨(some 8), (.mov (.tmp 54)), none⟩, ⟨(some 9), (.mov (.tmp 55)), none⟩] false []) (.seq (.region [⟨(some 57), (.mov (.tmp 3)), none⟩, ⟨(some 58), (.call (.func 36) [(.tmp 57)]), none⟩, ⟨(some 56), (.mov (.tmp 58)), none⟩, ⟨(some 59), (.ext (.tmp 56) 0), none⟩, ⟨(some 60), (.ext (.tmp 56) 1), none⟩, ⟨(some 61), (.ext (.tmp 56) 2), none⟩, ⟨(some 10), (.alloc [(.sc (.slice none 0 0)), (.sc (.slice none 0 0)), (.sc (.int .i64 0)), (.sc (.int .i64 0))]), none⟩, ⟨none, (.store 4 (.tmp 10) (.tmp 59)), none⟩, ⟨(some 11), (.mov (.tmp 60)), none⟩, ⟨(some 12), (.mov (.tmp 61)), none⟩] false []) (.seq (.region [⟨(some 63), (.mov (.tmp 3)), none⟩, ⟨(some 64), (.call (.func 35) [(.tmp 63)]), none⟩, ⟨(some 62), (.mov (.tmp 64)), none⟩, ⟨(some 65), (.ext (.tmp 62) 0), none⟩, ⟨(some 66), (.ext (.tmp 62) 1), none⟩, ⟨(some 67), (.ext (.tmp 62) 2), none⟩, ⟨(some 13), (.alloc [(.sc (.slice none 0 0)), (.sc (.slice none 0 0)), (.sc (.int .i64 0)), (.sc (.int .i64 0))]), none⟩, ⟨none, (.store 4 (.tmp 13) (.tmp 65)), none⟩, ⟨(some 14), (.mov (.tmp 66)), none⟩, ⟨(some 15), (.mov (.tmp 67)), none⟩] false []) (.seq (.region [⟨(some 16), (.alloc [(.sc (.int .i64 0))]), none⟩, ⟨none, (.store 1 (.tmp 16) (.const (.int .i64 0))), none⟩] false []) (.seq (.seq (.region [⟨(some 68), (.mov (.tmp 1)), none⟩, ⟨(some 69), (.call (.func 17) [(.tmp 68)]), none⟩, ⟨(some 70), (.mov (.tmp 2)), none⟩, ⟨(some 71), (.bslice 1 [(.sc (.int .u8 0))] 1 [(0, (.const (.int .u8 98)))]), none⟩, ⟨(some 72), (.stringish (.tmp 71)), none⟩, ⟨(some 73), (.call (.func 39) [(.tmp 69), (.tmp 70), (.tmp 72)]), none⟩] false []) (.block 0 (.rangeF (.tmp 73) [74] c28A0 c28B0))) (.seq (.region [⟨(some 77), (.faddr 0 (.tmp 4)), none⟩, ⟨(some 78), (.load false 1 (.tmp 77)), none⟩, ⟨(some 79), (.tostr (.tmp 78)), none⟩, ⟨(some 80), (.bin .eql 9 (.tmp 79) (.const (.string ⟨#[99]⟩))), none⟩, ⟨(some 81), (.mov (.tmp 80)), none⟩, ⟨(some 82), (.mov (.tmp 5)), (some ((some 81), true))⟩, ⟨(some 83), (.pick (.tmp 81) (.tmp 82) (.const (.bool false))), none⟩, ⟨(some 84), (.mov (.tmp 83)), none⟩, ⟨(some 85), (.mov (.tmp 6)), (some ((some 84), true))⟩, ⟨(some 86), (.bin .eql 34 (.tmp 85) (.const (.int .i64 0))), (some ((some 84), true))⟩, ⟨(some 87), (.pick (.tmp 84) (.tmp 86) (.const (.bool false))), none⟩, ⟨(some 88), (.mov (.tmp 87)), none⟩, ⟨(some 89), (.faddr 0 (.tmp 7)), (some ((some 88), true))⟩, ⟨(some 90), (.load false 1 (.tmp 89)), (some ((some 88), true))⟩, ⟨(some 91), (.tostr (.tmp 90)), (some ((some 88), true))⟩, ⟨(some 92), (.bin .eql 9 (.tmp 91) (.const (.string ⟨#[97]⟩))), (some ((some 88), true))⟩, ⟨(some 93), (.pick (.tmp 88) (.tmp 92) (.const (.bool false))), none⟩, ⟨(some 94), (.mov (.tmp 93)), none⟩, ⟨(some 95), (.mov (.tmp 8)), (some ((some 94), true))⟩, ⟨(some 96), (.pick (.tmp 94) (.tmp 95) (.const (.bool false))), none⟩, ⟨(some 97), (.mov (.tmp 96)), none⟩, ⟨(some 98), (.mov (.tmp 9)), (some ((some 97), true))⟩, ⟨(some 99), (.bin .eql 34 (.tmp 98) (.const (.int .i64 0))), (some ((some 97), true))⟩, ⟨(some 100), (.pick (.tmp 97) (.tmp 99) (.const (.bool false))), none⟩, ⟨(some 101), (.mov (.tmp 100)), none⟩, ⟨(some 102), (.mov (.tmp 11)), (some ((some 101), true))⟩, ⟨(some 103), (.un .not (.tmp 102)), (some ((some 101), true))⟩, ⟨(some 104), (.pick (.tmp 101) (.tmp 103) (.const (.bool false))), none⟩, ⟨(some 105), (.mov (.tmp 104)), none⟩, ⟨(some 106), (.mov (.tmp 12)), (some ((some 105), true))⟩, ⟨(some 107), (.bin .eql 34 (.tmp 106) (.const (.int .i64 0))), (some ((some 105), true))⟩, ⟨(some 108), (.pick (.tmp 105) (.tmp 107) (.const (.bool false))), none⟩, ⟨(some 109), (.mov (.tmp 108)), none⟩, ⟨(some 110), (.faddr 0 (.tmp 13)), (some ((some 109), true))⟩, ⟨(some 111), (.load false 1 (.tmp 110)), (some ((some 109), true))⟩, ⟨(some 112), (.tostr (.tmp 111)), (some ((some 109), true))⟩, ⟨(some 113), (.bin .eql 9 (.tmp 112) (.const (.string ⟨#[100]⟩))), (some ((some 109), true))⟩, ⟨(some 114), (.pick (.tmp 109) (.tmp 113) (.const (.bool false))), none⟩, ⟨(some 115), (.mov (.tmp 114)), none⟩, ⟨(some 116), (.mov (.tmp 14)), (some ((some 115), true))⟩, ⟨(some 117), (.pick (.tmp 115) (.tmp 116) (.const (.bool false))), none⟩, ⟨(some 118), (.mov (.tmp 117)), none⟩, ⟨(some 119), (.mov (.tmp 15)), (some ((some 118), true))⟩, ⟨(some 120), (.bin .eql 34 (.tmp 119) (.const (.int .i64 0))), (some ((some 118), true))⟩, ⟨(some 121), (.pick (.tmp 118) (.tmp 120) (.const (.bool false))), none⟩, ⟨(some 122), (.mov (.tmp 121)), none⟩, ⟨(some 123), (.load false 1 (.tmp 16)), (some ((some 122), true))⟩, ⟨(some 124), (.bin .eql 3 (.tmp 123) (.const (.int .i64 2))), (some ((some 122), true))⟩, ⟨(some 125), (.pick (.tmp 122) (.tmp 124) (.const (.bool false))), none⟩, ⟨(some 0), (.mov (.tmp 125)), none⟩] false []) .ret)))))))))))
def r28 : List ARes := [(.tmp 0)]
def c29L0 : ACode := (.seq (.region [⟨(some 22), (.bin .lss 3 (.tmp 21) (.tmp 20)), none⟩] false []) (.seq (.cond (.tmp 22) .skip (.exit 0)) (.seq (.block 1 (.seq (.region [⟨(some 23), (.iaddr none 4 (.tmp 19) (.tmp 21)), none⟩, ⟨(some 24), (.load true 4 (.tmp 23)), none⟩, ⟨(some 10), (.alloc [(.sc (.slice none 0 0)), (.sc (.slice none 0 0)), (.sc (.int .i64 0)), (.sc (.int .i64 0))]), none⟩, ⟨none, (.store 4 (.tmp 10) (.tmp 24)), none⟩] false []) (.region [⟨(some 25), (.mov (.tmp 8)), none⟩, ⟨(some 26), (.load true 4 (.tmp 10)), none⟩, ⟨(some 27), (.bslice 4 [(.sc (.slice none 0 0)), (.sc (.slice none 0 0)), (.sc (.int .i64 0)), (.sc (.int .i64 0))] 1 [(0, (.tmp 26))]), none⟩, ⟨(some 28), (.app 4 64 (.tmp 25) (.tmp 27)), none⟩, ⟨(some 8), (.mov (.tmp 28)), none⟩] false []))) (.region [⟨(some 29), (.bin .add 3 (.tmp 21) (.const (.int .i64 1))), none⟩, ⟨(some 21), (.mov (.tmp 29)), none⟩] false []))))
def c29R1 : ACode := (.seq (.region [⟨(some 30), (.mov (.tmp 8)), none⟩, ⟨(some 31), (.mov (.tmp 7)), none⟩, ⟨(some 32), (.bin .eql 34 (.tmp 31) (.const (.int .i64 0))), none⟩, ⟨(some 4), (.mov (.tmp 30)), none⟩, ⟨(some 5), (.mov (.tmp 32)), none⟩] false []) .ret)
def c29 : ACode := (.seq (.region [⟨(some 4), (.mov (.const (.slice none 0 0))), none⟩, ⟨(some 5), (.mov (.const (.bool false))), none⟩] false []) (.seq (.region [⟨(some 12), (.mov (.tmp 0)), none⟩, ⟨(some 13), (.call (.func 17) [(.tmp 12)]), none⟩, ⟨(some 14), (.mov (.tmp 1)), none⟩, ⟨(some 15), (.call (.func 21) [(.tmp 13), (.tmp 14)]), none⟩, ⟨(some 11), (.mov (.tmp 15)), none⟩, ⟨(some 16), (.ext (.tmp 11) 0), none⟩, ⟨(some 17), (.ext (.tmp 11) 1), none⟩, ⟨(some 6), (.alloc [(.sc (.slice none 0 0)), (.sc (.slice none 0 0)), (.sc (.int .i64 0))]), none⟩, ⟨none, (.store 3 (.tmp 6) (.tmp 16)), none⟩, ⟨(some 7), (.mov (.tmp 17)), none⟩] false []) (.seq (.region [⟨(some 8), (.mov (.const (.slice none 0 0))), none⟩] false []) (.seq (.seq (.region [⟨(some 18), (.faddr 0 (.tmp 6)), none⟩, ⟨(some 19), (.load false 1 (.tmp 18)), none⟩, ⟨(some 20), (.len 0 (.tmp 19)), none⟩, ⟨(some 21), (.mov (.const (.int .i64 0))), none⟩] false []) (.block 0 (.loop c29L0))) c29R1))))
def r29 : List ARes := [(.tmp 4), (.tmp 5)]
def c30 : ACode := (.seq (.region [⟨(some 4), (.mov (.const (.pointer none))), none⟩] false []) (.seq (.seq (.region [⟨(some 5), (.mov (.tmp 0)), none⟩, ⟨(some 6), (.isnil false 3 (.tmp 5)), none⟩] false []) (.cond (.tmp 6) (.seq (.region [⟨(some 4), (.mov (.const (.pointer none))), none⟩] false []) .ret) .skip)) (.seq (.region [⟨(some 7), (.mov (.tmp 0)), none⟩, ⟨(some 8), (.mov (.tmp 1)), none⟩, ⟨(some 9), (.build [(.sc .nilFunc), (.sc (.int .i64 0)), (.sc (.slice none 0 0))] [(0, (1, (.tmp 7))), (1, (1, (.tmp 8)))]), none⟩, ⟨(some 10), (.box 3 (.tmp 9)), none⟩, ⟨(some 4), (.mov (.tmp 10)), none⟩] false []) .ret)))
def r30 : List ARes := [(.tmp 4)]
def c32 : ACode := (.seq (.region [⟨(some 3), (.box 2 (.tmp 1)), none⟩, ⟨(some 4), (.alloc [(.sc (.slice none 0 0)), (.sc (.slice none 0 0)), (.sc (.int .i64 0)), (.sc (.int .i64 0))]), none⟩, ⟨(some 5), (.mov (.const (.bool false))), none⟩, ⟨(some 6), (.mov (.const (.int .i64 0))), none⟩] false []) (.seq (.seq (.region [⟨(some 7), (.faddr 0 (.tmp 3)), none⟩, ⟨(some 8), (.load false 1 (.tmp 7)), none⟩] false []) (.block 0 (.seq (.region [⟨(some 10), (.bin .eql 3 (.tmp 8) (.const (.int .i64 0))), none⟩, ⟨(some 9), (.mov (.tmp 10)), none⟩] false []) (.cond (.tmp 9) (.seq (.region [⟨(some 11), (.mov (.tmp 0)), none⟩, ⟨(some 12), (.faddr 1 (.tmp 3)), none⟩, ⟨(some 13), (.load false 1 (.tmp 12)), none⟩, ⟨(some 14), (.call (.func 37) [(.tmp 11), (.tmp 13)]), none⟩, ⟨(some 15), (.ext (.tmp 14) 0), none⟩, ⟨(some 16), (.ext (.tmp 14) 1), none⟩, ⟨(some 17), (.ext (.tmp 14) 2), none⟩, ⟨none, (.store 4 (.tmp 4) (.tmp 15)), none⟩, ⟨(some 5), (.mov (.tmp 16)), none⟩, ⟨(some 6), (.mov (.tmp 17)), none⟩] false []) .ret) (.seq (.region [⟨(some 19), (.bin .eql 3 (.tmp 8) (.const (.int .i64 1))), none⟩, ⟨(some 18), (.mov (.tmp 19)), none⟩] false []) (.cond (.tmp 18) (.seq (.region [⟨(some 20), (.mov (.tmp 0)), none⟩, ⟨(some 21), (.call (.func 33) [(.tmp 20)]), none⟩, ⟨(some 22), (.ext (.tmp 21) 0), none⟩, ⟨(some 23), (.ext (.tmp 21) 1), none⟩, ⟨(some 24), (.ext (.tmp 21) 2), none⟩, ⟨none, (.store 4 (.tmp 4) (.tmp 22)), none⟩, ⟨(some 5), (.mov (.tmp 23)), none⟩, ⟨(some 6), (.mov (.tmp 24)), none⟩] false []) .ret) (.seq (.region [⟨(some 26), (.bin .eql 3 (.tmp 8) (.const (.int .i64 2))), none⟩, ⟨(some 25), (.mov (.tmp 26)), none⟩] false []) (.cond (.tmp 25) (.seq (.region [⟨(some 27), (.mov (.tmp 0)), none⟩, ⟨(some 28), (.call (.func 35) [(.tmp 27)]), none⟩, ⟨(some 29), (.ext (.tmp 28) 0), none⟩, ⟨(some 30), (.ext (.tmp 28) 1), none⟩, ⟨(some 31), (.ext (.tmp 28) 2), none⟩, ⟨none, (.store 4 (.tmp 4) (.tmp 29)), none⟩, ⟨(some 5), (.mov (.tmp 30)), none⟩, ⟨(some 6), (.mov (.tmp 31)), none⟩] false []) .ret) (.seq (.region [⟨(some 33), (.bin .eql 3 (.tmp 8) (.const (.int .i64 3))), none⟩, ⟨(some 32), (.mov (.tmp 33)), none⟩] false []) (.cond (.tmp 32) (.seq (.region [⟨(some 34), (.mov (.tmp 0)), none⟩, ⟨(some 35), (.call (.func 34) [(.tmp 34)]), none⟩, ⟨(some 36), (.ext (.tmp 35) 0), none⟩, ⟨(some 37), (.ext (.tmp 35) 1), none⟩, ⟨(some 38), (.ext (.tmp 35) 2), none⟩, ⟨none, (.store 4 (.tmp 4) (.tmp 36)), none⟩, ⟨(some 5), (.mov (.tmp 37)), none⟩, ⟨(some 6), (.mov (.tmp 38)), none⟩] false []) .ret) .skip)))))))))) (.seq (.region [⟨(some 39), (.mov (.tmp 0)), none⟩, ⟨(some 40), (.call (.func 36) [(.tmp 39)]), none⟩, ⟨(some 41), (.ext (.tmp 40) 0), none⟩, ⟨(some 42), (.ext (.tmp 40) 1), none⟩, ⟨(some 43), (.ext (.tmp 40) 2), none⟩, ⟨none, (.store 4 (.tmp 4) (.tmp 41)), none⟩, ⟨(some 5), (.mov (.tmp 42)), none⟩, ⟨(some 6), (.mov (.tmp 43)), none⟩] false []) .ret)))
def r32 : List ARes := [(.cell 4 true 4), (.tmp 5), (.tmp 6)]
def c33 : ACode := (.seq (.region [⟨(some 2), (.alloc [(.sc (.slice none 0 0)), (.sc (.slice none 0 0)), (.sc (.int .i64 0)), (.sc (.int .i64 0))]), none⟩, ⟨(some 3), (.mov (.const (.bool false))), none⟩, ⟨(some 4), (.mov (.const (.int .i64 0))), none⟩] false []) (.seq (.region [⟨(some 5), (.mov (.tmp 0)), none⟩, ⟨(some 6), (.mov (.tmp 0)), none⟩, ⟨(some 7), (.nilck (.tmp 6)), none⟩, ⟨(some 8), (.faddr 0 (.tmp 7)), none⟩, ⟨(some 9), (.load false 1 (.tmp 8)), none⟩, ⟨(some 10), (.mov (.tmp 0)), none⟩, ⟨(some 11), (.nilck (.tmp 10)), none⟩, ⟨(some 12), (.faddr 1 (.tmp 11)), none⟩, ⟨(some 13), (.load false 1 (.tmp 12)), none⟩, ⟨(some 14), (.call (.func 19) [(.tmp 9), (.tmp 13), (.const (.bool false))]), none⟩, ⟨(some 15), (.ext (.tmp 14) 0), none⟩, ⟨(some 16), (.ext (.tmp 14) 1), none⟩, ⟨(some 17), (.call (.func 58) [(.tmp 5), (.tmp 15), (.tmp 16)]), none⟩, ⟨(some 18), (.ext (.tmp 17) 0), none⟩, ⟨(some 19), (.ext (.tmp 17) 1), none⟩, ⟨(some 20), (.ext (.tmp 17) 2), none⟩, ⟨none, (.store 4 (.tmp 2) (.tmp 18)), none⟩, ⟨(some 3), (.mov (.tmp 19)), none⟩, ⟨(some 4), (.mov (.tmp 20)), none⟩] true []) .ret))
def r33 : List ARes := [(.cell 2 true 4), (.tmp 3), (.tmp 4)]
def c34 : ACode := (.seq (.region [⟨(some 2), (.alloc [(.sc (.slice none 0 0)), (.sc (.slice none 0 0)), (.sc (.int .i64 0)), (.sc (.int .i64 0))]), none⟩, ⟨(some 3), (.mov (.const (.bool false))), none⟩, ⟨(some 4), (.mov (.const (.int .i64 0))), none⟩] false []) (.seq (.seq (.region [⟨(some 5), (.mov (.tmp 0)), none⟩, ⟨(some 6), (.nilck (.tmp 5)), none⟩, ⟨(some 7), (.faddr 2 (.tmp 6)), none⟩, ⟨(some 8), (.load false 1 (.tmp 7)), none⟩, ⟨(some 9), (.len 0 (.tmp 8)), none⟩, ⟨(some 10), (.bin .eql 3 (.tmp 9) (.const (.int .i64 0))), none⟩] false []) (.cond (.tmp 10) (.seq (.region [⟨(some 11), (.mov (.tmp 0)), none⟩, ⟨(some 12), (.call (.func 33) [(.tmp 11)]), none⟩, ⟨(some 13), (.ext (.tmp 12) 0), none⟩, ⟨(some 14), (.ext (.tmp 12) 1), none⟩, ⟨(some 15), (.ext (.tmp 12) 2), none⟩, ⟨none, (.store 4 (.tmp 2) (.tmp 13)), none⟩, ⟨(some 3), (.mov (.tmp 14)), none⟩, ⟨(some 4), (.mov (.tmp 15)), none⟩] false []) .ret) .skip)) (.seq (.region [⟨(some 16), (.mov (.tmp 0)), none⟩, ⟨(some 17), (.call (.func 59) [(.tmp 16), (.const (.int .i64 1))]), none⟩, ⟨(some 18), (.ext (.tmp 17) 0), none⟩, ⟨(some 19), (.ext (.tmp 17) 1), none⟩, ⟨(some 20), (.ext (.tmp 17) 2), none⟩, ⟨none, (.store 4 (.tmp 2) (.tmp 18)), none⟩, ⟨(some 3), (.mov (.tmp 19)), none⟩, ⟨(some 4), (.mov (.tmp 20)), none⟩] false []) .ret)))
def r34 : List ARes := [(.cell 2 true 4), (.tmp 3), (.tmp 4)]
def c35 : ACode := (.seq (.region [⟨(some 2), (.alloc [(.sc (.slice none 0 0)), (.sc (.slice none 0 0)), (.sc (.int .i64 0)), (.sc (.int .i64 0))]), none⟩, ⟨(some 3), (.mov (.const (.bool false))), none⟩, ⟨(some 4), (.mov (.const (.int .i64 0))), none⟩] false []) (.seq (.region [⟨(some 5), (.mov (.tmp 0)), none⟩, ⟨(some 6), (.mov (.tmp 0)), none⟩, ⟨(some 7), (.nilck (.tmp 6)), none⟩, ⟨(some 8), (.faddr 0 (.tmp 7)), none⟩, ⟨(some 9), (.load false 1 (.tmp 8)), none⟩, ⟨(some 10), (.mov (.tmp 0)), none⟩, ⟨(some 11), (.nilck (.tmp 10)), none⟩, ⟨(some 12), (.faddr 1 (.tmp 11)), none⟩, ⟨(some 13), (.load false 1 (.tmp 12)), none⟩, ⟨(some 14), (.call (.func 19) [(.tmp 9), (.tmp 13), (.const (.bool true))]), none⟩, ⟨(some 15), (.ext (.tmp 14) 0), none⟩, ⟨(some 16), (.ext (.tmp 14) 1), none⟩, ⟨(some 17), (.call (.func 58) [(.tmp 5), (.tmp 15), (.tmp 16)]), none⟩, ⟨(some 18), (.ext (.tmp 17) 0), none⟩, ⟨(some 19), (.ext (.tmp 17) 1), none⟩, ⟨(some 20), (.ext (.tmp 17) 2), none⟩, ⟨none, (.store 4 (.tmp 2) (.tmp 18)), none⟩, ⟨(some 3), (.mov (.tmp 19)), none⟩, ⟨(some 4), (.mov (.tmp 20)), none⟩] true []) .ret))
def r35 : List ARes := [(.cell 2 true 4), (.tmp 3), (.tmp 4)]
def c36 : ACode := (.seq (.region [⟨(some 2), (.alloc [(.sc (.slice none 0 0)), (.sc (.slice none 0 0)), (.sc (.int .i64 0)), (.sc (.int .i64 0))]), none⟩, ⟨(some 3), (.mov (.const (.bool false))), none⟩, ⟨(some 4), (.mov (.const (.int .i64 0))), none⟩] false []) (.seq (.seq (.region [⟨(some 5), (.mov (.tmp 0)), none⟩, ⟨(some 6), (.nilck (.tmp 5)), none⟩, ⟨(some 7), (.faddr 2 (.tmp 6)), none⟩, ⟨(some 8), (.load false 1 (.tmp 7)), none⟩, ⟨(some 9), (.len 0 (.tmp 8)), none⟩, ⟨(some 10), (.bin .eql 3 (.tmp 9) (.const (.int .i64 0))), none⟩] false []) (.cond (.tmp 10) (.seq (.region [⟨(some 11), (.mov (.tmp 0)), none⟩, ⟨(some 12), (.call (.func 35) [(.tmp 11)]), none⟩, ⟨(some 13), (.ext (.tmp 12) 0), none⟩, ⟨(some 14), (.ext (.tmp 12) 1), none⟩, ⟨(some 15), (.ext (.tmp 12) 2), none⟩, ⟨none, (.store 4 (.tmp 2) (.tmp 13)), none⟩, ⟨(some 3), (.mov (.tmp 14)), none⟩, ⟨(some 4), (.mov (.tmp 15)), none⟩] false []) .ret) .skip)) (.seq (.region [⟨(some 16), (.mov (.tmp 0)), none⟩, ⟨(some 17), (.call (.func 59) [(.tmp 16), (.const (.int .i64 (-1)))]), none⟩, ⟨(some 18), (.ext (.tmp 17) 0), none⟩, ⟨(some 19), (.ext (.tmp 17) 1), none⟩, ⟨(some 20), (.ext (.tmp 17) 2), none⟩, ⟨none, (.store 4 (.tmp 2) (.tmp 18)), none⟩, ⟨(some 3), (.mov (.tmp 19)), none⟩, ⟨(some 4), (.mov (.tmp 20)), none⟩] false []) .ret)))
def r36 : List ARes := [(.cell 2 true 4), (.tmp 3), (.tmp 4)]
def c37 : ACode := (.seq (.region [⟨(some 4), (.alloc [(.sc (.slice none 0 0)), (.sc (.slice none 0 0)), (.sc (.int .i64 0)), (.sc (.int .i64 0))]), none⟩, ⟨(some 5), (.mov (.const (.bool false))), none⟩, ⟨(some 6), (.mov (.const (.int .i64 0))), none⟩] false []) (.seq (.region [⟨(some 11), (.mov (.tmp 0)), none⟩, ⟨(some 12), (.nilck (.tmp 11)), none⟩, ⟨(some 13), (.faddr 0 (.tmp 12)), none⟩, ⟨(some 14), (.load false 1 (.tmp 13)), none⟩, ⟨(some 15), (.mov (.tmp 0)), none⟩, ⟨(some 16), (.nilck (.tmp 15)), none⟩, ⟨(some 17), (.faddr 1 (.tmp 16)), none⟩, ⟨(some 18), (.load false 1 (.tmp 17)), none⟩, ⟨(some 19), (.mov (.tmp 1)), none⟩, ⟨(some 20), (.call (.func 16) [(.tmp 14), (.tmp 18), (.tmp 19)]), none⟩, ⟨(some 10), (.mov (.tmp 20)), none⟩, ⟨(some 21), (.ext (.tmp 10) 0), none⟩, ⟨(some 22), (.ext (.tmp 10) 1), none⟩, ⟨(some 7), (.mov (.tmp 21)), none⟩, ⟨(some 8), (.mov (.tmp 22)), none⟩] true []) (.seq (.seq (.region [⟨(some 23), (.mov (.tmp 8)), none⟩, ⟨(some 24), (.bin .neq 34 (.tmp 23) (.const (.int .i64 0))), none⟩] false []) (.cond (.tmp 24) (.seq (.region [⟨(some 25), (.mov (.tmp 0)), none⟩, ⟨(some 26), (.mov (.tmp 8)), none⟩, ⟨(some 27), (.call (.func 60) [(.tmp 25), (.tmp 26)]), none⟩, ⟨(some 28), (.ext (.tmp 27) 0), none⟩, ⟨(some 29), (.ext (.tmp 27) 1), none⟩, ⟨(some 30), (.ext (.tmp 27) 2), none⟩, ⟨none, (.store 4 (.tmp 4) (.tmp 28)), none⟩, ⟨(some 5), (.mov (.tmp 29)), none⟩, ⟨(some 6), (.mov (.tmp 30)), none⟩] false []) .ret) .skip)) (.seq (.region [⟨(some 31), (.mov (.tmp 0)), none⟩, ⟨(some 32), (.mov (.tmp 7)), none⟩, ⟨(some 33), (.call (.func 61) [(.tmp 32)]), none⟩, ⟨(some 34), (.nilck (.tmp 31)), none⟩, ⟨(some 35), (.faddr 2 (.tmp 34)), none⟩, ⟨none, (.store 1 (.tmp 35) (.tmp 33)), none⟩] false []) (.seq (.seq (.region [⟨(some 36), (.mov (.tmp 7)), none⟩, ⟨(some 37), (.mov (.tmp 7)), none⟩, ⟨(some 38), (.len 0 (.tmp 37)), none⟩, ⟨(some 39), (.bin .sub 3 (.tmp 38) (.const (.int .i64 1))), none⟩, ⟨(some 40), (.iaddr none 5 (.tmp 36) (.tmp 39)), none⟩, ⟨(some 41), (.load true 5 (.tmp 40)), none⟩, ⟨(some 9), (.alloc [(.sc (.int .i64 0)), (.sc (.bool false)), (.sc (.slice none 0 0)), (.sc (.slice none 0 0)), (.sc (.int .i64 0))]), none⟩, ⟨none, (.store 5 (.tmp 9) (.tmp 41)), none⟩] false []) (.seq (.region [⟨(some 42), (.faddr 4 (.tmp 9)), none⟩, ⟨(some 43), (.load false 1 (.tmp 42)), none⟩, ⟨(some 44), (.faddr 1 (.tmp 9)), none⟩, ⟨(some 45), (.faddr 1 (.tmp 44)), none⟩, ⟨(some 46), (.load false 1 (.tmp 45)), none⟩, ⟨(some 47), (.len 0 (.tmp 46)), none⟩, ⟨(some 48), (.bin .geq 3 (.tmp 43) (.tmp 47)), none⟩] false []) (.cond (.tmp 48) (.seq (.region [⟨(some 49), (.mov (.tmp 0)), none⟩, ⟨(some 50), (.call (.func 62) [(.tmp 49), (.const (.int .i64 1))]), none⟩, ⟨(some 51), (.ext (.tmp 50) 0), none⟩, ⟨(some 52), (.ext (.tmp 50) 1), none⟩, ⟨(some 53), (.ext (.tmp 50) 2), none⟩, ⟨none, (.store 4 (.tmp 4) (.tmp 51)), none⟩, ⟨(some 5), (.mov (.tmp 52)), none⟩, ⟨(some 6), (.mov (.tmp 53)), none⟩] false []) .ret) .skip))) (.seq (.region [⟨(some 54), (.mov (.tmp 0)), none⟩, ⟨(some 55), (.call (.func 63) [(.tmp 54)]), none⟩, ⟨(some 56), (.ext (.tmp 55) 0), none⟩, ⟨(some 57), (.ext (.tmp 55) 1), none⟩, ⟨(some 58), (.ext (.tmp 55) 2), none⟩, ⟨none, (.store 4 (.tmp 4) (.tmp 56)), none⟩, ⟨(some 5), (.mov (.tmp 57)), none⟩, ⟨(some 6), (.mov (.tmp 58)), none⟩] false []) .ret))))))
def r37 : List ARes := [(.cell 4 true 4), (.tmp 5), (.tmp 6)]
def c38 : ACode := (.seq (.region [⟨(some 4), (.alloc [(.sc (.bool false)), (.sc (.slice none 0 0)), (.sc (.slice none 0 0))]), none⟩, ⟨(some 5), (.mov (.const (.int .i64 0))), none⟩] false []) (.seq (.seq (.region [⟨(some 6), (.mov (.tmp 0)), none⟩, ⟨(some 7), (.iaddr (some 2) 1 (.tmp 1) (.const (.int .i64 1))), none⟩, ⟨(some 8), (.load false 1 (.tmp 7)), none⟩, ⟨(some 9), (.bin .eql 3 (.tmp 6) (.tmp 8)), none⟩] false []) (.cond (.tmp 9) (.seq (.region [⟨(some 10), (.build [(.sc (.bool false)), (.sc (.slice none 0 0)), (.sc (.slice none 0 0))] []), none⟩, ⟨none, (.store 3 (.tmp 4) (.tmp 10)), none⟩, ⟨(some 5), (.mov (.const (.int .i64 10))), none⟩] false []) .ret) .skip)) (.seq (.region [⟨(some 11), (.load false 1 (.tmp 2)), none⟩, ⟨(some 12), (.call (.func 17) [(.tmp 11)]), none⟩, ⟨(some 13), (.mov (.tmp 0)), none⟩, ⟨(some 14), (.call (.tmp 12) [(.tmp 13)]), none⟩, ⟨(some 15), (.ext (.tmp 14) 0), none⟩, ⟨(some 16), (.ext (.tmp 14) 1), none⟩, ⟨none, (.store 3 (.tmp 4) (.tmp 15)), none⟩, ⟨(some 5), (.mov (.tmp 16)), none⟩] false []) .ret)))
def r38 : List ARes := [(.cell 4 true 3), (.tmp 5)]
def c39 : ACode := (.seq (.region [⟨(some 3), (.box 1 (.tmp 0)), none⟩, ⟨(some 4), (.box 1 (.tmp 1)), none⟩, ⟨(some 5), (.box 1 (.tmp 2)), none⟩, ⟨(some 6), (.mov (.const .nilFunc)), none⟩] false []) (.seq (.region [⟨(some 7), (.mkfn (.func 64) [] [(.tmp 3), (.tmp 4), (.tmp 5)]), none⟩, ⟨(some 6), (.mov (.tmp 7)), none⟩] false []) .ret))
def r39 : List ARes := [(.tmp 6)]
def c40 : ACode := (.seq (.region [⟨(some 4), (.mov (.const (.int .i64 0))), none⟩] false []) (.seq (.region [⟨(some 5), (.mov (.tmp 0)), none⟩, ⟨(some 6), (.mov (.tmp 1)), none⟩, ⟨(some 7), (.call (.func 65) [(.tmp 5), (.tmp 6)]), none⟩, ⟨(some 4), (.mov (.tmp 7)), none⟩] false []) .ret))
def r40 : List ARes := [(.tmp 4)]
def c41L0 : ACode := (.seq (.seq (.region [⟨(some 16), (.mov (.tmp 8)), none⟩, ⟨(some 17), (.len 0 (.tmp 16)), none⟩, ⟨(some 18), (.bin .lss 3 (.tmp 17) (.const (.int .i64 12))), none⟩] false []) (.cond (.tmp 18) .skip (.exit 0))) (.block 1 (.seq (.region [⟨(some 20), (.mov (.tmp 0)), none⟩, ⟨(some 21), (.mov (.tmp 9)), none⟩, ⟨(some 22), (.call (.tmp 20) [(.tmp 21)]), none⟩, ⟨(some 19), (.mov (.tmp 22)), none⟩, ⟨(some 23), (.ext (.tmp 19) 0), none⟩, ⟨(some 24), (.ext (.tmp 19) 1), none⟩, ⟨(some 10), (.alloc [(.sc (.bool false)), (.sc (.slice none 0 0)), (.sc (.slice none 0 0))]), none⟩, ⟨none, (.store 3 (.tmp 10) (.tmp 23)), none⟩, ⟨(some 11), (.mov (.tmp 24)), none⟩] false []) (.seq (.block 2 (.seq (.region [⟨(some 26), (.mov (.tmp 11)), none⟩, ⟨(some 27), (.bin .neq 34 (.tmp 26) (.const (.int .i64 0))), none⟩, ⟨(some 25), (.mov (.tmp 27)), none⟩] false []) (.cond (.tmp 25) (.seq (.region [⟨(some 28), (.mov (.tmp 11)), none⟩, ⟨(some 6), (.mov (.const (.slice none 0 0))), none⟩, ⟨(some 7), (.mov (.tmp 28)), none⟩] false []) .ret) (.seq (.region [⟨(some 30), (.faddr 0 (.tmp 10)), none⟩, ⟨(some 31), (.load false 1 (.tmp 30)), none⟩, ⟨(some 32), (.un .not (.tmp 31)), none⟩, ⟨(some 33), (.mov (.tmp 32)), none⟩, ⟨(some 34), (.faddr 2 (.tmp 10)), (some ((some 33), true))⟩, ⟨(some 35), (.load false 1 (.tmp 34)), (some ((some 33), true))⟩, ⟨(some 36), (.len 0 (.tmp 35)), (some ((some 33), true))⟩, ⟨(some 37), (.bin .eql 3 (.tmp 36) (.const (.int .i64 0))), (some ((some 33), true))⟩, ⟨(some 38), (.pick (.tmp 33) (.tmp 37) (.const (.bool false))), none⟩, ⟨(some 29), (.mov (.tmp 38)), none⟩] false []) (.cond (.tmp 29) (.seq (.region [⟨(some 6), (.mov (.const (.slice none 0 0))), none⟩, ⟨(some 7), (.mov (.const (.int .i64 131))), none⟩] false []) .ret) .skip))))) (.seq (.region [⟨(some 39), (.mov (.tmp 9)), none⟩, ⟨(some 40), (.load true 3 (.tmp 10)), none⟩, ⟨(some 41), (.mov (.tmp 2)), none⟩, ⟨(some 42), (.load true 3 (.tmp 10)), none⟩, ⟨(some 43), (.call (.tmp 41) [(.tmp 42)]), none⟩, ⟨(some 44), (.build [(.sc (.int .i64 0)), (.sc (.bool false)), (.sc (.slice none 0 0)), (.sc (.slice none 0 0)), (.sc (.int .i64 0))] [(0, (1, (.tmp 39))), (1, (3, (.tmp 40))), (4, (1, (.tmp 43)))]), none⟩, ⟨(some 12), (.alloc [(.sc (.int .i64 0)), (.sc (.bool false)), (.sc (.slice none 0 0)), (.sc (.slice none 0 0)), (.sc (.int .i64 0))]), none⟩, ⟨none, (.store 5 (.tmp 12) (.tmp 44)), none⟩] true [(1, 4), (1, 6), (3, 6), (4, 6)]) (.seq (.region [⟨(some 45), (.mov (.tmp 8)), none⟩, ⟨(some 46), (.load true 5 (.tmp 12)), none⟩, ⟨(some 47), (.bslice 5 [(.sc (.int .i64 0)), (.sc (.bool false)), (.sc (.slice none 0 0)), (.sc (.slice none 0 0)), (.sc (.int .i64 0))] 1 [(0, (.tmp 46))]), none⟩, ⟨(some 48), (.app 5 72 (.tmp 45) (.tmp 47)), none⟩, ⟨(some 8), (.mov (.tmp 48)), none⟩] false []) (.seq (.seq (.region [⟨(some 49), (.faddr 0 (.tmp 10)), none⟩, ⟨(some 50), (.load false 1 (.tmp 49)), none⟩] false []) (.cond (.tmp 50) (.seq (.region [⟨(some 51), (.mov (.tmp 8)), none⟩, ⟨(some 6), (.mov (.tmp 51)), none⟩, ⟨(some 7), (.mov (.const (.int .i64 0))), none⟩] false []) .ret) .skip)) (.region [⟨(some 52), (.faddr 2 (.tmp 10)), none⟩, ⟨(some 53), (.load false 1 (.tmp 52)), none⟩, ⟨(some 54), (.faddr 4 (.tmp 12)), none⟩, ⟨(some 55), (.load false 1 (.tmp 54)), none⟩, ⟨(some 56), (.iaddr none 2 (.tmp 53) (.tmp 55)), none⟩, ⟨(some 57), (.faddr 1 (.tmp 56)), none⟩, ⟨(some 58), (.load false 1 (.tmp 57)), none⟩, ⟨(some 9), (.mov (.tmp 58)), none⟩] false []))))))))
def c41R1 : ACode := (.seq (.region [⟨(some 6), (.mov (.const (.slice none 0 0))), none⟩, ⟨(some 7), (.mov (.const (.int .i64 130))), none⟩] false []) .ret)
def c41 : ACode := (.seq (.region [⟨(some 6), (.mov (.const (.slice none 0 0))), none⟩, ⟨(some 7), (.mov (.const (.int .i64 0))), none⟩] false []) (.seq (.seq (.region [⟨(some 13), (.mov (.tmp 0)), none⟩, ⟨(some 14), (.isnil false 3 (.tmp 13)), none⟩] false []) (.cond (.tmp 14) (.seq (.region [⟨(some 6), (.mov (.const (.slice none 0 0))), none⟩, ⟨(some 7), (.mov (.const (.int .i64 1))), none⟩] false []) .ret) .skip)) (.seq (.region [⟨(some 8), (.mov (.const (.slice none 0 0))), none⟩] false []) (.seq (.seq (.region [⟨(some 15), (.mov (.tmp 1)), none⟩, ⟨(some 9), (.mov (.tmp 15)), none⟩] false []) (.block 0 (.loop c41L0))) c41R1))))
def r41 : List ARes := [(.tmp 6), (.tmp 7)]
def c42 : ACode := (.seq (.region [⟨(some 2), (.box 3 (.tmp 0)), none⟩, ⟨(some 3), (.mov (.const (.int .i64 0))), none⟩] false []) (.seq (.seq (.region [⟨(some 6), (.faddr 0 (.tmp 2)), none⟩, ⟨(some 7), (.load false 1 (.tmp 6)), none⟩] false []) (.cond (.tmp 7) (.seq (.region [⟨(some 9), (.load true 3 (.tmp 2)), none⟩, ⟨(some 10), (.load false 1 (.tmp 1)), none⟩, ⟨(some 11), (.call (.func 43) [(.tmp 9), (.tmp 10)]), none⟩, ⟨(some 8), (.mov (.tmp 11)), none⟩, ⟨(some 12), (.ext (.tmp 8) 0), none⟩, ⟨(some 13), (.ext (.tmp 8) 1), none⟩, ⟨(some 4), (.mov (.tmp 12)), none⟩, ⟨(some 5), (.mov (.tmp 13)), none⟩] false []) (.seq (.region [⟨(some 14), (.mov (.tmp 4)), none⟩, ⟨(some 3), (.mov (.tmp 14)), none⟩] false []) .ret)) .skip)) (.seq (.region [⟨(some 15), (.load true 3 (.tmp 2)), none⟩, ⟨(some 16), (.load false 1 (.tmp 1)), none⟩, ⟨(some 17), (.call (.func 44) [(.tmp 15), (.tmp 16)]), none⟩, ⟨(some 3), (.mov (.tmp 17)), none⟩] false []) .ret)))
def r42 : List ARes := [(.tmp 3)]
def c43 : ACode := (.seq (.region [⟨(some 2), (.box 3 (.tmp 0)), none⟩, ⟨(some 4), (.mov (.const (.int .i64 0))), none⟩, ⟨(some 5), (.mov (.const (.bool false))), none⟩] false []) (.seq (.region [⟨(some 6), (.faddr 1 (.tmp 2)), none⟩, ⟨(some 7), (.load false 1 (.tmp 6)), none⟩, ⟨(some 8), (.mov (.tmp 1)), none⟩, ⟨(some 9), (.call (.func 66) [(.tmp 7), (.tmp 8), (.func 67)]), none⟩, ⟨(some 10), (.ext (.tmp 9) 0), none⟩, ⟨(some 11), (.ext (.tmp 9) 1), none⟩, ⟨(some 4), (.mov (.tmp 10)), none⟩, ⟨(some 5), (.mov (.tmp 11)), none⟩] false []) .ret))
def r43 : List ARes := [(.tmp 4), (.tmp 5)]
def c44L0 : ACode := (.seq (.seq (.region [⟨(some 10), (.mov (.tmp 5)), none⟩, ⟨(some 11), (.bin .gtr 3 (.tmp 10) (.const (.int .i64 0))), none⟩, ⟨(some 12), (.mov (.tmp 11)), none⟩, ⟨(some 13), (.faddr 2 (.tmp 2)), (some ((some 12), true))⟩, ⟨(some 14), (.load false 1 (.tmp 13)), (some ((some 12), true))⟩, ⟨(some 15), (.mov (.tmp 5)), (some ((some 12), true))⟩, ⟨(some 16), (.iaddr none 2 (.tmp 14) (.tmp 15)), (some ((some 12), true))⟩, ⟨(some 17), (.faddr 0 (.tmp 16)), (some ((some 12), true))⟩, ⟨(some 18), (.load false 1 (.tmp 17)), (some ((some 12), true))⟩, ⟨(some 19), (.mov (.tmp 1)), (some ((some 12), true))⟩, ⟨(some 20), (.call (.func 40) [(.tmp 18), (.tmp 19)]), (some ((some 12), true))⟩, ⟨(some 21), (.bin .gtr 3 (.tmp 20) (.const (.int .i64 0))), (some ((some 12), true))⟩, ⟨(some 22), (.pick (.tmp 12) (.tmp 21) (.const (.bool false))), none⟩] false []) (.cond (.tmp 22) .skip (.exit 0))) (.block 1 (.region [⟨(some 23), (.mov (.tmp 5)), none⟩, ⟨(some 24), (.bin .sub 3 (.tmp 23) (.const (.int .i64 1))), none⟩, ⟨(some 5), (.mov (.tmp 24)), none⟩] false [])))
def c44R1 : ACode := (.seq (.region [⟨(some 25), (.mov (.tmp 5)), none⟩, ⟨(some 26), (.mx2 (.tmp 25) (.const (.int .i64 0))), none⟩, ⟨(some 4), (.mov (.tmp 26)), none⟩] false []) .ret)
def c44 : ACode := (.seq (.region [⟨(some 2), (.box 3 (.tmp 0)), none⟩, ⟨(some 4), (.mov (.const (.int .i64 0))), none⟩] false []) (.seq (.region [⟨(some 6), (.faddr 2 (.tmp 2)), none⟩, ⟨(some 7), (.load false 1 (.tmp 6)), none⟩, ⟨(some 8), (.len 0 (.tmp 7)), none⟩, ⟨(some 9), (.bin .sub 3 (.tmp 8) (.const (.int .i64 1))), none⟩, ⟨(some 5), (.mov (.tmp 9)), none⟩] false []) (.seq (.block 0 (.loop c44L0)) c44R1)))
def r44 : List ARes := [(.tmp 4)]
def c45 : ACode := (.seq (.region [⟨(some 3), (.alloc [(.sc (.bool false)), (.sc (.slice none 0 0)), (.sc (.slice none 0 0))]), none⟩, ⟨(some 4), (.mov (.const (.int .i64 0))), none⟩] false []) (.seq (.region [⟨(some 8), (.load false 1 (.tmp 1)), none⟩, ⟨(some 9), (.mov (.tmp 0)), none⟩, ⟨(some 10), (.call (.func 46) [(.tmp 8), (.tmp 9)]), none⟩, ⟨(some 7), (.mov (.tmp 10)), none⟩, ⟨(some 11), (.ext (.tmp 7) 0), none⟩, ⟨(some 12), (.ext (.tmp 7) 1), none⟩, ⟨(some 5), (.alloc [(.sc (.bool false)), (.sc (.slice none 0 0)), (.sc (.slice none 0 0))]), none⟩, ⟨none, (.store 3 (.tmp 5) (.tmp 11)), none⟩, ⟨(some 6), (.mov (.tmp 12)), none⟩] false []) (.seq (.region [⟨(some 13), (.load true 3 (.tmp 5)), none⟩, ⟨(some 14), (.call (.func 47) [(.tmp 13)]), none⟩, ⟨(some 15), (.mov (.tmp 6)), none⟩, ⟨none, (.store 3 (.tmp 3) (.tmp 14)), none⟩, ⟨(some 4), (.mov (.tmp 15)), none⟩] false []) .ret)))
def r45 : List ARes := [(.cell 3 true 3), (.tmp 4)]
def c46L0 : ACode := (.seq (.seq (.region [⟨(some 7), (.mov (.tmp 6)), none⟩, ⟨(some 8), (.mov (.tmp 0)), none⟩, ⟨(some 9), (.len 0 (.tmp 8)), none⟩, ⟨(some 10), (.bin .lss 3 (.tmp 7) (.tmp 9)), none⟩] false []) (.cond (.tmp 10) .skip (.exit 0))) (.seq (.block 1 (.seq (.region [⟨(some 13), (.mov (.tmp 0)), none⟩, ⟨(some 14), (.mov (.tmp 6)), none⟩, ⟨(some 15), (.iaddr none 4 (.tmp 13) (.tmp 14)), none⟩, ⟨(some 16), (.faddr 0 (.tmp 15)), none⟩, ⟨(some 17), (.load false 1 (.tmp 16)), none⟩, ⟨(some 18), (.mov (.tmp 1)), none⟩, ⟨(some 19), (.bin .eql 3 (.tmp 17) (.tmp 18)), none⟩] false []) (.cond (.tmp 19) (.seq (.region [⟨(some 20), (.mov (.tmp 0)), none⟩, ⟨(some 21), (.mov (.tmp 6)), none⟩, ⟨(some 22), (.iaddr none 4 (.tmp 20) (.tmp 21)), none⟩, ⟨(some 23), (.faddr 1 (.tmp 22)), none⟩, ⟨(some 24), (.load true 3 (.tmp 23)), none⟩, ⟨none, (.store 3 (.tmp 4) (.tmp 24)), none⟩, ⟨(some 5), (.mov (.const (.int .i64 0))), none⟩] false []) .ret) .skip))) (.region [⟨(some 11), (.mov (.tmp 6)), none⟩, ⟨(some 12), (.bin .add 3 (.tmp 11) (.const (.int .i64 1))), none⟩, ⟨(some 6), (.mov (.tmp 12)), none⟩] false [])))
def c46R1 : ACode := (.seq (.region [⟨(some 25), (.build [(.sc (.bool false)), (.sc (.slice none 0 0)), (.sc (.slice none 0 0))] []), none⟩, ⟨none, (.store 3 (.tmp 4) (.tmp 25)), none⟩, ⟨(some 5), (.mov (.const (.int .i64 11))), none⟩] false []) .ret)
def c46 : ACode := (.seq (.region [⟨(some 4), (.alloc [(.sc (.bool false)), (.sc (.slice none 0 0)), (.sc (.slice none 0 0))]), none⟩, ⟨(some 5), (.mov (.const (.int .i64 0))), none⟩] false []) (.seq (.seq (.region [⟨(some 6), (.mov (.const (.int .i64 0))), none⟩] false []) (.block 0 (.loop c46L0))) c46R1))
def r46 : List ARes := [(.cell 4 true 3), (.tmp 5)]
def c47L0 : ACode := (.seq (.region [⟨(some 15), (.bin .lss 3 (.tmp 14) (.tmp 13)), none⟩] false []) (.seq (.cond (.tmp 15) .skip (.exit 0)) (.seq (.block 1 (.seq (.region [⟨(some 16), (.iaddr none 4 (.tmp 12) (.tmp 14)), none⟩, ⟨(some 17), (.load true 4 (.tmp 16)), none⟩, ⟨(some 5), (.alloc [(.sc (.slice none 0 0)), (.sc (.slice none 0 0)), (.sc (.int .i64 0)), (.sc (.int .i64 0))]), none⟩, ⟨none, (.store 4 (.tmp 5) (.tmp 17)), none⟩] false []) (.region [⟨(some 18), (.faddr 1 (.tmp 3)), none⟩, ⟨(some 19), (.load false 1 (.tmp 18)), none⟩, ⟨(some 20), (.load true 4 (.tmp 5)), none⟩, ⟨(some 21), (.bslice 4 [(.sc (.slice none 0 0)), (.sc (.slice none 0 0)), (.sc (.int .i64 0)), (.sc (.int .i64 0))] 1 [(0, (.tmp 20))]), none⟩, ⟨(some 22), (.app 4 64 (.tmp 19) (.tmp 21)), none⟩, ⟨(some 23), (.faddr 1 (.tmp 3)), none⟩, ⟨none, (.store 1 (.tmp 23) (.tmp 22)), none⟩] false []))) (.region [⟨(some 24), (.bin .add 3 (.tmp 14) (.const (.int .i64 1))), none⟩, ⟨(some 14), (.mov (.tmp 24)), none⟩] false []))))
def c47L1 : ACode := (.seq (.region [⟨(some 29), (.bin .lss 3 (.tmp 28) (.tmp 27)), none⟩] false []) (.seq (.cond (.tmp 29) .skip (.exit 2)) (.seq (.block 3 (.seq (.region [⟨(some 30), (.iaddr none 2 (.tmp 26) (.tmp 28)), none⟩, ⟨(some 31), (.load true 2 (.tmp 30)), none⟩, ⟨(some 7), (.alloc [(.sc (.slice none 0 0)), (.sc (.int .i64 0))]), none⟩, ⟨none, (.store 2 (.tmp 7) (.tmp 31)), none⟩] false []) (.region [⟨(some 32), (.faddr 2 (.tmp 3)), none⟩, ⟨(some 33), (.load false 1 (.tmp 32)), none⟩, ⟨(some 34), (.load true 2 (.tmp 7)), none⟩, ⟨(some 35), (.bslice 2 [(.sc (.slice none 0 0)), (.sc (.int .i64 0))] 1 [(0, (.tmp 34))]), none⟩, ⟨(some 36), (.app 2 32 (.tmp 33) (.tmp 35)), none⟩, ⟨(some 37), (.faddr 2 (.tmp 3)), none⟩, ⟨none, (.store 1 (.tmp 37) (.tmp 36)), none⟩] false []))) (.region [⟨(some 38), (.bin .add 3 (.tmp 28) (.const (.int .i64 1))), none⟩, ⟨(some 28), (.mov (.tmp 38)), none⟩] false []))))
def c47R2 : ACode := (.seq (.region [⟨(some 39), (.load true 3 (.tmp 3)), none⟩, ⟨none, (.store 3 (.tmp 2) (.tmp 39)), none⟩] false []) .ret)
def c47R3 : ACode := (.seq (.seq (.region [⟨(some 25), (.faddr 2 (.tmp 1)), none⟩, ⟨(some 26), (.load false 1 (.tmp 25)), none⟩, ⟨(some 27), (.len 0 (.tmp 26)), none⟩, ⟨(some 28), (.mov (.const (.int .i64 0))), none⟩] false []) (.block 2 (.loop c47L1))) c47R2)
def c47 : ACode := (.seq (.region [⟨(some 1), (.box 3 (.tmp 0)), none⟩, ⟨(some 2), (.alloc [(.sc (.bool false)), (.sc (.slice none 0 0)), (.sc (.slice none 0 0))]), none⟩] false []) (.seq (.region [⟨(some 8), (.faddr 0 (.tmp 1)), none⟩, ⟨(some 9), (.load false 1 (.tmp 8)), none⟩, ⟨(some 10), (.build [(.sc (.bool false)), (.sc (.slice none 0 0)), (.sc (.slice none 0 0))] [(0, (1, (.tmp 9)))]), none⟩, ⟨(some 3), (.alloc [(.sc (.bool false)), (.sc (.slice none 0 0)), (.sc (.slice none 0 0))]), none⟩, ⟨none, (.store 3 (.tmp 3) (.tmp 10)), none⟩] false []) (.seq (.seq (.region [⟨(some 11), (.faddr 1 (.tmp 1)), none⟩, ⟨(some 12), (.load false 1 (.tmp 11)), none⟩, ⟨(some 13), (.len 0 (.tmp 12)), none⟩, ⟨(some 14), (.mov (.const (.int .i64 0))), none⟩] false []) (.block 0 (.loop c47L0))) c47R3)))
def r47 : List ARes := [(.cell 2 true 3)]
def c51 : ACode := (.seq (.region [⟨(some 2), (.box 3 (.tmp 0)), none⟩, ⟨(some 3), (.mov (.const (.int .i64 0))), none⟩] false []) (.seq (.seq (.region [⟨(some 4), (.load false 1 (.tmp 1)), none⟩, ⟨(some 5), (.un .not (.tmp 4)), none⟩] false []) (.cond (.tmp 5) (.seq (.region [⟨(some 3), (.mov (.const (.int .i64 0))), none⟩] false []) .ret) .skip)) (.seq (.seq (.region [⟨(some 6), (.faddr 0 (.tmp 2)), none⟩, ⟨(some 7), (.load false 1 (.tmp 6)), none⟩] false []) (.cond (.tmp 7) (.seq (.region [⟨(some 8), (.faddr 1 (.tmp 2)), none⟩, ⟨(some 9), (.load false 1 (.tmp 8)), none⟩, ⟨(some 10), (.len 0 (.tmp 9)), none⟩, ⟨(some 11), (.bin .sub 3 (.tmp 10) (.const (.int .i64 1))), none⟩, ⟨(some 12), (.mx2 (.tmp 11) (.const (.int .i64 0))), none⟩, ⟨(some 3), (.mov (.tmp 12)), none⟩] false []) .ret) .skip)) (.seq (.region [⟨(some 13), (.faddr 2 (.tmp 2)), none⟩, ⟨(some 14), (.load false 1 (.tmp 13)), none⟩, ⟨(some 15), (.len 0 (.tmp 14)), none⟩, ⟨(some 16), (.bin .sub 3 (.tmp 15) (.const (.int .i64 1))), none⟩, ⟨(some 3), (.mov (.tmp 16)), none⟩] false []) .ret))))
def r51 : List ARes := [(.tmp 3)]
def c54L0 : ACode := (.seq (.seq (.region [⟨(some 14), (.mov (.tmp 7)), none⟩, ⟨(some 15), (.faddr 2 (.tmp 5)), none⟩, ⟨(some 16), (.load false 1 (.tmp 15)), none⟩, ⟨(some 17), (.len 0 (.tmp 16)), none⟩, ⟨(some 18), (.bin .lss 3 (.tmp 14) (.tmp 17)), none⟩, ⟨(some 19), (.mov (.tmp 18)), none⟩, ⟨(some 20), (.mov (.tmp 6)), (some ((some 19), true))⟩, ⟨(some 21), (.bin .eql 34 (.tmp 20) (.const (.int .i64 0))), (some ((some 19), true))⟩, ⟨(some 22), (.pick (.tmp 19) (.tmp 21) (.const (.bool false))), none⟩] false []) (.cond (.tmp 22) .skip (.exit 0))) (.seq (.block 1 (.region [⟨(some 25), (.load false 1 (.tmp 2)), none⟩, ⟨(some 26), (.load true 6 (.tmp 3)), none⟩, ⟨(some 27), (.load true 3 (.tmp 5)), none⟩, ⟨(some 28), (.mov (.tmp 7)), none⟩, ⟨(some 29), (.call (.func 56) [(.tmp 26), (.tmp 27), (.tmp 28)]), none⟩, ⟨(some 30), (.call (.tmp 25) [(.tmp 29)]), none⟩, ⟨(some 6), (.mov (.tmp 30)), none⟩] true [(0, 4)])) (.region [⟨(some 23), (.mov (.tmp 7)), none⟩, ⟨(some 24), (.bin .add 3 (.tmp 23) (.const (.int .i64 1))), none⟩, ⟨(some 7), (.mov (.tmp 24)), none⟩] false [])))
def c54R1 : ACode := (.seq (.region [⟨(some 31), (.mov (.tmp 6)), none⟩, ⟨(some 4), (.mov (.tmp 31)), none⟩] false []) .ret)
def c54 : ACode := (.seq (.region [⟨(some 3), (.box 6 (.tmp 0)), none⟩, ⟨(some 4), (.mov (.const (.int .i64 0))), none⟩] false []) (.seq (.region [⟨(some 9), (.load false 1 (.tmp 1)), none⟩, ⟨(some 10), (.load true 6 (.tmp 3)), none⟩, ⟨(some 11), (.call (.func 55) [(.tmp 9), (.tmp 10)]), none⟩, ⟨(some 8), (.mov (.tmp 11)), none⟩, ⟨(some 12), (.ext (.tmp 8) 0), none⟩, ⟨(some 13), (.ext (.tmp 8) 1), none⟩, ⟨(some 5), (.alloc [(.sc (.bool false)), (.sc (.slice none 0 0)), (.sc (.slice none 0 0))]), none⟩, ⟨none, (.store 3 (.tmp 5) (.tmp 12)), none⟩, ⟨(some 6), (.mov (.tmp 13)), none⟩] false []) (.seq (.seq (.region [⟨(some 7), (.mov (.const (.int .i64 0))), none⟩] false []) (.block 0 (.loop c54L0))) c54R1)))
def r54 : List ARes := [(.tmp 4)]
def c55 : ACode := (.seq (.region [⟨(some 3), (.box 6 (.tmp 1)), none⟩, ⟨(some 4), (.alloc [(.sc (.bool false)), (.sc (.slice none 0 0)), (.sc (.slice none 0 0))]), none⟩, ⟨(some 5), (.mov (.const (.int .i64 0))), none⟩] false []) (.seq (.seq (.region [⟨(some 8), (.faddr 1 (.tmp 3)), none⟩, ⟨(some 9), (.load false 1 (.tmp 8)), none⟩, ⟨(some 10), (.bin .gtr 3 (.tmp 9) (.const (.int .i64 12))), none⟩] false []) (.cond (.tmp 10) (.seq (.region [⟨(some 11), (.build [(.sc (.bool false)), (.sc (.slice none 0 0)), (.sc (.slice none 0 0))] []), none⟩, ⟨none, (.store 3 (.tmp 4) (.tmp 11)), none⟩, ⟨(some 5), (.mov (.const (.int .i64 130))), none⟩] false []) .ret) .skip)) (.seq (.region [⟨(some 13), (.mov (.tmp 0)), none⟩, ⟨(some 14), (.nilck (.tmp 13)), none⟩, ⟨(some 15), (.faddr 0 (.tmp 14)), none⟩, ⟨(some 16), (.load false 1 (.tmp 15)), none⟩, ⟨(some 17), (.faddr 0 (.tmp 3)), none⟩, ⟨(some 18), (.load false 1 (.tmp 17)), none⟩, ⟨(some 19), (.call (.tmp 16) [(.tmp 18)]), none⟩, ⟨(some 12), (.mov (.tmp 19)), none⟩, ⟨(some 20), (.ext (.tmp 12) 0), none⟩, ⟨(some 21), (.ext (.tmp 12) 1), none⟩, ⟨(some 6), (.alloc [(.sc (.bool false)), (.sc (.slice none 0 0)), (.sc (.slice none 0 0))]), none⟩, ⟨none, (.store 3 (.tmp 6) (.tmp 20)), none⟩, ⟨(some 7), (.mov (.tmp 21)), none⟩] true [(3, 10), (5, 10), (6, 10)]) (.seq (.block 0 (.seq (.region [⟨(some 23), (.mov (.tmp 7)), none⟩, ⟨(some 24), (.bin .neq 34 (.tmp 23) (.const (.int .i64 0))), none⟩, ⟨(some 22), (.mov (.tmp 24)), none⟩] false []) (.cond (.tmp 22) (.seq (.region [⟨(some 25), (.build [(.sc (.bool false)), (.sc (.slice none 0 0)), (.sc (.slice none 0 0))] []), none⟩, ⟨(some 26), (.mov (.tmp 7)), none⟩, ⟨none, (.store 3 (.tmp 4) (.tmp 25)), none⟩, ⟨(some 5), (.mov (.tmp 26)), none⟩] false []) .ret) (.seq (.region [⟨(some 28), (.mov (.tmp 0)), none⟩, ⟨(some 29), (.nilck (.tmp 28)), none⟩, ⟨(some 30), (.faddr 4 (.tmp 29)), none⟩, ⟨(some 31), (.load false 1 (.tmp 30)), none⟩, ⟨(some 32), (.faddr 0 (.tmp 3)), none⟩, ⟨(some 33), (.load false 1 (.tmp 32)), none⟩, ⟨(some 34), (.look (some .i64) (.sc (.int .i64 0)) (.tmp 31) (.tmp 33) false), none⟩, ⟨(some 35), (.bin .gtr 3 (.tmp 34) (.const (.int .i64 0))), none⟩, ⟨(some 36), (.mov (.tmp 35)), none⟩, ⟨(some 37), (.mov (.tmp 0)), (some ((some 36), false))⟩, ⟨(some 38), (.load true 6 (.tmp 3)), (some ((some 36), false))⟩, ⟨(some 39), (.load true 3 (.tmp 6)), (some ((some 36), false))⟩, ⟨(some 40), (.call (.func 68) [(.tmp 37), (.tmp 38), (.tmp 39)]), (some ((some 36), false))⟩, ⟨(some 41), (.un .not (.tmp 40)), (some ((some 36), false))⟩, ⟨(some 42), (.pick (.tmp 36) (.const (.bool true)) (.tmp 41)), none⟩, ⟨(some 27), (.mov (.tmp 42)), none⟩] true []) (.cond (.tmp 27) (.seq (.region [⟨(some 43), (.build [(.sc (.bool false)), (.sc (.slice none 0 0)), (.sc (.slice none 0 0))] []), none⟩, ⟨none, (.store 3 (.tmp 4) (.tmp 43)), none⟩, ⟨(some 5), (.mov (.const (.int .i64 131))), none⟩] false []) .ret) .skip))))) (.seq (.region [⟨(some 44), (.mov (.tmp 0)), none⟩, ⟨(some 45), (.nilck (.tmp 44)), none⟩, ⟨(some 46), (.faddr 4 (.tmp 45)), none⟩, ⟨(some 47), (.load false 1 (.tmp 46)), none⟩, ⟨(some 48), (.faddr 0 (.tmp 3)), none⟩, ⟨(some 49), (.load false 1 (.tmp 48)), none⟩, ⟨none, (.mput (some .i64) (.tmp 47) (.tmp 49) (.const (.int .i64 1))), none⟩] true []) (.seq (.region [⟨(some 50), (.mov (.tmp 0)), none⟩, ⟨(some 51), (.mov (.tmp 0)), none⟩, ⟨(some 52), (.nilck (.tmp 51)), none⟩, ⟨(some 53), (.faddr 1 (.tmp 52)), none⟩, ⟨(some 54), (.faddr 1 (.tmp 53)), none⟩, ⟨(some 55), (.load false 1 (.tmp 54)), none⟩, ⟨(some 56), (.faddr 0 (.tmp 3)), none⟩, ⟨(some 57), (.load false 1 (.tmp 56)), none⟩, ⟨(some 58), (.bslice 1 [(.sc (.int .i64 0))] 1 [(0, (.tmp 57))]), none⟩, ⟨(some 59), (.app 1 8 (.tmp 55) (.tmp 58)), none⟩, ⟨(some 60), (.nilck (.tmp 50)), none⟩, ⟨(some 61), (.faddr 1 (.tmp 60)), none⟩, ⟨(some 62), (.faddr 1 (.tmp 61)), none⟩, ⟨none, (.store 1 (.tmp 62) (.tmp 59)), none⟩] true [(5, 8)]) (.seq (.seq (.region [⟨(some 63), (.faddr 0 (.tmp 6)), none⟩, ⟨(some 64), (.load false 1 (.tmp 63)), none⟩] false []) (.cond (.tmp 64) (.region [⟨(some 65), (.mov (.tmp 0)), none⟩, ⟨(some 66), (.mov (.tmp 0)), none⟩, ⟨(some 67), (.mov (.tmp 0)), none⟩, ⟨(some 68), (.nilck (.tmp 67)), none⟩, ⟨(some 69), (.faddr 1 (.tmp 68)), none⟩, ⟨(some 70), (.faddr 0 (.tmp 69)), none⟩, ⟨(some 71), (.load false 1 (.tmp 70)), none⟩, ⟨(some 72), (.faddr 1 (.tmp 6)), none⟩, ⟨(some 73), (.load false 1 (.tmp 72)), none⟩, ⟨(some 74), (.app 4 64 (.tmp 71) (.tmp 73)), none⟩, ⟨(some 75), (.faddr 1 (.tmp 3)), none⟩, ⟨(some 76), (.load false 1 (.tmp 75)), none⟩, ⟨(some 77), (.nilck (.tmp 65)), none⟩, ⟨(some 78), (.faddr 1 (.tmp 77)), none⟩, ⟨(some 79), (.faddr 0 (.tmp 78)), none⟩, ⟨none, (.store 1 (.tmp 79) (.tmp 74)), none⟩, ⟨(some 80), (.nilck (.tmp 66)), none⟩, ⟨(some 81), (.faddr 1 (.tmp 80)), none⟩, ⟨(some 82), (.faddr 2 (.tmp 81)), none⟩, ⟨none, (.store 1 (.tmp 82) (.tmp 76)), none⟩] true [(9, 11), (11, 15)]) .skip)) (.seq (.region [⟨(some 83), (.load true 3 (.tmp 6)), none⟩, ⟨none, (.store 3 (.tmp 4) (.tmp 83)), none⟩, ⟨(some 5), (.mov (.const (.int .i64 0))), none⟩] false []) .ret))))))))
def r55 : List ARes := [(.cell 4 true 3), (.tmp 5)]
def c56 : ACode := (.seq (.region [⟨(some 3), (.box 6 (.tmp 0)), none⟩, ⟨(some 4), (.box 3 (.tmp 1)), none⟩, ⟨(some 6), (.alloc [(.sc (.int .i64 0)), (.sc (.int .i64 0)), (.sc (.bool false)), (.sc (.slice none 0 0)), (.sc (.bool false)), (.sc (.slice none 0 0))]), none⟩] false []) (.seq (.region [⟨(some 8), (.faddr 2 (.tmp 4)), none⟩, ⟨(some 9), (.load false 1 (.tmp 8)), none⟩, ⟨(some 10), (.mov (.tmp 2)), none⟩, ⟨(some 11), (.iaddr none 2 (.tmp 9) (.tmp 10)), none⟩, ⟨(some 12), (.faddr 1 (.tmp 11)), none⟩, ⟨(some 13), (.load false 1 (.tmp 12)), none⟩, ⟨(some 14), (.faddr 1 (.tmp 3)), none⟩, ⟨(some 15), (.load false 1 (.tmp 14)), none⟩, ⟨(some 16), (.bin .add 3 (.tmp 15) (.const (.int .i64 1))), none⟩, ⟨(some 17), (.faddr 2 (.tmp 3)), none⟩, ⟨(some 18), (.load true 2 (.tmp 17)), none⟩, ⟨(some 19), (.faddr 4 (.tmp 3)), none⟩, ⟨(some 20), (.load true 2 (.tmp 19)), none⟩, ⟨(some 21), (.build [(.sc (.int .i64 0)), (.sc (.int .i64 0)), (.sc (.bool false)), (.sc (.slice none 0 0)), (.sc (.bool false)), (.sc (.slice none 0 0))] [(0, (1, (.tmp 13))), (1, (1, (.tmp 16))), (2, (2, (.tmp 18))), (4, (2, (.tmp 20)))]), none⟩, ⟨(some 7), (.alloc [(.sc (.int .i64 0)), (.sc (.int .i64 0)), (.sc (.bool false)), (.sc (.slice none 0 0)), (.sc (.bool false)), (.sc (.slice none 0 0))]), none⟩, ⟨none, (.store 6 (.tmp 7) (.tmp 21)), none⟩] true [(1, 14), (3, 14), (5, 14), (7, 14), (10, 14), (12, 14)]) (.seq (.seq (.region [⟨(some 22), (.mov (.tmp 2)), none⟩, ⟨(some 23), (.bin .gtr 3 (.tmp 22) (.const (.int .i64 0))), none⟩] false []) (.cond (.tmp 23) (.region [⟨(some 24), (.faddr 2 (.tmp 4)), none⟩, ⟨(some 25), (.load false 1 (.tmp 24)), none⟩, ⟨(some 26), (.mov (.tmp 2)), none⟩, ⟨(some 27), (.iaddr none 2 (.tmp 25) (.tmp 26)), none⟩, ⟨(some 28), (.faddr 0 (.tmp 27)), none⟩, ⟨(some 29), (.load false 1 (.tmp 28)), none⟩, ⟨(some 30), (.build [(.sc (.bool false)), (.sc (.slice none 0 0))] [(0, (1, (.const (.bool true)))), (1, (1, (.tmp 29)))]), none⟩, ⟨(some 31), (.faddr 2 (.tmp 7)), none⟩, ⟨none, (.store 2 (.tmp 31) (.tmp 30)), none⟩] false []) .skip)) (.seq (.seq (.region [⟨(some 32), (.mov (.tmp 2)), none⟩, ⟨(some 33), (.bin .add 3 (.tmp 32) (.const (.int .i64 1))), none⟩, ⟨(some 34), (.faddr 2 (.tmp 4)), none⟩, ⟨(some 35), (.load false 1 (.tmp 34)), none⟩, ⟨(some 36), (.len 0 (.tmp 35)), none⟩, ⟨(some 37), (.bin .lss 3 (.tmp 33) (.tmp 36)), none⟩] false []) (.cond (.tmp 37) (.region [⟨(some 38), (.faddr 2 (.tmp 4)), none⟩, ⟨(some 39), (.load false 1 (.tmp 38)), none⟩, ⟨(some 40), (.mov (.tmp 2)), none⟩, ⟨(some 41), (.bin .add 3 (.tmp 40) (.const (.int .i64 1))), none⟩, ⟨(some 42), (.iaddr none 2 (.tmp 39) (.tmp 41)), none⟩, ⟨(some 43), (.faddr 0 (.tmp 42)), none⟩, ⟨(some 44), (.load false 1 (.tmp 43)), none⟩, ⟨(some 45), (.build [(.sc (.bool false)), (.sc (.slice none 0 0))] [(0, (1, (.const (.bool true)))), (1, (1, (.tmp 44)))]), none⟩, ⟨(some 46), (.faddr 4 (.tmp 7)), none⟩, ⟨none, (.store 2 (.tmp 46) (.tmp 45)), none⟩] false []) .skip)) (.seq (.region [⟨(some 47), (.load true 6 (.tmp 7)), none⟩, ⟨none, (.store 6 (.tmp 6) (.tmp 47)), none⟩] false []) .ret)))))
def r56 : List ARes := [(.cell 6 true 6)]
def c58 : ACode := (.seq (.region [⟨(some 6), (.alloc [(.sc (.slice none 0 0)), (.sc (.slice none 0 0)), (.sc (.int .i64 0)), (.sc (.int .i64 0))]), none⟩, ⟨(some 7), (.mov (.const (.bool false))), none⟩, ⟨(some 8), (.mov (.const (.int .i64 0))), none⟩] false []) (.seq (.seq (.region [⟨(some 9), (.mov (.tmp 2)), none⟩, ⟨(some 10), (.bin .neq 34 (.tmp 9) (.const (.int .i64 0))), none⟩] false []) (.cond (.tmp 10) (.seq (.region [⟨(some 11), (.mov (.tmp 0)), none⟩, ⟨(some 12), (.mov (.tmp 2)), none⟩, ⟨(some 13), (.call (.func 60) [(.tmp 11), (.tmp 12)]), none⟩, ⟨(some 14), (.ext (.tmp 13) 0), none⟩, ⟨(some 15), (.ext (.tmp 13) 1), none⟩, ⟨(some 16), (.ext (.tmp 13) 2), none⟩, ⟨none, (.store 4 (.tmp 6) (.tmp 14)), none⟩, ⟨(some 7), (.mov (.tmp 15)), none⟩, ⟨(some 8), (.mov (.tmp 16)), none⟩] false []) .ret) .skip)) (.seq (.region [⟨(some 17), (.mov (.tmp 0)), none⟩, ⟨(some 18), (.mov (.tmp 1)), none⟩, ⟨(some 19), (.call (.func 61) [(.tmp 18)]), none⟩, ⟨(some 20), (.nilck (.tmp 17)), none⟩, ⟨(some 21), (.faddr 2 (.tmp 20)), none⟩, ⟨none, (.store 1 (.tmp 21) (.tmp 19)), none⟩] false []) (.seq (.region [⟨(some 22), (.mov (.tmp 0)), none⟩, ⟨(some 23), (.call (.func 63) [(.tmp 22)]), none⟩, ⟨(some 24), (.ext (.tmp 23) 0), none⟩, ⟨(some 25), (.ext (.tmp 23) 1), none⟩, ⟨(some 26), (.ext (.tmp 23) 2), none⟩, ⟨none, (.store 4 (.tmp 6) (.tmp 24)), none⟩, ⟨(some 7), (.mov (.tmp 25)), none⟩, ⟨(some 8), (.mov (.tmp 26)), none⟩] false []) .ret))))
def r58 : List ARes := [(.cell 6 true 4), (.tmp 7), (.tmp 8)]
def c59 : ACode := (.seq (.region [⟨(some 4), (.alloc [(.sc (.slice none 0 0)), (.sc (.slice none 0 0)), (.sc (.int .i64 0)), (.sc (.int .i64 0))]), none⟩, ⟨(some 5), (.mov (.const (.bool false))), none⟩, ⟨(some 6), (.mov (.const (.int .i64 0))), none⟩] false []) (.seq (.region [⟨(some 8), (.mov (.tmp 0)), none⟩, ⟨(some 9), (.nilck (.tmp 8)), none⟩, ⟨(some 10), (.faddr 2 (.tmp 9)), none⟩, ⟨(some 11), (.load false 1 (.tmp 10)), none⟩, ⟨(some 12), (.mov (.tmp 0)), none⟩, ⟨(some 13), (.nilck (.tmp 12)), none⟩, ⟨(some 14), (.faddr 2 (.tmp 13)), none⟩, ⟨(some 15), (.load false 1 (.tmp 14)), none⟩, ⟨(some 16), (.len 0 (.tmp 15)), none⟩, ⟨(some 17), (.bin .sub 3 (.tmp 16) (.const (.int .i64 1))), none⟩, ⟨(some 18), (.iaddr none 5 (.tmp 11) (.tmp 17)), none⟩, ⟨(some 7), (.mov (.tmp 18)), none⟩] true []) (.seq (.region [⟨(some 19), (.mov (.tmp 7)), none⟩, ⟨(some 20), (.nilck (.tmp 19)), none⟩, ⟨(some 21), (.faddr 4 (.tmp 20)), none⟩, ⟨(some 22), (.load false 1 (.tmp 21)), none⟩, ⟨(some 23), (.mov (.tmp 1)), none⟩, ⟨(some 24), (.bin .add 3 (.tmp 22) (.tmp 23)), none⟩, ⟨(some 25), (.nilck (.tmp 19)), none⟩, ⟨(some 26), (.faddr 4 (.tmp 25)), none⟩, ⟨none, (.store 1 (.tmp 26) (.tmp 24)), none⟩] false []) (.seq (.seq (.region [⟨(some 27), (.mov (.tmp 7)), none⟩, ⟨(some 28), (.nilck (.tmp 27)), none⟩, ⟨(some 29), (.faddr 4 (.tmp 28)), none⟩, ⟨(some 30), (.load false 1 (.tmp 29)), none⟩, ⟨(some 31), (.bin .lss 3 (.tmp 30) (.const (.int .i64 0))), none⟩, ⟨(some 32), (.mov (.tmp 31)), none⟩, ⟨(some 33), (.mov (.tmp 7)), (some ((some 32), false))⟩, ⟨(some 34), (.nilck (.tmp 33)), (some ((some 32), false))⟩, ⟨(some 35), (.faddr 4 (.tmp 34)), (some ((some 32), false))⟩, ⟨(some 36), (.load false 1 (.tmp 35)), (some ((some 32), false))⟩, ⟨(some 37), (.mov (.tmp 7)), (some ((some 32), false))⟩, ⟨(some 38), (.nilck (.tmp 37)), (some ((some 32), false))⟩, ⟨(some 39), (.faddr 1 (.tmp 38)), (some ((some 32), false))⟩, ⟨(some 40), (.faddr 1 (.tmp 39)), (some ((some 32), false))⟩, ⟨(some 41), (.load false 1 (.tmp 40)), (some ((some 32), false))⟩, ⟨(some 42), (.len 0 (.tmp 41)), (some ((some 32), false))⟩, ⟨(some 43), (.bin .geq 3 (.tmp 36) (.tmp 42)), (some ((some 32), false))⟩, ⟨(some 44), (.pick (.tmp 32) (.const (.bool true)) (.tmp 43)), none⟩] true []) (.cond (.tmp 44) (.seq (.region [⟨(some 45), (.mov (.tmp 0)), none⟩, ⟨(some 46), (.mov (.tmp 1)), none⟩, ⟨(some 47), (.call (.func 62) [(.tmp 45), (.tmp 46)]), none⟩, ⟨(some 48), (.ext (.tmp 47) 0), none⟩, ⟨(some 49), (.ext (.tmp 47) 1), none⟩, ⟨(some 50), (.ext (.tmp 47) 2), none⟩, ⟨none, (.store 4 (.tmp 4) (.tmp 48)), none⟩, ⟨(some 5), (.mov (.tmp 49)), none⟩, ⟨(some 6), (.mov (.tmp 50)), none⟩] false []) .ret) .skip)) (.seq (.region [⟨(some 51), (.mov (.tmp 0)), none⟩, ⟨(some 52), (.call (.func 63) [(.tmp 51)]), none⟩, ⟨(some 53), (.ext (.tmp 52) 0), none⟩, ⟨(some 54), (.ext (.tmp 52) 1), none⟩, ⟨(some 55), (.ext (.tmp 52) 2), none⟩, ⟨none, (.store 4 (.tmp 4) (.tmp 53)), none⟩, ⟨(some 5), (.mov (.tmp 54)), none⟩, ⟨(some 6), (.mov (.tmp 55)), none⟩] false []) .ret)))))
def r59 : List ARes := [(.cell 4 true 4), (.tmp 5), (.tmp 6)]
def c60 : ACode := (.seq (.region [⟨(some 4), (.alloc [(.sc (.slice none 0 0)), (.sc (.slice none 0 0)), (.sc (.int .i64 0)), (.sc (.int .i64 0))]), none⟩, ⟨(some 5), (.mov (.const (.bool false))), none⟩, ⟨(some 6), (.mov (.const (.int .i64 0))), none⟩] false []) (.seq (.region [⟨(some 7), (.mov (.tmp 0)), none⟩, ⟨(some 8), (.nilck (.tmp 7)), none⟩, ⟨(some 9), (.faddr 2 (.tmp 8)), none⟩, ⟨none, (.store 1 (.tmp 9) (.const (.slice none 0 0))), none⟩] false []) (.seq (.region [⟨(some 10), (.build [(.sc (.slice none 0 0)), (.sc (.slice none 0 0)), (.sc (.int .i64 0)), (.sc (.int .i64 0))] []), none⟩, ⟨(some 11), (.mov (.tmp 1)), none⟩, ⟨none, (.store 4 (.tmp 4) (.tmp 10)), none⟩, ⟨(some 5), (.mov (.const (.bool false))), none⟩, ⟨(some 6), (.mov (.tmp 11)), none⟩] false []) .ret)))
def r60 : List ARes := [(.cell 4 true 4), (.tmp 5), (.tmp 6)]
def c61 : ACode := (.seq (.region [⟨(some 2), (.mov (.const (.slice none 0 0))), none⟩] false []) (.seq (.seq (.region [⟨(some 3), (.mov (.tmp 0)), none⟩, ⟨(some 4), (.isnil false 0 (.tmp 3)), none⟩] false []) (.cond (.tmp 4) (.seq (.region [⟨(some 2), (.mov (.const (.slice none 0 0))), none⟩] false []) .ret) .skip)) (.seq (.region [⟨(some 5), (.bslice 5 [(.sc (.int .i64 0)), (.sc (.bool false)), (.sc (.slice none 0 0)), (.sc (.slice none 0 0)), (.sc (.int .i64 0))] 0 []), none⟩, ⟨(some 6), (.mov (.tmp 0)), none⟩, ⟨(some 7), (.app 5 72 (.tmp 5) (.tmp 6)), none⟩, ⟨(some 2), (.mov (.tmp 7)), none⟩] false []) .ret)))
def r61 : List ARes := [(.tmp 2)]
def c62L0 : ACode := (.seq (.seq (.region [⟨(some 17), (.mov (.tmp 7)), none⟩, ⟨(some 18), (.bin .geq 3 (.tmp 17) (.const (.int .i64 0))), none⟩] false []) (.cond (.tmp 18) .skip (.exit 0))) (.seq (.block 1 (.seq (.region [⟨(some 21), (.mov (.tmp 0)), none⟩, ⟨(some 22), (.nilck (.tmp 21)), none⟩, ⟨(some 23), (.faddr 2 (.tmp 22)), none⟩, ⟨(some 24), (.load false 1 (.tmp 23)), none⟩, ⟨(some 25), (.mov (.tmp 7)), none⟩, ⟨(some 26), (.iaddr none 5 (.tmp 24) (.tmp 25)), none⟩, ⟨(some 27), (.load true 5 (.tmp 26)), none⟩, ⟨(some 8), (.alloc [(.sc (.int .i64 0)), (.sc (.bool false)), (.sc (.slice none 0 0)), (.sc (.slice none 0 0)), (.sc (.int .i64 0))]), none⟩, ⟨none, (.store 5 (.tmp 8) (.tmp 27)), none⟩] false []) (.seq (.seq (.region [⟨(some 28), (.faddr 4 (.tmp 8)), none⟩, ⟨(some 29), (.load false 1 (.tmp 28)), none⟩, ⟨(some 30), (.mov (.tmp 1)), none⟩, ⟨(some 31), (.bin .add 3 (.tmp 29) (.tmp 30)), none⟩, ⟨(some 32), (.bin .lss 3 (.tmp 31) (.const (.int .i64 0))), none⟩, ⟨(some 33), (.mov (.tmp 32)), none⟩, ⟨(some 34), (.faddr 4 (.tmp 8)), (some ((some 33), false))⟩, ⟨(some 35), (.load false 1 (.tmp 34)), (some ((some 33), false))⟩, ⟨(some 36), (.mov (.tmp 1)), (some ((some 33), false))⟩, ⟨(some 37), (.bin .add 3 (.tmp 35) (.tmp 36)), (some ((some 33), false))⟩, ⟨(some 38), (.faddr 1 (.tmp 8)), (some ((some 33), false))⟩, ⟨(some 39), (.faddr 2 (.tmp 38)), (some ((some 33), false))⟩, ⟨(some 40), (.load false 1 (.tmp 39)), (some ((some 33), false))⟩, ⟨(some 41), (.len 0 (.tmp 40)), (some ((some 33), false))⟩, ⟨(some 42), (.bin .geq 3 (.tmp 37) (.tmp 41)), (some ((some 33), false))⟩, ⟨(some 43), (.pick (.tmp 33) (.const (.bool true)) (.tmp 42)), none⟩] false []) (.cond (.tmp 43) (.exit 1) .skip)) (.seq (.region [⟨(some 44), (.mov (.tmp 0)), none⟩, ⟨(some 45), (.mov (.tmp 0)), none⟩, ⟨(some 46), (.nilck (.tmp 45)), none⟩, ⟨(some 47), (.faddr 2 (.tmp 46)), none⟩, ⟨(some 48), (.load false 1 (.tmp 47)), none⟩, ⟨(some 49), (.mov (.tmp 7)), none⟩, ⟨(some 50), (.bin .add 3 (.tmp 49) (.const (.int .i64 1))), none⟩, ⟨(some 51), (.slice 5 (.tmp 48) none (some (.tmp 50)) none), none⟩, ⟨(some 52), (.nilck (.tmp 44)), none⟩, ⟨(some 53), (.faddr 2 (.tmp 52)), none⟩, ⟨none, (.store 1 (.tmp 53) (.tmp 51)), none⟩] false []) (.seq (.region [⟨(some 54), (.mov (.tmp 0)), none⟩, ⟨(some 55), (.nilck (.tmp 54)), none⟩, ⟨(some 56), (.faddr 2 (.tmp 55)), none⟩, ⟨(some 57), (.load false 1 (.tmp 56)), none⟩, ⟨(some 58), (.mov (.tmp 7)), none⟩, ⟨(some 59), (.iaddr none 5 (.tmp 57) (.tmp 58)), none⟩, ⟨(some 60), (.faddr 4 (.tmp 59)), none⟩, ⟨(some 61), (.load false 1 (.tmp 60)), none⟩, ⟨(some 62), (.mov (.tmp 1)), none⟩, ⟨(some 63), (.bin .add 3 (.tmp 61) (.tmp 62)), none⟩, ⟨(some 64), (.iaddr none 5 (.tmp 57) (.tmp 58)), none⟩, ⟨(some 65), (.faddr 4 (.tmp 64)), none⟩, ⟨none, (.store 1 (.tmp 65) (.tmp 63)), none⟩] false []) (.seq (.region [⟨(some 67), (.mov (.tmp 0)), none⟩, ⟨(some 68), (.nilck (.tmp 67)), none⟩, ⟨(some 69), (.faddr 0 (.tmp 68)), none⟩, ⟨(some 70), (.load false 1 (.tmp 69)), none⟩, ⟨(some 71), (.faddr 1 (.tmp 8)), none⟩, ⟨(some 72), (.faddr 2 (.tmp 71)), none⟩, ⟨(some 73), (.load false 1 (.tmp 72)), none⟩, ⟨(some 74), (.faddr 4 (.tmp 8)), none⟩, ⟨(some 75), (.load false 1 (.tmp 74)), none⟩, ⟨(some 76), (.mov (.tmp 1)), none⟩, ⟨(some 77), (.bin .add 3 (.tmp 75) (.tmp 76)), none⟩, ⟨(some 78), (.iaddr none 2 (.tmp 73) (.tmp 77)), none⟩, ⟨(some 79), (.faddr 1 (.tmp 78)), none⟩, ⟨(some 80), (.load false 1 (.tmp 79)), none⟩, ⟨(some 81), (.mov (.tmp 1)), none⟩, ⟨(some 82), (.bin .lss 3 (.tmp 81) (.const (.int .i64 0))), none⟩, ⟨(some 83), (.call (.func 19) [(.tmp 70), (.tmp 80), (.tmp 82)]), none⟩, ⟨(some 66), (.mov (.tmp 83)), none⟩, ⟨(some 84), (.ext (.tmp 66) 0), none⟩, ⟨(some 85), (.ext (.tmp 66) 1), none⟩, ⟨(some 9), (.mov (.tmp 84)), none⟩, ⟨(some 10), (.mov (.tmp 85)), none⟩] true []) (.seq (.seq (.region [⟨(some 86), (.mov (.tmp 10)), none⟩, ⟨(some 87), (.bin .neq 34 (.tmp 86) (.const (.int .i64 0))), none⟩] false []) (.cond (.tmp 87) (.seq (.region [⟨(some 88), (.mov (.tmp 0)), none⟩, ⟨(some 89), (.mov (.tmp 10)), none⟩, ⟨(some 90), (.call (.func 60) [(.tmp 88), (.tmp 89)]), none⟩, ⟨(some 91), (.ext (.tmp 90) 0), none⟩, ⟨(some 92), (.ext (.tmp 90) 1), none⟩, ⟨(some 93), (.ext (.tmp 90) 2), none⟩, ⟨none, (.store 4 (.tmp 4) (.tmp 91)), none⟩, ⟨(some 5), (.mov (.tmp 92)), none⟩, ⟨(some 6), (.mov (.tmp 93)), none⟩] false []) .ret) .skip)) (.seq (.region [⟨(some 94), (.mov (.tmp 0)), none⟩, ⟨(some 95), (.mov (.tmp 0)), none⟩, ⟨(some 96), (.nilck (.tmp 95)), none⟩, ⟨(some 97), (.faddr 2 (.tmp 96)), none⟩, ⟨(some 98), (.load false 1 (.tmp 97)), none⟩, ⟨(some 99), (.mov (.tmp 9)), none⟩, ⟨(some 100), (.app 5 72 (.tmp 98) (.tmp 99)), none⟩, ⟨(some 101), (.nilck (.tmp 94)), none⟩, ⟨(some 102), (.faddr 2 (.tmp 101)), none⟩, ⟨none, (.store 1 (.tmp 102) (.tmp 100)), none⟩] false []) (.seq (.region [⟨(some 103), (.mov (.tmp 0)), none⟩, ⟨(some 104), (.call (.func 63) [(.tmp 103)]), none⟩, ⟨(some 105), (.ext (.tmp 104) 0), none⟩, ⟨(some 106), (.ext (.tmp 104) 1), none⟩, ⟨(some 107), (.ext (.tmp 104) 2), none⟩, ⟨none, (.store 4 (.tmp 4) (.tmp 105)), none⟩, ⟨(some 5), (.mov (.tmp 106)), none⟩, ⟨(some 6), (.mov (.tmp 107)), none⟩] false []) .ret))))))))) (.region [⟨(some 19), (.mov (.tmp 7)), none⟩, ⟨(some 20), (.bin .sub 3 (.tmp 19) (.const (.int .i64 1))), none⟩, ⟨(some 7), (.mov (.tmp 20)), none⟩] false [])))
def c62R1 : ACode := (.seq (.region [⟨(some 108), (.mov (.tmp 0)), none⟩, ⟨(some 109), (.call (.func 60) [(.tmp 108), (.const (.int .i64 0))]), none⟩, ⟨(some 110), (.ext (.tmp 109) 0), none⟩, ⟨(some 111), (.ext (.tmp 109) 1), none⟩, ⟨(some 112), (.ext (.tmp 109) 2), none⟩, ⟨none, (.store 4 (.tmp 4) (.tmp 110)), none⟩, ⟨(some 5), (.mov (.tmp 111)), none⟩, ⟨(some 6), (.mov (.tmp 112)), none⟩] false []) .ret)
def c62 : ACode := (.seq (.region [⟨(some 4), (.alloc [(.sc (.slice none 0 0)), (.sc (.slice none 0 0)), (.sc (.int .i64 0)), (.sc (.int .i64 0))]), none⟩, ⟨(some 5), (.mov (.const (.bool false))), none⟩, ⟨(some 6), (.mov (.const (.int .i64 0))), none⟩] false []) (.seq (.seq (.region [⟨(some 11), (.mov (.tmp 0)), none⟩, ⟨(some 12), (.nilck (.tmp 11)), none⟩, ⟨(some 13), (.faddr 2 (.tmp 12)), none⟩, ⟨(some 14), (.load false 1 (.tmp 13)), none⟩, ⟨(some 15), (.len 0 (.tmp 14)), none⟩, ⟨(some 16), (.bin .sub 3 (.tmp 15) (.const (.int .i64 2))), none⟩, ⟨(some 7), (.mov (.tmp 16)), none⟩] false []) (.block 0 (.loop c62L0))) c62R1))
def r62 : List ARes := [(.cell 4 true 4), (.tmp 5), (.tmp 6)]
def c63 : ACode := (.seq (.region [⟨(some 2), (.alloc [(.sc (.slice none 0 0)), (.sc (.slice none 0 0)), (.sc (.int .i64 0)), (.sc (.int .i64 0))]), none⟩, ⟨(some 3), (.mov (.const (.bool false))), none⟩, ⟨(some 4), (.mov (.const (.int .i64 0))), none⟩] false []) (.seq (.seq (.region [⟨(some 6), (.mov (.tmp 0)), none⟩, ⟨(some 7), (.nilck (.tmp 6)), none⟩, ⟨(some 8), (.faddr 2 (.tmp 7)), none⟩, ⟨(some 9), (.load false 1 (.tmp 8)), none⟩, ⟨(some 10), (.len 0 (.tmp 9)), none⟩, ⟨(some 11), (.bin .eql 3 (.tmp 10) (.const (.int .i64 0))), none⟩] false []) (.cond (.tmp 11) (.seq (.region [⟨(some 12), (.build [(.sc (.slice none 0 0)), (.sc (.slice none 0 0)), (.sc (.int .i64 0)), (.sc (.int .i64 0))] []), none⟩, ⟨none, (.store 4 (.tmp 2) (.tmp 12)), none⟩, ⟨(some 3), (.mov (.const (.bool false))), none⟩, ⟨(some 4), (.mov (.const (.int .i64 0))), none⟩] false []) .ret) .skip)) (.seq (.region [⟨(some 13), (.mov (.tmp 0)), none⟩, ⟨(some 14), (.nilck (.tmp 13)), none⟩, ⟨(some 15), (.faddr 2 (.tmp 14)), none⟩, ⟨(some 16), (.load false 1 (.tmp 15)), none⟩, ⟨(some 17), (.mov (.tmp 0)), none⟩, ⟨(some 18), (.nilck (.tmp 17)), none⟩, ⟨(some 19), (.faddr 2 (.tmp 18)), none⟩, ⟨(some 20), (.load false 1 (.tmp 19)), none⟩, ⟨(some 21), (.len 0 (.tmp 20)), none⟩, ⟨(some 22), (.bin .sub 3 (.tmp 21) (.const (.int .i64 1))), none⟩, ⟨(some 23), (.iaddr none 5 (.tmp 16) (.tmp 22)), none⟩, ⟨(some 24), (.load true 5 (.tmp 23)), none⟩, ⟨(some 5), (.alloc [(.sc (.int .i64 0)), (.sc (.bool false)), (.sc (.slice none 0 0)), (.sc (.slice none 0 0)), (.sc (.int .i64 0))]), none⟩, ⟨none, (.store 5 (.tmp 5) (.tmp 24)), none⟩] true [(3, 12), (7, 12), (8, 12), (10, 12), (11, 12)]) (.seq (.seq (.region [⟨(some 25), (.faddr 4 (.tmp 5)), none⟩, ⟨(some 26), (.load false 1 (.tmp 25)), none⟩, ⟨(some 27), (.bin .lss 3 (.tmp 26) (.const (.int .i64 0))), none⟩, ⟨(some 28), (.mov (.tmp 27)), none⟩, ⟨(some 29), (.faddr 4 (.tmp 5)), (some ((some 28), false))⟩, ⟨(some 30), (.load false 1 (.tmp 29)), (some ((some 28), false))⟩, ⟨(some 31), (.faddr 1 (.tmp 5)), (some ((some 28), false))⟩, ⟨(some 32), (.faddr 1 (.tmp 31)), (some ((some 28), false))⟩, ⟨(some 33), (.load false 1 (.tmp 32)), (some ((some 28), false))⟩, ⟨(some 34), (.len 0 (.tmp 33)), (some ((some 28), false))⟩, ⟨(some 35), (.bin .geq 3 (.tmp 30) (.tmp 34)), (some ((some 28), false))⟩, ⟨(some 36), (.pick (.tmp 28) (.const (.bool true)) (.tmp 35)), none⟩] false []) (.cond (.tmp 36) (.seq (.region [⟨(some 37), (.mov (.tmp 0)), none⟩, ⟨(some 38), (.nilck (.tmp 37)), none⟩, ⟨(some 39), (.faddr 2 (.tmp 38)), none⟩, ⟨none, (.store 1 (.tmp 39) (.const (.slice none 0 0))), none⟩] false []) (.seq (.region [⟨(some 40), (.build [(.sc (.slice none 0 0)), (.sc (.slice none 0 0)), (.sc (.int .i64 0)), (.sc (.int .i64 0))] []), none⟩, ⟨none, (.store 4 (.tmp 2) (.tmp 40)), none⟩, ⟨(some 3), (.mov (.const (.bool false))), none⟩, ⟨(some 4), (.mov (.const (.int .i64 0))), none⟩] false []) .ret)) .skip)) (.seq (.region [⟨(some 41), (.faddr 1 (.tmp 5)), none⟩, ⟨(some 42), (.faddr 1 (.tmp 41)), none⟩, ⟨(some 43), (.load false 1 (.tmp 42)), none⟩, ⟨(some 44), (.faddr 4 (.tmp 5)), none⟩, ⟨(some 45), (.load false 1 (.tmp 44)), none⟩, ⟨(some 46), (.iaddr none 4 (.tmp 43) (.tmp 45)), none⟩, ⟨(some 47), (.load true 4 (.tmp 46)), none⟩, ⟨none, (.store 4 (.tmp 2) (.tmp 47)), none⟩, ⟨(some 3), (.mov (.const (.bool true))), none⟩, ⟨(some 4), (.mov (.const (.int .i64 0))), none⟩] false []) .ret)))))
def r63 : List ARes := [(.cell 2 true 4), (.tmp 3), (.tmp 4)]
def c64L0 : ACode := (.seq (.seq (.region [⟨(some 21), (.mov (.tmp 7)), none⟩, ⟨(some 22), (.mov (.tmp 21)), none⟩, ⟨(some 23), (.mov (.tmp 0)), (some ((some 22), true))⟩, ⟨(some 24), (.load true 4 (.tmp 6)), (some ((some 22), true))⟩, ⟨(some 25), (.call (.tmp 23) [(.tmp 24)]), (some ((some 22), true))⟩, ⟨(some 26), (.pick (.tmp 22) (.tmp 25) (.const (.bool false))), none⟩] false []) (.cond (.tmp 26) .skip (.exit 0))) (.block 1 (.region [⟨(some 28), (.mov (.tmp 5)), none⟩, ⟨(some 29), (.call (.func 34) [(.tmp 28)]), none⟩, ⟨(some 27), (.mov (.tmp 29)), none⟩, ⟨(some 30), (.ext (.tmp 27) 0), none⟩, ⟨(some 31), (.ext (.tmp 27) 1), none⟩, ⟨(some 32), (.ext (.tmp 27) 2), none⟩, ⟨none, (.store 4 (.tmp 6) (.tmp 30)), none⟩, ⟨(some 7), (.mov (.tmp 31)), none⟩] false [])))
def c64 : ACode := (.seq (.region [⟨(some 9), (.load false 1 (.tmp 1)), none⟩, ⟨(some 10), (.load false 1 (.tmp 2)), none⟩, ⟨(some 11), (.call (.func 30) [(.tmp 9), (.tmp 10)]), none⟩, ⟨(some 5), (.mov (.tmp 11)), none⟩] false []) (.seq (.seq (.region [⟨(some 12), (.mov (.tmp 5)), none⟩, ⟨(some 13), (.isnil false 1 (.tmp 12)), none⟩] false []) (.cond (.tmp 13) .ret .skip)) (.seq (.region [⟨(some 15), (.mov (.tmp 5)), none⟩, ⟨(some 16), (.load false 1 (.tmp 3)), none⟩, ⟨(some 17), (.call (.func 37) [(.tmp 15), (.tmp 16)]), none⟩, ⟨(some 14), (.mov (.tmp 17)), none⟩, ⟨(some 18), (.ext (.tmp 14) 0), none⟩, ⟨(some 19), (.ext (.tmp 14) 1), none⟩, ⟨(some 20), (.ext (.tmp 14) 2), none⟩, ⟨(some 6), (.alloc [(.sc (.slice none 0 0)), (.sc (.slice none 0 0)), (.sc (.int .i64 0)), (.sc (.int .i64 0))]), none⟩, ⟨none, (.store 4 (.tmp 6) (.tmp 18)), none⟩, ⟨(some 7), (.mov (.tmp 19)), none⟩, ⟨(some 8), (.mov (.tmp 20)), none⟩] false []) (.block 0 (.loop c64L0)))))
def r64 : List ARes := []
def c65 : ACode := (.seq (.region [⟨(some 4), (.mov (.const (.int .i64 0))), none⟩] false []) (.seq (.region [⟨(some 5), (.mov (.tmp 0)), none⟩, ⟨(some 6), (.mov (.tmp 1)), none⟩, ⟨(some 7), (.call (.func 69) [(.tmp 5), (.tmp 6)]), none⟩, ⟨(some 4), (.mov (.tmp 7)), none⟩] false []) .ret))
def r65 : List ARes := [(.tmp 4)]
def c66L0 : ACode := (.seq (.seq (.region [⟨(some 15), (.mov (.tmp 9)), none⟩, ⟨(some 16), (.mov (.tmp 10)), none⟩, ⟨(some 17), (.bin .lss 3 (.tmp 15) (.tmp 16)), none⟩] false []) (.cond (.tmp 17) .skip (.exit 0))) (.block 1 (.seq (.region [⟨(some 18), (.mov (.tmp 9)), none⟩, ⟨(some 19), (.mov (.tmp 10)), none⟩, ⟨(some 20), (.bin .add 3 (.tmp 18) (.tmp 19)), none⟩, ⟨(some 21), (.conv .u64 (.tmp 20)), none⟩, ⟨(some 22), (.bin .shr 133 (.tmp 21) (.const (.int .u64 1))), none⟩, ⟨(some 23), (.conv .i64 (.tmp 22)), none⟩, ⟨(some 11), (.mov (.tmp 23)), none⟩] false []) (.seq (.region [⟨(some 24), (.mov (.tmp 2)), none⟩, ⟨(some 25), (.mov (.tmp 0)), none⟩, ⟨(some 26), (.mov (.tmp 11)), none⟩, ⟨(some 27), (.iaddr none 4 (.tmp 25) (.tmp 26)), none⟩, ⟨(some 28), (.load true 4 (.tmp 27)), none⟩, ⟨(some 29), (.mov (.tmp 1)), none⟩, ⟨(some 30), (.call (.tmp 24) [(.tmp 28), (.tmp 29)]), none⟩, ⟨(some 31), (.bin .lss 3 (.tmp 30) (.const (.int .i64 0))), none⟩] false []) (.cond (.tmp 31) (.region [⟨(some 32), (.mov (.tmp 11)), none⟩, ⟨(some 33), (.bin .add 3 (.tmp 32) (.const (.int .i64 1))), none⟩, ⟨(some 9), (.mov (.tmp 33)), none⟩] false []) (.region [⟨(some 34), (.mov (.tmp 11)), none⟩, ⟨(some 10), (.mov (.tmp 34)), none⟩] false []))))))
def c66R1 : ACode := (.seq (.region [⟨(some 35), (.mov (.tmp 9)), none⟩, ⟨(some 36), (.mov (.tmp 9)), none⟩, ⟨(some 37), (.mov (.tmp 8)), none⟩, ⟨(some 38), (.bin .lss 3 (.tmp 36) (.tmp 37)), none⟩, ⟨(some 39), (.mov (.tmp 38)), none⟩, ⟨(some 40), (.mov (.tmp 2)), (some ((some 39), true))⟩, ⟨(some 41), (.mov (.tmp 0)), (some ((some 39), true))⟩, ⟨(some 42), (.mov (.tmp 9)), (some ((some 39), true))⟩, ⟨(some 43), (.iaddr none 4 (.tmp 41) (.tmp 42)), (some ((some 39), true))⟩, ⟨(some 44), (.load true 4 (.tmp 43)), (some ((some 39), true))⟩, ⟨(some 45), (.mov (.tmp 1)), (some ((some 39), true))⟩, ⟨(some 46), (.call (.tmp 40) [(.tmp 44), (.tmp 45)]), (some ((some 39), true))⟩, ⟨(some 47), (.bin .eql 3 (.tmp 46) (.const (.int .i64 0))), (some ((some 39), true))⟩, ⟨(some 48), (.pick (.tmp 39) (.tmp 47) (.const (.bool false))), none⟩, ⟨(some 6), (.mov (.tmp 35)), none⟩, ⟨(some 7), (.mov (.tmp 48)), none⟩] false []) .ret)
def c66 : ACode := (.seq (.region [⟨(some 6), (.mov (.const (.int .i64 0))), none⟩, ⟨(some 7), (.mov (.const (.bool false))), none⟩] false []) (.seq (.region [⟨(some 12), (.mov (.tmp 0)), none⟩, ⟨(some 13), (.len 0 (.tmp 12)), none⟩, ⟨(some 8), (.mov (.tmp 13)), none⟩] false []) (.seq (.region [⟨(some 14), (.mov (.tmp 8)), none⟩, ⟨(some 9), (.mov (.const (.int .i64 0))), none⟩, ⟨(some 10), (.mov (.tmp 14)), none⟩] false []) (.seq (.block 0 (.loop c66L0)) c66R1))))
def r66 : List ARes := [(.tmp 6), (.tmp 7)]
def c67 : ACode := (.seq (.region [⟨(some 2), (.box 4 (.tmp 0)), none⟩, ⟨(some 4), (.mov (.const (.int .i64 0))), none⟩] false []) (.seq (.region [⟨(some 5), (.faddr 0 (.tmp 2)), none⟩, ⟨(some 6), (.load false 1 (.tmp 5)), none⟩, ⟨(some 7), (.mov (.tmp 1)), none⟩, ⟨(some 8), (.call (.func 40) [(.tmp 6), (.tmp 7)]), none⟩, ⟨(some 4), (.mov (.tmp 8)), none⟩] false []) .ret))
def r67 : List ARes := [(.tmp 4)]
def c68L0 : ACode := (.seq (.region [⟨(some 83), (.bin .lss 3 (.tmp 82) (.tmp 81)), none⟩] false []) (.seq (.cond (.tmp 83) .skip (.exit 0)) (.seq (.block 1 (.seq (.region [⟨(some 84), (.mov (.tmp 82)), none⟩, ⟨(some 85), (.iaddr none 1 (.tmp 80) (.tmp 82)), none⟩, ⟨(some 86), (.load false 1 (.tmp 85)), none⟩, ⟨(some 9), (.mov (.tmp 84)), none⟩, ⟨(some 10), (.mov (.tmp 86)), none⟩] false []) (.seq (.region [⟨(some 87), (.load true 6 (.tmp 4)), none⟩, ⟨(some 88), (.mov (.tmp 10)), none⟩, ⟨(some 89), (.call (.func 71) [(.tmp 87), (.tmp 88)]), none⟩, ⟨(some 90), (.un .not (.tmp 89)), none⟩, ⟨(some 91), (.mov (.tmp 90)), none⟩, ⟨(some 92), (.mov (.tmp 9)), (some ((some 91), false))⟩, ⟨(some 93), (.bin .gtr 3 (.tmp 92) (.const (.int .i64 0))), (some ((some 91), false))⟩, ⟨(some 94), (.mov (.tmp 93)), (some ((some 91), false))⟩, ⟨(some 95), (.mov (.tmp 8)), (some ((some 94), true))⟩, ⟨(some 96), (.mov (.tmp 9)), (some ((some 94), true))⟩, ⟨(some 97), (.bin .sub 3 (.tmp 96) (.const (.int .i64 1))), (some ((some 94), true))⟩, ⟨(some 98), (.iaddr none 1 (.tmp 95) (.tmp 97)), (some ((some 94), true))⟩, ⟨(some 99), (.load false 1 (.tmp 98)), (some ((some 94), true))⟩, ⟨(some 100), (.mov (.tmp 10)), (some ((some 94), true))⟩, ⟨(some 101), (.call (.func 40) [(.tmp 99), (.tmp 100)]), (some ((some 94), true))⟩, ⟨(some 102), (.bin .geq 3 (.tmp 101) (.const (.int .i64 0))), (some ((some 94), true))⟩, ⟨(some 103), (.pick (.tmp 94) (.tmp 102) (.const (.bool false))), (some ((some 91), false))⟩, ⟨(some 104), (.pick (.tmp 91) (.const (.bool true)) (.tmp 103)), none⟩] false []) (.cond (.tmp 104) (.seq (.region [⟨(some 6), (.mov (.const (.bool false))), none⟩] false []) .ret) .skip)))) (.region [⟨(some 105), (.bin .add 3 (.tmp 82) (.const (.int .i64 1))), none⟩, ⟨(some 82), (.mov (.tmp 105)), none⟩] false []))))
def c68R1 : ACode := (.seq (.region [⟨(some 6), (.mov (.const (.bool true))), none⟩] false []) .ret)
def c68 : ACode := (.seq (.region [⟨(some 4), (.box 6 (.tmp 1)), none⟩, ⟨(some 5), (.box 3 (.tmp 2)), none⟩, ⟨(some 6), (.mov (.const (.bool false))), none⟩] false []) (.seq (.region [⟨(some 11), (.faddr 1 (.tmp 4)), none⟩, ⟨(some 12), (.load false 1 (.tmp 11)), none⟩, ⟨(some 13), (.bin .eql 3 (.tmp 12) (.const (.int .i64 1))), none⟩, ⟨(some 7), (.mov (.tmp 13)), none⟩] false []) (.seq (.seq (.region [⟨(some 14), (.faddr 0 (.tmp 5)), none⟩, ⟨(some 15), (.load false 1 (.tmp 14)), none⟩, ⟨(some 16), (.mov (.tmp 15)), none⟩, ⟨(some 17), (.faddr 2 (.tmp 5)), (some ((some 16), true))⟩, ⟨(some 18), (.load false 1 (.tmp 17)), (some ((some 16), true))⟩, ⟨(some 19), (.len 0 (.tmp 18)), (some ((some 16), true))⟩, ⟨(some 20), (.bin .gtr 3 (.tmp 19) (.const (.int .i64 0))), (some ((some 16), true))⟩, ⟨(some 21), (.pick (.tmp 16) (.tmp 20) (.const (.bool false))), none⟩, ⟨(some 22), (.mov (.tmp 21)), none⟩, ⟨(some 23), (.faddr 0 (.tmp 5)), (some ((some 22), false))⟩, ⟨(some 24), (.load false 1 (.tmp 23)), (some ((some 22), false))⟩, ⟨(some 25), (.un .not (.tmp 24)), (some ((some 22), false))⟩, ⟨(some 26), (.mov (.tmp 25)), (some ((some 22), false))⟩, ⟨(some 27), (.faddr 1 (.tmp 5)), (some ((some 26), true))⟩, ⟨(some 28), (.load false 1 (.tmp 27)), (some ((some 26), true))⟩, ⟨(some 29), (.len 0 (.tmp 28)), (some ((some 26), true))⟩, ⟨(some 30), (.bin .gtr 3 (.tmp 29) (.const (.int .i64 0))), (some ((some 26), true))⟩, ⟨(some 31), (.pick (.tmp 26) (.tmp 30) (.const (.bool false))), (some ((some 22), false))⟩, ⟨(some 32), (.pick (.tmp 22) (.const (.bool true)) (.tmp 31)), none⟩] false []) (.cond (.tmp 32) (.seq (.region [⟨(some 6), (.mov (.const (.bool false))), none⟩] false []) .ret) .skip)) (.seq (.seq (.region [⟨(some 33), (.faddr 0 (.tmp 5)), none⟩, ⟨(some 34), (.load false 1 (.tmp 33)), none⟩, ⟨(some 35), (.un .not (.tmp 34)), none⟩, ⟨(some 36), (.mov (.tmp 35)), none⟩, ⟨(some 37), (.faddr 2 (.tmp 5)), (some ((some 36), true))⟩, ⟨(some 38), (.load false 1 (.tmp 37)), (some ((some 36), true))⟩, ⟨(some 39), (.len 0 (.tmp 38)), (some ((some 36), true))⟩, ⟨(some 40), (.bin .lss 3 (.tmp 39) (.const (.int .i64 2))), (some ((some 36), true))⟩, ⟨(some 41), (.pick (.tmp 36) (.tmp 40) (.const (.bool false))), none⟩, ⟨(some 42), (.mov (.tmp 41)), none⟩, ⟨(some 43), (.faddr 0 (.tmp 5)), (some ((some 42), false))⟩, ⟨(some 44), (.load false 1 (.tmp 43)), (some ((some 42), false))⟩, ⟨(some 45), (.mov (.tmp 44)), (some ((some 42), false))⟩, ⟨(some 46), (.faddr 1 (.tmp 5)), (some ((some 45), true))⟩, ⟨(some 47), (.load false 1 (.tmp 46)), (some ((some 45), true))⟩, ⟨(some 48), (.len 0 (.tmp 47)), (some ((some 45), true))⟩, ⟨(some 49), (.bin .eql 3 (.tmp 48) (.const (.int .i64 0))), (some ((some 45), true))⟩, ⟨(some 50), (.pick (.tmp 45) (.tmp 49) (.const (.bool false))), (some ((some 42), false))⟩, ⟨(some 51), (.mov (.tmp 50)), (some ((some 42), false))⟩, ⟨(some 52), (.mov (.tmp 7)), (some ((some 51), true))⟩, ⟨(some 53), (.un .not (.tmp 52)), (some ((some 51), true))⟩, ⟨(some 54), (.pick (.tmp 51) (.tmp 53) (.const (.bool false))), (some ((some 42), false))⟩, ⟨(some 55), (.pick (.tmp 42) (.const (.bool true)) (.tmp 54)), none⟩, ⟨(some 56), (.mov (.tmp 55)), none⟩, ⟨(some 57), (.faddr 0 (.tmp 5)), (some ((some 56), false))⟩, ⟨(some 58), (.load false 1 (.tmp 57)), (some ((some 56), false))⟩, ⟨(some 59), (.mov (.tmp 58)), (some ((some 56), false))⟩, ⟨(some 60), (.mov (.tmp 0)), (some ((some 59), true))⟩, ⟨(some 61), (.nilck (.tmp 60)), (some ((some 59), true))⟩, ⟨(some 62), (.faddr 1 (.tmp 61)), (some ((some 59), true))⟩, ⟨(some 63), (.faddr 2 (.tmp 62)), (some ((some 59), true))⟩, ⟨(some 64), (.load false 1 (.tmp 63)), (some ((some 59), true))⟩, ⟨(some 65), (.bin .gtr 3 (.tmp 64) (.const (.int .i64 0))), (some ((some 59), true))⟩, ⟨(some 66), (.pick (.tmp 59) (.tmp 65) (.const (.bool false))), (some ((some 56), false))⟩, ⟨(some 67), (.mov (.tmp 66)), (some ((some 56), false))⟩, ⟨(some 68), (.mov (.tmp 0)), (some ((some 67), true))⟩, ⟨(some 69), (.nilck (.tmp 68)), (some ((some 67), true))⟩, ⟨(some 70), (.faddr 1 (.tmp 69)), (some ((some 67), true))⟩, ⟨(some 71), (.faddr 2 (.tmp 70)), (some ((some 67), true))⟩, ⟨(some 72), (.load false 1 (.tmp 71)), (some ((some 67), true))⟩, ⟨(some 73), (.faddr 1 (.tmp 4)), (some ((some 67), true))⟩, ⟨(some 74), (.load false 1 (.tmp 73)), (some ((some 67), true))⟩, ⟨(some 75), (.bin .neq 3 (.tmp 72) (.tmp 74)), (some ((some 67), true))⟩, ⟨(some 76), (.pick (.tmp 67) (.tmp 75) (.const (.bool false))), (some ((some 56), false))⟩, ⟨(some 77), (.pick (.tmp 56) (.const (.bool true)) (.tmp 76)), none⟩] true []) (.cond (.tmp 77) (.seq (.region [⟨(some 6), (.mov (.const (.bool false))), none⟩] false []) .ret) .skip)) (.seq (.region [⟨(some 78), (.load true 3 (.tmp 5)), none⟩, ⟨(some 79), (.call (.func 70) [(.tmp 78)]), none⟩, ⟨(some 8), (.mov (.tmp 79)), none⟩] false []) (.seq (.seq (.region [⟨(some 80), (.mov (.tmp 8)), none⟩, ⟨(some 81), (.len 0 (.tmp 80)), none⟩, ⟨(some 82), (.mov (.const (.int .i64 0))), none⟩] false []) (.block 0 (.loop c68L0))) c68R1))))))
def r68 : List ARes := [(.tmp 6)]
def c70L0 : ACode := (.seq (.region [⟨(some 12), (.bin .lss 3 (.tmp 11) (.tmp 10)), none⟩] false []) (.seq (.cond (.tmp 12) .skip (.exit 0)) (.seq (.block 1 (.seq (.region [⟨(some 13), (.iaddr none 4 (.tmp 9) (.tmp 11)), none⟩, ⟨(some 14), (.load true 4 (.tmp 13)), none⟩, ⟨(some 5), (.alloc [(.sc (.slice none 0 0)), (.sc (.slice none 0 0)), (.sc (.int .i64 0)), (.sc (.int .i64 0))]), none⟩, ⟨none, (.store 4 (.tmp 5) (.tmp 14)), none⟩] false []) (.region [⟨(some 15), (.mov (.tmp 3)), none⟩, ⟨(some 16), (.faddr 0 (.tmp 5)), none⟩, ⟨(some 17), (.load false 1 (.tmp 16)), none⟩, ⟨(some 18), (.bslice 1 [(.sc (.slice none 0 0))] 1 [(0, (.tmp 17))]), none⟩, ⟨(some 19), (.app 1 24 (.tmp 15) (.tmp 18)), none⟩, ⟨(some 3), (.mov (.tmp 19)), none⟩] false []))) (.region [⟨(some 20), (.bin .add 3 (.tmp 11) (.const (.int .i64 1))), none⟩, ⟨(some 11), (.mov (.tmp 20)), none⟩] false []))))
def c70L1 : ACode := (.seq (.region [⟨(some 25), (.bin .lss 3 (.tmp 24) (.tmp 23)), none⟩] false []) (.seq (.cond (.tmp 25) .skip (.exit 2)) (.seq (.block 3 (.seq (.region [⟨(some 26), (.mov (.tmp 24)), none⟩, ⟨(some 27), (.iaddr none 2 (.tmp 22) (.tmp 24)), none⟩, ⟨(some 28), (.load true 2 (.tmp 27)), none⟩, ⟨(some 7), (.alloc [(.sc (.slice none 0 0)), (.sc (.int .i64 0))]), none⟩, ⟨(some 6), (.mov (.tmp 26)), none⟩, ⟨none, (.store 2 (.tmp 7) (.tmp 28)), none⟩] false []) (.seq (.region [⟨(some 29), (.mov (.tmp 6)), none⟩, ⟨(some 30), (.bin .gtr 3 (.tmp 29) (.const (.int .i64 0))), none⟩] false []) (.cond (.tmp 30) (.region [⟨(some 31), (.mov (.tmp 3)), none⟩, ⟨(some 32), (.faddr 0 (.tmp 7)), none⟩, ⟨(some 33), (.load false 1 (.tmp 32)), none⟩, ⟨(some 34), (.bslice 1 [(.sc (.slice none 0 0))] 1 [(0, (.tmp 33))]), none⟩, ⟨(some 35), (.app 1 24 (.tmp 31) (.tmp 34)), none⟩, ⟨(some 3), (.mov (.tmp 35)), none⟩] false []) .skip)))) (.region [⟨(some 36), (.bin .add 3 (.tmp 24) (.const (.int .i64 1))), none⟩, ⟨(some 24), (.mov (.tmp 36)), none⟩] false []))))
def c70R2 : ACode := (.seq (.region [⟨(some 37), (.mov (.tmp 3)), none⟩, ⟨(some 2), (.mov (.tmp 37)), none⟩] false []) .ret)
def c70R3 : ACode := (.seq (.seq (.region [⟨(some 21), (.faddr 2 (.tmp 1)), none⟩, ⟨(some 22), (.load false 1 (.tmp 21)), none⟩, ⟨(some 23), (.len 0 (.tmp 22)), none⟩, ⟨(some 24), (.mov (.const (.int .i64 0))), none⟩] false []) (.block 2 (.loop c70L1))) c70R2)
def c70 : ACode := (.seq (.region [⟨(some 1), (.box 3 (.tmp 0)), none⟩, ⟨(some 2), (.mov (.const (.slice none 0 0))), none⟩] false []) (.seq (.region [⟨(some 3), (.mov (.const (.slice none 0 0))), none⟩] false []) (.seq (.seq (.region [⟨(some 8), (.faddr 1 (.tmp 1)), none⟩, ⟨(some 9), (.load false 1 (.tmp 8)), none⟩, ⟨(some 10), (.len 0 (.tmp 9)), none⟩, ⟨(some 11), (.mov (.const (.int .i64 0))), none⟩] false []) (.block 0 (.loop c70L0))) c70R3)))
def r70 : List ARes := [(.tmp 2)]
def c71 : ACode := (.seq (.region [⟨(some 2), (.box 6 (.tmp 0)), none⟩, ⟨(some 4), (.mov (.const (.bool false))), none⟩] false []) (.seq (.region [⟨(some 5), (.faddr 2 (.tmp 2)), none⟩, ⟨(some 6), (.faddr 0 (.tmp 5)), none⟩, ⟨(some 7), (.load false 1 (.tmp 6)), none⟩, ⟨(some 8), (.un .not (.tmp 7)), none⟩, ⟨(some 9), (.mov (.tmp 8)), none⟩, ⟨(some 10), (.mov (.tmp 1)), (some ((some 9), false))⟩, ⟨(some 11), (.faddr 2 (.tmp 2)), (some ((some 9), false))⟩, ⟨(some 12), (.faddr 1 (.tmp 11)), (some ((some 9), false))⟩, ⟨(some 13), (.load false 1 (.tmp 12)), (some ((some 9), false))⟩, ⟨(some 14), (.call (.func 40) [(.tmp 10), (.tmp 13)]), (some ((some 9), false))⟩, ⟨(some 15), (.bin .geq 3 (.tmp 14) (.const (.int .i64 0))), (some ((some 9), false))⟩, ⟨(some 16), (.pick (.tmp 9) (.const (.bool true)) (.tmp 15)), none⟩, ⟨(some 17), (.mov (.tmp 16)), none⟩, ⟨(some 18), (.faddr 4 (.tmp 2)), (some ((some 17), true))⟩, ⟨(some 19), (.faddr 0 (.tmp 18)), (some ((some 17), true))⟩, ⟨(some 20), (.load false 1 (.tmp 19)), (some ((some 17), true))⟩, ⟨(some 21), (.un .not (.tmp 20)), (some ((some 17), true))⟩, ⟨(some 22), (.mov (.tmp 21)), (some ((some 17), true))⟩, ⟨(some 23), (.mov (.tmp 1)), (some ((some 22), false))⟩, ⟨(some 24), (.faddr 4 (.tmp 2)), (some ((some 22), false))⟩, ⟨(some 25), (.faddr 1 (.tmp 24)), (some ((some 22), false))⟩, ⟨(some 26), (.load false 1 (.tmp 25)), (some ((some 22), false))⟩, ⟨(some 27), (.call (.func 40) [(.tmp 23), (.tmp 26)]), (some ((some 22), false))⟩, ⟨(some 28), (.bin .lss 3 (.tmp 27) (.const (.int .i64 0))), (some ((some 22), false))⟩, ⟨(some 29), (.pick (.tmp 22) (.const (.bool true)) (.tmp 28)), (some ((some 17), true))⟩, ⟨(some 30), (.pick (.tmp 17) (.tmp 29) (.const (.bool false))), none⟩, ⟨(some 4), (.mov (.tmp 30)), none⟩] false []) .ret))
def r71 : List ARes := [(.tmp 4)]
def ft : FT
  | 3 => some (.go true 139 r3 c3)
  | 11 => some (.go true 114 r11 c11)
  | 16 => some (.go true 14 r16 c16)
  | 17 => some (.go true 4 r17 c17)
  | 19 => some (.go true 14 r19 c19)
  | 21 => some (.go true 29 r21 c21)
  | 26 => some (.go true 131 r26 c26)
  | 27 => some (.go true 51 r27 c27)
  | 28 => some (.go true 126 r28 c28)
  | 29 => some (.go true 33 r29 c29)
  | 30 => some (.go false 11 r30 c30)
  | 32 => some (.go false 44 r32 c32)
  | 33 => some (.go false 21 r33 c33)
  | 34 => some (.go false 21 r34 c34)
  | 35 => some (.go false 21 r35 c35)
  | 36 => some (.go false 21 r36 c36)
  | 37 => some (.go false 59 r37 c37)
  | 38 => some (.go true 17 r38 c38)
  | 39 => some (.go true 8 r39 c39)
  | 40 => some (.go true 8 r40 c40)
  | 41 => some (.go true 59 r41 c41)
  | 42 => some (.go true 18 r42 c42)
  | 43 => some (.go true 12 r43 c43)
  | 44 => some (.go true 27 r44 c44)
  | 45 => some (.go true 16 r45 c45)
  | 46 => some (.go true 26 r46 c46)
  | 47 => some (.go true 40 r47 c47)
  | 51 => some (.go true 17 r51 c51)
  | 54 => some (.go false 32 r54 c54)
  | 55 => some (.go false 84 r55 c55)
  | 56 => some (.go true 48 r56 c56)
  | 58 => some (.go false 27 r58 c58)
  | 59 => some (.go false 56 r59 c59)
  | 60 => some (.go false 12 r60 c60)
  | 61 => some (.go false 8 r61 c61)
  | 62 => some (.go false 113 r62 c62)
  | 63 => some (.go false 48 r63 c63)
  | 64 => some (.go false 33 r64 c64)
  | 65 => some (.go true 8 r65 c65)
  | 66 => some (.go true 49 r66 c66)
  | 67 => some (.go true 9 r67 c67)
  | 68 => some (.go false 106 r68 c68)
  | 70 => some (.go true 38 r70 c70)
  | 71 => some (.go true 31 r71 c71)
  | 69 => some (.pprim cmpP)
  | _ => none
end Go.VI

set_option linter.unusedVariables false
set_option linter.unusedSimpArgs false
set_option maxRecDepth 100000
namespace Go.VI
attribute [local congr] AW_congr OW_congr DW_congr NW_congr VW_congr GW_congr PW_congr KW_congr ite_congr' GV_congr CV_congr
abbrev Bytes := List Int
structure ItemM where
  key : Bytes
  value : Bytes
  size : Int
  ref : Int
structure KidM where
  key : Bytes
  ref : Int
structure NodeM where
  leaf : Bool
  items : List ItemM
  kids : List KidM
structure NamedM where
  ref : Int
  n : NodeM
structure StepM where
  ref : Int
  n : NodeM
  k : Int
def MX : Nat := 140737488355328
def int (n : Int) : AV := .sc (.int .i64 n)
def boolA (b : Bool) : AV := .sc (.bool b)
def byteC (n : Int) : List AV := [.sc (.int .u8 n)]
def encB (l : Bytes) : AV := .lst (l.map byteC)
def itemC (x : ItemM) : List AV := [encB x.key, encB x.value, int x.size, int x.ref]
def encI (l : List ItemM) : AV := .lst (l.map itemC)
def kidC (x : KidM) : List AV := [encB x.key, int x.ref]
def encK (l : List KidM) : AV := .lst (l.map kidC)
def nodeC (n : NodeM) : List AV := [boolA n.leaf, encI n.items, encK n.kids]
def namedC (x : NamedM) : List AV := int x.ref :: nodeC x.n
def encL (l : List NamedM) : AV := .lst (l.map namedC)
def stepC (x : StepM) : List AV := [int x.ref, boolA x.n.leaf, encI x.n.items, encK x.n.kids, int x.k]
def encS (l : List StepM) : AV := .lst (l.map stepC)
section
variable {H : Heap} {K : Heap} {L : List Blk}
theorem len_itemC (x : ItemM) : (itemC x).length = 4 := rfl
theorem len_kidC (x : KidM) : (kidC x).length = 2 := rfl
theorem len_namedC (x : NamedM) : (namedC x).length = 4 := rfl
theorem len_stepC (x : StepM) : (stepC x).length = 5 := rfl
theorem lenB (l : Bytes) : lenV H 0 (encB l) = some (.sc (.int .i64 (l.length : Int)), H) := by simp [lenV, lenOfA, encB]
theorem lenI (l : List ItemM) : lenV H 0 (encI l) = some (.sc (.int .i64 (l.length : Int)), H) := by simp [lenV, lenOfA, encI]
theorem lenK (l : List KidM) : lenV H 0 (encK l) = some (.sc (.int .i64 (l.length : Int)), H) := by simp [lenV, lenOfA, encK]
theorem lenL (l : List NamedM) : lenV H 0 (encL l) = some (.sc (.int .i64 (l.length : Int)), H) := by simp [lenV, lenOfA, encL]
theorem lenS (l : List StepM) : lenV H 0 (encS l) = some (.sc (.int .i64 (l.length : Int)), H) := by simp [lenV, lenOfA, encS]
theorem atI {l : List ItemM} {i : Nat} (h : i < l.length) : iaddrA H none 4 (encI l) (i : Int) = some (.pim (l.map itemC) i 0) := iaddr_map h len_itemC
theorem atK {l : List KidM} {i : Nat} (h : i < l.length) : iaddrA H none 2 (encK l) (i : Int) = some (.pim (l.map kidC) i 0) := iaddr_map h len_kidC
theorem atL {l : List NamedM} {i : Nat} (h : i < l.length) : iaddrA H none 4 (encL l) (i : Int) = some (.pim (l.map namedC) i 0) := iaddr_map h len_namedC
theorem atS {l : List StepM} {i : Nat} (h : i < l.length) : iaddrA H none 5 (encS l) (i : Int) = some (.pim (l.map stepC) i 0) := iaddr_map h len_stepC
theorem cI {l : List ItemM} {i off n : Nat} (h : i < l.length) : cellsAt H (.pim (l.map itemC) i off) n = if off + n ≤ 4 then some (((itemC l[i]).drop off).take n) else none := cells_map h
theorem cK {l : List KidM} {i off n : Nat} (h : i < l.length) : cellsAt H (.pim (l.map kidC) i off) n = if off + n ≤ 2 then some (((kidC l[i]).drop off).take n) else none := cells_map h
theorem cL {l : List NamedM} {i off n : Nat} (h : i < l.length) : cellsAt H (.pim (l.map namedC) i off) n = if off + n ≤ 4 then some (((namedC l[i]).drop off).take n) else none := cells_map h
theorem cS {l : List StepM} {i off n : Nat} (h : i < l.length) : cellsAt H (.pim (l.map stepC) i off) n = if off + n ≤ 5 then some (((stepC l[i]).drop off).take n) else none := cells_map h
end
section
theorem zi (n : Nat) (H : Heap) (x : ItemM) : frz.frzL (n + 6) H (itemC x) = some (itemC x, H) := rfl
theorem zk (n : Nat) (H : Heap) (x : KidM) : frz.frzL (n + 4) H (kidC x) = some (kidC x, H) := rfl
theorem zn (n : Nat) (H : Heap) (x : NodeM) : frz.frzL (n + 5) H (nodeC x) = some (nodeC x, H) := rfl
theorem zm (n : Nat) (H : Heap) (x : NamedM) : frz.frzL (n + 6) H (namedC x) = some (namedC x, H) := rfl
theorem zs (n : Nat) (H : Heap) (x : StepM) : frz.frzL (n + 7) H (stepC x) = some (stepC x, H) := rfl
theorem fz_i (H : Heap) (x : ItemM) : frz.frzL 24 H (itemC x) = some (itemC x, H) := rfl
theorem fz_k (H : Heap) (x : KidM) : frz.frzL 24 H (kidC x) = some (kidC x, H) := rfl
theorem i_all (x : ItemM) : (itemC x).take 4 = itemC x := rfl
theorem i_0 (x : ItemM) : (itemC x).take 1 = [encB x.key] := rfl
theorem i_1 (x : ItemM) : ((itemC x).drop 1).take 1 = [encB x.value] := rfl
theorem i_2 (x : ItemM) : ((itemC x).drop 2).take 1 = [int x.size] := rfl
theorem i_3 (x : ItemM) : ((itemC x).drop 3).take 1 = [int x.ref] := rfl
theorem i_one (x : ItemM) : oneAll (itemC x) = true := rfl
theorem k_all (x : KidM) : (kidC x).take 2 = kidC x := rfl
theorem k_0 (x : KidM) : (kidC x).take 1 = [encB x.key] := rfl
theorem k_1 (x : KidM) : ((kidC x).drop 1).take 1 = [int x.ref] := rfl
theorem k_one (x : KidM) : oneAll (kidC x) = true := rfl
theorem n_all (x : NodeM) : (nodeC x).take 3 = nodeC x := rfl
theorem n_0 (x : NodeM) : (nodeC x).take 1 = [boolA x.leaf] := rfl
theorem n_1 (x : NodeM) : ((nodeC x).drop 1).take 1 = [encI x.items] := rfl
theorem n_2 (x : NodeM) : ((nodeC x).drop 2).take 1 = [encK x.kids] := rfl
theorem n_one (x : NodeM) : oneAll (nodeC x) = true := rfl
theorem len_nodeC (x : NodeM) : (nodeC x).length = 3 := rfl
theorem m_all (x : NamedM) : (namedC x).take 4 = namedC x := rfl
theorem m_0 (x : NamedM) : (namedC x).take 1 = [int x.ref] := rfl
theorem m_n (x : NamedM) : ((namedC x).drop 1).take 3 = nodeC x.n := rfl
theorem m_1 (x : NamedM) : ((namedC x).drop 1).take 1 = [boolA x.n.leaf] := rfl
theorem m_2 (x : NamedM) : ((namedC x).drop 2).take 1 = [encI x.n.items] := rfl
theorem m_3 (x : NamedM) : ((namedC x).drop 3).take 1 = [encK x.n.kids] := rfl
theorem m_one (x : NamedM) : oneAll (namedC x) = true := rfl
theorem s_all (x : StepM) : (stepC x).take 5 = stepC x := rfl
theorem s_0 (x : StepM) : (stepC x).take 1 = [int x.ref] := rfl
theorem s_n (x : StepM) : ((stepC x).drop 1).take 3 = nodeC x.n := rfl
theorem s_1 (x : StepM) : ((stepC x).drop 1).take 1 = [boolA x.n.leaf] := rfl
theorem s_2 (x : StepM) : ((stepC x).drop 2).take 1 = [encI x.n.items] := rfl
theorem s_3 (x : StepM) : ((stepC x).drop 3).take 1 = [encK x.n.kids] := rfl
theorem s_4 (x : StepM) : ((stepC x).drop 4).take 1 = [int x.k] := rfl
theorem s_one (x : StepM) : oneAll (stepC x) = true := rfl
theorem frz_B (n : Nat) (H : Heap) (l : Bytes) : frz (n + 1) H (encB l) = some (encB l, H) := rfl
theorem frz_I (n : Nat) (H : Heap) (l : List ItemM) : frz (n + 1) H (encI l) = some (encI l, H) := rfl
theorem frz_K (n : Nat) (H : Heap) (l : List KidM) : frz (n + 1) H (encK l) = some (encK l, H) := rfl
theorem frz_L (n : Nat) (H : Heap) (l : List NamedM) : frz (n + 1) H (encL l) = some (encL l, H) := rfl
theorem frz_S (n : Nat) (H : Heap) (l : List StepM) : frz (n + 1) H (encS l) = some (encS l, H) := rfl
theorem one_B (l : Bytes) : (encB l).one = true := rfl
theorem one_I (l : List ItemM) : (encI l).one = true := rfl
theorem one_K (l : List KidM) : (encK l).one = true := rfl
theorem one_L (l : List NamedM) : (encL l).one = true := rfl
theorem one_S (l : List StepM) : (encS l).one = true := rfl
theorem cs_B (l : Bytes) : (encB l).cells = [encB l] := rfl
theorem cs_I (l : List ItemM) : (encI l).cells = [encI l] := rfl
theorem cs_K (l : List KidM) : (encK l).cells = [encK l] := rfl
theorem cs_L (l : List NamedM) : (encL l).cells = [encL l] := rfl
theorem cs_S (l : List StepM) : (encS l).cells = [encS l] := rfl
set_option linter.defProp false
def da := (⟨@zi, @zk, @zn, @zm, @zs, @fz_i, @fz_k, @lenB, @lenI, @lenK, @lenL, @lenS, @i_all, @i_0, @i_1, @i_2, @i_3, @i_one, @k_all, @k_0, @k_1, @k_one, @n_all, @n_0, @n_1, @n_2, @n_one, @len_nodeC, @m_all, @m_0, @m_n, @m_1, @m_2, @m_3, @m_one, @s_all, @s_0, @s_n, @s_1, @s_2, @s_3, @s_4, @s_one, @len_itemC, @len_kidC, @len_namedC, @len_stepC, @frz_B, @frz_I, @frz_K, @frz_L, @frz_S, @one_B, @one_I, @one_K, @one_L, @one_S, @cs_B, @cs_I, @cs_K, @cs_L, @cs_S⟩ : _ ∧ _ ∧ _ ∧ _ ∧ _ ∧ _ ∧ _ ∧ _ ∧ _ ∧ _ ∧ _ ∧ _ ∧ _ ∧ _ ∧ _ ∧ _ ∧ _ ∧ _ ∧ _ ∧ _ ∧ _ ∧ _ ∧ _ ∧ _ ∧ _ ∧ _ ∧ _ ∧ _ ∧ _ ∧ _ ∧ _ ∧ _ ∧ _ ∧ _ ∧ _ ∧ _ ∧ _ ∧ _ ∧ _ ∧ _ ∧ _ ∧ _ ∧ _ ∧ _ ∧ _ ∧ _ ∧ _ ∧ _ ∧ _ ∧ _ ∧ _ ∧ _ ∧ _ ∧ _ ∧ _ ∧ _ ∧ _ ∧ _ ∧ _ ∧ _ ∧ _ ∧ _)
end
end Go.VI

set_option linter.unusedVariables false
set_option linter.unusedSimpArgs false
set_option maxRecDepth 100000
namespace Go.VI
attribute [local congr] AW_congr OW_congr DW_congr NW_congr VW_congr GW_congr PW_congr KW_congr ite_congr' GV_congr CV_congr
structure okB (l : Bytes) : Prop where
  n : l.length < MX
  r : byteR l = true
structure okIt (x : ItemM) : Prop where
  k : okB x.key
  v : okB x.value
structure okI (l : List ItemM) : Prop where
  n : l.length < MX
  h : ∀ x ∈ l, okIt x
structure okK (l : List KidM) : Prop where
  n : l.length < MX
  h : ∀ x ∈ l, okB x.key
structure okN (n : NodeM) : Prop where
  i : okI n.items
  k : okK n.kids
structure okL (l : List NamedM) : Prop where
  n : l.length < MX
  h : ∀ x ∈ l, okN x.n
theorem okI.at_ {l : List ItemM} (h : okI l) {i : Nat} (hi : i < l.length) : okIt l[i] := h.h _ (List.getElem_mem hi)
theorem okK.at_ {l : List KidM} (h : okK l) {i : Nat} (hi : i < l.length) : okB l[i].key := h.h _ (List.getElem_mem hi)
theorem okL.at_ {l : List NamedM} (h : okL l) {i : Nat} (hi : i < l.length) : okN l[i].n := h.h _ (List.getElem_mem hi)
/-- How many keys are below; is it there? -/
def findM (l : List ItemM) (key : Bytes) : Int × Bool := l.foldl (fun p x => (if cmpB x.key key < 0 then p.1 + 1 else p.1, p.2 || cmpB x.key key == 0)) (0, false)
def nodeM (l : List NamedM) (ref : Int) : NodeM × Int := match l.find? (fun x => x.ref == ref) with
  | some x => (x.n, 0)
  | none => (⟨false, [], []⟩, 11)
theorem l46 (l : List NamedM) (ref : Int) (hl : okL l) {Q : AExit → Env → Heap → Prop} (z1 z2 z3 : AV)
   (hex : ∀ f', f' 4 = .ptr 0 0 0 → nodeM l ref = (⟨false, [], []⟩, 11) → Q (.exit 0) (mkE 26 f') (hx Heap.empty [.box false [z1, z2, z3]]))
   (hret : ∀ f' n, nodeM l ref = (n, 0) → f' 4 = .ptr 0 0 0 → f' 5 = int 0 → Q .ret (mkE 26 f') (hx Heap.empty [.box false (nodeC n)])) :
   ∀ (d i : Nat) (f : Nat → AV), i + d = l.length → nodeM l ref = nodeM (l.drop i) ref → f 0 = encL l → f 1 = int ref → f 4 = .ptr 0 0 0 → f 6 = int i →
    AW ft (.loop c46L0) (mkE 26 f) (hx Heap.empty [.box false [z1, z2, z3]]) Q := by
  intro d
  have hi := hl.n
  unfold MX at hi
  induction d with
  | zero =>
    intro i f hd hc h0 h1 h4 h6
    have g : ((i : Int) < l.length) = False := by simp; omega
    rw [AW_loop]
    unfold c46L0
    rw [List.drop_eq_nil_of_le (by omega)] at hc
    simp only [↓vp, vq0, vq1, vq2, vq3, vr0, vr1, vr2, vr3, vr4, vr5, vr6, vr7, vr8, vr9, vr10, vr11, vr12, vr13, vr14, vr15, vr16, vr17, vr18, vr19, vr20, vr21, vr22, vr23, vr24, vr25, vr26, vr27, vr28, vr29, vr30, vr31, vr32, vr33, vr34, opS, fpS, okP, pack, nAl, allocA, shId, leaves, fillA, fillR, splice, Nat.reduceLT, Nat.reduceEqDiff, Nat.reduceLeDiff, Nat.reduceAdd, Nat.reduceSub, Nat.reduceMul, Int.reduceBEq, Int.reduceBNe, Int.reduceLT, Int.reduceLE, Int.reduceEq, reduceIte, reduceCtorEq, int, lenL, h0, h1, h4, h6, g]
    refine hex _ ?_ hc
    simp only [↓vp, vq0, vq1, vq2, vq3, vr0, vr1, vr2, vr3, vr4, vr5, vr6, vr7, vr8, vr9, vr10, vr11, vr12, vr13, vr14, vr15, vr16, vr17, vr18, vr19, vr20, vr21, vr22, vr23, vr24, vr25, vr26, vr27, vr28, vr29, vr30, vr31, vr32, vr33, vr34, opS, fpS, okP, pack, nAl, allocA, shId, leaves, fillA, fillR, splice, Nat.reduceLT, Nat.reduceEqDiff, Nat.reduceLeDiff, Nat.reduceAdd, Nat.reduceSub, Nat.reduceMul, Int.reduceBEq, Int.reduceBNe, Int.reduceLT, Int.reduceLE, Int.reduceEq, reduceIte, reduceCtorEq, h4]
  | succ d ih =>
    intro i f hd hc h0 h1 h4 h6
    have g : ((i : Int) < l.length) = True := by simp; omega
    have gi : i < l.length := by omega
    rw [AW_loop]
    unfold c46L0
    rw [List.drop_eq_getElem_cons gi] at hc
    have w1 := wrap_succ (show i < 9223372036854775807 by omega)
    cases e1 : l[i].ref == ref with
    | true =>
      simp only [nodeM, List.find?_cons, e1] at hc
      simp only [↓vp, vq0, vq1, vq2, vq3, vr0, vr1, vr2, vr3, vr4, vr5, vr6, vr7, vr8, vr9, vr10, vr11, vr12, vr13, vr14, vr15, vr16, vr17, vr18, vr19, vr20, vr21, vr22, vr23, vr24, vr25, vr26, vr27, vr28, vr29, vr30, vr31, vr32, vr33, vr34, opS, fpS, okP, pack, nAl, allocA, shId, leaves, fillA, fillR, splice, Nat.reduceLT, Nat.reduceEqDiff, Nat.reduceLeDiff, Nat.reduceAdd, Nat.reduceSub, Nat.reduceMul, Int.reduceBEq, Int.reduceBNe, Int.reduceLT, Int.reduceLE, Int.reduceEq, reduceIte, reduceCtorEq, int, lenL, h0, h1, h4, h6, g, atL gi, cL gi, namedC, nodeC, e1, w1, one_I, one_K, boolA, splice]
      refine hret _ l[i].n hc ?_ ?_ <;> simp only [↓vp, vq0, vq1, vq2, vq3, vr0, vr1, vr2, vr3, vr4, vr5, vr6, vr7, vr8, vr9, vr10, vr11, vr12, vr13, vr14, vr15, vr16, vr17, vr18, vr19, vr20, vr21, vr22, vr23, vr24, vr25, vr26, vr27, vr28, vr29, vr30, vr31, vr32, vr33, vr34, opS, fpS, okP, pack, nAl, allocA, shId, leaves, fillA, fillR, splice, Nat.reduceLT, Nat.reduceEqDiff, Nat.reduceLeDiff, Nat.reduceAdd, Nat.reduceSub, Nat.reduceMul, Int.reduceBEq, Int.reduceBNe, Int.reduceLT, Int.reduceLE, Int.reduceEq, reduceIte, reduceCtorEq, h4, int]
    | false =>
      simp only [nodeM, List.find?_cons, e1] at hc
      simp only [↓vp, vq0, vq1, vq2, vq3, vr0, vr1, vr2, vr3, vr4, vr5, vr6, vr7, vr8, vr9, vr10, vr11, vr12, vr13, vr14, vr15, vr16, vr17, vr18, vr19, vr20, vr21, vr22, vr23, vr24, vr25, vr26, vr27, vr28, vr29, vr30, vr31, vr32, vr33, vr34, opS, fpS, okP, pack, nAl, allocA, shId, leaves, fillA, fillR, splice, Nat.reduceLT, Nat.reduceEqDiff, Nat.reduceLeDiff, Nat.reduceAdd, Nat.reduceSub, Nat.reduceMul, Int.reduceBEq, Int.reduceBNe, Int.reduceLT, Int.reduceLE, Int.reduceEq, reduceIte, reduceCtorEq, int, lenL, h0, h1, h4, h6, g, atL gi, cL gi, namedC, nodeC, e1, w1]
      refine ih (i + 1) _ (by omega) hc ?_ ?_ ?_ ?_ <;> simp only [↓vp, vq0, vq1, vq2, vq3, vr0, vr1, vr2, vr3, vr4, vr5, vr6, vr7, vr8, vr9, vr10, vr11, vr12, vr13, vr14, vr15, vr16, vr17, vr18, vr19, vr20, vr21, vr22, vr23, vr24, vr25, vr26, vr27, vr28, vr29, vr30, vr31, vr32, vr33, vr34, opS, fpS, okP, pack, nAl, allocA, shId, leaves, fillA, fillR, splice, Nat.reduceLT, Nat.reduceEqDiff, Nat.reduceLeDiff, Nat.reduceAdd, Nat.reduceSub, Nat.reduceMul, Int.reduceBEq, Int.reduceBNe, Int.reduceLT, Int.reduceLE, Int.reduceEq, reduceIte, reduceCtorEq, h0, h1, h4, int]
theorem s46 (l : List NamedM) (ref : Int) (hl : okL l) (H : Heap) : callL ft (.fn (.func 46) [] []) [encL l, int ref] H = some (.tup [.agg (nodeC (nodeM l ref).1), int (nodeM l ref).2], H) := by
  refine call_p (as' := [encL l, int ref]) rfl rfl (by simp) ?_
  unfold c46 r46
  simp only [↓vp, vq0, vq1, vq2, vq3, vr0, vr1, vr2, vr3, vr4, vr5, vr6, vr7, vr8, vr9, vr10, vr11, vr12, vr13, vr14, vr15, vr16, vr17, vr18, vr19, vr20, vr21, vr22, vr23, vr24, vr25, vr26, vr27, vr28, vr29, vr30, vr31, vr32, vr33, vr34, opS, fpS, okP, pack, nAl, allocA, shId, leaves, fillA, fillR, splice, Nat.reduceLT, Nat.reduceEqDiff, Nat.reduceLeDiff, Nat.reduceAdd, Nat.reduceSub, Nat.reduceMul, Int.reduceBEq, Int.reduceBNe, Int.reduceLT, Int.reduceLE, Int.reduceEq, reduceIte, reduceCtorEq]
  refine l46 l ref hl _ _ _ (fun f' h4 hm => ?_) (fun f' n hm h4 h5 => ?_) l.length 0 _ (by omega) rfl ?_ ?_ ?_ ?_
  · unfold c46R1
    simp only [↓vp, vq0, vq1, vq2, vq3, vr0, vr1, vr2, vr3, vr4, vr5, vr6, vr7, vr8, vr9, vr10, vr11, vr12, vr13, vr14, vr15, vr16, vr17, vr18, vr19, vr20, vr21, vr22, vr23, vr24, vr25, vr26, vr27, vr28, vr29, vr30, vr31, vr32, vr33, vr34, opS, fpS, okP, pack, nAl, allocA, shId, leaves, fillA, fillR, splice, Nat.reduceLT, Nat.reduceEqDiff, Nat.reduceLeDiff, Nat.reduceAdd, Nat.reduceSub, Nat.reduceMul, Int.reduceBEq, Int.reduceBNe, Int.reduceLT, Int.reduceLE, Int.reduceEq, reduceIte, reduceCtorEq, h4, splice, RetP_iff, resT, resC, resN, hm]
    exact ⟨_, _, rfl, rfl⟩
  · simp only [↓vp, vq0, vq1, vq2, vq3, vr0, vr1, vr2, vr3, vr4, vr5, vr6, vr7, vr8, vr9, vr10, vr11, vr12, vr13, vr14, vr15, vr16, vr17, vr18, vr19, vr20, vr21, vr22, vr23, vr24, vr25, vr26, vr27, vr28, vr29, vr30, vr31, vr32, vr33, vr34, opS, fpS, okP, pack, nAl, allocA, shId, leaves, fillA, fillR, splice, Nat.reduceLT, Nat.reduceEqDiff, Nat.reduceLeDiff, Nat.reduceAdd, Nat.reduceSub, Nat.reduceMul, Int.reduceBEq, Int.reduceBNe, Int.reduceLT, Int.reduceLE, Int.reduceEq, reduceIte, reduceCtorEq, h4, h5, RetP_iff, resT, resC, resN, hm, nodeC]
    exact ⟨_, _, rfl, rfl⟩
  all_goals rfl
end Go.VI

set_option linter.unusedVariables false
set_option linter.unusedSimpArgs false
set_option maxRecDepth 100000
namespace Go.VI
attribute [local congr] AW_congr OW_congr DW_congr NW_congr VW_congr GW_congr PW_congr KW_congr ite_congr' GV_congr CV_congr
def sumM : Int → List NamedM → Int
  | s, [] => s
  | s, x :: r => sumM (IntKind.i64.wrap (s + IntKind.i64.wrap ((x.n.items.length : Int) + x.n.kids.length))) r
def fewM (l : List NamedM) : Bool := decide ((l.length : Int) ≤ 40) && decide (sumM 0 l ≤ 200)
end Go.VI

set_option linter.unusedVariables false
set_option linter.unusedSimpArgs false
set_option maxRecDepth 100000
namespace Go.VI
attribute [local congr] AW_congr OW_congr DW_congr NW_congr VW_congr GW_congr PW_congr KW_congr ite_congr' GV_congr CV_congr
theorem l47a (n : NodeM) (hs : n.items.length ≤ 1000) {B0 B1 : Blk} (hn0 : ∀ s r, B0 ≠ .row false s r) (hn1 : ∀ s r, B1 ≠ .row false s r) {Q : AExit → Env → Heap → Prop}
   (hex : ∀ f' K S, Rep K 4 S (n.items.map itemC) → K.get 0 = some B0 → K.get 1 = some B1 → K.get 2 = some (.box false [boolA n.leaf, S, .sc (.slice none 0 0)]) → f' 1 = .ptr 0 0 0 → f' 2 = .ptr 1 0 0 → f' 3 = .ptr 2 0 0 → Q (.exit 0) (mkE 40 f') (hx K [])) :
   ∀ (d i : Nat) (S : AV) (K : Heap) (f : Nat → AV), i + d = n.items.length → Rep K 4 S ((n.items.take i).map itemC) → K.get 0 = some B0 → K.get 1 = some B1 → K.get 2 = some (.box false [boolA n.leaf, S, .sc (.slice none 0 0)]) →
    f 1 = .ptr 0 0 0 → f 2 = .ptr 1 0 0 → f 3 = .ptr 2 0 0 → f 12 = encI n.items → f 13 = int n.items.length → f 14 = int i →
    AW ft (.loop c47L0) (mkE 40 f) (hx K []) Q := by
  intro d
  induction d with
  | zero =>
    intro i S K f hd hr k0 k1 k2 h1 h2 h3 h12 h13 h14
    have g : ((i : Int) < n.items.length) = False := by simp; omega
    rw [AW_loop]
    unfold c47L0
    rw [List.take_of_length_le (by omega)] at hr
    simp only [↓vp, vq0, vq1, vq2, vq3, vr0, vr1, vr2, vr3, vr4, vr5, vr6, vr7, vr8, vr9, vr10, vr11, vr12, vr13, vr14, vr15, vr16, vr17, vr18, vr19, vr20, vr21, vr22, vr23, vr24, vr25, vr26, vr27, vr28, vr29, vr30, vr31, vr32, vr33, vr34, opS, fpS, okP, pack, nAl, allocA, shId, leaves, fillA, fillR, splice, Nat.reduceLT, Nat.reduceEqDiff, Nat.reduceLeDiff, Nat.reduceAdd, Nat.reduceSub, Nat.reduceMul, Int.reduceBEq, Int.reduceBNe, Int.reduceLT, Int.reduceLE, Int.reduceEq, reduceIte, reduceCtorEq, da, int, boolA, h13, h14, g]
    refine hex _ K S hr k0 k1 k2 ?_ ?_ ?_ <;> simp only [↓vp, vq0, vq1, vq2, vq3, vr0, vr1, vr2, vr3, vr4, vr5, vr6, vr7, vr8, vr9, vr10, vr11, vr12, vr13, vr14, vr15, vr16, vr17, vr18, vr19, vr20, vr21, vr22, vr23, vr24, vr25, vr26, vr27, vr28, vr29, vr30, vr31, vr32, vr33, vr34, opS, fpS, okP, pack, nAl, allocA, shId, leaves, fillA, fillR, splice, Nat.reduceLT, Nat.reduceEqDiff, Nat.reduceLeDiff, Nat.reduceAdd, Nat.reduceSub, Nat.reduceMul, Int.reduceBEq, Int.reduceBNe, Int.reduceLT, Int.reduceLE, Int.reduceEq, reduceIte, reduceCtorEq, da, int, boolA, h1, h2, h3]
  | succ d ih =>
    intro i S K f hd hr k0 k1 k2 h1 h2 h3 h12 h13 h14
    have g : ((i : Int) < n.items.length) = True := by simp; omega
    have gi : i < n.items.length := by omega
    have w1 := wrap_succ (show i < 9223372036854775807 by omega)
    have l0 := Heap.get_lt k0
    have l1 := Heap.get_lt k1
    have l2 := Heap.get_lt k2
    have o0 := fun L => hx_get_old K L 0 l0
    have o1 := fun L => hx_get_old K L 1 l1
    have o2 := fun L => hx_get_old K L 2 l2
    have p2 := fun L b => hx_set_old K L b 2 l2
    have ht : (n.items.take (i + 1)).map itemC = (n.items.take i).map itemC ++ [itemC n.items[i]] := by
      rw [List.take_succ_eq_append_getElem gi, List.map_append]; rfl
    rw [AW_loop]
    unfold c47L0
    rcases hr with ⟨rfl, hr⟩ | ⟨id, rfl, hr⟩
    · simp only [↓vp, vq0, vq1, vq2, vq3, vr0, vr1, vr2, vr3, vr4, vr5, vr6, vr7, vr8, vr9, vr10, vr11, vr12, vr13, vr14, vr15, vr16, vr17, vr18, vr19, vr20, vr21, vr22, vr23, vr24, vr25, vr26, vr27, vr28, vr29, vr30, vr31, vr32, vr33, vr34, opS, fpS, okP, pack, nAl, allocA, shId, leaves, fillA, fillR, splice, Nat.reduceLT, Nat.reduceEqDiff, Nat.reduceLeDiff, Nat.reduceAdd, Nat.reduceSub, Nat.reduceMul, Int.reduceBEq, Int.reduceBNe, Int.reduceLT, Int.reduceLE, Int.reduceEq, reduceIte, reduceCtorEq, da, int, boolA, h1, h2, h3, h12, h13, h14, g, atI gi, cI gi, k2, o2, p2, w1]
      rw [← hx_nil (hx _ _)]
      have q0 : ∀ (j : Nat) (b : Blk) (L : List Blk), j ≠ 2 → j < K.next → (hx (K.set 2 b) L).get j = K.get j := fun j b L hj hl => by
        rw [hx_get_old _ _ _ (by simpa using hl), Heap.get_set_ne _ hj]
      have q2 : ∀ (b : Blk) (L : List Blk), (hx (K.set 2 b) L).get 2 = some b := fun b L => by
        rw [hx_get_old _ _ _ (by simpa using l2), Heap.get_set_self _ l2]
      refine ih (i + 1) (.sl (K.next + 2) 0 1) _ _ (by omega) (.inr ⟨K.next + 2, ?_, ?_⟩) ?_ ?_ ?_ ?_ ?_ ?_ ?_ ?_ ?_
      · rw [ht, hr]; rfl
      · rw [ht, hr]
        simp only [↓vp, vq0, vq1, vq2, vq3, vr0, vr1, vr2, vr3, vr4, vr5, vr6, vr7, vr8, vr9, vr10, vr11, vr12, vr13, vr14, vr15, vr16, vr17, vr18, vr19, vr20, vr21, vr22, vr23, vr24, vr25, vr26, vr27, vr28, vr29, vr30, vr31, vr32, vr33, vr34, opS, fpS, okP, pack, nAl, allocA, shId, leaves, fillA, fillR, splice, Nat.reduceLT, Nat.reduceEqDiff, Nat.reduceLeDiff, Nat.reduceAdd, Nat.reduceSub, Nat.reduceMul, Int.reduceBEq, Int.reduceBNe, Int.reduceLT, Int.reduceLE, Int.reduceEq, reduceIte, reduceCtorEq]
      · rw [q0 _ _ _ (by decide) l0]; exact k0
      · rw [q0 _ _ _ (by decide) l1]; exact k1
      · rw [q2]; rfl
      all_goals simp only [↓vp, vq0, vq1, vq2, vq3, vr0, vr1, vr2, vr3, vr4, vr5, vr6, vr7, vr8, vr9, vr10, vr11, vr12, vr13, vr14, vr15, vr16, vr17, vr18, vr19, vr20, vr21, vr22, vr23, vr24, vr25, vr26, vr27, vr28, vr29, vr30, vr31, vr32, vr33, vr34, opS, fpS, okP, pack, nAl, allocA, shId, leaves, fillA, fillR, splice, Nat.reduceLT, Nat.reduceEqDiff, Nat.reduceLeDiff, Nat.reduceAdd, Nat.reduceSub, Nat.reduceMul, Int.reduceBEq, Int.reduceBNe, Int.reduceLT, Int.reduceLE, Int.reduceEq, reduceIte, reduceCtorEq, da, int, boolA, h1, h2, h3, h12, h13]
    · have lid := Heap.get_lt hr
      have d0 : 0 ≠ id := fun e => by subst e; rw [k0] at hr; exact hn0 _ _ (Option.some.inj hr)
      have d1 : 1 ≠ id := fun e => by subst e; rw [k1] at hr; exact hn1 _ _ (Option.some.inj hr)
      have d2 : 2 ≠ id := fun e => by subst e; rw [k2] at hr; cases hr
      have oid := fun L => hx_get_old K L id lid
      have pid := fun L b => hx_set_old K L b id lid
      have o2' : ∀ (L : List Blk) (b : Blk), (hx (K.set id b) L).get 2 = K.get 2 := fun L b => by
        rw [hx_get_old _ _ _ (by simpa using l2), Heap.get_set_ne _ d2]
      have p2' : ∀ (L : List Blk) (b c : Blk), (hx (K.set id b) L).set 2 c = hx ((K.set id b).set 2 c) L := fun L b c => hx_set_old _ L c 2 (by simpa using l2)
      have hlen : ((n.items.take i).map itemC).length = i := by simp; omega
      have hb : (i + 1) * 64 ≤ 140737488355328 := by omega
      have hr' := hr
      simp only [↓vp, vq0, vq1, vq2, vq3, vr0, vr1, vr2, vr3, vr4, vr5, vr6, vr7, vr8, vr9, vr10, vr11, vr12, vr13, vr14, vr15, vr16, vr17, vr18, vr19, vr20, vr21, vr22, vr23, vr24, vr25, vr26, vr27, vr28, vr29, vr30, vr31, vr32, vr33, vr34, opS, fpS, okP, pack, nAl, allocA, shId, leaves, fillA, fillR, splice, Nat.reduceLT, Nat.reduceEqDiff, Nat.reduceLeDiff, Nat.reduceAdd, Nat.reduceSub, Nat.reduceMul, Int.reduceBEq, Int.reduceBNe, Int.reduceLT, Int.reduceLE, Int.reduceEq, reduceIte, reduceCtorEq, da, int, boolA, h1, h2, h3, h12, h13, h14, g, atI gi, cI gi, k2, o2, p2, w1, oid, pid, o2', p2', hr, hlen, hb, List.take_of_length_le (Nat.le_of_eq hlen), List.length_take]
      rw [← hx_nil (hx _ _)]
      have q0 : ∀ (j : Nat) (b c : Blk) (L : List Blk), j ≠ 2 → j ≠ id → j < K.next → (hx ((K.set id c).set 2 b) L).get j = K.get j := fun j b c L hj hj2 hl => by
        rw [hx_get_old _ _ _ (by simpa using hl), Heap.get_set_ne _ hj, Heap.get_set_ne _ hj2]
      have q2 : ∀ (b c : Blk) (L : List Blk), (hx ((K.set id c).set 2 b) L).get 2 = some b := fun b c L => by
        rw [hx_get_old _ _ _ (by simpa using l2), Heap.get_set_self _ (by simpa using l2)]
      refine ih (i + 1) (.sl (K.next + 2) 0 (i + 1)) _ _ (by omega) (.inr ⟨K.next + 2, ?_, ?_⟩) ?_ ?_ ?_ ?_ ?_ ?_ ?_ ?_ ?_
      · rw [ht, List.length_append, hlen]; rfl
      · rw [ht]
        simp only [↓vp, vq0, vq1, vq2, vq3, vr0, vr1, vr2, vr3, vr4, vr5, vr6, vr7, vr8, vr9, vr10, vr11, vr12, vr13, vr14, vr15, vr16, vr17, vr18, vr19, vr20, vr21, vr22, vr23, vr24, vr25, vr26, vr27, vr28, vr29, vr30, vr31, vr32, vr33, vr34, opS, fpS, okP, pack, nAl, allocA, shId, leaves, fillA, fillR, splice, Nat.reduceLT, Nat.reduceEqDiff, Nat.reduceLeDiff, Nat.reduceAdd, Nat.reduceSub, Nat.reduceMul, Int.reduceBEq, Int.reduceBNe, Int.reduceLT, Int.reduceLE, Int.reduceEq, reduceIte, reduceCtorEq]
      · rw [q0 _ _ _ _ (by decide) d0 l0]; exact k0
      · rw [q0 _ _ _ _ (by decide) d1 l1]; exact k1
      · rw [q2]; rfl
      all_goals simp only [↓vp, vq0, vq1, vq2, vq3, vr0, vr1, vr2, vr3, vr4, vr5, vr6, vr7, vr8, vr9, vr10, vr11, vr12, vr13, vr14, vr15, vr16, vr17, vr18, vr19, vr20, vr21, vr22, vr23, vr24, vr25, vr26, vr27, vr28, vr29, vr30, vr31, vr32, vr33, vr34, opS, fpS, okP, pack, nAl, allocA, shId, leaves, fillA, fillR, splice, Nat.reduceLT, Nat.reduceEqDiff, Nat.reduceLeDiff, Nat.reduceAdd, Nat.reduceSub, Nat.reduceMul, Int.reduceBEq, Int.reduceBNe, Int.reduceLT, Int.reduceLE, Int.reduceEq, reduceIte, reduceCtorEq, da, int, boolA, h1, h2, h3, h12, h13]
theorem l47b (n : NodeM) (hs : n.kids.length ≤ 1000) {B0 B1 : Blk} (hn0 : ∀ s r, B0 ≠ .row false s r) (hn1 : ∀ s r, B1 ≠ .row false s r) {S : AV} {rows : List (List AV)} {Q : AExit → Env → Heap → Prop}
   (hex : ∀ f' K T, Rep K 2 T (n.kids.map kidC) → Rep K 4 S rows → K.get 0 = some B0 → K.get 1 = some B1 → K.get 2 = some (.box false [boolA n.leaf, S, T]) → f' 1 = .ptr 0 0 0 → f' 2 = .ptr 1 0 0 → f' 3 = .ptr 2 0 0 → Q (.exit 2) (mkE 40 f') (hx K [])) :
   ∀ (d i : Nat) (T : AV) (K : Heap) (f : Nat → AV), i + d = n.kids.length → Rep K 2 T ((n.kids.take i).map kidC) → Rep K 4 S rows → K.get 0 = some B0 → K.get 1 = some B1 → K.get 2 = some (.box false [boolA n.leaf, S, T]) →
    f 1 = .ptr 0 0 0 → f 2 = .ptr 1 0 0 → f 3 = .ptr 2 0 0 → f 26 = encK n.kids → f 27 = int n.kids.length → f 28 = int i →
    AW ft (.loop c47L1) (mkE 40 f) (hx K []) Q := by
  intro d
  induction d with
  | zero =>
    intro i T K f hd hr hrS k0 k1 k2 h1 h2 h3 h26 h27 h28
    have g : ((i : Int) < n.kids.length) = False := by simp; omega
    rw [AW_loop]
    unfold c47L1
    rw [List.take_of_length_le (by omega)] at hr
    simp only [↓vp, vq0, vq1, vq2, vq3, vr0, vr1, vr2, vr3, vr4, vr5, vr6, vr7, vr8, vr9, vr10, vr11, vr12, vr13, vr14, vr15, vr16, vr17, vr18, vr19, vr20, vr21, vr22, vr23, vr24, vr25, vr26, vr27, vr28, vr29, vr30, vr31, vr32, vr33, vr34, opS, fpS, okP, pack, nAl, allocA, shId, leaves, fillA, fillR, splice, Nat.reduceLT, Nat.reduceEqDiff, Nat.reduceLeDiff, Nat.reduceAdd, Nat.reduceSub, Nat.reduceMul, Int.reduceBEq, Int.reduceBNe, Int.reduceLT, Int.reduceLE, Int.reduceEq, reduceIte, reduceCtorEq, da, int, boolA, h27, h28, g]
    refine hex _ K T hr hrS k0 k1 k2 ?_ ?_ ?_ <;> simp only [↓vp, vq0, vq1, vq2, vq3, vr0, vr1, vr2, vr3, vr4, vr5, vr6, vr7, vr8, vr9, vr10, vr11, vr12, vr13, vr14, vr15, vr16, vr17, vr18, vr19, vr20, vr21, vr22, vr23, vr24, vr25, vr26, vr27, vr28, vr29, vr30, vr31, vr32, vr33, vr34, opS, fpS, okP, pack, nAl, allocA, shId, leaves, fillA, fillR, splice, Nat.reduceLT, Nat.reduceEqDiff, Nat.reduceLeDiff, Nat.reduceAdd, Nat.reduceSub, Nat.reduceMul, Int.reduceBEq, Int.reduceBNe, Int.reduceLT, Int.reduceLE, Int.reduceEq, reduceIte, reduceCtorEq, da, int, boolA, h1, h2, h3]
  | succ d ih =>
    intro i T K f hd hr hrS k0 k1 k2 h1 h2 h3 h26 h27 h28
    have g : ((i : Int) < n.kids.length) = True := by simp; omega
    have gi : i < n.kids.length := by omega
    have w1 := wrap_succ (show i < 9223372036854775807 by omega)
    have l0 := Heap.get_lt k0
    have l1 := Heap.get_lt k1
    have l2 := Heap.get_lt k2
    have o0 := fun L => hx_get_old K L 0 l0
    have o1 := fun L => hx_get_old K L 1 l1
    have o2 := fun L => hx_get_old K L 2 l2
    have p2 := fun L b => hx_set_old K L b 2 l2
    have ht : (n.kids.take (i + 1)).map kidC = (n.kids.take i).map kidC ++ [kidC n.kids[i]] := by
      rw [List.take_succ_eq_append_getElem gi, List.map_append]; rfl
    rw [AW_loop]
    unfold c47L1
    rcases hr with ⟨rfl, hr⟩ | ⟨id, rfl, hr⟩
    · simp only [↓vp, vq0, vq1, vq2, vq3, vr0, vr1, vr2, vr3, vr4, vr5, vr6, vr7, vr8, vr9, vr10, vr11, vr12, vr13, vr14, vr15, vr16, vr17, vr18, vr19, vr20, vr21, vr22, vr23, vr24, vr25, vr26, vr27, vr28, vr29, vr30, vr31, vr32, vr33, vr34, opS, fpS, okP, pack, nAl, allocA, shId, leaves, fillA, fillR, splice, Nat.reduceLT, Nat.reduceEqDiff, Nat.reduceLeDiff, Nat.reduceAdd, Nat.reduceSub, Nat.reduceMul, Int.reduceBEq, Int.reduceBNe, Int.reduceLT, Int.reduceLE, Int.reduceEq, reduceIte, reduceCtorEq, da, int, boolA, h1, h2, h3, h26, h27, h28, g, atK gi, cK gi, k2, o2, p2, w1]
      rw [← hx_nil (hx _ _)]
      have q0 : ∀ (j : Nat) (b : Blk) (L : List Blk), j ≠ 2 → j < K.next → (hx (K.set 2 b) L).get j = K.get j := fun j b L hj hl => by
        rw [hx_get_old _ _ _ (by simpa using hl), Heap.get_set_ne _ hj]
      have q2 : ∀ (b : Blk) (L : List Blk), (hx (K.set 2 b) L).get 2 = some b := fun b L => by
        rw [hx_get_old _ _ _ (by simpa using l2), Heap.get_set_self _ l2]
      have hS : Rep (hx (K.set 2 (.box false [boolA n.leaf, S, .sl (K.next + 2) 0 1])) [.box false (kidC n.kids[i]), .row false 2 [kidC n.kids[i]], .row false 2 [kidC n.kids[i]]]) 4 S rows := hrS.mono fun j hj => by
        rw [q0 _ _ _ (fun e => by subst e; rw [k2] at hj; cases hj) (Heap.get_lt hj)]
        exact hj
      refine ih (i + 1) (.sl (K.next + 2) 0 1) _ _ (by omega) (.inr ⟨K.next + 2, ?_, ?_⟩) hS ?_ ?_ ?_ ?_ ?_ ?_ ?_ ?_ ?_
      · rw [ht, hr]; rfl
      · rw [ht, hr]
        simp only [↓vp, vq0, vq1, vq2, vq3, vr0, vr1, vr2, vr3, vr4, vr5, vr6, vr7, vr8, vr9, vr10, vr11, vr12, vr13, vr14, vr15, vr16, vr17, vr18, vr19, vr20, vr21, vr22, vr23, vr24, vr25, vr26, vr27, vr28, vr29, vr30, vr31, vr32, vr33, vr34, opS, fpS, okP, pack, nAl, allocA, shId, leaves, fillA, fillR, splice, Nat.reduceLT, Nat.reduceEqDiff, Nat.reduceLeDiff, Nat.reduceAdd, Nat.reduceSub, Nat.reduceMul, Int.reduceBEq, Int.reduceBNe, Int.reduceLT, Int.reduceLE, Int.reduceEq, reduceIte, reduceCtorEq]
      · rw [q0 _ _ _ (by decide) l0]; exact k0
      · rw [q0 _ _ _ (by decide) l1]; exact k1
      · rw [q2]; rfl
      all_goals simp only [↓vp, vq0, vq1, vq2, vq3, vr0, vr1, vr2, vr3, vr4, vr5, vr6, vr7, vr8, vr9, vr10, vr11, vr12, vr13, vr14, vr15, vr16, vr17, vr18, vr19, vr20, vr21, vr22, vr23, vr24, vr25, vr26, vr27, vr28, vr29, vr30, vr31, vr32, vr33, vr34, opS, fpS, okP, pack, nAl, allocA, shId, leaves, fillA, fillR, splice, Nat.reduceLT, Nat.reduceEqDiff, Nat.reduceLeDiff, Nat.reduceAdd, Nat.reduceSub, Nat.reduceMul, Int.reduceBEq, Int.reduceBNe, Int.reduceLT, Int.reduceLE, Int.reduceEq, reduceIte, reduceCtorEq, da, int, boolA, h1, h2, h3, h26, h27]
    · have lid := Heap.get_lt hr
      have d0 : 0 ≠ id := fun e => by subst e; rw [k0] at hr; exact hn0 _ _ (Option.some.inj hr)
      have d1 : 1 ≠ id := fun e => by subst e; rw [k1] at hr; exact hn1 _ _ (Option.some.inj hr)
      have d2 : 2 ≠ id := fun e => by subst e; rw [k2] at hr; cases hr
      have oid := fun L => hx_get_old K L id lid
      have pid := fun L b => hx_set_old K L b id lid
      have o2' : ∀ (L : List Blk) (b : Blk), (hx (K.set id b) L).get 2 = K.get 2 := fun L b => by
        rw [hx_get_old _ _ _ (by simpa using l2), Heap.get_set_ne _ d2]
      have p2' : ∀ (L : List Blk) (b c : Blk), (hx (K.set id b) L).set 2 c = hx ((K.set id b).set 2 c) L := fun L b c => hx_set_old _ L c 2 (by simpa using l2)
      have hlen : ((n.kids.take i).map kidC).length = i := by simp; omega
      have hb : (i + 1) * 32 ≤ 140737488355328 := by omega
      have hr' := hr
      simp only [↓vp, vq0, vq1, vq2, vq3, vr0, vr1, vr2, vr3, vr4, vr5, vr6, vr7, vr8, vr9, vr10, vr11, vr12, vr13, vr14, vr15, vr16, vr17, vr18, vr19, vr20, vr21, vr22, vr23, vr24, vr25, vr26, vr27, vr28, vr29, vr30, vr31, vr32, vr33, vr34, opS, fpS, okP, pack, nAl, allocA, shId, leaves, fillA, fillR, splice, Nat.reduceLT, Nat.reduceEqDiff, Nat.reduceLeDiff, Nat.reduceAdd, Nat.reduceSub, Nat.reduceMul, Int.reduceBEq, Int.reduceBNe, Int.reduceLT, Int.reduceLE, Int.reduceEq, reduceIte, reduceCtorEq, da, int, boolA, h1, h2, h3, h26, h27, h28, g, atK gi, cK gi, k2, o2, p2, w1, oid, pid, o2', p2', hr, hlen, hb, List.take_of_length_le (Nat.le_of_eq hlen), List.length_take]
      rw [← hx_nil (hx _ _)]
      have q0 : ∀ (j : Nat) (b c : Blk) (L : List Blk), j ≠ 2 → j ≠ id → j < K.next → (hx ((K.set id c).set 2 b) L).get j = K.get j := fun j b c L hj hj2 hl => by
        rw [hx_get_old _ _ _ (by simpa using hl), Heap.get_set_ne _ hj, Heap.get_set_ne _ hj2]
      have q2 : ∀ (b c : Blk) (L : List Blk), (hx ((K.set id c).set 2 b) L).get 2 = some b := fun b c L => by
        rw [hx_get_old _ _ _ (by simpa using l2), Heap.get_set_self _ (by simpa using l2)]
      have hS : Rep (hx ((K.set id .dead).set 2 (.box false [boolA n.leaf, S, .sl (K.next + 2) 0 (i + 1)])) [.box false (kidC n.kids[i]), .row false 2 [kidC n.kids[i]], .row false 2 ((n.kids.take i).map kidC ++ [kidC n.kids[i]])]) 4 S rows := hrS.mono fun j hj => by
        rw [q0 _ _ _ _ (fun e => by subst e; rw [k2] at hj; cases hj) (fun e => by subst e; rw [hr'] at hj; cases hj) (Heap.get_lt hj)]
        exact hj
      refine ih (i + 1) (.sl (K.next + 2) 0 (i + 1)) _ _ (by omega) (.inr ⟨K.next + 2, ?_, ?_⟩) hS ?_ ?_ ?_ ?_ ?_ ?_ ?_ ?_ ?_
      · rw [ht, List.length_append, hlen]; rfl
      · rw [ht]
        simp only [↓vp, vq0, vq1, vq2, vq3, vr0, vr1, vr2, vr3, vr4, vr5, vr6, vr7, vr8, vr9, vr10, vr11, vr12, vr13, vr14, vr15, vr16, vr17, vr18, vr19, vr20, vr21, vr22, vr23, vr24, vr25, vr26, vr27, vr28, vr29, vr30, vr31, vr32, vr33, vr34, opS, fpS, okP, pack, nAl, allocA, shId, leaves, fillA, fillR, splice, Nat.reduceLT, Nat.reduceEqDiff, Nat.reduceLeDiff, Nat.reduceAdd, Nat.reduceSub, Nat.reduceMul, Int.reduceBEq, Int.reduceBNe, Int.reduceLT, Int.reduceLE, Int.reduceEq, reduceIte, reduceCtorEq]
      · rw [q0 _ _ _ _ (by decide) d0 l0]; exact k0
      · rw [q0 _ _ _ _ (by decide) d1 l1]; exact k1
      · rw [q2]; rfl
      all_goals simp only [↓vp, vq0, vq1, vq2, vq3, vr0, vr1, vr2, vr3, vr4, vr5, vr6, vr7, vr8, vr9, vr10, vr11, vr12, vr13, vr14, vr15, vr16, vr17, vr18, vr19, vr20, vr21, vr22, vr23, vr24, vr25, vr26, vr27, vr28, vr29, vr30, vr31, vr32, vr33, vr34, opS, fpS, okP, pack, nAl, allocA, shId, leaves, fillA, fillR, splice, Nat.reduceLT, Nat.reduceEqDiff, Nat.reduceLeDiff, Nat.reduceAdd, Nat.reduceSub, Nat.reduceMul, Int.reduceBEq, Int.reduceBNe, Int.reduceLT, Int.reduceLE, Int.reduceEq, reduceIte, reduceCtorEq, da, int, boolA, h1, h2, h3, h26, h27]
theorem s47 (n : NodeM) (hs : n.items.length ≤ 1000) (hs2 : n.kids.length ≤ 1000) (H : Heap) : callL ft (.fn (.func 47) [] []) [.agg (nodeC n)] H = some (.agg (nodeC n), H) := by
  refine call_p (as' := [.agg (nodeC n)]) rfl rfl (by simp) ?_
  unfold c47 r47
  simp only [↓vp, vq0, vq1, vq2, vq3, vr0, vr1, vr2, vr3, vr4, vr5, vr6, vr7, vr8, vr9, vr10, vr11, vr12, vr13, vr14, vr15, vr16, vr17, vr18, vr19, vr20, vr21, vr22, vr23, vr24, vr25, vr26, vr27, vr28, vr29, vr30, vr31, vr32, vr33, vr34, opS, fpS, okP, pack, nAl, allocA, shId, leaves, fillA, fillR, splice, Nat.reduceLT, Nat.reduceEqDiff, Nat.reduceLeDiff, Nat.reduceAdd, Nat.reduceSub, Nat.reduceMul, Int.reduceBEq, Int.reduceBNe, Int.reduceLT, Int.reduceLE, Int.reduceEq, reduceIte, reduceCtorEq, da, int, boolA]
  rw [← hx_nil (hx _ _)]
  refine l47a n hs (B0 := .box false (nodeC n)) (B1 := .box false [.sc (.bool false), .sc (.slice none 0 0), .sc (.slice none 0 0)]) (by simp) (by simp) (fun f' K S hr k0 k1 k2 h1 h2 h3 => ?_) n.items.length 0 (.sc (.slice none 0 0)) _ _ (by omega) (.inl ⟨rfl, rfl⟩) ?_ ?_ ?_ ?_ ?_ ?_ ?_ ?_ ?_
  · unfold c47R3
    have l0 := Heap.get_lt k0
    have l1 := Heap.get_lt k1
    have l2 := Heap.get_lt k2
    have o0 := fun L => hx_get_old K L 0 l0
    have o1 := fun L => hx_get_old K L 1 l1
    have o2 := fun L => hx_get_old K L 2 l2
    simp only [↓vp, vq0, vq1, vq2, vq3, vr0, vr1, vr2, vr3, vr4, vr5, vr6, vr7, vr8, vr9, vr10, vr11, vr12, vr13, vr14, vr15, vr16, vr17, vr18, vr19, vr20, vr21, vr22, vr23, vr24, vr25, vr26, vr27, vr28, vr29, vr30, vr31, vr32, vr33, vr34, opS, fpS, okP, pack, nAl, allocA, shId, leaves, fillA, fillR, splice, Nat.reduceLT, Nat.reduceEqDiff, Nat.reduceLeDiff, Nat.reduceAdd, Nat.reduceSub, Nat.reduceMul, Int.reduceBEq, Int.reduceBNe, Int.reduceLT, Int.reduceLE, Int.reduceEq, reduceIte, reduceCtorEq, da, int, boolA, h1, h2, h3, o0, k0]
    refine l47b n hs2 (B0 := .box false (nodeC n)) (by simp) (by simp) (fun f'' K' T hr' hs' k0' k1' k2' h1' h2' h3' => ?_) n.kids.length 0 (.sc (.slice none 0 0)) _ _ (by omega) (.inl ⟨rfl, rfl⟩) hr k0 k1 k2 ?_ ?_ ?_ ?_ ?_ ?_
    · unfold c47R2
      have l1' := Heap.get_lt k1'
      have l2' := Heap.get_lt k2'
      have o1' := fun L => hx_get_old K' L 1 l1'
      have o2' := fun L => hx_get_old K' L 2 l2'
      have p1' := fun L b => hx_set_old K' L b 1 l1'
      have v1 : ∀ L b, (hx (K'.set 1 b) L).get 1 = some b := fun L b => by
        rw [hx_get_old _ _ _ (by simpa using l1'), Heap.get_set_self _ l1']
      have gg : ∀ {j : Nat} {B : Blk} (L : List Blk) (b : Blk), K'.get j = some B → j ≠ 1 → (hx (K'.set 1 b) L).get j = some B := fun L b hj hne => by
        rw [hx_get_old _ _ _ (by simpa using Heap.get_lt hj), Heap.get_set_ne _ hne]
        exact hj
      have gs : ∀ {j : Nat} (L : List Blk) (b c : Blk), j < K'.next → (hx (K'.set 1 b) L).set j c = hx ((K'.set 1 b).set j c) L := fun L b c hj => hx_set_old _ L c _ (by simpa using hj)
      have g3 : ∀ {i j : Nat} {B : Blk} (L : List Blk) (b c : Blk), K'.get j = some B → j ≠ 1 → j ≠ i → (hx ((K'.set 1 b).set i c) L).get j = some B := fun L b c hj hne hne2 => by
        rw [hx_get_old _ _ _ (by simpa using Heap.get_lt hj), Heap.get_set_ne _ hne2, Heap.get_set_ne _ hne]
        exact hj
      rcases hs' with ⟨rfl, e1⟩ | ⟨i1, rfl, g1⟩ <;> rcases hr' with ⟨rfl, e2⟩ | ⟨i2, rfl, g2⟩
      · simp only [↓vp, vq0, vq1, vq2, vq3, vr0, vr1, vr2, vr3, vr4, vr5, vr6, vr7, vr8, vr9, vr10, vr11, vr12, vr13, vr14, vr15, vr16, vr17, vr18, vr19, vr20, vr21, vr22, vr23, vr24, vr25, vr26, vr27, vr28, vr29, vr30, vr31, vr32, vr33, vr34, opS, fpS, okP, pack, nAl, allocA, shId, leaves, fillA, fillR, splice, Nat.reduceLT, Nat.reduceEqDiff, Nat.reduceLeDiff, Nat.reduceAdd, Nat.reduceSub, Nat.reduceMul, Int.reduceBEq, Int.reduceBNe, Int.reduceLT, Int.reduceLE, Int.reduceEq, reduceIte, reduceCtorEq, da, int, boolA, RetP_go, resT, resC, resN, retV1, retV2, retV3, retV0, frzFZ, takeM, Option.some.injEq, h1', h2', h3', o1', o2', k1', k2', p1', v1, nodeC, encI, encK, e1, e2]
      · have n2 : i2 ≠ 1 := fun e => by subst e; rw [k1'] at g2; cases g2
        have q2 := fun L b => gg L b g2 n2
        simp only [↓vp, vq0, vq1, vq2, vq3, vr0, vr1, vr2, vr3, vr4, vr5, vr6, vr7, vr8, vr9, vr10, vr11, vr12, vr13, vr14, vr15, vr16, vr17, vr18, vr19, vr20, vr21, vr22, vr23, vr24, vr25, vr26, vr27, vr28, vr29, vr30, vr31, vr32, vr33, vr34, opS, fpS, okP, pack, nAl, allocA, shId, leaves, fillA, fillR, splice, Nat.reduceLT, Nat.reduceEqDiff, Nat.reduceLeDiff, Nat.reduceAdd, Nat.reduceSub, Nat.reduceMul, Int.reduceBEq, Int.reduceBNe, Int.reduceLT, Int.reduceLE, Int.reduceEq, reduceIte, reduceCtorEq, da, int, boolA, RetP_go, resT, resC, resN, retV1, retV2, retV3, retV0, frzFZ, takeM, Option.some.injEq, h1', h2', h3', o1', o2', k1', k2', p1', v1, q2, nodeC, encI, encK, e1]
      · have n1 : i1 ≠ 1 := fun e => by subst e; rw [k1'] at g1; cases g1
        have q1 := fun L b => gg L b g1 n1
        simp only [↓vp, vq0, vq1, vq2, vq3, vr0, vr1, vr2, vr3, vr4, vr5, vr6, vr7, vr8, vr9, vr10, vr11, vr12, vr13, vr14, vr15, vr16, vr17, vr18, vr19, vr20, vr21, vr22, vr23, vr24, vr25, vr26, vr27, vr28, vr29, vr30, vr31, vr32, vr33, vr34, opS, fpS, okP, pack, nAl, allocA, shId, leaves, fillA, fillR, splice, Nat.reduceLT, Nat.reduceEqDiff, Nat.reduceLeDiff, Nat.reduceAdd, Nat.reduceSub, Nat.reduceMul, Int.reduceBEq, Int.reduceBNe, Int.reduceLT, Int.reduceLE, Int.reduceEq, reduceIte, reduceCtorEq, da, int, boolA, RetP_go, resT, resC, resN, retV1, retV2, retV3, retV0, frzFZ, takeM, Option.some.injEq, h1', h2', h3', o1', o2', k1', k2', p1', v1, q1, nodeC, encI, encK, e2]
      · have n1 : i1 ≠ 1 := fun e => by subst e; rw [k1'] at g1; cases g1
        have n2 : i2 ≠ 1 := fun e => by subst e; rw [k1'] at g2; cases g2
        have n12 : i2 ≠ i1 := fun e => by subst e; rw [g1] at g2; cases g2
        have q1 := fun L b => gg L b g1 n1
        have q2 := fun L b c => g3 (i := i1) L b c g2 n2 n12
        have q3 := fun L b c => gs L b c (Heap.get_lt g1)
        simp only [↓vp, vq0, vq1, vq2, vq3, vr0, vr1, vr2, vr3, vr4, vr5, vr6, vr7, vr8, vr9, vr10, vr11, vr12, vr13, vr14, vr15, vr16, vr17, vr18, vr19, vr20, vr21, vr22, vr23, vr24, vr25, vr26, vr27, vr28, vr29, vr30, vr31, vr32, vr33, vr34, opS, fpS, okP, pack, nAl, allocA, shId, leaves, fillA, fillR, splice, Nat.reduceLT, Nat.reduceEqDiff, Nat.reduceLeDiff, Nat.reduceAdd, Nat.reduceSub, Nat.reduceMul, Int.reduceBEq, Int.reduceBNe, Int.reduceLT, Int.reduceLE, Int.reduceEq, reduceIte, reduceCtorEq, da, int, boolA, RetP_go, resT, resC, resN, retV1, retV2, retV3, retV0, frzFZ, takeM, Option.some.injEq, h1', h2', h3', o1', o2', k1', k2', p1', v1, q1, q2, q3, nodeC, encI, encK]
    all_goals first | rfl | (simp only [↓vp, vq0, vq1, vq2, vq3, vr0, vr1, vr2, vr3, vr4, vr5, vr6, vr7, vr8, vr9, vr10, vr11, vr12, vr13, vr14, vr15, vr16, vr17, vr18, vr19, vr20, vr21, vr22, vr23, vr24, vr25, vr26, vr27, vr28, vr29, vr30, vr31, vr32, vr33, vr34, opS, fpS, okP, pack, nAl, allocA, shId, leaves, fillA, fillR, splice, Nat.reduceLT, Nat.reduceEqDiff, Nat.reduceLeDiff, Nat.reduceAdd, Nat.reduceSub, Nat.reduceMul, Int.reduceBEq, Int.reduceBNe, Int.reduceLT, Int.reduceLE, Int.reduceEq, reduceIte, reduceCtorEq, da, int, boolA, h1, h2, h3]; done)
  all_goals first | rfl | (simp only [↓vp, vq0, vq1, vq2, vq3, vr0, vr1, vr2, vr3, vr4, vr5, vr6, vr7, vr8, vr9, vr10, vr11, vr12, vr13, vr14, vr15, vr16, vr17, vr18, vr19, vr20, vr21, vr22, vr23, vr24, vr25, vr26, vr27, vr28, vr29, vr30, vr31, vr32, vr33, vr34, opS, fpS, okP, pack, nAl, allocA, shId, leaves, fillA, fillR, splice, Nat.reduceLT, Nat.reduceEqDiff, Nat.reduceLeDiff, Nat.reduceAdd, Nat.reduceSub, Nat.reduceMul, Int.reduceBEq, Int.reduceBNe, Int.reduceLT, Int.reduceLE, Int.reduceEq, reduceIte, reduceCtorEq, da, int, boolA]; done)
end Go.VI

set_option linter.unusedVariables false
set_option linter.unusedSimpArgs false
set_option maxRecDepth 100000
namespace Go.VI
attribute [local congr] AW_congr OW_congr DW_congr NW_congr VW_congr GW_congr PW_congr KW_congr ite_congr' GV_congr CV_congr
theorem s69 {a b : Bytes} (ha : okB a) (hb : okB b) (H : Heap) : callL ft (.fn (.func 69) [] []) [encB a, encB b] H = some (int (cmpB a b), H) := by
  refine call_pprim (p := cmpP) rfl (as' := [encB a, encB b]) rfl ?_
  show ((bytesOfRows (a.map byteC)).bind fun l => (bytesOfRows (b.map byteC)).bind fun k => if byteR l && byteR k then some (AV.sc (.int .i64 (cmpB l k))) else none) = _
  have h1 : bytesOfRows (a.map byteC) = some a := bytesOfRows_map a
  have h2 : bytesOfRows (b.map byteC) = some b := bytesOfRows_map b
  rw [h1, h2, Option.bind_some, Option.bind_some, ha.r, hb.r]
  rfl
theorem k69 {a b : Bytes} (ha : okB a) (hb : okB b) {K : Heap} {L : List Blk} {Q : AV → Heap → Prop} : KW ft (.fn (.func 69) [] []) [encB a, encB b] (hx K L) Q ↔ Q (int (cmpB a b)) (hx K L) := KW_of (s69 ha hb _)
theorem s65 {a b : Bytes} (ha : okB a) (hb : okB b) (H : Heap) : callL ft (.fn (.func 65) [] []) [encB a, encB b] H = some (int (cmpB a b), H) := by
  refine call_p (as' := [encB a, encB b]) rfl rfl (by simp) ?_
  unfold c65 r65
  simp only [↓vp, vq0, vq1, vq2, vq3, vr0, vr1, vr2, vr3, vr4, vr5, vr6, vr7, vr8, vr9, vr10, vr11, vr12, vr13, vr14, vr15, vr16, vr17, vr18, vr19, vr20, vr21, vr22, vr23, vr24, vr25, vr26, vr27, vr28, vr29, vr30, vr31, vr32, vr33, vr34, opS, fpS, okP, pack, nAl, allocA, shId, leaves, fillA, fillR, splice, Nat.reduceLT, Nat.reduceEqDiff, Nat.reduceLeDiff, Nat.reduceAdd, Nat.reduceSub, Nat.reduceMul, Int.reduceBEq, Int.reduceBNe, Int.reduceLT, Int.reduceLE, Int.reduceEq, reduceIte, reduceCtorEq, da, int, boolA, RetP_go, resT, resC, resN, retV1, retV2, retV3, retV0, frzFZ, takeM, Option.some.injEq, k69, ha, hb]
theorem k65 {a b : Bytes} (ha : okB a) (hb : okB b) {K : Heap} {L : List Blk} {Q : AV → Heap → Prop} : KW ft (.fn (.func 65) [] []) [encB a, encB b] (hx K L) Q ↔ Q (int (cmpB a b)) (hx K L) := KW_of (s65 ha hb _)
theorem s40 {a b : Bytes} (ha : okB a) (hb : okB b) (H : Heap) : callL ft (.fn (.func 40) [] []) [encB a, encB b] H = some (int (cmpB a b), H) := by
  refine call_p (as' := [encB a, encB b]) rfl rfl (by simp) ?_
  unfold c40 r40
  simp only [↓vp, vq0, vq1, vq2, vq3, vr0, vr1, vr2, vr3, vr4, vr5, vr6, vr7, vr8, vr9, vr10, vr11, vr12, vr13, vr14, vr15, vr16, vr17, vr18, vr19, vr20, vr21, vr22, vr23, vr24, vr25, vr26, vr27, vr28, vr29, vr30, vr31, vr32, vr33, vr34, opS, fpS, okP, pack, nAl, allocA, shId, leaves, fillA, fillR, splice, Nat.reduceLT, Nat.reduceEqDiff, Nat.reduceLeDiff, Nat.reduceAdd, Nat.reduceSub, Nat.reduceMul, Int.reduceBEq, Int.reduceBNe, Int.reduceLT, Int.reduceLE, Int.reduceEq, reduceIte, reduceCtorEq, da, int, boolA, RetP_go, resT, resC, resN, retV1, retV2, retV3, retV0, frzFZ, takeM, Option.some.injEq, k65, ha, hb]
theorem k40 {a b : Bytes} (ha : okB a) (hb : okB b) {K : Heap} {L : List Blk} {Q : AV → Heap → Prop} : KW ft (.fn (.func 40) [] []) [encB a, encB b] (hx K L) Q ↔ Q (int (cmpB a b)) (hx K L) := KW_of (s40 ha hb _)
theorem s67 {x : ItemM} {b : Bytes} (ha : okB x.key) (hb : okB b) (H : Heap) : callL ft (.fn (.func 67) [] []) [.agg (itemC x), encB b] H = some (int (cmpB x.key b), H) := by
  refine call_p (as' := [.agg (itemC x), encB b]) rfl rfl (by simp) ?_
  unfold c67 r67
  simp only [↓vp, vq0, vq1, vq2, vq3, vr0, vr1, vr2, vr3, vr4, vr5, vr6, vr7, vr8, vr9, vr10, vr11, vr12, vr13, vr14, vr15, vr16, vr17, vr18, vr19, vr20, vr21, vr22, vr23, vr24, vr25, vr26, vr27, vr28, vr29, vr30, vr31, vr32, vr33, vr34, opS, fpS, okP, pack, nAl, allocA, shId, leaves, fillA, fillR, splice, Nat.reduceLT, Nat.reduceEqDiff, Nat.reduceLeDiff, Nat.reduceAdd, Nat.reduceSub, Nat.reduceMul, Int.reduceBEq, Int.reduceBNe, Int.reduceLT, Int.reduceLE, Int.reduceEq, reduceIte, reduceCtorEq, da, int, boolA, RetP_go, resT, resC, resN, retV1, retV2, retV3, retV0, frzFZ, takeM, Option.some.injEq, k40, ha, hb]
theorem k67 {x : ItemM} {b : Bytes} (ha : okB x.key) (hb : okB b) {K : Heap} {L : List Blk} {Q : AV → Heap → Prop} : KW ft (.fn (.func 67) [] []) [.agg (itemC x), encB b] (hx K L) Q ↔ Q (int (cmpB x.key b)) (hx K L) := KW_of (s67 ha hb _)
/-- Where it stops: between i and j. -/
def bsG (l : List ItemM) (key : Bytes) : Nat → Nat → Nat → Nat
  | 0, i, _ => i
  | n + 1, i, j => if i < j then (if cmpB ((l[(i + j) / 2]?).elim [] (·.key)) key < 0 then bsG l key n ((i + j) / 2 + 1) j else bsG l key n i ((i + j) / 2)) else i
def bsM (l : List ItemM) (key : Bytes) : Nat := bsG l key (l.length + 1) 0 l.length
theorem bin_shr1 (t : TypeId) (a : Int) : binA .shr t (.sc (.int .u64 a)) (.sc (.int .u64 1)) = some (.sc (.int .u64 (a.fdiv 2))) := by
  simp [binA, binOp, Op.shift, pureRun, ofScalar, isSc, pure, IntKind.bits]
theorem u64_in {n : Int} (h : 0 ≤ n ∧ n < 18446744073709551616) : IntKind.u64.wrap n = n := by
  simp only [IntKind.wrap, IntKind.bits, IntKind.signed]
  simp
  omega
theorem l66 (l : List ItemM) (key : Bytes) (hl : okI l) (hl2 : l.length < 4000000000000000000) (hk : okB key) {Q : AExit → Env → Heap → Prop}
   (hex : ∀ f', f' 0 = encI l → f' 1 = encB key → f' 2 = .fn (.func 67) [] [] → f' 8 = int l.length → f' 9 = int (bsM l key) → Q (.exit 0) (mkE 49 f') (hx Heap.empty [])) :
   ∀ (n i j : Nat) (f : Nat → AV), j < i + n → i ≤ j → j ≤ l.length → bsM l key = bsG l key n i j → f 0 = encI l → f 1 = encB key → f 2 = .fn (.func 67) [] [] → f 8 = int l.length → f 9 = int i → f 10 = int j →
    AW ft (.loop c66L0) (mkE 49 f) (hx Heap.empty []) Q := by
  intro n
  induction n with
  | zero => intro i j f hn hij; omega
  | succ n ih =>
    intro i j f hn hij hjl hc h0 h1 h2 h8 h9 h10
    rw [AW_loop]
    unfold c66L0
    by_cases hlt : i < j
    · have g : ((i : Int) < j) = True := by simp; omega
      have gi : (i + j) / 2 < l.length := by omega
      have w1 := wrap_succ (show (i + j) / 2 < 9223372036854775807 by omega)
      simp only [↓vp, vq0, vq1, vq2, vq3, vr0, vr1, vr2, vr3, vr4, vr5, vr6, vr7, vr8, vr9, vr10, vr11, vr12, vr13, vr14, vr15, vr16, vr17, vr18, vr19, vr20, vr21, vr22, vr23, vr24, vr25, vr26, vr27, vr28, vr29, vr30, vr31, vr32, vr33, vr34, opS, fpS, okP, pack, nAl, allocA, shId, leaves, fillA, fillR, splice, Nat.reduceLT, Nat.reduceEqDiff, Nat.reduceLeDiff, Nat.reduceAdd, Nat.reduceSub, Nat.reduceMul, Int.reduceBEq, Int.reduceBNe, Int.reduceLT, Int.reduceLE, Int.reduceEq, reduceIte, reduceCtorEq, da, int, boolA, h0, h1, h2, h8, h9, h10, g]
      have q1 : IntKind.u64.wrap (IntKind.i64.wrap ((i : Int) + j)) = ((i + j : Nat) : Int) := by
        rw [wrap_i64 (by omega), u64_in (by omega)]; omega
      have q2 : ((i + j : Nat) : Int).fdiv 2 = (((i + j) / 2 : Nat) : Int) := by
        rw [Int.fdiv_eq_ediv_of_nonneg _ (by omega)]; omega
      have q3 : IntKind.i64.wrap (((i + j) / 2 : Nat) : Int) = (((i + j) / 2 : Nat) : Int) := wrap_i64 (by omega)
      have hx1 := (hl.at_ gi).k
      have hel : (l[(i + j) / 2]?).elim [] (·.key) = l[(i + j) / 2].key := by rw [List.getElem?_eq_getElem gi]; rfl
      rw [bsG, if_pos hlt, hel] at hc
      by_cases e1 : cmpB l[(i + j) / 2].key key < 0
      · rw [if_pos e1] at hc
        simp only [↓vp, vq0, vq1, vq2, vq3, vr0, vr1, vr2, vr3, vr4, vr5, vr6, vr7, vr8, vr9, vr10, vr11, vr12, vr13, vr14, vr15, vr16, vr17, vr18, vr19, vr20, vr21, vr22, vr23, vr24, vr25, vr26, vr27, vr28, vr29, vr30, vr31, vr32, vr33, vr34, opS, fpS, okP, pack, nAl, allocA, shId, leaves, fillA, fillR, splice, Nat.reduceLT, Nat.reduceEqDiff, Nat.reduceLeDiff, Nat.reduceAdd, Nat.reduceSub, Nat.reduceMul, Int.reduceBEq, Int.reduceBNe, Int.reduceLT, Int.reduceLE, Int.reduceEq, reduceIte, reduceCtorEq, da, int, boolA, h0, h1, h2, h8, h9, h10, g, q1, q2, q3, bin_shr1, atI gi, cI gi, k67, hx1, hk, e1, w1]
        refine ih ((i + j) / 2 + 1) j _ (by omega) (by omega) hjl hc ?_ ?_ ?_ ?_ ?_ ?_ <;> simp only [↓vp, vq0, vq1, vq2, vq3, vr0, vr1, vr2, vr3, vr4, vr5, vr6, vr7, vr8, vr9, vr10, vr11, vr12, vr13, vr14, vr15, vr16, vr17, vr18, vr19, vr20, vr21, vr22, vr23, vr24, vr25, vr26, vr27, vr28, vr29, vr30, vr31, vr32, vr33, vr34, opS, fpS, okP, pack, nAl, allocA, shId, leaves, fillA, fillR, splice, Nat.reduceLT, Nat.reduceEqDiff, Nat.reduceLeDiff, Nat.reduceAdd, Nat.reduceSub, Nat.reduceMul, Int.reduceBEq, Int.reduceBNe, Int.reduceLT, Int.reduceLE, Int.reduceEq, reduceIte, reduceCtorEq, da, int, boolA, h0, h1, h2, h8, h9, h10]
      · rw [if_neg e1] at hc
        simp only [↓vp, vq0, vq1, vq2, vq3, vr0, vr1, vr2, vr3, vr4, vr5, vr6, vr7, vr8, vr9, vr10, vr11, vr12, vr13, vr14, vr15, vr16, vr17, vr18, vr19, vr20, vr21, vr22, vr23, vr24, vr25, vr26, vr27, vr28, vr29, vr30, vr31, vr32, vr33, vr34, opS, fpS, okP, pack, nAl, allocA, shId, leaves, fillA, fillR, splice, Nat.reduceLT, Nat.reduceEqDiff, Nat.reduceLeDiff, Nat.reduceAdd, Nat.reduceSub, Nat.reduceMul, Int.reduceBEq, Int.reduceBNe, Int.reduceLT, Int.reduceLE, Int.reduceEq, reduceIte, reduceCtorEq, da, int, boolA, h0, h1, h2, h8, h9, h10, g, q1, q2, q3, bin_shr1, atI gi, cI gi, k67, hx1, hk, e1, w1]
        refine ih i ((i + j) / 2) _ (by omega) (by omega) (by omega) hc ?_ ?_ ?_ ?_ ?_ ?_ <;> simp only [↓vp, vq0, vq1, vq2, vq3, vr0, vr1, vr2, vr3, vr4, vr5, vr6, vr7, vr8, vr9, vr10, vr11, vr12, vr13, vr14, vr15, vr16, vr17, vr18, vr19, vr20, vr21, vr22, vr23, vr24, vr25, vr26, vr27, vr28, vr29, vr30, vr31, vr32, vr33, vr34, opS, fpS, okP, pack, nAl, allocA, shId, leaves, fillA, fillR, splice, Nat.reduceLT, Nat.reduceEqDiff, Nat.reduceLeDiff, Nat.reduceAdd, Nat.reduceSub, Nat.reduceMul, Int.reduceBEq, Int.reduceBNe, Int.reduceLT, Int.reduceLE, Int.reduceEq, reduceIte, reduceCtorEq, da, int, boolA, h0, h1, h2, h8, h9, h10]
    · have g : ((i : Int) < j) = False := by simp; omega
      rw [bsG, if_neg hlt] at hc
      simp only [↓vp, vq0, vq1, vq2, vq3, vr0, vr1, vr2, vr3, vr4, vr5, vr6, vr7, vr8, vr9, vr10, vr11, vr12, vr13, vr14, vr15, vr16, vr17, vr18, vr19, vr20, vr21, vr22, vr23, vr24, vr25, vr26, vr27, vr28, vr29, vr30, vr31, vr32, vr33, vr34, opS, fpS, okP, pack, nAl, allocA, shId, leaves, fillA, fillR, splice, Nat.reduceLT, Nat.reduceEqDiff, Nat.reduceLeDiff, Nat.reduceAdd, Nat.reduceSub, Nat.reduceMul, Int.reduceBEq, Int.reduceBNe, Int.reduceLT, Int.reduceLE, Int.reduceEq, reduceIte, reduceCtorEq, da, int, boolA, h9, h10, g]
      refine hex _ ?_ ?_ ?_ ?_ ?_ <;> simp only [↓vp, vq0, vq1, vq2, vq3, vr0, vr1, vr2, vr3, vr4, vr5, vr6, vr7, vr8, vr9, vr10, vr11, vr12, vr13, vr14, vr15, vr16, vr17, vr18, vr19, vr20, vr21, vr22, vr23, vr24, vr25, vr26, vr27, vr28, vr29, vr30, vr31, vr32, vr33, vr34, opS, fpS, okP, pack, nAl, allocA, shId, leaves, fillA, fillR, splice, Nat.reduceLT, Nat.reduceEqDiff, Nat.reduceLeDiff, Nat.reduceAdd, Nat.reduceSub, Nat.reduceMul, Int.reduceBEq, Int.reduceBNe, Int.reduceLT, Int.reduceLE, Int.reduceEq, reduceIte, reduceCtorEq, da, int, boolA, h0, h1, h2, h8, h9, hc]
/-- Does it stand where the search stopped? -/
def bsIs (l : List ItemM) (key : Bytes) : Bool := match l[bsM l key]? with
  | some x => cmpB x.key key == 0
  | none => false
theorem s66 (l : List ItemM) (key : Bytes) (hl : okI l) (hl2 : l.length < 4000000000000000000) (hk : okB key) (H : Heap) : callL ft (.fn (.func 66) [] []) [encI l, encB key, .fn (.func 67) [] []] H = some (.tup [int (bsM l key), boolA (bsIs l key)], H) := by
  refine call_p (as' := [encI l, encB key, .fn (.func 67) [] []]) rfl rfl (by simp) ?_
  unfold c66 r66
  simp only [↓vp, vq0, vq1, vq2, vq3, vr0, vr1, vr2, vr3, vr4, vr5, vr6, vr7, vr8, vr9, vr10, vr11, vr12, vr13, vr14, vr15, vr16, vr17, vr18, vr19, vr20, vr21, vr22, vr23, vr24, vr25, vr26, vr27, vr28, vr29, vr30, vr31, vr32, vr33, vr34, opS, fpS, okP, pack, nAl, allocA, shId, leaves, fillA, fillR, splice, Nat.reduceLT, Nat.reduceEqDiff, Nat.reduceLeDiff, Nat.reduceAdd, Nat.reduceSub, Nat.reduceMul, Int.reduceBEq, Int.reduceBNe, Int.reduceLT, Int.reduceLE, Int.reduceEq, reduceIte, reduceCtorEq, da, int, boolA]
  refine l66 l key hl hl2 hk (fun f' h0 h1 h2 h8 h9 => ?_) (l.length + 1) 0 l.length _ (by omega) (by omega) (by omega) rfl ?_ ?_ ?_ ?_ ?_ ?_
  · unfold c66R1
    by_cases g : bsM l key < l.length
    · have g' : ((bsM l key : Int) < l.length) = True := by simp; omega
      have hx1 := (hl.at_ g).k
      have hel : l[bsM l key]? = some l[bsM l key] := List.getElem?_eq_getElem g
      simp only [↓vp, vq0, vq1, vq2, vq3, vr0, vr1, vr2, vr3, vr4, vr5, vr6, vr7, vr8, vr9, vr10, vr11, vr12, vr13, vr14, vr15, vr16, vr17, vr18, vr19, vr20, vr21, vr22, vr23, vr24, vr25, vr26, vr27, vr28, vr29, vr30, vr31, vr32, vr33, vr34, opS, fpS, okP, pack, nAl, allocA, shId, leaves, fillA, fillR, splice, Nat.reduceLT, Nat.reduceEqDiff, Nat.reduceLeDiff, Nat.reduceAdd, Nat.reduceSub, Nat.reduceMul, Int.reduceBEq, Int.reduceBNe, Int.reduceLT, Int.reduceLE, Int.reduceEq, reduceIte, reduceCtorEq, da, int, boolA, RetP_go, resT, resC, resN, retV1, retV2, retV3, retV0, frzFZ, takeM, Option.some.injEq, h0, h1, h2, h8, h9, g', atI g, cI g, k67, hx1, hk, bsIs, hel]
    · have g' : ((bsM l key : Int) < l.length) = False := by simp; omega
      have hel : l[bsM l key]? = none := List.getElem?_eq_none (by omega)
      simp only [↓vp, vq0, vq1, vq2, vq3, vr0, vr1, vr2, vr3, vr4, vr5, vr6, vr7, vr8, vr9, vr10, vr11, vr12, vr13, vr14, vr15, vr16, vr17, vr18, vr19, vr20, vr21, vr22, vr23, vr24, vr25, vr26, vr27, vr28, vr29, vr30, vr31, vr32, vr33, vr34, opS, fpS, okP, pack, nAl, allocA, shId, leaves, fillA, fillR, splice, Nat.reduceLT, Nat.reduceEqDiff, Nat.reduceLeDiff, Nat.reduceAdd, Nat.reduceSub, Nat.reduceMul, Int.reduceBEq, Int.reduceBNe, Int.reduceLT, Int.reduceLE, Int.reduceEq, reduceIte, reduceCtorEq, da, int, boolA, RetP_go, resT, resC, resN, retV1, retV2, retV3, retV0, frzFZ, takeM, Option.some.injEq, h0, h1, h2, h8, h9, g', bsIs, hel]
  all_goals first | rfl | (simp only [↓vp, vq0, vq1, vq2, vq3, vr0, vr1, vr2, vr3, vr4, vr5, vr6, vr7, vr8, vr9, vr10, vr11, vr12, vr13, vr14, vr15, vr16, vr17, vr18, vr19, vr20, vr21, vr22, vr23, vr24, vr25, vr26, vr27, vr28, vr29, vr30, vr31, vr32, vr33, vr34, opS, fpS, okP, pack, nAl, allocA, shId, leaves, fillA, fillR, splice, Nat.reduceLT, Nat.reduceEqDiff, Nat.reduceLeDiff, Nat.reduceAdd, Nat.reduceSub, Nat.reduceMul, Int.reduceBEq, Int.reduceBNe, Int.reduceLT, Int.reduceLE, Int.reduceEq, reduceIte, reduceCtorEq, da, int, boolA]; done)
theorem k66 {l : List ItemM} {key : Bytes} (hl : okI l) (hl2 : l.length < 4000000000000000000) (hk : okB key) {K : Heap} {L : List Blk} {Q : AV → Heap → Prop} :
    KW ft (.fn (.func 66) [] []) [encI l, encB key, .fn (.func 67) [] []] (hx K L) Q ↔ Q (.tup [int (bsM l key), boolA (bsIs l key)]) (hx K L) := KW_of (s66 l key hl hl2 hk _)
theorem s43 (n : NodeM) (key : Bytes) (hn : okN n) (hl2 : n.items.length < 4000000000000000000) (hk : okB key) (H : Heap) : callL ft (.fn (.func 43) [] []) [.agg (nodeC n), encB key] H = some (.tup [int (bsM n.items key), boolA (bsIs n.items key)], H) := by
  refine call_p (as' := [.agg (nodeC n), encB key]) rfl rfl (by simp) ?_
  have h1 := hn.i
  unfold c43 r43
  simp only [↓vp, vq0, vq1, vq2, vq3, vr0, vr1, vr2, vr3, vr4, vr5, vr6, vr7, vr8, vr9, vr10, vr11, vr12, vr13, vr14, vr15, vr16, vr17, vr18, vr19, vr20, vr21, vr22, vr23, vr24, vr25, vr26, vr27, vr28, vr29, vr30, vr31, vr32, vr33, vr34, opS, fpS, okP, pack, nAl, allocA, shId, leaves, fillA, fillR, splice, Nat.reduceLT, Nat.reduceEqDiff, Nat.reduceLeDiff, Nat.reduceAdd, Nat.reduceSub, Nat.reduceMul, Int.reduceBEq, Int.reduceBNe, Int.reduceLT, Int.reduceLE, Int.reduceEq, reduceIte, reduceCtorEq, da, int, boolA, RetP_go, resT, resC, resN, retV1, retV2, retV3, retV0, frzFZ, takeM, Option.some.injEq, k66, h1, hl2, hk]
theorem k43 {n : NodeM} {key : Bytes} (hn : okN n) (hl2 : n.items.length < 4000000000000000000) (hk : okB key) {K : Heap} {L : List Blk} {Q : AV → Heap → Prop} :
    KW ft (.fn (.func 43) [] []) [.agg (nodeC n), encB key] (hx K L) Q ↔ Q (.tup [int (bsM n.items key), boolA (bsIs n.items key)]) (hx K L) := KW_of (s43 n key hn hl2 hk _)
end Go.VI
