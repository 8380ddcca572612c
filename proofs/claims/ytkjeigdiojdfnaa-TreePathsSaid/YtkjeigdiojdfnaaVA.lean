/- VI, part A: abstract values, an abstract heap, resolved code, and the interpreter. Generic in the program. -/
import Derived.Calls
import Derived.Laws.BytesArg
set_option linter.unusedVariables false
set_option linter.unusedSimpArgs false
namespace Go.VI

/-- Values without addresses: finished slices are lists of rows of cells; boxes and growing slices have numbers. -/
inductive AV where
  | bad
  | sc (v : Value)
  | agg (cs : List AV)
  | lst (rows : List (List AV))
  | sl (id off len : Nat)
  | ptr (id i off : Nat)
  | pim (rows : List (List AV)) (i off : Nat)
  | fn (f : Fn) (first caps : List AV)
  | mp (id : Nat)
  | tup (vs : List AV)
  deriving Inhabited

/-- One-cell values that hold no address. -/
def isSc : Value → Bool
  | .bool _ | .int _ _ | .string _ | .nilFunc | .nilIface | .pointer none | .map none => true
  | .slice none 0 0 => true
  | _ => false

/-- May it stand in one cell? -/
def AV.one : AV → Bool
  | .bad | .agg _ | .tup _ => false
  | _ => true
def AV.cells : AV → List AV
  | .agg cs => cs
  | v => [v]

inductive Blk where
  | dead
  | box (fz : Bool) (cs : List AV)
  | row (fz : Bool) (sz : Nat) (rs : List (List AV))
  | mpb (kd : Option IntKind) (es : List (AV × AV))
  deriving Inhabited

structure Heap where
  bs : List Blk
def Heap.empty : Heap := ⟨[]⟩
def Heap.next (H : Heap) : Nat := H.bs.length
def Heap.get (H : Heap) (id : Nat) : Option Blk := H.bs[id]?
def Heap.push (H : Heap) (b : Blk) : Heap := ⟨H.bs ++ [b]⟩
def Heap.set (H : Heap) (id : Nat) (b : Blk) : Heap := ⟨H.bs.set id b⟩
/-- A new block at a number that is free. -/
def Heap.put (H : Heap) (id : Nat) (b : Blk) : Heap := if id < H.next then H.set id b else H.push b
/-- Room for n blocks. -/
def Heap.pad (H : Heap) (n : Nat) : Heap := ⟨H.bs ++ List.replicate n .dead⟩

section
variable (H : Heap) (b : Blk) (id : Nat)
@[simp] theorem Heap.next_push : (H.push b).next = H.next + 1 := by simp [Heap.next, Heap.push]
@[simp] theorem Heap.next_set : (H.set id b).next = H.next := by simp [Heap.next, Heap.set]
@[simp] theorem Heap.next_empty : Heap.empty.next = 0 := rfl
@[simp] theorem Heap.get_push_new : (H.push b).get H.next = some b := by simp [Heap.get, Heap.push, Heap.next]
theorem Heap.get_push_old (h : id < H.next) : (H.push b).get id = H.get id := by
  simp only [Heap.get, Heap.push, Heap.next] at *
  rw [List.getElem?_append_left h]
theorem Heap.get_push_ne (h : id ≠ H.next) : (H.push b).get id = H.get id := by
  rcases Nat.lt_or_ge id H.next with h1 | h1
  · exact Heap.get_push_old H b id h1
  · simp only [Heap.get, Heap.push, Heap.next] at *
    rw [List.getElem?_eq_none (by simp; omega), List.getElem?_eq_none h1]
theorem Heap.get_lt {H : Heap} {id : Nat} {b : Blk} (h : H.get id = some b) : id < H.next := by
  simp only [Heap.get, Heap.next] at *
  exact (List.getElem?_eq_some_iff.1 h).1
theorem Heap.get_set_self {H : Heap} {id : Nat} (b : Blk) (h : id < H.next) : (H.set id b).get id = some b := by
  simp only [Heap.get, Heap.set, Heap.next] at *
  rw [List.getElem?_set_self h]
theorem Heap.get_set_ne {H : Heap} {id j : Nat} (b : Blk) (h : j ≠ id) : (H.set id b).get j = H.get j := by
  simp only [Heap.get, Heap.set]
  rw [List.getElem?_set_ne (Ne.symm h)]
theorem Heap.put_next : H.put H.next b = H.push b := by simp [Heap.put]
theorem Heap.next_put_le : H.next ≤ (H.put id b).next := by
  unfold Heap.put
  split <;> simp
theorem Heap.lt_next_put {H : Heap} {id : Nat} (b : Blk) (h : id ≤ H.next) : id < (H.put id b).next := by
  unfold Heap.put
  split
  · simpa using ‹id < H.next›
  · simp; omega
theorem Heap.get_put_self {H : Heap} {id : Nat} (b : Blk) (h : id ≤ H.next) : (H.put id b).get id = some b := by
  unfold Heap.put
  split
  · exact Heap.get_set_self b ‹_›
  · have : id = H.next := by omega
    subst this
    simp
theorem Heap.get_put_ne {H : Heap} {id j : Nat} (b : Blk) (h : id ≤ H.next) (hj : j ≠ id) : (H.put id b).get j = H.get j := by
  unfold Heap.put
  split
  · exact Heap.get_set_ne b hj
  · have : id = H.next := by omega
    subst this
    exact Heap.get_push_ne H b j hj
theorem Heap.next_pad (n : Nat) : (H.pad n).next = H.next + n := by simp [Heap.next, Heap.pad]
theorem Heap.get_pad (n : Nat) (h : id < H.next) : (H.pad n).get id = H.get id := by
  simp only [Heap.get, Heap.pad, Heap.next] at *
  rw [List.getElem?_append_left h]
theorem Heap.get_pad_new (n i : Nat) (h : i < n) : (H.pad n).get (H.next + i) = some .dead := by
  simp only [Heap.get, Heap.pad, Heap.next] at *
  rw [List.getElem?_append_right (by omega)]
  simp [h]
theorem Heap.ext {H H' : Heap} (h : ∀ id, H.get id = H'.get id) : H = H' := by
  cases H; cases H'
  congr 1
  exact List.ext_getElem? h
end

/-! ### the resolved code -/
inductive AOp where
  | mov (x : Operand)
  | pick (c a b : Operand)
  | alloc (z : List AV)
  | box (n : Nat) (x : Operand)
  | build (z : List AV) (parts : List (Nat × Nat × Operand))
  | bslice (sz : Nat) (z : List AV) (len : Nat) (parts : List (Nat × Operand))
  | load (agg : Bool) (n : Nat) (a : Operand)
  | store (n : Nat) (a x : Operand)
  | nilck (x : Operand)
  | bin (op : BinOp) (t : TypeId) (x y : Operand)
  | isnil (neg : Bool) (kd : Nat) (x : Operand)
  | eqs (neg : Bool) (ks : List Nat) (x y : Operand)
  | eqb (neg : Bool) (x y : Operand)
  | un (op : UnOp) (x : Operand)
  | conv (k : IntKind) (x : Operand)
  | stringish (x : Operand)
  | tostr (x : Operand)
  | mkfn (f : Fn) (first caps : List Operand)
  | mkslice (sz bytes : Nat) (z : List AV) (l c : Operand)
  | slice (sz : Nat) (x : Operand) (lo hi mx : Option Operand)
  | slstr (x : Operand) (lo hi : Option Operand)
  | faddr (off : Nat) (x : Operand)
  | field (agg : Bool) (off n : Nat) (x : Operand)
  | iaddr (arr : Option Nat) (sz : Nat) (x ix : Operand)
  | index (len : Nat) (agg : Bool) (sz : Nat) (x ix : Operand)
  | ext (x : Operand) (i : Nat)
  | len (kd : Nat) (x : Operand)
  | mx2 (x y : Operand)
  | mn2 (x y : Operand)
  | app (sz bytes : Nat) (s x : Operand)
  | copy (sz : Nat) (d s : Operand)
  | mkmap (kd : Option IntKind)
  | look (kd : Option IntKind) (z : AV) (m k : Operand) (ok : Bool)
  | mput (kd : Option IntKind) (m k v : Operand)
  | call (f : Operand) (args : List Operand)

structure AOper where
  dst : Option Nat
  op : AOp
  guard : Option (Option Nat × Bool)

inductive ACode where
  | skip
  | region (ops : List AOper) (draw : Bool) (prs : List (Nat × Nat))
  | seq (a b : ACode)
  | cond (c : Operand) (a b : ACode)
  | block (id : Nat) (c : ACode)
  | loop (c : ACode)
  | exit (id : Nat)
  | ret

inductive AExit where
  | normal
  | exit (id : Nat)
  | ret
  deriving DecidableEq

inductive ARes where
  | tmp (t : Nat)
  | cell (t : Nat) (agg : Bool) (n : Nat)

inductive FDef where
  | go (pure : Bool) (ntmps : Nat) (res : List ARes) (body : ACode)
  | prim (f : List AV → Heap → Option (AV × Heap))
  | pprim (f : List AV → Option AV)

abbrev FT := Nat → Option FDef
abbrev Env := List AV

/-! ### evaluation -/
def ofCellC (v : Value) : AV := if isSc v then .sc v else .bad
def ofC : Value → AV
  | .agg cs => if cs.toList.all isSc then .agg (cs.toList.map .sc) else .bad
  | v => ofCellC v
def ev (e : Env) : Operand → AV
  | .tmp t => e.getD t .bad
  | .const v => ofC v
  | .global _ => .bad
  | .func f => .fn (.func f) [] []

def pureRun {α : Type} : Sem α → Option α
  | .pure a => some a
  | _ => none
def toV : AV → Option Value
  | .sc v => some v
  | _ => none
def toI : AV → Option Int
  | .sc (.int _ n) => some n
  | _ => none
def toB : AV → Option Bool
  | .sc (.bool b) => some b
  | _ => none
def ofScalar (v : Value) : Option AV := if isSc v then some (.sc v) else none

/-- Cells read from a pointer. -/
def cellsAt (H : Heap) : AV → Nat → Option (List AV)
  | .ptr id i off, n =>
    match H.get id with
    | some (.box _ cs) => if i = 0 ∧ off + n ≤ cs.length then some ((cs.drop off).take n) else none
    | some (.row _ _ rs) => match rs[i]? with
      | some r => if off + n ≤ r.length then some ((r.drop off).take n) else none
      | none => none
    | _ => none
  | .pim rows i off, n => match rows[i]? with
    | some r => if off + n ≤ r.length then some ((r.drop off).take n) else none
    | none => none
  | _, _ => none
def pack (agg : Bool) (cs : List AV) : Option AV :=
  if agg then some (.agg cs) else match cs with
    | [c] => some c
    | _ => none

/-- The rows that a slice shows. -/
def rowsOf (H : Heap) : AV → Option (List (List AV))
  | .sc (.slice none 0 0) => some []
  | .lst rows => some rows
  | .sl id off len =>
    match H.get id with
    | some (.row _ _ rs) => if off + len ≤ rs.length then some ((rs.drop off).take len) else none
    | _ => none
  | _ => none
/-- A length: 0: of a slice, 1: of a string. -/
def lenOfA : Nat → AV → Option Nat
  | 0, .sc (.slice none 0 0) => some 0
  | 0, .lst rows => some rows.length
  | 0, .sl _ _ len => some len
  | 1, .sc (.string s) => some s.size
  | _, _ => none

/-- Frozen: nothing in it has a number; a nil slice is an empty one. Blocks that it leads to are never written again. -/
def frz : Nat → Heap → AV → Option (AV × Heap)
  | 0, _, _ => none
  | n + 1, H, v =>
    match v with
    | .bad => none
    | .sc v => if v matches .slice .. then some (.lst [], H) else some (.sc v, H)
    | .lst rows => some (.lst rows, H)
    | .pim rows i off => some (.pim rows i off, H)
    | .agg cs => (frzL n H cs).map fun (cs, H) => (.agg cs, H)
    | .tup cs => (frzL n H cs).map fun (cs, H) => (.tup cs, H)
    | .fn f first caps => do
      let (first, H) ← frzL n H first
      let (caps, H) ← frzL n H caps
      some (.fn f first caps, H)
    | .sl id off len =>
      match H.get id with
      | some (.row fz sz rs) => if off + len ≤ rs.length then some (.lst ((rs.drop off).take len), if fz then H else H.set id (.row true sz rs)) else none
      | _ => none
    | .ptr id i off =>
      match H.get id with
      | some (.row fz sz rs) => some (.pim rs i off, if fz then H else H.set id (.row true sz rs))
      | some (.box true cs) => if i = 0 then some (.pim [cs] 0 off, H) else none
      | some (.box false cs) => if i = 0 then do
          let (cs, H) ← frzL n H cs
          match H.get id with
          | some (.box false _) => some (.pim [cs] 0 off, H.set id (.box true cs))
          | _ => none
        else none
      | _ => none
    | .mp _ => none
where
  frzL : Nat → Heap → List AV → Option (List AV × Heap)
    | 0, _, _ => none
    | _ + 1, H, [] => some ([], H)
    | n + 1, H, c :: cs => do
      let (c, H) ← frz n H c
      let (cs, H) ← frzL n H cs
      some (c :: cs, H)


/-! ### operations -/
def oneAll (cs : List AV) : Bool := cs.all AV.one
def splice {α : Type} (l : List α) (off : Nat) (xs : List α) : List α := l.take off ++ xs ++ l.drop (off + xs.length)
def FZ : Nat := 24
def frzCells (H : Heap) (cs : List AV) : Option (List AV × Heap) := frz.frzL FZ H cs

def fillA (z : List AV) : List (Nat × Nat × AV) → Option (List AV)
  | [] => some z
  | (off, n, v) :: rest => if v.cells.length = n ∧ off + n ≤ z.length ∧ oneAll v.cells = true then fillA (splice z off v.cells) rest else none
def fillR (sz : Nat) (rs : List (List AV)) (H : Heap) : List (Nat × AV) → Option (List (List AV) × Heap)
  | [] => some (rs, H)
  | (i, v) :: rest => if v.cells.length = sz ∧ i < rs.length ∧ oneAll v.cells = true then
      (frzCells H v.cells).bind fun (cs, H) => fillR sz (rs.set i cs) H rest
    else none

def storeA (H : Heap) (p : AV) (n : Nat) (v : AV) : Option Heap :=
  if v.cells.length = n ∧ oneAll v.cells = true then
    match p with
    | .ptr id i off =>
      match H.get id with
      | some (.box false cs) => if i = 0 ∧ off + n ≤ cs.length then some (H.set id (.box false (splice cs off v.cells))) else none
      | some (.row false _ _) => (frzCells H v.cells).bind fun (cs, H) =>
          match H.get id with
          | some (.row false sz rs) => match rs[i]? with
            | some r => if off + n ≤ r.length then some (H.set id (.row false sz (rs.set i (splice r off cs)))) else none
            | none => none
          | _ => none
      | _ => none
    | _ => none
  else none

def binA (op : BinOp) (t : TypeId) (x y : AV) : Option AV :=
  match x, y with
  | .sc .nilIface, _ => none
  | .sc a, .sc b => (pureRun (binOp op t a b)).bind ofScalar
  | _, _ => none
/-- Is it nil? 0: a slice, 1: a pointer, 2: a map, 3: a function. -/
def isnilA : Nat → AV → Option Bool
  | 0, .sc (.slice none 0 0) => some true
  | 0, .lst (_ :: _) => some false
  | 0, .sl _ _ _ => some false
  | 1, .sc (.pointer none) => some true
  | 1, .ptr _ _ _ => some false
  | 1, .pim _ _ _ => some false
  | 2, .sc (.map none) => some true
  | 2, .mp _ => some false
  | 3, .sc .nilFunc => some true
  | 3, .fn _ _ _ => some false
  | _, _ => none
/-- Equal cells of a kind (0: whole numbers, 1: bools, 2: strings). -/
def scEq : Nat → AV → AV → Option Bool
  | 0, .sc (.int j a), .sc (.int k b) => if j = k then some (a == b) else none
  | 1, .sc (.bool a), .sc (.bool b) => some (a == b)
  | 2, .sc (.string a), .sc (.string b) => some (a.toList == b.toList)
  | _, _, _ => none
def eqsA : List Nat → List AV → List AV → Option Bool
  | [], [], [] => some true
  | k :: ks, a :: as, b :: bs => (scEq k a b).bind fun r => if r then eqsA ks as bs else if as.length = ks.length ∧ bs.length = ks.length then some false else none
  | _, _, _ => none
def bytesOfRows : List (List AV) → Option (List Int)
  | [] => some []
  | [.sc (.int .u8 n)] :: rs => (bytesOfRows rs).map fun l => n :: l
  | _ => none

def optI (e : Env) : Option Operand → Option (Option Int)
  | none => some none
  | some x => (toI (ev e x)).map some
/-- low, high of a slice expression, the length at hand. -/
def boundsA (n : Nat) (lo hi mx : Option Int) : Option (Nat × Nat) :=
  let m := mx.getD n
  let h := hi.getD n
  let l := lo.getD 0
  if 0 ≤ l ∧ l ≤ h ∧ h ≤ m ∧ m ≤ n then some (l.toNat, h.toNat) else none
def allSz (sz : Nat) (rows : List (List AV)) : Bool := rows.all fun r => r.length == sz
def rowSz (H : Heap) (id : Nat) : Option Nat :=
  match H.get id with
  | some (.row _ sz _) => some sz
  | _ => none
def sliceA (H : Heap) (sz : Nat) (v : AV) (lo hi mx : Option Int) : Option AV :=
  match v with
  | .lst rows => (boundsA rows.length lo hi mx).bind fun (l, h) => if l = 0 ∨ allSz sz rows = true then some (.lst ((rows.drop l).take (h - l))) else none
  | .sl id off len => if rowSz H id = some sz then (boundsA len lo hi mx).map fun (l, h) => if 0 < l ∧ l = h then .lst [] else .sl id (off + l) (h - l) else none
  | .sc (.slice none 0 0) => (boundsA 0 lo hi mx).map fun _ => .sc (.slice none 0 0)
  | _ => none

def iaddrA (H : Heap) (arr : Option Nat) (sz : Nat) (x : AV) (i : Int) : Option AV :=
  match arr, x with
  | none, .lst rows => if 0 ≤ i then match rows[i.toNat]? with
      | some r => if r.length = sz then some (.pim rows i.toNat 0) else none
      | none => none
    else none
  | none, .sl id off len => if 0 ≤ i ∧ i < len ∧ rowSz H id = some sz then some (.ptr id (off + i.toNat) 0) else none
  | some n, .ptr id j off => if 0 ≤ i ∧ i < n then some (.ptr id j (off + i.toNat * sz)) else none
  | some n, .pim rows j off => if 0 ≤ i ∧ i < n then some (.pim rows j (off + i.toNat * sz)) else none
  | _, _ => none

/-- append: what the slice shows and what comes; a new block, the elder one dead. -/
def appA (nid : Nat) (H : Heap) (sz bytes : Nat) (s : AV) (xs : List (List AV)) : Option (AV × Heap) :=
  match s with
  | .sc (.slice none 0 0) =>
    if xs.length = 0 then some (s, H)
    else if xs.length * bytes ≤ 140737488355328 ∧ allSz sz xs = true then some (.sl nid 0 xs.length, H.put nid (.row false sz xs)) else none
  | .sl id off len =>
    match H.get id with
    | some (.row false sz' rs) =>
      if sz' = sz ∧ off + len ≤ rs.length ∧ (len + xs.length) * bytes ≤ 140737488355328 ∧ allSz sz xs = true then
        some (.sl nid 0 (len + xs.length), (H.set id .dead).put nid (.row false sz ((rs.drop off).take len ++ xs)))
      else none
    | _ => none
  | _ => none
def copyA (H : Heap) (sz : Nat) (d : AV) (xs : List (List AV)) : Option (Nat × Heap) :=
  match d with
  | .sl id off len =>
    match H.get id with
    | some (.row false sz' rs) => if sz' = sz ∧ off + len ≤ rs.length ∧ allSz sz xs = true then
        some (min xs.length len, H.set id (.row false sz (splice rs off (xs.take (min xs.length len)))))
      else none
    | _ => none
  | _ => if lenOfA 0 d = some 0 then some (0, H) else none

def keyEq : AV → AV → Bool
  | .sc (.int _ a), .sc (.int _ b) => a == b
  | .sc (.string a), .sc (.string b) => a == b
  | _, _ => false
/-- A key of a kind: whole numbers, or strings. -/
def keyOk : Option IntKind → AV → Bool
  | some k, .sc (.int j _) => j == k
  | none, .sc (.string _) => true
  | _, _ => false
def lookE (k : AV) : List (AV × AV) → Option AV
  | [] => none
  | (j, v) :: es => if keyEq k j then some v else lookE k es
def putE (k v : AV) : List (AV × AV) → List (AV × AV)
  | [] => [(k, v)]
  | (j, u) :: es => if keyEq k j then (k, v) :: es else (j, u) :: putE k v es

/-- One operation (but a call). -/
def opS (nid : Nat) (e : Env) (H : Heap) : AOp → Option (AV × Heap)
  | .mov x => some (ev e x, H)
  | .pick c a b => (toB (ev e c)).map fun t => (if t then ev e a else ev e b, H)
  | .alloc z => some (.ptr nid 0 0, H.put nid (.box false z))
  | .box n x => if (ev e x).cells.length = n ∧ oneAll (ev e x).cells = true then some (.ptr nid 0 0, H.put nid (.box false (ev e x).cells)) else none
  | .build z parts => (fillA z (parts.map fun (o, n, x) => (o, n, ev e x))).map fun cs => (.agg cs, H)
  | .bslice sz z len parts => (fillR sz (List.replicate len z) H (parts.map fun (i, x) => (i, ev e x))).map fun (rs, H) => (.sl nid 0 len, H.put nid (.row false sz rs))
  | .load agg n a => (cellsAt H (ev e a) n).bind fun cs => (pack agg cs).map fun v => (v, H)
  | .store n a x => (storeA H (ev e a) n (ev e x)).map fun H => (.bad, H)
  | .nilck x => match ev e x with
    | .ptr a b c => some (.ptr a b c, H)
    | .pim a b c => some (.pim a b c, H)
    | .fn (.func f) a b => some (.fn (.func f) a b, H)
    | _ => none
  | .bin op t x y => (binA op t (ev e x) (ev e y)).map fun v => (v, H)
  | .isnil neg kd x => (isnilA kd (ev e x)).map fun b => (.sc (.bool (b != neg)), H)
  | .eqs neg ks x y => match ev e x, ev e y with
    | .agg a, .agg b => (eqsA ks a b).map fun r => (.sc (.bool (r != neg)), H)
    | _, _ => none
  | .eqb neg x y => (toB (ev e x)).bind fun a => (toB (ev e y)).map fun b => (.sc (.bool ((a == b) != neg)), H)
  | .un op x => (toV (ev e x)).bind fun v => (pureRun (Op.unary op v)).bind fun u => (ofScalar u).map fun r => (r, H)
  | .conv k x => (toI (ev e x)).map fun n => (.sc (.int k (k.wrap n)), H)
  | .stringish x => match ev e x with
    | .sl id off len => match rowSz H id with
      | some _ => some (.sl id off len, H)
      | none => none
    | _ => none
  | .tostr x => (rowsOf H (ev e x)).bind fun rs => (bytesOfRows rs).map fun l => (.sc (.string (strOfNums l)), H)
  | .mkfn f first caps => some (.fn f (first.map (ev e)) (caps.map (ev e)), H)
  | .mkslice sz bytes z l c => (toI (ev e l)).bind fun l => (toI (ev e c)).bind fun c =>
      if 0 ≤ l ∧ l ≤ c ∧ c * bytes ≤ 140737488355328 ∧ 0 < bytes then some (.sl nid 0 l.toNat, H.put nid (.row false sz (List.replicate l.toNat z))) else none
  | .slice sz x lo hi mx => (optI e lo).bind fun lo => (optI e hi).bind fun hi => (optI e mx).bind fun mx => (sliceA H sz (ev e x) lo hi mx).map fun v => (v, H)
  | .slstr x lo hi => (optI e lo).bind fun lo => (optI e hi).bind fun hi => match ev e x with
    | .sc (.string s) => (boundsA s.size lo hi none).map fun (l, h) => (.sc (.string (s.extract l h)), H)
    | _ => none
  | .faddr off x => match ev e x with
    | .ptr id i o => some (.ptr id i (o + off), H)
    | .pim rows i o => some (.pim rows i (o + off), H)
    | _ => none
  | .field agg off n x => match ev e x with
    | .agg cs => if off + n ≤ cs.length then (pack agg ((cs.drop off).take n)).map fun v => (v, H) else none
    | _ => none
  | .iaddr arr sz x ix => (toI (ev e ix)).bind fun i => (iaddrA H arr sz (ev e x) i).map fun v => (v, H)
  | .index len agg sz x ix => (toI (ev e ix)).bind fun i => match ev e x with
    | .agg cs => if 0 ≤ i ∧ i < len ∧ i.toNat * sz + sz ≤ cs.length then (pack agg ((cs.drop (i.toNat * sz)).take sz)).map fun v => (v, H) else none
    | _ => none
  | .ext x i => match ev e x with
    | .tup vs => (vs[i]?).map fun v => (v, H)
    | _ => none
  | .len kd x => match ev e x with
    | .mp id => if kd = 2 then match H.get id with
      | some (.mpb _ es) => some (.sc (.int .i64 (es.length : Int)), H)
      | _ => none
      else none
    | v => (lenOfA kd v).map fun (n : Nat) => (.sc (.int .i64 (n : Int)), H)
  | .mx2 x y => match ev e x, ev e y with
    | .sc (.int k a), .sc (.int _ b) => some (.sc (.int k (if b > a then b else a)), H)
    | _, _ => none
  | .mn2 x y => match ev e x, ev e y with
    | .sc (.int k a), .sc (.int _ b) => some (.sc (.int k (if b < a then b else a)), H)
    | _, _ => none
  | .app sz bytes s x => (rowsOf H (ev e x)).bind fun xs => appA nid H sz bytes (ev e s) xs
  | .copy sz d s => (rowsOf H (ev e s)).bind fun xs => (copyA H sz (ev e d) xs).map fun (n, H) => (.sc (.int .i64 (n : Int)), H)
  | .mkmap kd => some (.mp nid, H.put nid (.mpb kd []))
  | .look kd z m k ok => match ev e m with
    | .mp id => match H.get id with
      | some (.mpb kd' es) => if kd' = kd ∧ keyOk kd (ev e k) = true then
          some (if ok then .tup [(lookE (ev e k) es).getD z, .sc (.bool (lookE (ev e k) es).isSome)] else (lookE (ev e k) es).getD z, H)
        else none
      | _ => none
    | _ => none
  | .mput kd m k v => match ev e m with
    | .mp id => match H.get id with
      | some (.mpb kd' es) => if kd' = kd ∧ keyOk kd (ev e k) = true then some (.bad, H.set id (.mpb kd (putE (ev e k) (ev e v) es))) else none
      | _ => none
    | _ => none
  | .call _ _ => none

/-! ### regions, code, calls -/
abbrev CF := AV → List AV → Heap → Option (AV × Heap)
def opC (cf : CF) (nid : Nat) (e : Env) (H : Heap) : AOp → Option (AV × Heap)
  | .call f args => cf (ev e f) (args.map (ev e)) H
  | o => opS nid e H o
def wantA (e : Env) : Option (Option Nat × Bool) → Bool
  | none => true
  | some (none, _) => false
  | some (some t, b) => match e.getD t .bad with
    | .sc (.bool c) => c == b
    | _ => false
/-- A guard's slot must be known. -/
def knownA (e : Env) : Option (Option Nat × Bool) → Bool
  | some (some t, _) => match e.getD t .bad with
    | .sc (.bool _) => true
    | .tup [] => true
    | _ => false
  | _ => true
def putA (e : Env) : Option Nat → AV → Env
  | some t, v => e.set t v
  | none, _ => e
def oper (cf : CF) (nid : Nat) (o : AOper) (e : Env) (H : Heap) : Option (Env × Heap) :=
  if knownA e o.guard then
    if wantA e o.guard then (opC cf nid e H o.op).map fun (v, H) => (putA e o.dst v, H)
    else some (putA e o.dst (.tup []), H)
  else none
def opers (cf : CF) : List AOper → Env → Heap → Option (Env × Heap)
  | [], e, H => some (e, H)
  | o :: os, e, H => (oper cf H.next o e H).bind fun (e, H) => opers cf os e H

/-! A region whose order is open: it is run in the text's order; what each operation looks at and writes is noted. -/
abbrev FP := Option (Bool × List Nat)
def shId : AV → List Nat
  | .sl id _ _ => [id]
  | .ptr id _ _ => [id]
  | .mp id => [id]
  | _ => []
/-- Freezing it needs no heap. -/
def closedL (vs : List AV) : Bool := (frzCells Heap.empty vs).isSome
/-- The numbers that freezing it may look at: of what needs none, or of one growing slice. -/
def sids (vs : List AV) : Option (List Nat) := if closedL vs then some [] else match vs with
  | [.sl id _ _] => some [id]
  | _ => none
/-- The numbers that an operation may look at; does it write? 'none': any number. 'pv': is a call free of the heap? -/
def fpS (pv : AV → List AV → Bool) (nid : Nat) (e : Env) : AOp → FP
  | .alloc _ | .box _ _ | .mkslice .. | .mkmap _ => some (true, [nid])
  | .bslice _ _ _ parts => if parts.all fun p => closedL (ev e p.2).cells then some (true, [nid]) else none
  | .load _ _ a => some (false, shId (ev e a))
  | .store _ a x => (sids (ev e x).cells).map fun t => (true, shId (ev e a) ++ t)
  | .stringish x | .tostr x | .slice _ x _ _ _ | .iaddr _ _ x _ | .len _ x | .look _ _ x _ _ => some (false, shId (ev e x))
  | .app _ _ s x => some (true, nid :: (shId (ev e s) ++ shId (ev e x)))
  | .copy _ d s => some (true, shId (ev e d) ++ shId (ev e s))
  | .mput _ mo _ _ => some (true, shId (ev e mo))
  | .call f args => if pv (ev e f) (args.map (ev e)) then some (false, []) else none
  | _ => some (false, [])
def fpO (pv : AV → List AV → Bool) (nid : Nat) (e : Env) (o : AOper) : FP :=
  if wantA e o.guard then fpS pv nid e o.op else some (false, [])
def compat : FP → FP → Bool
  | some (_, []), _ => true
  | _, some (_, []) => true
  | some (w1, t1), some (w2, t2) => (!w1 && !w2) || t1.all fun i => !t2.contains i
  | _, _ => false
/-- Does it take a number? -/
def allocA : AOp → Bool
  | .alloc _ | .box .. | .mkslice .. | .mkmap _ | .bslice .. | .app .. => true
  | _ => false
def nAl (o : AOper) : Nat := if allocA o.op then 1 else 0
def nAls (os : List AOper) : Nat := (os.map nAl).sum
def runs (cf : CF) (pv : AV → List AV → Bool) : Nat → List AOper → Env → Heap → Option (List FP × Env × Heap)
  | _, [], e, H => some ([], e, H)
  | nid, o :: os, e, H => (oper cf nid o e H).bind fun (e1, H1) => (runs cf pv (nid + nAl o) os e1 H1).map fun (fs, e2, H2) => (fpO pv nid e o :: fs, e2, H2)
def drawn (cf : CF) (pv : AV → List AV → Bool) (ops : List AOper) (prs : List (Nat × Nat)) (e : Env) (H : Heap) : Option (Env × Heap) :=
  (runs cf pv H.next ops e (H.pad (nAls ops))).bind fun (fs, e', H') =>
    if prs.all fun p => compat (fs.getD p.1 none) (fs.getD p.2 none) then some (e', H') else none

def resOf (H : Heap) (e : Env) : ARes → Option AV
  | .tmp t => some (e.getD t .bad)
  | .cell t agg n => (cellsAt H (e.getD t .bad) n).bind (pack agg)
def resultsA (H : Heap) (e : Env) (rs : List ARes) : Option AV :=
  (rs.mapM (resOf H e)).map fun
    | [v] => v
    | vs => .tup vs

abbrev EX := ACode → Env → Heap → Option (AExit × Env × Heap)
def enterE (n : Nat) (args : List AV) : Env := args ++ List.replicate (n - args.length) .bad
def leaves : AExit → Bool
  | .normal | .ret => true
  | _ => false
def callF (ft : FT) (ex : EX) (f : FuncId) (args : List AV) (H : Heap) : Option (AV × Heap) :=
  match ft f with
  | none => none
  | some (.prim p) => (p args H).bind fun (r, H') => if H.next ≤ H'.next then some (r, H') else none
  | some (.pprim p) => (frzCells H args).bind fun (args, H) => (p args).map fun r => (r, H)
  | some (.go true n rs body) =>
    (frzCells H args).bind fun (args, H) =>
    (ex body (enterE n args) Heap.empty).bind fun (x, e, Hc) =>
    if leaves x then
      (resultsA Hc e rs).bind fun r => (frz FZ Hc r).map fun (r, _) => (r, H)
    else none
  | some (.go false n rs body) =>
    (ex body (enterE n args) H).bind fun (x, e, H) =>
    if leaves x then (resultsA H e rs).map fun r => (r, H) else none
def callV (ft : FT) (ex : EX) : CF := fun f args H =>
  match f with
  | .fn (.func k) first caps => callF ft ex k (first ++ args ++ caps) H
  | _ => none

/-- A call that looks at no heap. -/
def pureV (ft : FT) (f : AV) (args : List AV) : Bool :=
  match f with
  | .fn (.func k) first caps => closedL (first ++ args ++ caps) && match ft k with
    | some (.go p _ _ _) => p
    | some (.pprim _) => true
    | _ => false
  | _ => false

def exec (ft : FT) : Nat → EX
  | 0, _, _, _ => none
  | n + 1, c, e, H =>
    match c with
    | .skip => some (.normal, e, H)
    | .region ops draw prs => if draw then (drawn (callV ft (exec ft n)) (pureV ft) ops prs e H).map fun (e, H) => (.normal, e, H) else (opers (callV ft (exec ft n)) ops e H).map fun (e, H) => (.normal, e, H)
    | .seq a b => (exec ft n a e H).bind fun (x, e, H) => match x with
      | .normal => exec ft n b e H
      | x => some (x, e, H)
    | .cond c a b => (toB (ev e c)).bind fun t => if t then exec ft n a e H else exec ft n b e H
    | .block id c => (exec ft n c e H).map fun (x, e, H) => (if x = .exit id then .normal else x, e, H)
    | .loop c => (exec ft n c e H).bind fun (x, e, H) => match x with
      | .normal => exec ft n (.loop c) e H
      | x => some (x, e, H)
    | .exit id => some (.exit id, e, H)
    | .ret => some (.ret, e, H)

end Go.VI
