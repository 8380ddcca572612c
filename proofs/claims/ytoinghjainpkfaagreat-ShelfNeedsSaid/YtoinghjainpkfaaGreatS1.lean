import Derived.Calls
import Derived.Laws.BytesArg
import Derived.Laws.World
import Derived.Laws.Cells
import Derived.Laws.AppendOwn
import Derived.Laws.Small
import Derived.Laws.Slices
import Derived.Laws.StructEq
import Derived.WalkSpells
import Derived.IntWalk
/- What the claim hangs on, part 1: VA VC VB VD VE VG VH VJ VK VL VM VN VO. -/
set_option linter.unusedVariables false
set_option linter.unusedSimpArgs false
namespace Go.VI
inductive AV where
 | bad
 | sc (v : Value)
 | agg (cs : List AV)
 | lst (rows : List (List AV))
 | sl (id off len : Nat)
 | ptr (id i off : Nat)
 | pim (rows : List (List AV)) (i off : Nat)
 | fn (f : Fn) (first caps : List AV)
 | mp (id : Nat)
 | yld (id : Nat)
 | emp
 | tup (vs : List AV)
 deriving Inhabited
def isSc : Value → Bool
 | .bool _ | .int _ _ | .string _ | .nilFunc | .nilIface | .pointer none | .map none => true
 | .slice none 0 0 => true
 | _ => false
def AV.one : AV → Bool
 | .bad | .agg _ | .tup _ => false
 | _ => true
def AV.cells : AV → List AV
 | .agg cs => cs
 | v => [v]
inductive AOp where
 | mov (x : Operand)
 | pick (c a b : Operand)
 | alloc (z : List AV)
 | box (n : Nat) (x : Operand)
 | build (z : List AV) (parts : List (Nat × Nat × Operand))
 | bslice (sz : Nat) (z : List AV) (len : Nat) (parts : List (Nat × Operand))
 | load (agg : Bool) (n : Nat) (a : Operand)
 | store (n : Nat) (a x : Operand)
 | nilck (x : Operand)
 | bin (op : BinOp) (t : TypeId) (x y : Operand)
 | isnil (neg : Bool) (kd : Nat) (x : Operand)
 | eqs (neg : Bool) (ks : List Nat) (x y : Operand)
 | eqb (neg : Bool) (x y : Operand)
 | un (op : UnOp) (x : Operand)
 | conv (k : IntKind) (x : Operand)
 | stringish (x : Operand)
 | tostr (x : Operand)
 | mkfn (f : Fn) (first caps : List Operand)
 | mkslice (sz bytes : Nat) (z : List AV) (l c : Operand)
 | slice (sz : Nat) (x : Operand) (lo hi mx : Option Operand)
 | slstr (x : Operand) (lo hi : Option Operand)
 | faddr (off : Nat) (x : Operand)
 | field (agg : Bool) (off n : Nat) (x : Operand)
 | iaddr (arr : Option Nat) (sz : Nat) (x ix : Operand)
 | index (len : Nat) (agg : Bool) (sz : Nat) (x ix : Operand)
 | ext (x : Operand) (i : Nat)
 | len (kd : Nat) (x : Operand)
 | mx2 (x y : Operand)
 | mn2 (x y : Operand)
 | app (sz bytes : Nat) (s x : Operand)
 | appz (sz bytes : Nat) (z : List AV) (s n : Operand)
 | copy (sz : Nat) (d s : Operand)
 | cap (x : Operand)
 | clr (sz : Nat) (z : List AV) (x : Operand)
 | mkmap (kd : Option IntKind)
 | look (kd : Option IntKind) (z : AV) (m k : Operand) (ok : Bool)
 | mput (kd : Option IntKind) (m k v : Operand)
 | mrng (x : Operand)
 | mnxt (it : Operand)
 | ment (it : Operand)
 | mdel (kd : IntKind) (m k : Operand)
 | stop
 | call (f : Operand) (args : List Operand)
structure AOper where
 dst : Option Nat
 op : AOp
 guard : Option (Option Nat × Bool)
inductive ACode where
 | skip
 | region (ops : List AOper) (draw : Bool) (prs : List (Nat × Nat))
 | seq (a b : ACode)
 | cond (c : Operand) (a b : ACode)
 | block (id : Nat) (c : ACode)
 | loop (c : ACode)
 | rangeF (f : Operand) (ps : List Nat) (asg body : ACode)
 | stop
 | exit (id : Nat)
 | ret
 deriving Inhabited
inductive AExit where
 | normal
 | exit (id : Nat)
 | ret
 deriving DecidableEq
inductive LSt where
 | ready
 | busy
 | done
 deriving DecidableEq
inductive Blk where
 | dead
 | box (fz : Bool) (cs : List AV)
 | row (fz : Bool) (sz : Nat) (rs : List (List AV))
 | mpb (kd : Option IntKind) (es : List (AV × AV)) (bs : List Nat) (ck : Nat)
 | itb (mid since : Nat) (seen : List Nat) (st : Nat)
 | loop (st : LSt) (e : List AV) (ps : List Nat) (asg body : ACode) (pend : Option AExit)
 deriving Inhabited
structure Heap where
 bs : List Blk
def Heap.empty : Heap:=⟨[]⟩
def Heap.next (H : Heap) : Nat:=H.bs.length
def Heap.get (H : Heap) (id : Nat) : Option Blk:=H.bs[id]?
def Heap.push (H : Heap) (b : Blk) : Heap:=⟨H.bs ++ [b]⟩
def Heap.set (H : Heap) (id : Nat) (b : Blk) : Heap:=⟨H.bs.set id b⟩
def Heap.put (H : Heap) (id : Nat) (b : Blk) : Heap:=if id < H.next then H.set id b else H.push b
def Heap.pad (H : Heap) (n : Nat) : Heap:=⟨H.bs ++ List.replicate n .dead⟩
section
variable (H : Heap) (b : Blk) (id : Nat)
@[simp] theorem Heap.next_push : (H.push b).next = H.next + 1:=by simp [Heap.next,Heap.push]
@[simp] theorem Heap.next_set : (H.set id b).next = H.next:=by simp [Heap.next,Heap.set]
@[simp] theorem Heap.next_empty : Heap.empty.next = 0:=rfl
@[simp] theorem Heap.get_push_new : (H.push b).get H.next = some b:=by simp [Heap.get,Heap.push,Heap.next]
theorem Heap.get_push_old (h : id < H.next) : (H.push b).get id = H.get id:=by
 simp only [Heap.get,Heap.push,Heap.next] at *
 rw [List.getElem?_append_left h]
theorem Heap.get_push_ne (h : id ≠ H.next) : (H.push b).get id = H.get id:=by
 rcases Nat.lt_or_ge id H.next with h1 | h1
 ·exact Heap.get_push_old H b id h1
 ·simp only [Heap.get,Heap.push,Heap.next] at *
  rw [List.getElem?_eq_none (by simp; omega),List.getElem?_eq_none h1]
theorem Heap.get_lt {H : Heap} {id : Nat} {b : Blk} (h : H.get id = some b) : id < H.next:=by
 simp only [Heap.get,Heap.next] at *
 exact (List.getElem?_eq_some_iff.1 h).1
theorem Heap.get_set_self {H : Heap} {id : Nat} (b : Blk) (h : id < H.next) : (H.set id b).get id = some b:=by
 simp only [Heap.get,Heap.set,Heap.next] at *
 rw [List.getElem?_set_self h]
theorem Heap.get_set_ne {H : Heap} {id j : Nat} (b : Blk) (h : j ≠ id) : (H.set id b).get j = H.get j:=by
 simp only [Heap.get,Heap.set]
 rw [List.getElem?_set_ne (Ne.symm h)]
theorem Heap.put_next : H.put H.next b = H.push b:=by simp [Heap.put]
theorem Heap.next_put_le : H.next ≤ (H.put id b).next:=by
 unfold Heap.put
 split <;> simp
theorem Heap.lt_next_put {H : Heap} {id : Nat} (b : Blk) (h : id ≤ H.next) : id < (H.put id b).next:=by
 unfold Heap.put
 split
 ·simpa using ‹id < H.next›
 ·simp; omega
theorem Heap.get_put_self {H : Heap} {id : Nat} (b : Blk) (h : id ≤ H.next) : (H.put id b).get id = some b:=by
 unfold Heap.put
 split
 ·exact Heap.get_set_self b ‹_›
 ·have : id = H.next:=by omega
  subst this
  simp
theorem Heap.get_put_ne {H : Heap} {id j : Nat} (b : Blk) (h : id ≤ H.next) (hj : j ≠ id) : (H.put id b).get j = H.get j:=by
 unfold Heap.put
 split
 ·exact Heap.get_set_ne b hj
 ·have : id = H.next:=by omega
  subst this
  exact Heap.get_push_ne H b j hj
theorem Heap.next_pad (n : Nat) : (H.pad n).next = H.next + n:=by simp [Heap.next,Heap.pad]
theorem Heap.get_pad (n : Nat) (h : id < H.next) : (H.pad n).get id = H.get id:=by
 simp only [Heap.get,Heap.pad,Heap.next] at *
 rw [List.getElem?_append_left h]
theorem Heap.ext {H H' : Heap} (h : ∀ id,H.get id = H'.get id) : H = H':=by
 cases H; cases H'
 congr 1
 exact List.ext_getElem? h
end
inductive ARes where
 | tmp (t : Nat)
 | cell (t : Nat) (agg : Bool) (n : Nat)
inductive FDef where
 | go (pure : Bool) (ntmps : Nat) (res : List ARes) (body : ACode)
 | prim (f : List AV → Heap → Option (AV × Heap))
 | pprim (f : List AV → Option AV)
 | dprim (f : List AV → Heap → (AV → Heap → Prop) → Prop)
 | eprim (f : List AV → Nat → Option (AV × List Blk))
abbrev FT:=Nat → Option FDef
abbrev Env:=List AV
def ofCellC (v : Value) : AV:=if isSc v then .sc v else .bad
def ofC : Value → AV
 | .agg cs => if cs.toList.all isSc then .agg (cs.toList.map .sc) else .bad
 | v => ofCellC v
def ev (e : Env) : Operand → AV
 | .tmp t => e.getD t .bad
 | .const v => ofC v
 | .global _ => .bad
 | .func f => .fn (.func f) [] []
def pureRun {α : Type} : Sem α → Option α
 | .pure a => some a
 | _ => none
def toV : AV → Option Value
 | .sc v => some v
 | _ => none
def toI : AV → Option Int
 | .sc (.int _ n) => some n
 | _ => none
def toB : AV → Option Bool
 | .sc (.bool b) => some b
 | _ => none
def ofScalar (v : Value) : Option AV:=if isSc v then some (.sc v) else none
def cellsAt (H : Heap) : AV → Nat → Option (List AV)
 | .ptr id i off,n =>
  match H.get id with
  | some (.box _ cs) => if i = 0 ∧ off + n ≤ cs.length then some ((cs.drop off).take n) else none
  | some (.row _ _ rs) => match rs[i]? with
   | some r => if off + n ≤ r.length then some ((r.drop off).take n) else none
   | none => none
  | _ => none
 | .pim rows i off,n => match rows[i]? with
  | some r => if off + n ≤ r.length then some ((r.drop off).take n) else none
  | none => none
 | _,_ => none
def pack (agg : Bool) (cs : List AV) : Option AV :=
 if agg then some (.agg cs) else match cs with
  | [c] => some c
  | _ => none
def rowsOf (H : Heap) : AV → Option (List (List AV))
 | .sc (.slice none 0 0) => some []
 | .lst rows => some rows
 | .sl id off len =>
  match H.get id with
  | some (.row _ _ rs) => if off + len ≤ rs.length then some ((rs.drop off).take len) else none
  | _ => none
 | _ => none
def lenOfA : Nat → AV → Option Nat
 | 0,.sc (.slice none 0 0) => some 0
 | 0,.lst rows => some rows.length
 | 0,.sl _ _ len => some len
 | 0,.emp => some 0
 | 1,.sc (.string s) => some s.size
 | _,_ => none
def frz : Nat → Heap → AV → Option (AV × Heap)
 | 0,_,_ => none
 | n + 1,H,v =>
  match v with
  | .bad => none
  | .sc v => if v matches .slice .. then some (.lst [],H) else some (.sc v,H)
  | .lst rows => some (.lst rows,H)
  | .pim rows i off => some (.pim rows i off,H)
  | .agg cs => (frzL n H cs).map fun (cs,H) => (.agg cs,H)
  | .tup cs => (frzL n H cs).map fun (cs,H) => (.tup cs,H)
  | .fn f first caps => do
   let (first,H) ← frzL n H first
   let (caps,H) ← frzL n H caps
   some (.fn f first caps,H)
  | .sl id off len =>
   match H.get id with
   | some (.row fz sz rs) => if off + len ≤ rs.length then some (.lst ((rs.drop off).take len),if fz then H else H.set id (.row true sz rs)) else none
   | _ => none
  | .ptr id i off =>
   match H.get id with
   | some (.row fz sz rs) => some (.pim rs i off,if fz then H else H.set id (.row true sz rs))
   | some (.box true cs) => if i = 0 then some (.pim [cs] 0 off,H) else none
   | some (.box false cs) => if i = 0 then do
     let (cs,H) ← frzL n H cs
     match H.get id with
     | some (.box false _) => some (.pim [cs] 0 off,H.set id (.box true cs))
     | _ => none
    else none
   | _ => none
  | .mp _ => none
  | .yld _ => none
  | .emp => some (.lst [],H)
where
 frzL : Nat → Heap → List AV → Option (List AV × Heap)
  | 0,_,_ => none
  | _ + 1,H,[] => some ([],H)
  | n + 1,H,c :: cs => do
   let (c,H) ← frz n H c
   let (cs,H) ← frzL n H cs
   some (c :: cs,H)
def oneAll (cs : List AV) : Bool:=cs.all AV.one
def splice {α : Type} (l : List α) (off : Nat) (xs : List α) : List α:=l.take off ++ xs ++ l.drop (off + xs.length)
def FZ : Nat:=24
def frzCells (H : Heap) (cs : List AV) : Option (List AV × Heap):=frz.frzL FZ H cs
def fillA (z : List AV) : List (Nat × Nat × AV) → Option (List AV)
 | [] => some z
 | (off,n,v) :: rest => if v.cells.length = n ∧ off + n ≤ z.length ∧ oneAll v.cells = true then fillA (splice z off v.cells) rest else none
def fillR (sz : Nat) (rs : List (List AV)) (H : Heap) : List (Nat × AV) → Option (List (List AV) × Heap)
 | [] => some (rs,H)
 | (i,v) :: rest => if v.cells.length = sz ∧ i < rs.length ∧ oneAll v.cells = true then
   (frzCells H v.cells).bind fun (cs,H) => fillR sz (rs.set i cs) H rest
  else none
def storeA (H : Heap) (p : AV) (n : Nat) (v : AV) : Option Heap :=
 if v.cells.length = n ∧ oneAll v.cells = true then
  match p with
  | .ptr id i off =>
   match H.get id with
   | some (.box false cs) => if i = 0 ∧ off + n ≤ cs.length then some (H.set id (.box false (splice cs off v.cells))) else none
   | some (.row false _ _) => (frzCells H v.cells).bind fun (cs,H) =>
     match H.get id with
     | some (.row false sz rs) => match rs[i]? with
      | some r => if off + n ≤ r.length then some (H.set id (.row false sz (rs.set i (splice r off cs)))) else none
      | none => none
     | _ => none
   | _ => none
  | _ => none
 else none
def binA (op : BinOp) (t : TypeId) (x y : AV) : Option AV :=
 match x,y with
 | .sc .nilIface,_ => none
 | .sc a,.sc b => (pureRun (binOp op t a b)).bind ofScalar
 | _,_ => none
def isnilA : Nat → AV → Option Bool
 | 0,.sc (.slice none 0 0) => some true
 | 0,.lst (_ :: _) => some false
 | 0,.sl _ _ _ => some false
 | 1,.sc (.pointer none) => some true
 | 1,.ptr _ _ _ => some false
 | 1,.pim _ _ _ => some false
 | 2,.sc (.map none) => some true
 | 2,.mp _ => some false
 | 3,.sc .nilFunc => some true
 | 3,.fn _ _ _ => some false
 | _,_ => none
def scEq : Nat → AV → AV → Option Bool
 | 0,.sc (.int j a),.sc (.int k b) => if j = k then some (a == b) else none
 | 1,.sc (.bool a),.sc (.bool b) => some (a == b)
 | 2,.sc (.string a),.sc (.string b) => some (a.toList == b.toList)
 | _,_,_ => none
def eqsA : List Nat → List AV → List AV → Option Bool
 | [],[],[] => some true
 | k :: ks,a :: asx,b :: bs => (scEq k a b).bind fun r => if r then eqsA ks asx bs else if asx.length = ks.length ∧ bs.length = ks.length then some false else none
 | _,_,_ => none
def bytesOfRows : List (List AV) → Option (List Int)
 | [] => some []
 | [.sc (.int .u8 n)] :: rs => (bytesOfRows rs).map fun l => n :: l
 | _ => none
def optI (e : Env) : Option Operand → Option (Option Int)
 | none => some none
 | some x => (toI (ev e x)).map some
def boundsA (n : Nat) (lo hi mx : Option Int) : Option (Nat × Nat) :=
 let m:=mx.getD n
 let h:=hi.getD n
 let l:=lo.getD 0
 if 0 ≤ l ∧ l ≤ h ∧ h ≤ m ∧ m ≤ n then some (l.toNat,h.toNat) else none
def boundsS (n cp : Nat) (lo hi mx : Option Int) : Option (Nat × Nat) :=
 let m:=mx.getD cp
 let h:=hi.getD n
 let l:=lo.getD 0
 if 0 ≤ l ∧ l ≤ h ∧ h ≤ m ∧ m ≤ cp then some (l.toNat,h.toNat) else none
def allSz (sz : Nat) (rows : List (List AV)) : Bool:=rows.all fun r => r.length == sz
def rowSz (H : Heap) (id : Nat) : Option Nat :=
 match H.get id with
 | some (.row _ sz _) => some sz
 | _ => none
def sliceA (H : Heap) (sz : Nat) (v : AV) (lo hi mx : Option Int) : Option AV :=
 match v with
 | .lst rows => (boundsA rows.length lo hi mx).bind fun (l,h) => if l = 0 ∨ allSz sz rows = true then some (.lst ((rows.drop l).take (h - l))) else none
 | .sl id off len => match H.get id with
  | some (.row _ sz' rs) => if sz' = sz ∧ off + len ≤ rs.length then (boundsS len (rs.length - off) lo hi mx).map fun (l,h) => if 0 < l ∧ l = h then .lst [] else if mx.isSome then .bad else .sl id (off + l) (h - l) else none
  | _ => none
 | .sc (.slice none 0 0) => (boundsA 0 lo hi mx).map fun _ => .sc (.slice none 0 0)
 | _ => none
def iaddrA (H : Heap) (arr : Option Nat) (sz : Nat) (x : AV) (i : Int) : Option AV :=
 match arr,x with
 | none,.lst rows => if 0 ≤ i then match rows[i.toNat]? with
   | some r => if r.length = sz then some (.pim rows i.toNat 0) else none
   | none => none
  else none
 | none,.sl id off len => if 0 ≤ i ∧ i < len ∧ rowSz H id = some sz then some (.ptr id (off + i.toNat) 0) else none
 | some n,.ptr id j off => if 0 ≤ i ∧ i < n then some (.ptr id j (off + i.toNat * sz)) else none
 | some n,.pim rows j off => if 0 ≤ i ∧ i < n then some (.pim rows j (off + i.toNat * sz)) else none
 | _,_ => none
def appA (nid : Nat) (H : Heap) (sz bytes : Nat) (s : AV) (xs : List (List AV)) : Option (AV × Heap) :=
 match s with
 | .sc (.slice none 0 0) =>
  if xs.length = 0 then some (s,H)
  else if xs.length * bytes ≤ 140737488355328 ∧ allSz sz xs = true then some (.sl nid 0 xs.length,H.put nid (.row false sz xs)) else none
 | .sl id off len =>
  match H.get id with
  | some (.row false sz' rs) =>
   if sz' = sz ∧ off + len ≤ rs.length ∧ (len + xs.length) * bytes ≤ 140737488355328 ∧ allSz sz xs = true then
    if off + len + xs.length ≤ rs.length then some (.sl id off (len + xs.length),H.set id (.row false sz (splice rs (off + len) xs)))
    else some (.sl nid 0 (len + xs.length),(H.set id .dead).put nid (.row false sz ((rs.drop off).take len ++ xs)))
   else none
  | _ => none
 | .emp =>
  if xs.length = 0 then some (s,H)
  else if xs.length * bytes ≤ 140737488355328 ∧ allSz sz xs = true then some (.sl nid 0 xs.length,H.put nid (.row false sz xs)) else none
 | _ => none
def copyA (H : Heap) (sz : Nat) (d : AV) (xs : List (List AV)) : Option (Nat × Heap) :=
 match d with
 | .sl id off len =>
  match H.get id with
  | some (.row false sz' rs) => if sz' = sz ∧ off + len ≤ rs.length ∧ allSz sz xs = true then
    some (min xs.length len,H.set id (.row false sz (splice rs off (xs.take (min xs.length len)))))
   else none
  | _ => none
 | _ => if lenOfA 0 d = some 0 then some (0,H) else none
def clrA (H : Heap) (sz : Nat) (z : List AV) (d : AV) : Option Heap :=
 match d with
 | .sl id off len =>
  match H.get id with
  | some (.row false sz' rs) => if sz' = sz ∧ off + len ≤ rs.length then some (H.set id (.row false sz (splice rs off (List.replicate len z)))) else none
  | _ => none
 | _ => if lenOfA 0 d = some 0 then some H else none
def keyEq : AV → AV → Bool
 | .sc (.int _ a),.sc (.int _ b) => a == b
 | .sc (.string a),.sc (.string b) => a == b
 | _,_ => false
def keyOk : Option IntKind → AV → Bool
 | some k,.sc (.int j _) => j == k
 | none,.sc (.string _) => true
 | _,_ => false
def lookE (k : AV) : List (AV × AV) → Option AV
 | [] => none
 | (j,v) :: es => if keyEq k j then some v else lookE k es
def putE (k v : AV) : List (AV × AV) → List (AV × AV)
 | [] => [(k,v)]
 | (j,u) :: es => if keyEq k j then (k,v) :: es else (j,u) :: putE k v es
def putB (known : Bool) (bs : List Nat) (ck : Nat) : List Nat:=if known then bs else bs ++ [ck]
def putC (known : Bool) (ck : Nat) : Nat:=if known then ck else ck + 1
def opS (nid : Nat) (e : Env) (H : Heap) : AOp → Option (AV × Heap)
 | .mov x => some (ev e x,H)
 | .pick c a b => (toB (ev e c)).map fun t => (if t then ev e a else ev e b,H)
 | .alloc z => some (.ptr nid 0 0,H.put nid (.box false z))
 | .box n x => if (ev e x).cells.length = n ∧ oneAll (ev e x).cells = true then some (.ptr nid 0 0,H.put nid (.box false (ev e x).cells)) else none
 | .build z parts => (fillA z (parts.map fun (o,n,x) => (o,n,ev e x))).map fun cs => (.agg cs,H)
 | .bslice sz z len parts => (fillR sz (List.replicate len z) H (parts.map fun (i,x) => (i,ev e x))).map fun (rs,H) => (if len = 0 then .emp else .sl nid 0 len,H.put nid (if len = 0 then .dead else .row false sz rs))
 | .load agg n a => (cellsAt H (ev e a) n).bind fun cs => (pack agg cs).map fun v => (v,H)
 | .store n a x => (storeA H (ev e a) n (ev e x)).map fun H => (.bad,H)
 | .nilck x => match ev e x with
  | .ptr a b c => some (.ptr a b c,H)
  | .pim a b c => some (.pim a b c,H)
  | .fn (.func f) a b => some (.fn (.func f) a b,H)
  | _ => none
 | .bin op t x y => (binA op t (ev e x) (ev e y)).map fun v => (v,H)
 | .isnil neg kd x => (isnilA kd (ev e x)).map fun b => (.sc (.bool (b != neg)),H)
 | .eqs neg ks x y => match ev e x,ev e y with
  | .agg a,.agg b => (eqsA ks a b).map fun r => (.sc (.bool (r != neg)),H)
  | _,_ => none
 | .eqb neg x y => (toB (ev e x)).bind fun a => (toB (ev e y)).map fun b => (.sc (.bool ((a == b) != neg)),H)
 | .un op x => (toV (ev e x)).bind fun v => (pureRun (Op.unary op v)).bind fun u => (ofScalar u).map fun r => (r,H)
 | .conv k x => (toI (ev e x)).map fun n => (.sc (.int k (k.wrap n)),H)
 | .stringish x => match ev e x with
  | .sl id off len => if rowSz H id = some 1 then some (.sl id off len,H) else none
  | _ => none
 | .tostr x => (rowsOf H (ev e x)).bind fun rs => (bytesOfRows rs).map fun l => (.sc (.string (strOfNums l)),H)
 | .mkfn f first caps => some (.fn f (first.map (ev e)) (caps.map (ev e)),H)
 | .mkslice sz bytes z l c => (toI (ev e l)).bind fun l => (toI (ev e c)).bind fun c =>
   if 0 ≤ l ∧ l ≤ c ∧ c * bytes ≤ 140737488355328 ∧ 0 < bytes then some (.sl nid 0 l.toNat,H.put nid (.row false sz (List.replicate l.toNat z))) else none
 | .slice sz x lo hi mx => (optI e lo).bind fun lo => (optI e hi).bind fun hi => (optI e mx).bind fun mx => (sliceA H sz (ev e x) lo hi mx).map fun v => (v,H)
 | .slstr x lo hi => (optI e lo).bind fun lo => (optI e hi).bind fun hi => match ev e x with
  | .sc (.string s) => (boundsA s.size lo hi none).map fun (l,h) => (.sc (.string (s.extract l h)),H)
  | _ => none
 | .faddr off x => match ev e x with
  | .ptr id i o => some (.ptr id i (o + off),H)
  | .pim rows i o => some (.pim rows i (o + off),H)
  | _ => none
 | .field agg off n x => match ev e x with
  | .agg cs => if off + n ≤ cs.length then (pack agg ((cs.drop off).take n)).map fun v => (v,H) else none
  | _ => none
 | .iaddr arr sz x ix => (toI (ev e ix)).bind fun i => (iaddrA H arr sz (ev e x) i).map fun v => (v,H)
 | .index len agg sz x ix => (toI (ev e ix)).bind fun i => match ev e x with
  | .agg cs => if 0 ≤ i ∧ i < len ∧ i.toNat * sz + sz ≤ cs.length then (pack agg ((cs.drop (i.toNat * sz)).take sz)).map fun v => (v,H) else none
  | _ => none
 | .ext x i => match ev e x with
  | .tup vs => (vs[i]?).map fun v => (v,H)
  | _ => none
 | .len kd x => match ev e x with
  | .mp id => if kd = 2 then match H.get id with
   | some (.mpb _ es _ _) => some (.sc (.int .i64 (es.length : Int)),H)
   | _ => none
   else none
  | v => (lenOfA kd v).map fun (n : Nat) => (.sc (.int .i64 (n : Int)),H)
 | .mx2 x y => match ev e x,ev e y with
  | .sc (.int k a),.sc (.int _ b) => some (.sc (.int k (if b > a then b else a)),H)
  | _,_ => none
 | .mn2 x y => match ev e x,ev e y with
  | .sc (.int k a),.sc (.int _ b) => some (.sc (.int k (if b < a then b else a)),H)
  | _,_ => none
 | .app sz bytes s x => (rowsOf H (ev e x)).bind fun xs => appA nid H sz bytes (ev e s) xs
 | .appz sz bytes z s x => match ev e x with
  | .sc (.int .i64 n) => if 0 ≤ n ∧ n.toNat * bytes ≤ 140737488355328 then appA nid H sz bytes (ev e s) (List.replicate n.toNat z) else none
  | _ => none
 | .copy sz d s => (rowsOf H (ev e s)).bind fun xs => (copyA H sz (ev e d) xs).map fun (n,H) => (.sc (.int .i64 (n : Int)),H)
 | .cap x => match ev e x with
  | .sc (.slice none 0 0) => some (.sc (.int .i64 0),H)
  | _ => none
 | .clr sz z x => (clrA H sz z (ev e x)).map fun H => (.bad,H)
 | .mkmap kd => some (.mp nid,H.put nid (.mpb kd [] [] 0))
 | .look kd z m k ok => match ev e m with
  | .mp id => match H.get id with
   | some (.mpb kd' es _ _) => if kd' = kd ∧ keyOk kd (ev e k) = true then
     some (if ok then .tup [(lookE (ev e k) es).getD z,.sc (.bool (lookE (ev e k) es).isSome)] else (lookE (ev e k) es).getD z,H)
    else none
   | _ => none
  | _ => none
 | .mput kd m k v => match ev e m with
  | .mp id => match H.get id with
   | some (.mpb kd' es bs ck) => if kd' = kd ∧ keyOk kd (ev e k) = true then some (.bad,H.set id (.mpb kd (putE (ev e k) (ev e v) es) (putB (lookE (ev e k) es).isSome bs ck) (putC (lookE (ev e k) es).isSome ck))) else none
   | _ => none
  | _ => none
 | .mrng _ | .mnxt _ | .ment _ | .mdel .. => none
 | .stop => none
 | .call _ _ => none
abbrev CF:=AV → List AV → Heap → Option (AV × Heap)
def opC (cf : CF) (nid : Nat) (e : Env) (H : Heap) : AOp → Option (AV × Heap)
 | .call f args => cf (ev e f) (args.map (ev e)) H
 | o => opS nid e H o
def wantA (e : Env) : Option (Option Nat × Bool) → Bool
 | none => true
 | some (none,_) => false
 | some (some t,b) => match e.getD t .bad with
  | .sc (.bool c) => c == b
  | _ => false
def knownA (e : Env) : Option (Option Nat × Bool) → Bool
 | some (some t,_) => match e.getD t .bad with
  | .sc (.bool _) => true
  | .tup [] => true
  | _ => false
 | _ => true
def putA (e : Env) : Option Nat → AV → Env
 | some t,v => e.set t v
 | none,_ => e
def oper (cf : CF) (nid : Nat) (o : AOper) (e : Env) (H : Heap) : Option (Env × Heap) :=
 if knownA e o.guard then
  if wantA e o.guard then (opC cf nid e H o.op).map fun (v,H) => (putA e o.dst v,H)
  else some (putA e o.dst (.tup []),H)
 else none
def opers (cf : CF) : List AOper → Env → Heap → Option (Env × Heap)
 | [],e,H => some (e,H)
 | o :: os,e,H => (oper cf H.next o e H).bind fun (e,H) => opers cf os e H
abbrev FP:=Option (Bool × List Nat)
def shId : AV → List Nat
 | .sl id _ _ => [id]
 | .ptr id _ _ => [id]
 | .mp id => [id]
 | _ => []
def closedL (vs : List AV) : Bool:=(frzCells Heap.empty vs).isSome
def sidN : Nat → List AV → Option (List Nat)
 | 0,_ => none
 | _ + 1,[] => some []
 | n + 1,c :: cs => (if (frz n Heap.empty c).isSome then some [] else match c with
   | .sl id _ _ => some [id]
   | _ => none).bind fun t => (sidN n cs).map fun u => t ++ u
def sids (vs : List AV) : Option (List Nat):=sidN FZ vs
def sidP : List (Nat × AV) → Option (List Nat)
 | [] => some []
 | (_,v) :: ps => (sids v.cells).bind fun t => (sidP ps).map fun u => t ++ u
def fpS (pv : AV → List AV → FP) (nid : Nat) (e : Env) : AOp → FP
 | .alloc _ | .box _ _ | .mkslice .. | .mkmap _ => some (true,[nid])
 | .bslice _ _ _ parts => (sidP (parts.map fun (i,x) => (i,ev e x))).map fun t => (true,nid :: t)
 | .load _ _ a => some (false,shId (ev e a))
 | .store _ a x => (sids (ev e x).cells).map fun t => (true,shId (ev e a) ++ t)
 | .stringish x | .tostr x | .slice _ x _ _ _ | .iaddr _ _ x _ | .len _ x | .look _ _ x _ _ => some (false,shId (ev e x))
 | .app _ _ s x => some (true,nid :: (shId (ev e s) ++ shId (ev e x)))
 | .appz _ _ _ s _ => some (true,nid :: shId (ev e s))
 | .copy _ d s => some (true,shId (ev e d) ++ shId (ev e s))
 | .clr _ _ x => some (true,shId (ev e x))
 | .mput _ mo _ _ => some (true,shId (ev e mo))
 | .call f args => pv (ev e f) (args.map (ev e))
 | _ => some (false,[])
def fpO (pv : AV → List AV → FP) (nid : Nat) (e : Env) (o : AOper) : FP :=
 if wantA e o.guard then fpS pv nid e o.op else some (false,[])
inductive FQ where
 | loc (w : Bool) (t : List Nat)
 | any (H H' : Heap)
 | ext (n m : Nat)
def mkFQ : FP → Heap → Heap → FQ
 | some (w,t),_,_ => .loc w t
 | none,H,H' => .any H H'
def extO (pv : AV → List AV → FP) (e : Env) : AOp → Bool
 | .call f args => (pv (.tup [ev e f]) (args.map (ev e))).isSome
 | _ => false
def exFQ (b : Bool) (q : FQ) : FQ:=if b = true then (match q with
 | .any H H' => .ext H.next H'.next
 | q => q) else q
def fqO (pv : AV → List AV → FP) (nid : Nat) (e : Env) (o : AOper) (H H' : Heap) : FQ:=exFQ (extO pv e o.op) (mkFQ (fpO pv nid e o) H H')
def FQ.no : FQ:=.any Heap.empty Heap.empty
noncomputable def sameAt (H H' : Heap) (t : List Nat) : Bool:=@decide (∀ i ∈ t,H'.get i = H.get i) (Classical.propDecidable _)
noncomputable def compat : FQ → FQ → Bool
 | .loc _ [],_ => true
 | _,.loc _ [] => true
 | .loc w1 t1,.loc w2 t2 => (!w1 && !w2) || t1.all fun i => !t2.contains i
 | .any H H',.loc false t => sameAt H H' t
 | .loc false t,.any H H' => sameAt H H' t
 | .ext n _,.loc _ t => t.all fun i => decide (i < n)
 | .loc _ t,.ext n _ => t.all fun i => decide (i < n)
 | _,_ => false
def allocA : AOp → Bool
 | .alloc _ | .box .. | .mkslice .. | .mkmap _ | .bslice .. | .app .. | .appz .. | .mrng _ => true
 | _ => false
def nAl (o : AOper) : Nat:=if allocA o.op then 1 else 0
def nAls (os : List AOper) : Nat:=(os.map nAl).sum
def runs (cf : CF) (pv : AV → List AV → FP) : Nat → List AOper → Env → Heap → Option (List FQ × Env × Heap)
 | _,[],e,H => some ([],e,H)
 | nid,o :: os,e,H => (oper cf nid o e H).bind fun (e1,H1) => (runs cf pv (nid + nAl o) os e1 H1).map fun (fs,e2,H2) => (fqO pv nid e o H H1 :: fs,e2,H2)
noncomputable def drawn (cf : CF) (pv : AV → List AV → FP) (ops : List AOper) (prs : List (Nat × Nat)) (e : Env) (H : Heap) : Option (Env × Heap) :=
 (runs cf pv H.next ops e (H.pad (nAls ops))).bind fun (fs,e',H') =>
  if prs.all fun p => compat (fs.getD p.1 .no) (fs.getD p.2 .no) then some (e',H') else none
def resOf (H : Heap) (e : Env) : ARes → Option AV
 | .tmp t => some (e.getD t .bad)
 | .cell t agg n => (cellsAt H (e.getD t .bad) n).bind (pack agg)
def resultsA (H : Heap) (e : Env) (rs : List ARes) : Option AV :=
 (rs.mapM (resOf H e)).map fun
  | [v] => v
  | vs => .tup vs
abbrev EX:=ACode → Env → Heap → Option (AExit × Env × Heap)
def enterE (n : Nat) (args : List AV) : Env:=args ++ List.replicate (n - args.length) .bad
def leaves : AExit → Bool
 | .normal | .ret => true
 | _ => false
def callF (ft : FT) (ex : EX) (f : FuncId) (args : List AV) (H : Heap) : Option (AV × Heap) :=
 match ft f with
 | none => none
 | some (.prim p) => (p args H).bind fun (r,H') => if H.next ≤ H'.next then some (r,H') else none
 | some (.pprim p) => (frzCells H args).bind fun (args,H) => (p args).map fun r => (r,H)
 | some (.dprim _) => none
 | some (.eprim p) => (p args H.next).map fun (r,L) => (r,⟨H.bs ++ L⟩)
 | some (.go true n rs body) =>
  (frzCells H args).bind fun (args,H) =>
  (ex body (enterE n args) Heap.empty).bind fun (x,e,Hc) =>
  if leaves x then
   (resultsA Hc e rs).bind fun r => (frz FZ Hc r).map fun (r,_) => (r,H)
  else none
 | some (.go false n rs body) =>
  (ex body (enterE n args) H).bind fun (x,e,H) =>
  if leaves x then (resultsA H e rs).map fun r => (r,H) else none
def setAll : Env → List Nat → List AV → Env
 | e,p :: ps,v :: vs => setAll (e.set p v) ps vs
 | e,_,_ => e
def roundE (id : Nat) (x : AExit) (H : Heap) : Option (AV × Heap) :=
 match H.get id with
 | some (.loop .busy e ps asg body none) =>
  if x = .normal then some (.sc (.bool true),H.set id (.loop .ready e ps asg body none)) else some (.sc (.bool false),H.set id (.loop .done e ps asg body (some x)))
 | _ => none
def roundB (id : Nat) (H : Heap) : Option Heap :=
 match H.get id with
 | some (.loop .ready e ps asg body none) => some (H.set id (.loop .busy e ps asg body none))
 | _ => none
def roundA (ex : EX) (id : Nat) (args : List AV) (H : Heap) : Option (AV × Heap) :=
 match H.get id with
 | some (.loop .ready e ps asg body none) =>
  if args.length = ps.length then
   (ex asg (setAll e ps args) H).bind fun (x,e1,H1) =>
    if x = .normal then
     (roundB id H1).bind fun H1 => (ex body e1 H1).bind fun (x,_,H2) => roundE id x H2
    else none
  else none
 | _ => none
def callV (ft : FT) (ex : EX) : CF:=fun f args H =>
 match f with
 | .fn (.func k) first caps => callF ft ex k (first ++ args ++ caps) H
 | .yld id => roundA ex id args H
 | _ => none
def isGo (ft : FT) : AV → Bool
 | .fn (.func k) _ _ => match ft k with
  | some (.go _ _ _ _) => true
  | _ => false
 | _ => false
def rangeE (id : Nat) (e : Env) (H : Heap) : Option (AExit × Env × Heap) :=
 match H.get id with
 | some (.loop .ready _ _ _ _ none) => some (.normal,e,H.set id .dead)
 | some (.loop .done _ _ _ _ (some x)) => some (x,e,H.set id .dead)
 | _ => none
def isPure (ft : FT) (k : FuncId) : Bool:=match ft k with
 | some (.go p _ _ _) => p
 | some (.pprim _) => true
 | _ => false
def isExt (ft : FT) (k : FuncId) : Bool:=match ft k with
 | some (.eprim _) => true
 | _ => false
def pureV (ft : FT) (f : AV) (args : List AV) : FP :=
 match f with
 | .fn (.func k) first caps => if isPure ft k then (sids (first ++ args ++ caps)).map fun t => (!t.isEmpty,t) else none
 | .tup [.fn (.func k) _ _] => if isExt ft k then some (false,[]) else none
 | _ => none
noncomputable def exec (ft : FT) : Nat → EX
 | 0,_,_,_ => none
 | n + 1,c,e,H =>
  match c with
  | .skip => some (.normal,e,H)
  | .region ops draw prs => if draw then (drawn (callV ft (exec ft n)) (pureV ft) ops prs e H).map fun (e,H) => (.normal,e,H) else (opers (callV ft (exec ft n)) ops e H).map fun (e,H) => (.normal,e,H)
  | .seq a b => (exec ft n a e H).bind fun (x,e,H) => match x with
   | .normal => exec ft n b e H
   | x => some (x,e,H)
  | .cond c a b => (toB (ev e c)).bind fun t => if t then exec ft n a e H else exec ft n b e H
  | .block id c => (exec ft n c e H).map fun (x,e,H) => (if x = .exit id then .normal else x,e,H)
  | .loop c => (exec ft n c e H).bind fun (x,e,H) => match x with
   | .normal => exec ft n (.loop c) e H
   | x => some (x,e,H)
  | .rangeF f ps asg body =>
   if isGo ft (ev e f) then (callV ft (exec ft n) (ev e f) [.yld H.next] (H.push (.loop .ready e ps asg body none))).bind fun (_,H1) => rangeE H.next e H1 else none
  | .stop => none
  | .exit id => some (.exit id,e,H)
  | .ret => some (.ret,e,H)
end Go.VI
namespace Go.VI
def aggB (P : Program) (t : TypeId) : Option Bool :=
 match P.underlying t with
 | some (.struct _) => some true
 | some (.array _ _) => some true
 | some _ => some false
 | none => none
def infoA (P : Program) (t : TypeId) : Option (Nat × Nat × List AV) :=
 (P.info? t).bind fun i => i.zero.bind fun z =>
  if z.cells.toList.all isSc ∧ z.cells.size = i.size ∧ 0 < i.size ∧ 0 < i.bytes then some (i.size,i.bytes,z.cells.toList.map .sc) else none
def elemA (P : Program) (t : TypeId) : Option TypeId :=
 match P.underlying t with
 | some (.slice e) => some e
 | _ => none
def fieldsA (P : Program) (t : TypeId) : Option (Array Field) :=
 match P.underlying t with
 | some (.struct fs) => some fs
 | _ => none
def partsS (P : Program) (fs : Array Field) : List (Nat × Operand) → Option (List (Nat × Nat × Operand))
 | [] => some []
 | (i,x) :: r => (fs[i]?).bind fun f => (P.info? f.type).bind fun ti => (partsS P fs r).map fun r => (f.offset,ti.size,x) :: r
def partsA (sz : Nat) : List (Nat × Operand) → List (Nat × Nat × Operand)
 | [] => []
 | (i,x) :: r => (i * sz,sz,x) :: partsA sz r
def isNilC : Nat → Operand → Bool
 | 0,.const (.slice none 0 0) => true
 | 1,.const (.pointer none) => true
 | 2,.const (.map none) => true
 | 3,.const .nilFunc => true
 | _,_ => false
def nilable (P : Program) (t : TypeId) : Option Nat :=
 match P.underlying t with
 | some (.slice _) => some 0
 | some (.pointer _) => some 1
 | some (.map _ _) => some 2
 | some (.func _ _ _) => some 3
 | _ => none
def scalarT (P : Program) (t : TypeId) : Bool :=
 match P.underlying t with
 | some (.int _) | some .bool | some .string => true
 | _ => false
def kindS (P : Program) (t : TypeId) : Option Nat :=
 match P.underlying t with
 | some (.int _) => some 0
 | some .bool => some 1
 | some .string => some 2
 | _ => none
def kindsF (P : Program) : Nat → List Field → Option (List Nat)
 | _,[] => some []
 | i,f :: fs => if f.name != "_" ∧ f.offset = i then (kindS P f.type).bind fun k => (kindsF P (i + 1) fs).map fun r => k :: r else none
def flatS (P : Program) (t : TypeId) : Option (List Nat) :=
 match P.underlying t with
 | some (.struct fs) => if P.stoodInHeld t then none else kindsF P 0 fs.toList
 | _ => none
def isBoolT (P : Program) (t : TypeId) : Bool :=
 match P.underlying t with
 | some .bool => true
 | _ => false
def isU8 (P : Program) (t : TypeId) : Bool :=
 match P.underlying t with
 | some (.int .u8) => true
 | _ => false
def keyT (P : Program) (t : TypeId) : Option (Option IntKind × TypeId) :=
 match P.underlying t with
 | some (.map kt el) => (match P.underlying kt with
  | some (.int k) => some (some k,el)
  | some .string => some (none,el)
  | _ => none)
 | _ => none
def isNeq : BinOp → Bool
 | .neq => true
 | _ => false
def compOp (P : Program) (ty : TypeId) : Op → Option AOp
 | .move x | .assign x => some (.mov x)
 | .pick c a b => some (.pick c a b)
 | .alloc t => (infoA P t).map fun i => .alloc i.2.2
 | .box t x => (infoA P t).map fun i => .box i.1 x
 | .build t parts => (infoA P t).bind fun i =>
  match P.underlying t with
  | some (.struct fs) => if (fs.toList.all fun f => (P.info? f.type).isSome) then (partsS P fs parts.toList).map fun ps => .build i.2.2 ps else none
  | some (.array _ el) => (infoA P el).map fun j => .build i.2.2 (partsA j.1 parts.toList)
  | _ => none
 | .buildSlice t len parts => (elemA P t).bind fun el => (infoA P el).bind fun i =>
  if len * i.1 ≤ 16777216 then some (.bslice i.1 i.2.2 len parts.toList) else none
 | .load t a => (aggB P t).bind fun g => (infoA P t).map fun i => .load g i.1 a
 | .store t a x => (infoA P t).map fun i => .store i.1 a x
 | .nilCheck x => some (.nilck x)
 | .binOp op t x y _ =>
  match op with
  | .eql | .neq =>
   if isBoolT P t then some (.eqb (isNeq op) x y)
   else if scalarT P t then some (.bin op t x y)
   else match nilable P t with
   | some kd => if isNilC kd y then some (.isnil (isNeq op) kd x) else if isNilC kd x then some (.isnil (isNeq op) kd y) else none
   | none => (flatS P t).map fun ks => .eqs (isNeq op) ks x y
  | _ => some (.bin op t x y)
 | .unOp op _ x => some (.un op x)
 | .convert s d x =>
  match P.underlying s,P.underlying d with
  | some (.int _),some (.int k) => some (.conv k x)
  | some (.slice _),some (.slice el) => if s = d ∧ isU8 P el = true then some (.stringish x) else none
  | some (.slice el),some .string => if isU8 P el then some (.tostr x) else none
  | _,_ => none
 | .makeFunc f first caps => some (.mkfn f first.toList caps.toList)
 | .makeSlice t l c => (elemA P t).bind fun el => (infoA P el).map fun i => .mkslice i.1 i.2.1 i.2.2 l c
 | .slice t x lo hi mx =>
  match P.underlying t with
  | some (.slice el) => if mx.isSome && hi.isNone then none else (infoA P el).map fun i => .slice i.1 x lo hi mx
  | some .string => if mx.isNone then some (.slstr x lo hi) else none
  | _ => none
 | .fieldAddr t x i => (fieldsA P t).bind fun fs => (fs[i]?).bind fun f => (infoA P f.type).map fun _ => .faddr f.offset x
 | .field t x i => (fieldsA P t).bind fun fs => (fs[i]?).bind fun f => (aggB P f.type).bind fun g => (infoA P f.type).map fun j => .field g f.offset j.1 x
 | .indexAddr t x ix =>
  match P.underlying t with
  | some (.slice el) => (infoA P el).map fun i => .iaddr none i.1 x ix
  | some (.array n el) => (infoA P el).map fun i => .iaddr (some n) i.1 x ix
  | _ => none
 | .index t x ix =>
  match P.underlying t with
  | some (.array n el) => (aggB P el).bind fun g => (infoA P el).map fun i => .index n g i.1 x ix
  | _ => none
 | .extract x i => some (.ext x i)
 | .makeMap t none => (keyT P t).map fun kd => .mkmap kd.1
 | .lookup t m k ok => (keyT P t).bind fun kd => (aggB P kd.2).bind fun g => if g then none else (P.info? kd.2).bind fun i => i.zero.bind fun z => if isSc z then some (.look kd.1 (.sc z) m k ok) else none
 | .mapUpdate t m k v | .insert t m k v => (keyT P t).map fun kd => .mput kd.1 m k v
 | .range t x => (match P.underlying t with
  | some (.map _ _) => some (.mrng x)
  | _ => none)
 | .next x false => some (.mnxt x)
 | .entry x => some (.ment x)
 | .call c =>
  match c.callee with
  | .value f => some (.call f c.args.toList)
  | .invoke _ _ => none
  | .builtin b =>
   match b,c.args.toList,c.argTypes.toList with
   | .len,[x],[t] => (match P.underlying t with
    | some (.slice _) => some (.len 0 x)
    | some .string => some (.len 1 x)
    | some (.map _ _) => some (.len 2 x)
    | _ => none)
   | .append,[s,x],[t,u] => (elemA P t).bind fun el => (infoA P el).bind fun i =>
     (match P.underlying u with
     | some (.slice _) => some (.app i.1 i.2.1 s x)
     | some (.int .i64) => some (.appz i.1 i.2.1 i.2.2 s x)
     | _ => none)
   | .copy,[d,s],[t,u] => (elemA P t).bind fun el => (infoA P el).bind fun i =>
     (match P.underlying u with
     | some (.slice _) => some (.copy i.1 d s)
     | _ => none)
   | .cap,[x],[t] => (match P.underlying t with
    | some (.slice _) => some (.cap x)
    | _ => none)
   | .delete,[x,k],[t,_] => (match keyT P t with
    | some (some kk,_) => some (.mdel kk x k)
    | _ => none)
   | .clear,[x],[t] => (elemA P t).bind fun el => (infoA P el).map fun i => .clr i.1 i.2.2 x
   | .max,[x,y],_ => if scalarT P ty then some (.mx2 x y) else none
   | .min,[x,y],_ => if scalarT P ty then some (.mn2 x y) else none
   | _,_,_ => none
 | _ => none
def compOper (P : Program) (ops : Array Oper) (o : Oper) : Option AOper :=
 some { dst:=o.dst,op:=(compOp P o.type o.op).getD .stop,guard:=o.guard.map fun (j,b) => ((ops[j]?).bind (·.dst),b) }
def clsA : AOp → Nat
 | .load .. | .stringish .. | .tostr .. | .slice .. | .iaddr .. | .len .. | .look .. | .cap .. => 1
 | .alloc .. | .box .. | .mkslice .. | .mkmap .. => 2
 | .store .. | .app .. | .appz .. | .copy .. | .mput .. | .bslice .. | .clr .. | .mrng .. | .mnxt .. | .ment .. | .mdel .. => 3
 | .call .. => 4
 | _ => 0
def clash : Nat → Nat → Bool
 | 0,_ | _,0 => false
 | 1,1 => false
 | 2,2 => false
 | _,_ => true
def slotsX : Operand → List Nat
 | .tmp t => [t]
 | _ => []
def slotsO : Option Operand → List Nat
 | some x => slotsX x
 | none => []
def slotsA : AOp → List Nat
 | .mov x | .box _ x | .nilck x | .un _ x | .conv _ x | .stringish x | .tostr x | .faddr _ x | .field _ _ _ x | .ext x _ | .len _ x | .load _ _ x | .cap x | .clr _ _ x | .mrng x | .mnxt x | .ment x => slotsX x
 | .pick c a b => slotsX c ++ slotsX a ++ slotsX b
 | .alloc _ | .mkmap _ | .stop => []
 | .build _ ps => ps.flatMap fun p => slotsX p.2.2
 | .bslice _ _ _ ps => ps.flatMap fun p => slotsX p.2
 | .store _ a x => slotsX a ++ slotsX x
 | .bin _ _ x y | .eqs _ _ x y | .eqb _ x y | .mx2 x y | .mn2 x y => slotsX x ++ slotsX y
 | .isnil _ _ x => slotsX x
 | .mkfn _ f c => f.flatMap slotsX ++ c.flatMap slotsX
 | .mkslice _ _ _ l c => slotsX l ++ slotsX c
 | .slice _ x a b c => slotsX x ++ slotsO a ++ slotsO b ++ slotsO c
 | .slstr x a b => slotsX x ++ slotsO a ++ slotsO b
 | .iaddr _ _ x y | .index _ _ _ x y => slotsX x ++ slotsX y
 | .app _ _ x y | .appz _ _ _ x y | .copy _ x y | .mdel _ x y => slotsX x ++ slotsX y
 | .look _ _ x y _ => slotsX x ++ slotsX y
 | .mput _ x y z => slotsX x ++ slotsX y ++ slotsX z
 | .call f xs => slotsX f ++ xs.flatMap slotsX
def slotsG (o : AOper) : List Nat :=
 slotsA o.op ++ match o.guard with
  | some (some t,_) => [t]
  | _ => []
def apartA (x y : AOper) : Bool :=
  (match x.dst with
   | some d => !(slotsG y).contains d && y.dst != some d
   | none => true) &&
  (match y.dst with
   | some d => !(slotsG x).contains d
   | none => true)
def needs (o : Oper) : List Nat:=o.after.toList.filterMap fun e => if Region.binds .any e then some e.on else none
def bitsOf (acc : List Nat) (ns : List Nat) : Nat:=ns.foldl (fun b i => b ||| (1 <<< i) ||| acc.getD i 0) 0
def closeB : List Nat → List (List Nat) → List Nat
 | acc,[] => acc
 | acc,ns :: r => closeB (acc ++ [bitsOf acc ns]) r
def befores (ops : Array Oper) : List Nat:=closeB [] (ops.toList.map needs)
def pairsAt (os : List AOper) (bf : List Nat) (j : Nat) (y : AOper) : Nat → List AOper → Option (List (Nat × Nat))
 | _,[] => some []
 | i,x :: r => (pairsAt os bf j y (i + 1) r).bind fun ps =>
  if j ≤ i then some ps
  else if (bf.getD j 0).testBit i then some ps
  else if apartA x y then (if clash (clsA x.op) (clsA y.op) then some ((i,j) :: ps) else some ps)
  else none
def pairsOf (os : List AOper) (bf : List Nat) : Nat → List AOper → Option (List (Nat × Nat))
 | _,[] => some []
 | j,y :: r => (pairsAt os bf j y 0 os).bind fun ps => (pairsOf os bf (j + 1) r).map fun qs => ps ++ qs
def elder : Nat → List (List Nat) → Bool
 | _,[] => true
 | i,ns :: r => ns.all (fun j => j < i) && elder (i + 1) r
def prsOf (ops : Array Oper) (os : List AOper) : Option (List (Nat × Nat)) :=
 if elder 0 (ops.toList.map needs) then pairsOf os (befores ops) 0 os else none
def noR : Code → Bool
 | .seq a b => noR a && noR b
 | .cond _ a b => noR a && noR b
 | .block _ c | .loop c => noR c
 | .rangeFunc .. => false
 | _ => true
def compC (P : Program) : Code → Option ACode
 | .skip => some .skip
 | .region _ ops draw => ((ops.toList.mapM (compOper P ops))).bind fun os => if draw then (prsOf ops os).map fun prs => .region os true prs else some (.region os false [])
 | .seq a b => (compC P a).bind fun a => (compC P b).map fun b => .seq a b
 | .cond c a b => (compC P a).bind fun a => (compC P b).map fun b => .cond c a b
 | .block id c => (compC P c).map fun c => .block id c
 | .loop c => (compC P c).map fun c => .loop c
 | .exit id => some (.exit id)
 | .ret => some .ret
 | .rangeFunc f ps asg body => if noR asg && noR body then (compC P asg).bind fun a => (compC P body).map fun b => .rangeF f ps.toList a b else some .stop
 | _ => some .stop
def compRes (P : Program) : ResultVar → Option ARes
 | .tmp t => some (.tmp t)
 | .cell t ty => (aggB P ty).bind fun g => (infoA P ty).map fun i => .cell t g i.1
def compF (P : Program) (f : FuncId) : Option (Nat × List ARes × ACode) :=
 (P.funcs[f]?).bind fun fn => fn.body.bind fun b => (compC P b).bind fun c => (fn.results.toList.mapM (compRes P)).map fun rs => (fn.ntmps,rs,c)
end Go.VI
namespace Go.VI
abbrev Fz:=Nat → Nat → Option Value
structure MB where
 cb : Nat
 base : Nat
 sz : Nat
 cn : Nat
abbrev Mp:=Nat → Option MB
inductive VF (F : Fz) : AV → Value → Prop where
 | sc {v : Value} (h : isSc v = true) : VF F (.sc v) v
 | agg {cs : List AV} {vs : Array Value} (hl : vs.size = cs.length) (h1 : ∀ (i : Nat) (c : AV),cs[i]? = some c → c.one = true)
   (h : ∀ i c,cs[i]? = some c → VF F c (vs.getD i undef)) : VF F (.agg cs) (.agg vs)
 | tup {cs : List AV} {vs : Array Value} (hl : vs.size = cs.length) (h : ∀ i c,cs[i]? = some c → VF F c (vs.getD i undef)) : VF F (.tup cs) (.tuple vs)
 | lst {rows : List (List AV)} {A : Option Addr} {cap sz b o : Nat} (cv : Nat → Nat → Value) (hcap : rows.length ≤ cap) (hA : rows ≠ [] → A = some ⟨b,o,none⟩)
   (hr : ∀ (i : Nat) (r : List AV),rows[i]? = some r → r.length = sz) (h1 : ∀ (i : Nat) (r : List AV) (j : Nat) (c : AV),rows[i]? = some r → r[j]? = some c → c.one = true)
   (hc : ∀ (i : Nat) (r : List AV) (j : Nat) (c : AV),rows[i]? = some r → r[j]? = some c → F b (o + i * sz + j) = some (cv i j))
   (h : ∀ (i : Nat) (r : List AV) (j : Nat) (c : AV),rows[i]? = some r → r[j]? = some c → VF F c (cv i j)) : VF F (.lst rows) (.slice A rows.length cap)
 | pim {rows : List (List AV)} {i0 off sz b o : Nat} (cv : Nat → Nat → Value)
   (hr : ∀ (i : Nat) (r : List AV),rows[i]? = some r → r.length = sz) (h1 : ∀ (i : Nat) (r : List AV) (j : Nat) (c : AV),rows[i]? = some r → r[j]? = some c → c.one = true)
   (hc : ∀ (i : Nat) (r : List AV) (j : Nat) (c : AV),rows[i]? = some r → r[j]? = some c → F b (o + i * sz + j) = some (cv i j))
   (h : ∀ (i : Nat) (r : List AV) (j : Nat) (c : AV),rows[i]? = some r → r[j]? = some c → VF F c (cv i j)) : VF F (.pim rows i0 off) (.pointer (some ⟨b,o + i0 * sz + off,none⟩))
 | fn {f : Fn} {first caps : List AV} {vf vc : Array Value} (hf : vf.size = first.length) (hc : vc.size = caps.length)
   (h1 : ∀ i c,first[i]? = some c → VF F c (vf.getD i undef)) (h2 : ∀ i c,caps[i]? = some c → VF F c (vc.getD i undef)) : VF F (.fn f first caps) (.func f vf vc)
 | emp (A : Option Addr) : VF F .emp (.slice A 0 0)
inductive VR (m : Mp) (F : Fz) : AV → Value → Prop where
 | fz {a : AV} {v : Value} (h : VF F a v) : VR m F a v
 | bad (v : Value) : VR m F .bad v
 | agg {cs : List AV} {vs : Array Value} (hl : vs.size = cs.length) (h1 : ∀ (i : Nat) (c : AV),cs[i]? = some c → c.one = true)
   (h : ∀ i c,cs[i]? = some c → VR m F c (vs.getD i undef)) : VR m F (.agg cs) (.agg vs)
 | tup {cs : List AV} {vs : Array Value} (hl : vs.size = cs.length) (h : ∀ i c,cs[i]? = some c → VR m F c (vs.getD i undef)) : VR m F (.tup cs) (.tuple vs)
 | sl {id off len cap : Nat} {mb : MB} (hm : m id = some mb) (h : off + cap = mb.cn) (hl : len ≤ cap) :
   VR m F (.sl id off len) (.slice (some ⟨mb.cb,mb.base + off * mb.sz,none⟩) len cap)
 | ptr {id i off : Nat} {mb : MB} (hm : m id = some mb) : VR m F (.ptr id i off) (.pointer (some ⟨mb.cb,mb.base + i * mb.sz + off,none⟩))
 | fn {f : Fn} {first caps : List AV} {vf vc : Array Value} (hf : vf.size = first.length) (hc : vc.size = caps.length)
   (h1 : ∀ i c,first[i]? = some c → VR m F c (vf.getD i undef)) (h2 : ∀ i c,caps[i]? = some c → VR m F c (vc.getD i undef)) : VR m F (.fn f first caps) (.func f vf vc)
 | mp {id : Nat} {mb : MB} (hm : m id = some mb) : VR m F (.mp id) (.map (some mb.cb))
 | yld {id : Nat} {mb : MB} (hm : m id = some mb) : VR m F (.yld id) (.func (.yield mb.cb) #[] #[])
def FLe (F F' : Fz) : Prop:=∀ b o v,F b o = some v → F' b o = some v
def MLe (m m' : Mp) : Prop:=∀ id mb,m id = some mb → m' id = some mb
theorem FLe.refl (F : Fz) : FLe F F:=fun _ _ _ h => h
theorem FLe.trans {F F' F'' : Fz} (h : FLe F F') (h' : FLe F' F'') : FLe F F'':=fun b o v x => h' b o v (h b o v x)
theorem MLe.refl (m : Mp) : MLe m m:=fun _ _ h => h
theorem MLe.trans {m m' m'' : Mp} (h : MLe m m') (h' : MLe m' m'') : MLe m m'':=fun b o x => h' b o (h b o x)
theorem VF.mono {F F' : Fz} (hF : FLe F F') {a : AV} {v : Value} (h : VF F a v) : VF F' a v:=by
 induction h with
 | sc h => exact .sc h
 | agg hl h1 _ ih => exact .agg hl h1 ih
 | tup hl _ ih => exact .tup hl ih
 | lst cv hcap hA hr h1 hc _ ih => exact .lst cv hcap hA hr h1 (fun i r j c x y => hF _ _ _ (hc i r j c x y)) ih
 | pim cv hr h1 hc _ ih => exact .pim cv hr h1 (fun i r j c x y => hF _ _ _ (hc i r j c x y)) ih
 | fn hf hc _ _ i1 i2 => exact .fn hf hc i1 i2
 | emp A => exact .emp A
theorem VR.mono {m m' : Mp} {F F' : Fz} (hm : MLe m m') (hF : FLe F F') {a : AV} {v : Value} (h : VR m F a v) : VR m' F' a v:=by
 induction h with
 | fz h => exact .fz (h.mono hF)
 | bad v => exact .bad v
 | agg hl h1 _ ih => exact .agg hl h1 ih
 | tup hl _ ih => exact .tup hl ih
 | sl h1 h2 h3 => exact .sl (hm _ _ h1) h2 h3
 | ptr h1 => exact .ptr (hm _ _ h1)
 | fn hf hc _ _ i1 i2 => exact .fn hf hc i1 i2
 | mp h1 => exact .mp (hm _ _ h1)
 | yld h1 => exact .yld (hm _ _ h1)
def CB (w : World) (b : Nat) (vs : Array Value) : Prop:=∃ t fr,w.heap[b]? = some (.cells vs t fr) ∧ (fr = (0,0) ∨ vs.size ≤ fr.1)
theorem CB.lt {w : World} {b : Nat} {vs : Array Value} (h : CB w b vs) : b < w.heap.size:=by
 obtain ⟨t,fr,h,_⟩:=h
 exact (Array.getElem?_eq_some_iff.1 h).1
theorem CB.cell {w : World} {b : Nat} {vs : Array Value} (h : CB w b vs) (o : Nat) (ho : o < vs.size) : w.cell? ⟨b,o,none⟩ = some (vs.getD o undef):=by
 obtain ⟨t,fr,h,_⟩:=h
 simp [World.cell?,h,ho]
theorem CB.frozen {w : World} {b : Nat} {vs : Array Value} (h : CB w b vs) (o : Nat) (ho : o < vs.size) : w.frozen? ⟨b,o,none⟩ = false:=by
 obtain ⟨t,fr,h,hf⟩:=h
 simp only [World.frozen?,h]
 simp only [Bool.and_eq_false_iff,decide_eq_false_iff_not]
 rcases hf with rfl | hf
 ·simp
 ·omega
theorem CB.of_heap {w w' : World} {b : Nat} {vs : Array Value} (h : CB w b vs) (he : w'.heap[b]? = w.heap[b]?) : CB w' b vs:=by
 obtain ⟨t,fr,h,hf⟩:=h
 exact ⟨t,fr,he.trans h,hf⟩
theorem CB.fun_ {w : World} {b : Nat} {vs vs' : Array Value} (h : CB w b vs) (h' : CB w b vs') : vs = vs':=by
 obtain ⟨t,fr,h,_⟩:=h
 obtain ⟨t',fr',h',_⟩:=h'
 rw [h] at h'
 injection h' with h'
 injection h'
def Unm (w : World) (b : Nat) : Prop:=∃ vs t,w.heap[b]? = some (.cells vs t (0,0))
structure EnvR (m : Mp) (F : Fz) (e : Env) (tmps : Array Value) : Prop where
 len : e.length ≤ tmps.size
 val : ∀ t,VR m F (e.getD t .bad) (tmps.getD t undef)
theorem EnvR.mono {m m' : Mp} {F F' : Fz} {e : Env} {tmps : Array Value} (h : EnvR m F e tmps) (hm : MLe m m') (hF : FLe F F') : EnvR m' F' e tmps :=
 ⟨h.len,fun t => (h.val t).mono hm hF⟩
def stR : LSt → LoopState → Prop
 | .ready,s => s = .ready
 | .busy,s => s = .busy
 | .done,s => s = .done
def pendR : Option AExit → Option Code → Prop
 | none,c => c = none
 | some .ret,c => c = some .ret
 | some (.exit id),c => c = some (.exit id)
 | some .normal,_ => False
structure RowC (F : Fz) (vs : Array Value) (base sz : Nat) (rs : List (List AV)) : Prop where
 len : ∀ (i : Nat) (r : List AV),rs[i]? = some r → r.length = sz
 cell : ∀ (i : Nat) (r : List AV) (j : Nat) (c : AV),rs[i]? = some r → r[j]? = some c → c.one = true ∧ VF F c (vs.getD (base + i * sz + j) undef)
def FullR (F : Fz) (vs : Array Value) (mb : MB) (rs : List (List AV)) : Prop:=∃ rsF,rsF.length = mb.cn ∧ rsF.take rs.length = rs ∧ RowC F vs mb.base mb.sz rsF
theorem RowC.mono {F F' : Fz} (hF : FLe F F') {vs : Array Value} {base sz : Nat} {rs : List (List AV)} (h : RowC F vs base sz rs) : RowC F' vs base sz rs :=
 ⟨h.len,fun i r j c hr hc => ⟨(h.cell i r j c hr hc).1,(h.cell i r j c hr hc).2.mono hF⟩⟩
theorem FullR.mono {F F' : Fz} (hF : FLe F F') {vs : Array Value} {mb : MB} {rs : List (List AV)} (h : FullR F vs mb rs) : FullR F' vs mb rs:=by
 obtain ⟨rsF,h1,h2,h3⟩:=h
 exact ⟨rsF,h1,h2,h3.mono hF⟩
def BlkR (P : Program) (m : Mp) (F : Fz) (w : World) (mb : MB) : Blk → Prop
 | .dead => True
 | .box fz cs => ∃ vs,CB w mb.cb vs ∧ mb.base + cs.length ≤ vs.size ∧ (∀ (j : Nat) (c : AV),cs[j]? = some c → c.one = true ∧ VR m F c (vs.getD (mb.base + j) undef)) ∧
   (fz = false → ∀ o,F mb.cb o = none) ∧ (fz = true → ∀ j c,cs[j]? = some c → VF F c (vs.getD (mb.base + j) undef) ∧ F mb.cb (mb.base + j) = some (vs.getD (mb.base + j) undef))
 | .row fz sz rs => ∃ vs,CB w mb.cb vs ∧ mb.sz = sz ∧ rs.length ≤ mb.cn ∧ mb.base + mb.cn * sz ≤ vs.size ∧ (∀ (i : Nat) (r : List AV),rs[i]? = some r → r.length = sz) ∧
   (∀ (i : Nat) (r : List AV) (j : Nat) (c : AV),rs[i]? = some r → r[j]? = some c → c.one = true ∧ VF F c (vs.getD (mb.base + i * sz + j) undef)) ∧
   (fz = false → ∀ o,F mb.cb o = none) ∧ (fz = true → ∀ (i : Nat) (r : List AV) (j : Nat) (c : AV),rs[i]? = some r → r[j]? = some c → F mb.cb (mb.base + i * sz + j) = some (vs.getD (mb.base + i * sz + j) undef)) ∧ (fz = false → FullR F vs mb rs ∧ (sz ≠ 1 → Unm w mb.cb))
 | .mpb kd es bs ck => ∃ ens,w.heap[mb.cb]? = some (.map ens ck) ∧ ens.size = es.length ∧ bs.length = es.length ∧ (∀ (i : Nat) (k v : AV),es[i]? = some (k,v) → ∃ en : MapEntry,ens[i]? = some en ∧ VR m F k en.key ∧ keyOk kd k = true ∧ VR m F v en.val ∧ bs[i]? = some en.born)
 | .itb mid since seen st => mb.base = 0 ∧ ∃ mbm : MB,m mid = some mbm ∧ w.heap[mb.cb]? = some (.mapIter (some mbm.cb) since seen.toArray st)
 | .loop st e ps asg body pend => ∃ r : Loop,w.heap[mb.cb]? = some (.loop r) ∧ stR st r.state ∧ EnvR m F e r.tmps ∧ r.params.toList = ps ∧ compC P r.assign = some asg ∧ compC P r.body = some body ∧ noR r.assign = true ∧ noR r.body = true ∧ pendR pend r.pending
def live (H : Heap) (id : Nat) : Prop:=∃ B,H.get id = some B ∧ B ≠ .dead
structure Inv (P : Program) (m : Mp) (F : Fz) (H : Heap) (w : World) : Prop where
 fz : ∀ b o v,F b o = some v → w.cell? ⟨b,o,none⟩ = some v
 lt : ∀ id mb,m id = some mb → id < H.next ∧ mb.cb < w.heap.size
 blk : ∀ id mb B,m id = some mb → H.get id = some B → BlkR P m F w mb B
 inj : ∀ id id' mb mb',m id = some mb → m id' = some mb' → live H id → live H id' → mb.cb = mb'.cb → id = id'
structure Ext (m : Mp) (F : Fz) (w : World) (m' : Mp) (F' : Fz) (w' : World) : Prop where
 mm : MLe m m'
 ff : FLe F F'
 sz : w.heap.size ≤ w'.heap.size
 tape : w'.tape = w.tape
 os : w'.os = w.os
 out : w'.output = w.output
 blk : ∀ b,b < w.heap.size → (∀ id mb,m id = some mb → mb.cb ≠ b) → w'.heap[b]? = w.heap[b]?
 mn : ∀ id mb,m' id = some mb → m id = some mb ∨ w.heap.size ≤ mb.cb ∨ ∃ id0 mb0,m id0 = some mb0 ∧ mb0.cb = mb.cb
 fn : ∀ b o v,F' b o = some v → F b o = some v ∨ w.heap.size ≤ b ∨ ∃ id0 mb0,m id0 = some mb0 ∧ mb0.cb = b
theorem Ext.refl (m : Mp) (F : Fz) (w : World) : Ext m F w m F w :=
 ⟨MLe.refl m,FLe.refl F,Nat.le_refl _,rfl,rfl,rfl,fun _ _ _ => rfl,fun _ _ h => .inl h,fun _ _ _ h => .inl h⟩
theorem Ext.trans {m m' m'' : Mp} {F F' F'' : Fz} {w w' w'' : World} (h : Ext m F w m' F' w') (h' : Ext m' F' w' m'' F'' w'') : Ext m F w m'' F'' w'' where
 mm:=h.mm.trans h'.mm
 ff:=h.ff.trans h'.ff
 sz:=Nat.le_trans h.sz h'.sz
 tape:=h'.tape.trans h.tape
 os:=h'.os.trans h.os
 out:=h'.out.trans h.out
 blk:=fun b hb hn => by
  refine (h'.blk b (Nat.lt_of_lt_of_le hb h.sz) (fun id mb hm e => ?_)).trans (h.blk b hb hn)
  subst e
  rcases h.mn id mb hm with h1 | h1 | ⟨i0,m0,h1,h2⟩
  ·exact hn id mb h1 rfl
  ·omega
  ·exact hn i0 m0 h1 h2
 mn:=fun id mb hm => by
  rcases h'.mn id mb hm with h1 | h1 | ⟨i0,m0,h1,h2⟩
  ·exact h.mn id mb h1
  ·exact .inr (.inl (Nat.le_trans h.sz h1))
  ·rcases h.mn i0 m0 h1 with h3 | h3 | ⟨i1,m1,h3,h4⟩
   ·exact .inr (.inr ⟨i0,m0,h3,h2⟩)
   ·exact .inr (.inl (by omega))
   ·exact .inr (.inr ⟨i1,m1,h3,h4.trans h2⟩)
 fn:=fun b o v hf => by
  rcases h'.fn b o v hf with h1 | h1 | ⟨i0,m0,h1,h2⟩
  ·exact h.fn b o v h1
  ·exact .inr (.inl (Nat.le_trans h.sz h1))
  ·rcases h.mn i0 m0 h1 with h3 | h3 | ⟨i1,m1,h3,h4⟩
   ·exact .inr (.inr ⟨i0,m0,h3,h2⟩)
   ·exact .inr (.inl (by omega))
   ·exact .inr (.inr ⟨i1,m1,h3,h4.trans h2⟩)
theorem EnvR.put {m : Mp} {F : Fz} {e : Env} {a : Act} {v : AV} {u : Value} (h : EnvR m F e a.tmps) (d : Option Nat) (hv : VR m F v u) : EnvR m F (putA e d v) (a.put d u).tmps:=by
 cases d with
 | none => exact h
 | some t =>
  refine ⟨by simp [putA,Act.put]; exact h.len,fun s => ?_⟩
  simp only [putA,Act.put]
  by_cases hs : s = t
  ·subst hs
   by_cases hl : s < e.length
   ·have h2 : s < a.tmps.size:=Nat.lt_of_lt_of_le hl h.len
    rw [List.getD_eq_getElem?_getD,List.getElem?_set_self hl]
    simp [h2]
    exact hv
   ·rw [List.getD_eq_getElem?_getD,List.getElem?_eq_none (by simp; omega)]
    exact .bad _
  ·have h1 : (e.set t v).getD s .bad = e.getD s .bad:=by
    rw [List.getD_eq_getElem?_getD,List.getD_eq_getElem?_getD,List.getElem?_set_ne (Ne.symm hs)]
   have h2 : (a.tmps.setIfInBounds t u).getD s undef = a.tmps.getD s undef:=by
    simp only [Array.getD_eq_getD_getElem?]
    rw [Array.getElem?_setIfInBounds_ne (Ne.symm hs)]
   rw [h1,h2]
   exact h.val s
theorem vf_ofCellC (F : Fz) (m : Mp) (v : Value) : VR m F (ofCellC v) v:=by
 unfold ofCellC
 split
 ·exact .fz (.sc ‹_›)
 ·exact .bad _
theorem vr_ofC (F : Fz) (m : Mp) (v : Value) : VR m F (ofC v) v:=by
 unfold ofC
 split
 ·rename_i cs
  split
  ·rename_i hall
   rw [List.all_eq_true] at hall
   refine .fz (.agg (by simp) (fun i c hc => ?_) (fun i c hc => ?_))
   ·rw [List.getElem?_map,Option.map_eq_some_iff] at hc
    obtain ⟨x,hx,rfl⟩:=hc
    rfl
   ·rw [List.getElem?_map,Option.map_eq_some_iff] at hc
    obtain ⟨x,hx,rfl⟩:=hc
    have hx' : cs[i]? = some x:=by simpa using hx
    have : cs.getD i undef = x:=by simp [Array.getD_eq_getD_getElem?,hx']
    rw [this]
    exact .sc (hall x (List.mem_of_getElem? hx))
  ·exact .bad _
 ·exact vf_ofCellC F m v
end Go.VI
namespace Go.VI
variable {P : Program}
def mset (m : Mp) (id : Nat) (mb : MB) : Mp:=fun j => if j = id then some mb else m j
theorem mset_self (m : Mp) (id : Nat) (mb : MB) : mset m id mb id = some mb:=by simp [mset]
theorem mset_le {m : Mp} {id : Nat} (mb : MB) (h : m id = none) : MLe m (mset m id mb):=fun j x hj => by
 by_cases e : j = id
 ·subst e
  rw [h] at hj
  cases hj
 ·simp [mset,e,hj]
theorem mset_cases {m : Mp} {id j : Nat} {mb x : MB} (h : mset m id mb j = some x) : (j = id ∧ x = mb) ∨ (j ≠ id ∧ m j = some x):=by
 by_cases e : j = id
 ·subst e
  simp [mset] at h
  exact .inl ⟨rfl,h.symm⟩
 ·simp [mset,e] at h
  exact .inr ⟨e,h⟩
structure Free (m : Mp) (H : Heap) (nid : Nat) : Prop where
 no : m nid = none
 le : nid ≤ H.next
def Dom (al : Option Nat) (m m' : Mp) : Prop:=∀ id mb,m' id = some mb → m id = some mb ∨ al = some id
theorem Dom.refl (al : Option Nat) (m : Mp) : Dom al m m:=fun _ _ h => .inl h
theorem Dom.mset (m : Mp) (id : Nat) (mb : MB) : Dom (some id) m (mset m id mb):=fun j x h => by
 rcases mset_cases h with ⟨rfl,_⟩ | ⟨_,h⟩
 ·exact .inr rfl
 ·exact .inl h
theorem Inv.fresh {m : Mp} {F : Fz} {H : Heap} {w : World} (h : Inv P m F H w) : m H.next = none:=by
 cases e : m H.next with
 | none => rfl
 | some mb => exact absurd (h.lt _ _ e).1 (Nat.lt_irrefl _)
theorem Inv.fz_lt {m : Mp} {F : Fz} {H : Heap} {w : World} (h : Inv P m F H w) {b o : Nat} {v : Value} (hf : F b o = some v) : b < w.heap.size :=
 World.block_lt_of_cell? w _ (h.fz b o v hf)
theorem Inv.fz_new {m : Mp} {F : Fz} {H : Heap} {w : World} (h : Inv P m F H w) {b : Nat} (hb : w.heap.size ≤ b) (o : Nat) : F b o = none:=by
 cases e : F b o with
 | none => rfl
 | some v => exact absurd (h.fz_lt e) (by omega)
theorem cell_of_heap {w w' : World} {b : Nat} (h : w'.heap[b]? = w.heap[b]?) (o : Nat) : w'.cell? ⟨b,o,none⟩ = w.cell? ⟨b,o,none⟩:=by
 simp [World.cell?,h]
theorem BlkR.step {m m' : Mp} {F F' : Fz} {w w' : World} {mb : MB} {B : Blk} (h : BlkR P m F w mb B) (hh : w'.heap[mb.cb]? = w.heap[mb.cb]?) (hm : MLe m m') (hF : FLe F F')
  (hn : ∀ o v,F' mb.cb o = some v → F mb.cb o = some v) : BlkR P m' F' w' mb B:=by
 cases B with
 | dead => trivial
 | box fz cs =>
  obtain ⟨vs,h1,h2,h3,h4,h5⟩:=h
  refine ⟨vs,h1.of_heap hh,h2,fun j c hc => ⟨(h3 j c hc).1,(h3 j c hc).2.mono hm hF⟩,fun hz o => ?_,fun hz j c hc => ⟨(h5 hz j c hc).1.mono hF,hF _ _ _ (h5 hz j c hc).2⟩⟩
  cases e : F' mb.cb o with
  | none => rfl
  | some v => have:=hn o v e; rw [h4 hz o] at this; cases this
 | row fz sz rs =>
  obtain ⟨vs,h1,h2,h3,h4,h5,h6,h7,h8,h9⟩:=h
  refine ⟨vs,h1.of_heap hh,h2,h3,h4,h5,fun i r j c hr hc => ⟨(h6 i r j c hr hc).1,(h6 i r j c hr hc).2.mono hF⟩,fun hz o => ?_,fun hz i r j c hr hc => hF _ _ _ (h8 hz i r j c hr hc),fun hz => ⟨(h9 hz).1.mono hF,fun hs => by obtain ⟨us,t,hu⟩:=(h9 hz).2 hs; exact ⟨us,t,hh.trans hu⟩⟩⟩
  cases e : F' mb.cb o with
  | none => rfl
  | some v => have:=hn o v e; rw [h7 hz o] at this; cases this
 | mpb kd es bs ck =>
  obtain ⟨ens,h1,h2,h2b,h3⟩:=h
  refine ⟨ens,hh.trans h1,h2,h2b,fun i k v hi => ?_⟩
  obtain ⟨en,a1,a2,a3,a4,a5⟩:=h3 i k v hi
  exact ⟨en,a1,a2.mono hm hF,a3,a4.mono hm hF,a5⟩
 | itb mid since seen st =>
  obtain ⟨h0,mbm,h1,h2⟩:=h
  exact ⟨h0,mbm,hm _ _ h1,hh.trans h2⟩
 | loop st e ps asg body pend =>
  obtain ⟨r,h1,h2,h3,h4⟩:=h
  exact ⟨r,hh.trans h1,h2,h3.mono hm hF,h4⟩
theorem Inv.next {m m' : Mp} {F F' : Fz} {H H' : Heap} {w w' : World} (h : Inv P m F H w) (hm : MLe m m') (hF : FLe F F')
  (hf : ∀ b o v,F' b o = some v → w'.cell? ⟨b,o,none⟩ = some v)
  (hl : ∀ id mb,m' id = some mb → id < H'.next ∧ mb.cb < w'.heap.size)
  (hb : ∀ id mb B,m' id = some mb → H'.get id = some B → (m id = some mb ∧ H.get id = some B ∧ w'.heap[mb.cb]? = w.heap[mb.cb]? ∧ ∀ o v,F' mb.cb o = some v → F mb.cb o = some v) ∨ BlkR P m' F' w' mb B)
  (hi : ∀ id id' mb mb',m' id = some mb → m' id' = some mb' → live H' id → live H' id' → mb.cb = mb'.cb → id = id') : Inv P m' F' H' w' :=
 ⟨hf,hl,fun id mb B h1 h2 => by
  rcases hb id mb B h1 h2 with ⟨a1,a2,a3,a4⟩ | a
  ·exact (h.blk id mb B a1 a2).step a3 hm hF a4
  ·exact a,hi⟩
theorem live_push {H : Heap} {b : Blk} {nid j : Nat} (hn : nid ≤ H.next) (h : live (H.put nid b) j) (hj : j ≠ nid) : live H j:=by
 obtain ⟨B,h1,h2⟩:=h
 rw [Heap.get_put_ne b hn hj] at h1
 exact ⟨B,h1,h2⟩
theorem live_set {H : Heap} {b : Blk} {id j : Nat} (h : live (H.set id b) j) (hb : live H id ∨ b = .dead) : live H j:=by
 obtain ⟨B,h1,h2⟩:=h
 by_cases e : j = id
 ·subst e
  rcases hb with hb | rfl
  ·exact hb
  ·rw [Heap.get_set_self _ (by have:=Heap.get_lt h1; simpa using this)] at h1
   cases h1
   exact absurd rfl h2
 ·rw [Heap.get_set_ne b e] at h1
  exact ⟨B,h1,h2⟩
theorem live_of {H : Heap} {id : Nat} {B : Blk} (h : H.get id = some B) (hB : B ≠ .dead) : live H id:=⟨B,h,hB⟩
theorem heap_alloc_ne {w : World} {o : Obj} {b : Nat} (h : b ≠ w.heap.size) : (w.alloc o).heap[b]? = w.heap[b]?:=by
 simp only [World.alloc]
 rcases Nat.lt_or_ge b w.heap.size with h1 | h1
 ·rw [Array.getElem?_push_lt h1,Array.getElem?_eq_getElem h1]
 ·rw [Array.getElem?_eq_none (by simp; omega),Array.getElem?_eq_none h1]
theorem heap_alloc_at {w : World} {o : Obj} : (w.alloc o).heap[w.heap.size]? = some o:=by simp only [World.alloc,Array.getElem?_push_size]
theorem Inv.free {m : Mp} {F : Fz} {H : Heap} {w : World} (h : Inv P m F H w) : Free m H H.next:=⟨h.fresh,Nat.le_refl _⟩
theorem Inv.push {m : Mp} {F : Fz} {H : Heap} {w wd : World} {nid : Nat} (hn : Free m H nid) (h : Inv P m F H w) (hd : wd.heap = w.heap) (ht : wd.tape = w.tape) (hos : wd.os = w.os) (hout : wd.output = w.output)
  (o : Obj) (B : Blk) (base sz cn : Nat)
  (hB : BlkR P (mset m nid ⟨w.heap.size,base,sz,cn⟩) F (wd.alloc o) ⟨w.heap.size,base,sz,cn⟩ B) :
  Inv P (mset m nid ⟨w.heap.size,base,sz,cn⟩) F (H.put nid B) (wd.alloc o) ∧ Ext m F w (mset m nid ⟨w.heap.size,base,sz,cn⟩) F (wd.alloc o):=by
 have hsz : wd.heap.size = w.heap.size:=by rw [hd]
 have hold : ∀ b,b < w.heap.size → (wd.alloc o).heap[b]? = w.heap[b]?:=fun b hb => by
  rw [heap_alloc_ne (by omega),hd]
 have hm:=mset_le ⟨w.heap.size,base,sz,cn⟩ hn.no
 refine ⟨h.next hm (FLe.refl F) (fun b o' v hf => ?_) (fun id mb hid => ?_) (fun id mb B' hid hB' => ?_) (fun id id' mb mb' h1 h2 l1 l2 e => ?_),?_⟩
 ·rw [cell_of_heap (hold b (h.fz_lt hf))]
  exact h.fz b o' v hf
 ·rcases mset_cases hid with ⟨rfl,rfl⟩ | ⟨hne,hid⟩
  ·exact ⟨Heap.lt_next_put B hn.le,by simp [hsz]⟩
  ·have:=h.lt id mb hid
   have:=Heap.next_put_le H B nid
   refine ⟨by omega,?_⟩
   simp [hsz]
   omega
 ·rcases mset_cases hid with ⟨rfl,rfl⟩ | ⟨hne,hid⟩
  ·rw [Heap.get_put_self _ hn.le] at hB'
   cases hB'
   exact .inr hB
  ·rw [Heap.get_put_ne B hn.le hne] at hB'
   exact .inl ⟨hid,hB',hold _ (h.lt id mb hid).2,fun _ _ hv => hv⟩
 ·rcases mset_cases h1 with ⟨q1,q2⟩ | ⟨hne,g1⟩ <;> rcases mset_cases h2 with ⟨q3,q4⟩ | ⟨hne2,g2⟩
  ·rw [q1,q3]
  ·have:=(h.lt _ _ g2).2
   rw [q2] at e
   simp at e
   omega
  ·have:=(h.lt _ _ g1).2
   rw [q4] at e
   simp at e
   omega
  ·exact h.inj id id' mb mb' g1 g2 (live_push hn.le l1 hne) (live_push hn.le l2 hne2) e
 ·exact ⟨hm,FLe.refl F,by simp [hsz],ht,hos,hout,fun b hb _ => hold b hb,fun id mb hid => by
   rcases mset_cases hid with ⟨rfl,rfl⟩ | ⟨hne,hid⟩
   ·exact .inr (.inl (Nat.le_refl _))
   ·exact .inl hid,fun _ _ _ hf => .inl hf⟩
theorem oneCell_of {m : Mp} {F : Fz} {c : AV} {v : Value} (h : VR m F c v) (h1 : c.one = true) : v.oneCell' = true:=by
 cases h with
 | fz h => cases h with
  | sc h => cases v <;> simp_all [isSc,Value.oneCell']
  | agg => simp [AV.one] at h1
  | tup => simp [AV.one] at h1
  | _ => rfl
 | bad => simp [AV.one] at h1
 | agg => simp [AV.one] at h1
 | tup => simp [AV.one] at h1
 | _ => rfl
structure Wrote (w w' : World) (b o : Nat) (us : List Value) (vs vs' : Array Value) : Prop where
 cb : CB w' b vs'
 size : vs'.size = vs.size
 at_ : ∀ j,j < us.length → vs'.getD (o + j) undef = us.getD j undef
 ne : ∀ k,k < o ∨ o + us.length ≤ k → vs'.getD k undef = vs.getD k undef
 heap : ∀ b',b' ≠ b → w'.heap[b']? = w.heap[b']?
 hs : w'.heap.size = w.heap.size
 tape : w'.tape = w.tape
 os : w'.os = w.os
 out : w'.output = w.output
 unm : Unm w b → Unm w' b
theorem CB.setCell {w : World} {b o : Nat} {vs : Array Value} (h : CB w b vs) (v : Value) : CB (w.setCell ⟨b,o,none⟩ v) b (vs.setIfInBounds o v):=by
 obtain ⟨t,fr,h1,h2⟩:=h
 refine ⟨t,fr,?_,by simpa using h2⟩
 simp [World.setCell,Array.getElem?_modify,h1]
theorem run_stores (P : Program) (b o : Nat) : ∀ (us : List Value) (i : Nat) (w : World) (vs : Array Value),CB w b vs → o + i + us.length ≤ vs.size → (∀ u ∈ us,u.oneCell' = true) →
  ∃ w' vs',(storeCells ⟨b,o,none⟩ us i).run P w = .ok () w' ∧ Wrote w w' b (o + i) us vs vs':=by
 intro us
 induction us with
 | nil => intro i w vs h _ _; exact ⟨w,vs,rfl,h,rfl,fun j hj => by simp at hj,fun _ _ => rfl,fun _ _ => rfl,rfl,rfl,rfl,rfl,id⟩
 | cons u us ih =>
  intro i w vs h hl h1
  simp only [List.length_cons] at hl
  have ha : (⟨b,o,none⟩ : Addr).add i = ⟨b,o + i,none⟩:=by unfold Addr.add; split <;> simp_all
  have hc:=h.cell (o + i) (by omega)
  have hf:=h.frozen (o + i) (by omega)
  have h':=h.setCell (o:=o + i) u
  obtain ⟨w',vs',hr,hw⟩:=ih (i + 1) (w.setCell ⟨b,o + i,none⟩ u) _ h' (by simp; omega) (fun x hx => h1 x (List.mem_cons_of_mem _ hx))
  refine ⟨w',vs',?_,hw.cb,by rw [hw.size]; simp,fun j hj => ?_,fun k hk => ?_,fun b' hb' => ?_,by rw [hw.hs]; simp,hw.tape,hw.os,hw.out,fun ⟨us,t,hu⟩ => hw.unm ⟨us.setIfInBounds (o + i) u,t,by simp [World.setCell,Array.getElem?_modify,hu]⟩⟩
  ·simp only [storeCells,Sem.run_bind,ha,run_store P _ _ u _ (h1 u List.mem_cons_self),hc,hf]
   simpa using hr
  ·cases j with
   | zero =>
    rw [hw.ne (o + i + 0) (by omega)]
    have : o + i < vs.size:=by omega
    simp [this]
   | succ j =>
    have:=hw.at_ j (by simpa using hj)
    rw [show o + i + (j + 1) = o + (i + 1) + j by omega,this]
    rfl
  ·simp only [List.length_cons] at hk
   rw [hw.ne k (by omega)]
   simp only [Array.getD_eq_getD_getElem?]
   rw [Array.getElem?_setIfInBounds_ne (by omega)]
  ·rw [hw.heap b' hb']
   simp only [World.setCell]
   rw [Array.getElem?_modify]
   simp [Ne.symm hb']
theorem addr_add (b o n : Nat) : (⟨b,o,none⟩ : Addr).add n = ⟨b,o + n,none⟩:=by unfold Addr.add; split <;> simp_all
end Go.VI
namespace Go.VI
variable {P : Program}
structure FR (m : Mp) (F F' : Fz) : Prop where
 le : FLe F F'
 new : ∀ b o x,F' b o = some x → F b o = some x ∨ ∃ id mb,m id = some mb ∧ mb.cb = b
theorem FR.refl (m : Mp) (F : Fz) : FR m F F:=⟨FLe.refl F,fun _ _ _ h => .inl h⟩
theorem FR.trans {m : Mp} {F F' F'' : Fz} (h : FR m F F') (h' : FR m F' F'') : FR m F F'' :=
 ⟨h.le.trans h'.le,fun b o x hx => by
  rcases h'.new b o x hx with h1 | h1
  ·exact h.new b o x h1
  ·exact .inr h1⟩
theorem FR.ext {m : Mp} {F F' : Fz} (h : FR m F F') (w : World) : Ext m F w m F' w :=
 ⟨MLe.refl m,h.le,Nat.le_refl _,rfl,rfl,rfl,fun _ _ _ => rfl,fun _ _ x => .inl x,fun b o v hv => by
  rcases h.new b o v hv with h1 | h1
  ·exact .inl h1
  ·exact .inr (.inr h1)⟩
def fput (F : Fz) (cb lo hi : Nat) (vs : Array Value) : Fz:=fun b o => if b = cb ∧ lo ≤ o ∧ o < hi then some (vs.getD o undef) else F b o
theorem Inv.freeze {m : Mp} {F : Fz} {H : Heap} {w : World} (h : Inv P m F H w) {id : Nat} {mb : MB} (hm : m id = some mb) (hl : live H id) {vs : Array Value} (hc : CB w mb.cb vs) (lo hi : Nat) (hi' : hi ≤ vs.size)
  (hn : ∀ o,F mb.cb o = none) (B' : Blk) (hB : BlkR P m (fput F mb.cb lo hi vs) w mb B') :
  FR m F (fput F mb.cb lo hi vs) ∧ Inv P m (fput F mb.cb lo hi vs) (H.set id B') w:=by
 have hfr : FR m F (fput F mb.cb lo hi vs):=by
  refine ⟨fun b o v hv => ?_,fun b o x hx => ?_⟩
  ·unfold fput
   split
   ·rename_i hh
    rw [hh.1,hn o] at hv
    cases hv
   ·exact hv
  ·unfold fput at hx
   split at hx
   ·rename_i hh
    exact .inr ⟨id,mb,hm,hh.1.symm⟩
   ·exact .inl hx
 refine ⟨hfr,h.next (MLe.refl m) hfr.le (fun b o v hv => ?_) (fun j mj hj => ?_) (fun j mj B hj hB2 => ?_) (fun i j mi mj hi hj li lj e => ?_)⟩
 ·unfold fput at hv
  split at hv
  ·rename_i hh
   obtain ⟨rfl,h1,h2⟩:=hh
   cases hv
   exact hc.cell o (by omega)
  ·exact h.fz b o v hv
 ·simpa using h.lt j mj hj
 ·by_cases e : j = id
  ·subst e
   rw [Heap.get_set_self _ (h.lt _ _ hm).1] at hB2
   cases hB2
   rw [hm] at hj
   cases hj
   exact .inr hB
  ·rw [Heap.get_set_ne _ e] at hB2
   by_cases hd : B = .dead
   ·subst hd
    exact .inr trivial
   ·refine .inl ⟨hj,hB2,rfl,fun o v hv => ?_⟩
    unfold fput at hv
    split at hv
    ·rename_i hh
     exact absurd (h.inj j id mj mb hj hm (live_of hB2 hd) hl hh.1) e
    ·exact hv
 ·exact h.inj i j mi mj hi hj (live_set li (.inl hl)) (live_set lj (.inl hl)) e
theorem vr_sc {m : Mp} {F : Fz} {u v : Value} (h : VR m F (.sc u) v) : v = u ∧ isSc u = true:=by
 cases h with
 | fz h => cases h with
  | sc h => exact ⟨rfl,h⟩
theorem vf_agg {F : Fz} {cs : List AV} {v : Value} (h : VF F (.agg cs) v) : ∃ vs,v = .agg vs ∧ vs.size = cs.length ∧ (∀ (i : Nat) (c : AV),cs[i]? = some c → c.one = true) ∧ ∀ (i : Nat) (c : AV),cs[i]? = some c → VF F c (vs.getD i undef):=by
 cases h with
 | agg hl h1 h => exact ⟨_,rfl,hl,h1,h⟩
theorem vr_agg {m : Mp} {F : Fz} {cs : List AV} {v : Value} (h : VR m F (.agg cs) v) : ∃ vs,v = .agg vs ∧ vs.size = cs.length ∧ (∀ (i : Nat) (c : AV),cs[i]? = some c → c.one = true) ∧ ∀ (i : Nat) (c : AV),cs[i]? = some c → VR m F c (vs.getD i undef):=by
 cases h with
 | fz h =>
  obtain ⟨vs,e,a,b,c⟩:=vf_agg h
  exact ⟨vs,e,a,b,fun i x hx => .fz (c i x hx)⟩
 | agg hl h1 h => exact ⟨_,rfl,hl,h1,h⟩
theorem vr_tup {m : Mp} {F : Fz} {cs : List AV} {v : Value} (h : VR m F (.tup cs) v) : ∃ vs,v = .tuple vs ∧ vs.size = cs.length ∧ ∀ (i : Nat) (c : AV),cs[i]? = some c → VR m F c (vs.getD i undef):=by
 cases h with
 | fz h => cases h with
  | tup hl h => exact ⟨_,rfl,hl,fun i c hc => .fz (h i c hc)⟩
 | tup hl h => exact ⟨_,rfl,hl,h⟩
theorem vr_fn {m : Mp} {F : Fz} {f : Fn} {first caps : List AV} {v : Value} (h : VR m F (.fn f first caps) v) : ∃ vf vc,v = .func f vf vc ∧ vf.size = first.length ∧ vc.size = caps.length ∧
  (∀ (i : Nat) (c : AV),first[i]? = some c → VR m F c (vf.getD i undef)) ∧ ∀ (i : Nat) (c : AV),caps[i]? = some c → VR m F c (vc.getD i undef):=by
 cases h with
 | fz h => cases h with
  | fn a b c d => exact ⟨_,_,rfl,a,b,fun i x hx => .fz (c i x hx),fun i x hx => .fz (d i x hx)⟩
 | fn a b c d => exact ⟨_,_,rfl,a,b,c,d⟩
theorem vr_sl {m : Mp} {F : Fz} {id off len : Nat} {v : Value} (h : VR m F (.sl id off len) v) : ∃ mb cap,m id = some mb ∧ v = .slice (some ⟨mb.cb,mb.base + off * mb.sz,none⟩) len cap ∧ off + cap = mb.cn ∧ len ≤ cap:=by
 cases h with
 | fz h => cases h
 | sl a b c => exact ⟨_,_,a,rfl,b,c⟩
theorem vr_ptr {m : Mp} {F : Fz} {id i off : Nat} {v : Value} (h : VR m F (.ptr id i off) v) : ∃ mb,m id = some mb ∧ v = .pointer (some ⟨mb.cb,mb.base + i * mb.sz + off,none⟩):=by
 cases h with
 | fz h => cases h
 | ptr a => exact ⟨_,a,rfl⟩
theorem vr_mp {m : Mp} {F : Fz} {id : Nat} {v : Value} (h : VR m F (.mp id) v) : ∃ mb,m id = some mb ∧ v = .map (some mb.cb):=by
 cases h with
 | fz h => cases h
 | mp a => exact ⟨_,a,rfl⟩
theorem vr_emp {m : Mp} {F : Fz} {v : Value} (h : VR m F .emp v) : ∃ A,v = .slice A 0 0:=by
 cases h with
 | fz h => cases h with
  | emp A => exact ⟨A,rfl⟩
theorem vf_nolst (F : Fz) (A : Option Addr) (c : Nat) : VF F (.lst []) (.slice A 0 c) :=
 .lst (rows:=[]) (sz:=0) (b:=0) (o:=0) (fun _ _ => undef) (Nat.zero_le _) (by simp) (by simp) (by simp) (by simp) (by simp)
theorem vr_lst {m : Mp} {F : Fz} {rows : List (List AV)} {v : Value} (h : VR m F (.lst rows) v) : VF F (.lst rows) v:=by
 cases h with
 | fz h => exact h
theorem vr_pim {m : Mp} {F : Fz} {rows : List (List AV)} {i off : Nat} {v : Value} (h : VR m F (.pim rows i off) v) : VF F (.pim rows i off) v:=by
 cases h with
 | fz h => exact h
theorem frz_one {n : Nat} {H H' : Heap} {v v' : AV} (h : frz n H v = some (v',H')) (h1 : v.one = true) : v'.one = true:=by
 cases n with
 | zero => simp [frz] at h
 | succ n =>
  cases v with
  | bad => simp [AV.one] at h1
  | agg => simp [AV.one] at h1
  | tup => simp [AV.one] at h1
  | sc u =>
   simp only [frz] at h
   split at h <;> (cases h; rfl)
  | lst => simp only [frz] at h; cases h; rfl
  | pim => simp only [frz] at h; cases h; rfl
  | mp => simp [frz] at h
  | yld => simp [frz] at h
  | emp => simp only [frz] at h; cases h; rfl
  | fn f a b =>
   simp only [frz,Option.bind_eq_bind,Option.bind_eq_some_iff] at h
   obtain ⟨⟨x,H1⟩,_,⟨y,H2⟩,_,h⟩:=h
   cases h
   rfl
  | sl id off len =>
   simp only [frz] at h
   split at h
   ·split at h <;> simp at h
    rw [← h.1]
    rfl
   ·simp at h
  | ptr id i off =>
   simp only [frz] at h
   split at h
   ·simp at h
    rw [← h.1]
    rfl
   ·split at h <;> simp at h
    rw [← h.1]
    rfl
   ·split at h
    ·simp only [Option.bind_eq_bind,Option.bind_eq_some_iff] at h
     obtain ⟨⟨x,H1⟩,_,h⟩:=h
     split at h
     ·cases h
      rfl
     ·cases h
    ·simp at h
   ·simp at h
theorem frzL_one {n : Nat} : ∀ {H H' : Heap} {cs cs' : List AV},frz.frzL n H cs = some (cs',H') → cs'.length = cs.length ∧ ∀ (i : Nat) (c c' : AV),cs[i]? = some c → cs'[i]? = some c' → c.one = true → c'.one = true:=by
 induction n with
 | zero => intro H H' cs cs' h; simp [frz.frzL] at h
 | succ n ih =>
  intro H H' cs cs' h
  cases cs with
  | nil =>
   simp [frz.frzL] at h
   obtain ⟨rfl,_⟩:=h
   simp
  | cons c cs =>
   simp only [frz.frzL,Option.bind_eq_bind,Option.bind_eq_some_iff] at h
   obtain ⟨⟨x,H1⟩,hx,⟨y,H2⟩,hy,h⟩:=h
   cases h
   obtain ⟨h1,h2⟩:=ih hy
   refine ⟨by simp [h1],fun i a a' ha ha' hone => ?_⟩
   cases i with
   | zero => simp at ha ha'; subst ha; subst ha'; exact frz_one hx hone
   | succ i => exact h2 i a a' (by simpa using ha) (by simpa using ha') hone
structure FrzOk (P : Program) (m : Mp) (F : Fz) (H : Heap) (w : World) (F' : Fz) (H' : Heap) : Prop where
 fr : FR m F F'
 inv : Inv P m F' H' w
 lv : ∀ j,live H' j → live H j
 nx : H'.next = H.next
theorem FrzOk.refl {m : Mp} {F : Fz} {H : Heap} {w : World} (h : Inv P m F H w) : FrzOk P m F H w F H:=⟨FR.refl m F,h,fun _ h => h,rfl⟩
theorem FrzOk.trans {m : Mp} {F F' F'' : Fz} {H H' H'' : Heap} {w : World} (h : FrzOk P m F H w F' H') (h' : FrzOk P m F' H' w F'' H'') : FrzOk P m F H w F'' H'' :=
 ⟨h.fr.trans h'.fr,h'.inv,fun j hj => h.lv j (h'.lv j hj),h'.nx.trans h.nx⟩
theorem getElem_drop_take {α : Type} {l : List α} {a n i : Nat} {x : α} (h : ((l.drop a).take n)[i]? = some x) : l[a + i]? = some x ∧ i < n:=by
 rw [List.getElem?_take] at h
 split at h
 ·rename_i hi
  rw [List.getElem?_drop] at h
  exact ⟨h,hi⟩
 ·cases h
theorem frz_sound {m : Mp} {w : World} : ∀ (n : Nat),
  (∀ (H H' : Heap) (F : Fz) (v v' : AV) (u : Value),frz n H v = some (v',H') → Inv P m F H w → VR m F v u → ∃ F',FrzOk P m F H w F' H' ∧ VF F' v' u) ∧
  (∀ (H H' : Heap) (F : Fz) (cs cs' : List AV) (us : Nat → Value),frz.frzL n H cs = some (cs',H') → Inv P m F H w → (∀ (i : Nat) (c : AV),cs[i]? = some c → VR m F c (us i)) →
   ∃ F',FrzOk P m F H w F' H' ∧ ∀ (i : Nat) (c : AV),cs'[i]? = some c → VF F' c (us i)):=by
 intro n
 induction n with
 | zero => exact ⟨fun H H' F v v' u h => by simp [frz] at h,fun H H' F cs cs' us h => by simp [frz.frzL] at h⟩
 | succ n ih =>
  refine ⟨fun H H' F v v' u h hI hv => ?_,fun H H' F cs cs' us h hI hv => ?_⟩
  ·cases v with
   | bad => simp [frz] at h
   | mp => simp [frz] at h
   | yld => simp [frz] at h
   | emp =>
    obtain ⟨A,rfl⟩:=vr_emp hv
    simp only [frz] at h
    cases h
    exact ⟨F,FrzOk.refl hI,vf_nolst F A 0⟩
   | sc s =>
    obtain ⟨rfl,hs⟩:=vr_sc hv
    simp only [frz] at h
    split at h
    ·rename_i a b c
     cases h
     refine ⟨F,FrzOk.refl hI,?_⟩
     have hq : b = 0:=by
      cases a <;> simp [isSc] at hs
      rcases b with _ | b <;> rcases c with _ | c <;> simp_all
     subst hq
     exact VF.lst (rows:=[]) (sz:=0) (b:=0) (o:=0) (fun _ _ => undef) (Nat.zero_le _) (fun h => absurd rfl h) (by simp) (by simp) (by simp) (by simp)
    ·cases h
     exact ⟨F,FrzOk.refl hI,.sc hs⟩
   | lst rows =>
    simp only [frz] at h
    cases h
    exact ⟨F,FrzOk.refl hI,vr_lst hv⟩
   | pim rows i off =>
    simp only [frz] at h
    cases h
    exact ⟨F,FrzOk.refl hI,vr_pim hv⟩
   | agg cs =>
    simp only [frz,Option.map_eq_some_iff] at h
    obtain ⟨⟨cs',H1⟩,h1,h⟩:=h
    cases h
    obtain ⟨vs,rfl,hsz,hone,hvs⟩:=vr_agg hv
    obtain ⟨F',ho,hr⟩:=ih.2 H _ F cs cs' (fun i => vs.getD i undef) h1 hI hvs
    obtain ⟨hl,hq⟩:=frzL_one h1
    refine ⟨F',ho,.agg (hsz.trans hl.symm) (fun i c hc => ?_) hr⟩
    have hlt : i < cs.length:=by rw [← hl]; exact (List.getElem?_eq_some_iff.1 hc).1
    exact hq i _ c (List.getElem?_eq_getElem hlt) hc (hone i _ (List.getElem?_eq_getElem hlt))
   | tup cs =>
    simp only [frz,Option.map_eq_some_iff] at h
    obtain ⟨⟨cs',H1⟩,h1,h⟩:=h
    cases h
    obtain ⟨vs,rfl,hsz,hvs⟩:=vr_tup hv
    obtain ⟨F',ho,hr⟩:=ih.2 H _ F cs cs' (fun i => vs.getD i undef) h1 hI hvs
    exact ⟨F',ho,.tup (hsz.trans (frzL_one h1).1.symm) hr⟩
   | fn f first caps =>
    simp only [frz,Option.bind_eq_bind,Option.bind_eq_some_iff] at h
    obtain ⟨⟨a,H1⟩,ha,⟨b,H2⟩,hb,h⟩:=h
    cases h
    obtain ⟨vf,vc,rfl,s1,s2,h1,h2⟩:=vr_fn hv
    obtain ⟨F1,o1,r1⟩:=ih.2 H H1 F first a (fun i => vf.getD i undef) ha hI h1
    obtain ⟨F2,o2,r2⟩:=ih.2 H1 _ F1 caps b (fun i => vc.getD i undef) hb o1.inv (fun i c hc => (h2 i c hc).mono (MLe.refl m) o1.fr.le)
    exact ⟨F2,o1.trans o2,.fn (s1.trans (frzL_one ha).1.symm) (s2.trans (frzL_one hb).1.symm) (fun i c hc => (r1 i c hc).mono o2.fr.le) r2⟩
   | sl id off len =>
    obtain ⟨mb,cap,hm,rfl,hcap,hlen⟩:=vr_sl hv
    simp only [frz] at h
    split at h
    ·rename_i fz sz rs hg
     split at h
     ·rename_i hle
      have hB:=hI.blk id mb _ hm hg
      cases fz with
      | true =>
       simp at h
       obtain ⟨rfl,rfl⟩:=h
       obtain ⟨vs,hcb,hsz,hcn,hfit,hrl,hrc,_,hF,_⟩:=hB
       refine ⟨F,FrzOk.refl hI,?_⟩
       have hlen' : ((rs.drop off).take len).length = len:=by simp; omega
       have : VF F (.lst ((rs.drop off).take len)) (.slice (some ⟨mb.cb,mb.base + off * mb.sz,none⟩) ((rs.drop off).take len).length cap):=by
        subst hsz
        refine .lst (sz:=mb.sz) (b:=mb.cb) (o:=mb.base + off * mb.sz) (fun i j => vs.getD (mb.base + off * mb.sz + i * mb.sz + j) undef) (by rw [hlen']; exact hlen) (fun _ => rfl)
         (fun i r hr => hrl _ r (getElem_drop_take hr).1) (fun i r j c hr hc => (hrc _ r j c (getElem_drop_take hr).1 hc).1) (fun i r j c hr hc => ?_) (fun i r j c hr hc => ?_)
        ·have:=hF rfl _ r j c (getElem_drop_take hr).1 hc
         rw [Nat.add_mul,← Nat.add_assoc] at this
         exact this
        ·have:=(hrc _ r j c (getElem_drop_take hr).1 hc).2
         rw [Nat.add_mul,← Nat.add_assoc] at this
         exact this
       rw [hlen'] at this
       exact this
      | false =>
       simp at h
       obtain ⟨rfl,rfl⟩:=h
       obtain ⟨vs,hcb,hsz,hcn,hfit,hrl,hrc,hF,_⟩:=hB
       subst hsz
       have hrange : ∀ i r j c,rs[i]? = some r → r[j]? = some c → i * mb.sz + j < rs.length * mb.sz:=by
        intro i r j c hr hc
        have h1:=(List.getElem?_eq_some_iff.1 hr).1
        have h2:=(List.getElem?_eq_some_iff.1 hc).1
        rw [hrl i r hr] at h2
        calc i * mb.sz + j < i * mb.sz + mb.sz:=by omega
         _ = (i + 1) * mb.sz:=by rw [Nat.add_mul,Nat.one_mul]
         _ ≤ rs.length * mb.sz:=Nat.mul_le_mul_right _ h1
       have hfit2 : mb.base + rs.length * mb.sz ≤ vs.size:=Nat.le_trans (Nat.add_le_add_left (Nat.mul_le_mul_right _ hcn) _) hfit
       have hin : ∀ i r j c,rs[i]? = some r → r[j]? = some c → fput F mb.cb mb.base (mb.base + rs.length * mb.sz) vs mb.cb (mb.base + i * mb.sz + j) = some (vs.getD (mb.base + i * mb.sz + j) undef):=by
        intro i r j c hr hc
        have:=hrange i r j c hr hc
        unfold fput
        rw [if_pos ⟨rfl,by omega,by omega⟩]
       have hfle : FLe F (fput F mb.cb mb.base (mb.base + rs.length * mb.sz) vs):=by
        intro b o v hv
        unfold fput
        split
        ·rename_i hh
         rw [hh.1,hF rfl o] at hv
         cases hv
        ·exact hv
       obtain ⟨hfr,hI'⟩:=hI.freeze hm (live_of hg (by simp)) hcb mb.base (mb.base + rs.length * mb.sz) hfit2 (hF rfl) (.row true mb.sz rs)
        ⟨vs,hcb,rfl,hcn,hfit,hrl,fun i r j c hr hc => ⟨(hrc i r j c hr hc).1,(hrc i r j c hr hc).2.mono hfle⟩,by simp,fun _ => hin,by simp⟩
       refine ⟨_,⟨hfr,hI',fun j hj => live_set hj (.inl (live_of hg (by simp))),by simp⟩,?_⟩
       have hlen' : ((rs.drop off).take len).length = len:=by simp; omega
       have : VF (fput F mb.cb mb.base (mb.base + rs.length * mb.sz) vs) (.lst ((rs.drop off).take len)) (.slice (some ⟨mb.cb,mb.base + off * mb.sz,none⟩) ((rs.drop off).take len).length cap):=by
        refine .lst (sz:=mb.sz) (b:=mb.cb) (o:=mb.base + off * mb.sz) (fun i j => vs.getD (mb.base + off * mb.sz + i * mb.sz + j) undef) (by rw [hlen']; exact hlen) (fun _ => rfl)
         (fun i r hr => hrl _ r (getElem_drop_take hr).1) (fun i r j c hr hc => (hrc _ r j c (getElem_drop_take hr).1 hc).1) (fun i r j c hr hc => ?_) (fun i r j c hr hc => ?_)
        ·have:=hin _ r j c (getElem_drop_take hr).1 hc
         rw [Nat.add_mul,← Nat.add_assoc] at this
         exact this
        ·have:=(hrc _ r j c (getElem_drop_take hr).1 hc).2.mono hfle
         rw [Nat.add_mul,← Nat.add_assoc] at this
         exact this
       rw [hlen'] at this
       exact this
     ·simp at h
    ·simp at h
   | ptr id i off =>
    obtain ⟨mb,hm,rfl⟩:=vr_ptr hv
    simp only [frz] at h
    split at h
    ·rename_i fz sz rs hg
     have hB:=hI.blk id mb _ hm hg
     cases fz with
     | true =>
      simp at h
      obtain ⟨rfl,rfl⟩:=h
      obtain ⟨vs,hcb,hsz,hcn,hfit,hrl,hrc,_,hF,_⟩:=hB
      subst hsz
      exact ⟨F,FrzOk.refl hI,.pim (sz:=mb.sz) (b:=mb.cb) (o:=mb.base) (fun i j => vs.getD (mb.base + i * mb.sz + j) undef) hrl (fun i r j c hr hc => (hrc i r j c hr hc).1) (hF rfl) (fun i r j c hr hc => (hrc i r j c hr hc).2)⟩
     | false =>
      simp at h
      obtain ⟨rfl,rfl⟩:=h
      obtain ⟨vs,hcb,hsz,hcn,hfit,hrl,hrc,hF,_⟩:=hB
      subst hsz
      have hrange : ∀ i r j c,rs[i]? = some r → r[j]? = some c → i * mb.sz + j < rs.length * mb.sz:=by
       intro i r j c hr hc
       have h1:=(List.getElem?_eq_some_iff.1 hr).1
       have h2:=(List.getElem?_eq_some_iff.1 hc).1
       rw [hrl i r hr] at h2
       calc i * mb.sz + j < i * mb.sz + mb.sz:=by omega
        _ = (i + 1) * mb.sz:=by rw [Nat.add_mul,Nat.one_mul]
        _ ≤ rs.length * mb.sz:=Nat.mul_le_mul_right _ h1
      have hfit2 : mb.base + rs.length * mb.sz ≤ vs.size:=Nat.le_trans (Nat.add_le_add_left (Nat.mul_le_mul_right _ hcn) _) hfit
      have hin : ∀ i r j c,rs[i]? = some r → r[j]? = some c → fput F mb.cb mb.base (mb.base + rs.length * mb.sz) vs mb.cb (mb.base + i * mb.sz + j) = some (vs.getD (mb.base + i * mb.sz + j) undef):=by
       intro i r j c hr hc
       have:=hrange i r j c hr hc
       unfold fput
       rw [if_pos ⟨rfl,by omega,by omega⟩]
      have hfle : FLe F (fput F mb.cb mb.base (mb.base + rs.length * mb.sz) vs):=by
       intro b o v hv
       unfold fput
       split
       ·rename_i hh
        rw [hh.1,hF rfl o] at hv
        cases hv
       ·exact hv
      obtain ⟨hfr,hI'⟩:=hI.freeze hm (live_of hg (by simp)) hcb mb.base (mb.base + rs.length * mb.sz) hfit2 (hF rfl) (.row true mb.sz rs)
       ⟨vs,hcb,rfl,hcn,hfit,hrl,fun i r j c hr hc => ⟨(hrc i r j c hr hc).1,(hrc i r j c hr hc).2.mono hfle⟩,by simp,fun _ => hin,by simp⟩
      exact ⟨_,⟨hfr,hI',fun j hj => live_set hj (.inl (live_of hg (by simp))),by simp⟩,
       .pim (sz:=mb.sz) (b:=mb.cb) (o:=mb.base) (fun i j => vs.getD (mb.base + i * mb.sz + j) undef) hrl (fun i r j c hr hc => (hrc i r j c hr hc).1) hin (fun i r j c hr hc => (hrc i r j c hr hc).2.mono hfle)⟩
    ·rename_i cs hg
     split at h
     ·rename_i hi0
      subst hi0
      simp at h
      obtain ⟨rfl,rfl⟩:=h
      obtain ⟨vs,hcb,hfit,hcs,_,hF⟩:=hI.blk id mb _ hm hg
      refine ⟨F,FrzOk.refl hI,?_⟩
      have : VF F (.pim [cs] 0 off) (.pointer (some ⟨mb.cb,mb.base + 0 * cs.length + off,none⟩)):=by
       refine .pim (sz:=cs.length) (b:=mb.cb) (o:=mb.base) (fun i j => vs.getD (mb.base + j) undef) (fun i r hr => ?_) (fun i r j c hr hc => ?_) (fun i r j c hr hc => ?_) (fun i r j c hr hc => ?_)
       all_goals
        obtain ⟨rfl,rfl⟩ : i = 0 ∧ r = cs:=by
         cases i with
         | zero => simp at hr; exact ⟨rfl,hr.symm⟩
         | succ i => simp at hr
       ·rfl
       ·exact (hcs j c hc).1
       ·simp only [Nat.zero_mul,Nat.add_zero]; exact (hF rfl j c hc).2
       ·exact (hF rfl j c hc).1
      simpa using this
     ·simp at h
    ·rename_i cs hg
     split at h
     ·rename_i hi0
      subst hi0
      simp only [Option.bind_eq_bind,Option.bind_eq_some_iff] at h
      obtain ⟨⟨cs',H1⟩,h1,h⟩:=h
      split at h
      ·rename_i cs1 hg1
       cases h
       obtain ⟨vs,hcb,hfit,hcs,_,_⟩:=hI.blk id mb _ hm hg
       obtain ⟨F1,o1,r1⟩:=ih.2 H H1 F cs cs' (fun j => vs.getD (mb.base + j) undef) h1 hI (fun j c hc => (hcs j c hc).2)
       obtain ⟨hl,hq⟩:=frzL_one h1
       have hone : ∀ (j : Nat) (c : AV),cs'[j]? = some c → c.one = true:=fun j c hc => by
        have hlt : j < cs.length:=by rw [← hl]; exact (List.getElem?_eq_some_iff.1 hc).1
        exact hq j _ c (List.getElem?_eq_getElem hlt) hc (hcs j _ (List.getElem?_eq_getElem hlt)).1
       obtain ⟨_,_,_,_,hF1,_⟩:=o1.inv.blk id mb _ hm hg1
       have hin : ∀ (j : Nat) (c : AV),cs'[j]? = some c → fput F1 mb.cb mb.base (mb.base + cs'.length) vs mb.cb (mb.base + j) = some (vs.getD (mb.base + j) undef):=fun j c hc => by
        have:=(List.getElem?_eq_some_iff.1 hc).1
        unfold fput
        rw [if_pos ⟨rfl,by omega,by omega⟩]
       have hfle : FLe F1 (fput F1 mb.cb mb.base (mb.base + cs'.length) vs):=by
        intro b o v hv
        unfold fput
        split
        ·rename_i hh
         rw [hh.1,hF1 rfl o] at hv
         cases hv
        ·exact hv
       obtain ⟨hfr,hI'⟩:=o1.inv.freeze hm (live_of hg1 (by simp)) hcb mb.base (mb.base + cs'.length) (by omega) (hF1 rfl) (.box true cs')
        ⟨vs,hcb,by omega,fun j c hc => ⟨hone j c hc,.fz ((r1 j c hc).mono hfle)⟩,by simp,fun _ j c hc => ⟨(r1 j c hc).mono hfle,hin j c hc⟩⟩
       refine ⟨_,o1.trans ⟨hfr,hI',fun j hj => live_set hj (.inl (live_of hg1 (by simp))),by simp⟩,?_⟩
       have : VF (fput F1 mb.cb mb.base (mb.base + cs'.length) vs) (.pim [cs'] 0 off) (.pointer (some ⟨mb.cb,mb.base + 0 * cs'.length + off,none⟩)):=by
        refine .pim (sz:=cs'.length) (b:=mb.cb) (o:=mb.base) (fun i j => vs.getD (mb.base + j) undef) (fun i r hr => ?_) (fun i r j c hr hc => ?_) (fun i r j c hr hc => ?_) (fun i r j c hr hc => ?_)
        all_goals
         obtain ⟨rfl,rfl⟩ : i = 0 ∧ r = cs':=by
          cases i with
          | zero => simp at hr; exact ⟨rfl,hr.symm⟩
          | succ i => simp at hr
        ·rfl
        ·exact hone j c hc
        ·simp only [Nat.zero_mul,Nat.add_zero]; exact hin j c hc
        ·exact (r1 j c hc).mono hfle
       simpa using this
      ·cases h
     ·simp at h
    ·simp at h
  ·cases cs with
   | nil =>
    simp [frz.frzL] at h
    obtain ⟨rfl,rfl⟩:=h
    exact ⟨F,FrzOk.refl hI,by simp⟩
   | cons c cs =>
    simp only [frz.frzL,Option.bind_eq_bind,Option.bind_eq_some_iff] at h
    obtain ⟨⟨x,H1⟩,hx,⟨y,H2⟩,hy,h⟩:=h
    cases h
    obtain ⟨F1,o1,r1⟩:=ih.1 H H1 F c x (us 0) hx hI (hv 0 c rfl)
    obtain ⟨F2,o2,r2⟩:=ih.2 H1 _ F1 cs y (fun i => us (i + 1)) hy o1.inv (fun i c hc => (hv (i + 1) c (by simpa using hc)).mono (MLe.refl m) o1.fr.le)
    refine ⟨F2,o1.trans o2,fun i a ha => ?_⟩
    cases i with
    | zero => simp at ha; subst ha; exact r1.mono o2.fr.le
    | succ i => exact r2 i a (by simpa using ha)
end Go.VI
namespace Go.VI
variable {P : Program}
def OpOk (P : Program) (co : Oper) (a : Act) (al : Option Nat) (m : Mp) (F : Fz) (w : World) (v : AV) (H' : Heap) : Prop :=
 ∃ nx u m' F' w',(execOp a.eval co).run P w = .ok nx w' ∧ (nx = .value u ∨ nx = .skip ∧ u = undef) ∧ VR m' F' v u ∧ Inv P m' F' H' w' ∧ Ext m F w m' F' w' ∧ Dom al m m'
structure Sit (P : Program) (m : Mp) (F : Fz) (H : Heap) (w : World) (e : Env) (a : Act) : Prop where
 inv : Inv P m F H w
 env : EnvR m F e a.tmps
theorem Sit.ev {m : Mp} {F : Fz} {H : Heap} {w : World} {e : Env} {a : Act} (h : Sit P m F H w e a) (x : Operand) : VR m F (ev e x) (a.eval x):=by
 cases x with
 | tmp t => exact h.env.val t
 | const v => exact vr_ofC F m v
 | global g => exact .bad _
 | func f => exact .fz (.fn rfl rfl (by simp) (by simp))
theorem OpOk.still {P : Program} {co : Oper} {a : Act} {al : Option Nat} {m : Mp} {F : Fz} {H : Heap} {w : World} {v : AV} {u : Value} (hI : Inv P m F H w) (hr : (execOp a.eval co).run P w = .ok (.value u) w) (hv : VR m F v u) : OpOk P co a al m F w v H :=
 ⟨_,u,m,F,w,hr,.inl rfl,hv,hI,Ext.refl m F w,Dom.refl al m⟩
theorem toB_some {m : Mp} {F : Fz} {x : AV} {v : Value} {t : Bool} (h : toB x = some t) (hv : VR m F x v) : v = .bool t:=by
 unfold toB at h
 split at h
 ·cases h
  exact (vr_sc hv).1
 ·cases h
theorem toI_some {m : Mp} {F : Fz} {x : AV} {v : Value} {n : Int} (h : toI x = some n) (hv : VR m F x v) : ∃ k,v = .int k n:=by
 unfold toI at h
 split at h
 ·cases h
  exact ⟨_,(vr_sc hv).1⟩
 ·cases h
theorem pureRun_some {α : Type} {s : Sem α} {x : α} (h : pureRun s = some x) (P : Program) (w : World) : s.run P w = .ok x w:=by
 unfold pureRun at h
 split at h
 ·cases h
  rfl
 ·cases h
theorem ofScalar_some {v : Value} {a : AV} (h : ofScalar v = some a) : a = .sc v ∧ isSc v = true:=by
 unfold ofScalar at h
 split at h
 ·cases h
  exact ⟨rfl,by assumption⟩
 ·cases h
theorem vr_cells {m : Mp} {F : Fz} {x : AV} {v : Value} (h : VR m F x v) (h1 : oneAll x.cells = true) :
  v.cells.size = x.cells.length ∧ ∀ (i : Nat) (c : AV),x.cells[i]? = some c → c.one = true ∧ VR m F c (v.cells.getD i undef):=by
 cases x with
 | agg cs =>
  obtain ⟨vs,rfl,hs,ho,hv⟩:=vr_agg h
  exact ⟨hs,fun i c hc => ⟨ho i c hc,hv i c hc⟩⟩
 | bad => simp [AV.cells,oneAll,AV.one] at h1
 | tup vs => simp [AV.cells,oneAll,AV.one] at h1
 | _ =>
  have ho:=oneCell_of h rfl
  have : v.cells = #[v]:=by cases v <;> simp_all [Value.cells,Value.oneCell']
  rw [this]
  refine ⟨rfl,fun i c hc => ?_⟩
  cases i with
  | zero => simp [AV.cells] at hc; subst hc; exact ⟨rfl,by simpa using h⟩
  | succ i => simp [AV.cells] at hc
theorem infoA_some {P : Program} {t : TypeId} {i : Nat × Nat × List AV} (h : infoA P t = some i) :
  ∃ ti z,P.info? t = some ti ∧ ti.zero = some z ∧ i = (ti.size,ti.bytes,z.cells.toList.map .sc) ∧ (∀ x ∈ z.cells.toList,isSc x = true) ∧ z.cells.size = ti.size ∧ 0 < ti.size ∧ 0 < ti.bytes:=by
 simp only [infoA,Option.bind_eq_some_iff] at h
 obtain ⟨ti,h1,z,h2,h⟩:=h
 split at h
 ·rename_i hc
  cases h
  exact ⟨ti,z,h1,h2,rfl,List.all_eq_true.1 hc.1,hc.2.1,hc.2.2.1,hc.2.2.2⟩
 ·cases h
theorem run_sizeOf' {P : Program} {t : TypeId} {ti : TypeInfo} (h : P.info? t = some ti) (w : World) : (sizeOf t).run P w = .ok ti.size w:=by simp [sizeOf,typeInfo,h]
theorem run_zero' {P : Program} {t : TypeId} {ti : TypeInfo} {z : Value} (h : P.info? t = some ti) (hz : ti.zero = some z) (w : World) : (zeroValue t).run P w = .ok z w:=by simp [zeroValue,typeInfo,h,hz]
theorem run_under' {P : Program} {t : TypeId} {d : TypeDesc} (h : P.underlying t = some d) (w : World) : (underlying t).run P w = .ok d w:=by simp [underlying,h]
theorem aggB_some {P : Program} {t : TypeId} {g : Bool} (h : aggB P t = some g) (w : World) : (isAgg t).run P w = .ok g w:=by
 unfold aggB at h
 split at h
 ·rename_i d hd; cases h; simp [isAgg,run_under' hd]
 ·rename_i d d' hd; cases h; simp [isAgg,run_under' hd]
 ·rename_i d h1 h2 hd
  cases h
  simp only [isAgg,Sem.run_bind,run_under' hd,Result.andThen_ok]
  rfl
 ·cases h
theorem elemA_some {P : Program} {t el : TypeId} (h : elemA P t = some el) : P.underlying t = some (.slice el):=by
 unfold elemA at h
 split at h
 ·rename_i e hd; cases h; exact hd
 ·cases h
theorem fieldsA_some {P : Program} {t : TypeId} {fs : Array Field} (h : fieldsA P t = some fs) : P.underlying t = some (.struct fs):=by
 unfold fieldsA at h
 split at h
 ·rename_i e hd; cases h; exact hd
 ·cases h
theorem run_newVar (P : Program) (t : TypeId) (v : Value) (w : World) : (newVar t v).run P w = .ok ⟨w.heap.size,0,none⟩ (w.alloc (.cells v.cells t)):=by
 simp [newVar,newRow]
theorem cb_alloc (w : World) (vs : Array Value) (t : TypeId) : CB (w.alloc (.cells vs t)) w.heap.size vs :=
 ⟨t,(0,0),heap_alloc_at,.inl rfl⟩
theorem getD_of {vs : Array Value} {i : Nat} {v : Value} (h : vs[i]? = some v) : vs.getD i undef = v:=by simp [Array.getD_eq_getD_getElem?,h]
theorem newBox {m : Mp} {F : Fz} {H : Heap} {w : World} {nid : Nat} (hn : Free m H nid) (hI : Inv P m F H w) (cs : List AV) (vs : Array Value) (t : TypeId) (hl : vs.size = cs.length)
  (hc : ∀ (j : Nat) (c : AV),cs[j]? = some c → c.one = true ∧ VR m F c (vs.getD j undef)) :
  ∃ m',VR m' F (.ptr nid 0 0) (.pointer (some ⟨w.heap.size,0,none⟩)) ∧ Inv P m' F (H.put nid (.box false cs)) (w.alloc (.cells vs t)) ∧ Ext m F w m' F (w.alloc (.cells vs t)) ∧ Dom (some nid) m m':=by
 have hm:=mset_le ⟨w.heap.size,0,vs.size,1⟩ hn.no
 obtain ⟨h1,h2⟩:=Inv.push hn hI (wd:=w) rfl rfl rfl rfl (.cells vs t) (.box false cs) 0 vs.size 1
  ⟨vs,cb_alloc w vs t,by simp [hl],fun j c hj => ⟨(hc j c hj).1,by simpa using (hc j c hj).2.mono hm (FLe.refl F)⟩,fun _ o => hI.fz_new (Nat.le_refl _) o,by simp⟩
 refine ⟨_,?_,h1,h2,Dom.mset _ _ _⟩
 have : VR (mset m nid ⟨w.heap.size,0,vs.size,1⟩) F (.ptr nid 0 0) (.pointer (some ⟨w.heap.size,0 + 0 * vs.size + 0,none⟩)):=.ptr (mset_self _ _ _)
 simpa using this
theorem sim_alloc {P : Program} {m : Mp} {F : Fz} {H : Heap} {w : World} {e : Env} {a : Act} {nid : Nat} (hn : Free m H nid) (hs : Sit P m F H w e a) {co : Oper} {t : TypeId} (ho : co.op = .alloc t) {i : Nat × Nat × List AV} (hi : infoA P t = some i) :
  OpOk P co a (some nid) m F w (.ptr nid 0 0) (H.put nid (.box false i.2.2)):=by
 obtain ⟨ti,z,h1,h2,rfl,h4,h5,_⟩:=infoA_some hi
 obtain ⟨m',a1,a2,a3,a4⟩:=newBox hn hs.inv (z.cells.toList.map .sc) z.cells t (by simp) (fun j c hj => by
  rw [List.getElem?_map,Option.map_eq_some_iff] at hj
  obtain ⟨x,hx,rfl⟩:=hj
  rw [getD_of (by simpa using hx)]
  exact ⟨rfl,.fz (.sc (h4 x (List.mem_of_getElem? hx)))⟩)
 refine ⟨_,_,m',F,_,?_,.inl rfl,a1,a2,a3,a4⟩
 simp only [execOp,ho,Instr.alloc,Sem.run_bind,run_zero' h1 h2,Result.andThen_ok,run_newVar,Sem.run_pure]
theorem sim_box {P : Program} {m : Mp} {F : Fz} {H : Heap} {w : World} {e : Env} {a : Act} {nid : Nat} (hn : Free m H nid) (hs : Sit P m F H w e a) {co : Oper} {t : TypeId} {x : Operand} (ho : co.op = .box t x)
  (h1 : oneAll (ev e x).cells = true) : OpOk P co a (some nid) m F w (.ptr nid 0 0) (H.put nid (.box false (ev e x).cells)):=by
 obtain ⟨hl,hc⟩:=vr_cells (hs.ev x) h1
 obtain ⟨m',a1,a2,a3,a4⟩:=newBox hn hs.inv (ev e x).cells (a.eval x).cells t hl hc
 refine ⟨_,_,m',F,_,?_,.inl rfl,a1,a2,a3,a4⟩
 simp only [execOp,ho,Instr.box,Sem.run_bind,run_newVar,Result.andThen_ok,Sem.run_pure]
theorem cellsAt_sound {m : Mp} {F : Fz} {H : Heap} {w : World} (hI : Inv P m F H w) {p : AV} {v : Value} (hv : VR m F p v) {n : Nat} {cs : List AV} (h : cellsAt H p n = some cs) :
  ∃ b o,v = .pointer (some ⟨b,o,none⟩) ∧ cs.length = n ∧ ∀ (j : Nat) (c : AV),cs[j]? = some c → c.one = true ∧ ∃ u,w.cell? ⟨b,o + j,none⟩ = some u ∧ VR m F c u:=by
 cases p with
 | ptr id i off =>
  obtain ⟨mb,hm,rfl⟩:=vr_ptr hv
  simp only [cellsAt] at h
  refine ⟨_,_,rfl,?_⟩
  split at h
  ·rename_i fz cs0 hg
   obtain ⟨vs,hcb,hfit,hcs,_⟩:=hI.blk id mb _ hm hg
   split at h
   ·rename_i hh
    cases h
    obtain ⟨rfl,hle⟩:=hh
    refine ⟨by simp; omega,fun j c hj => ?_⟩
    obtain ⟨hj,hjn⟩:=getElem_drop_take hj
    obtain ⟨h1,h2⟩:=hcs _ c hj
    have hlt:=(List.getElem?_eq_some_iff.1 hj).1
    refine ⟨h1,_,?_,h2⟩
    have:=hcb.cell (mb.base + (off + j)) (by omega)
    simpa [Nat.add_assoc] using this
   ·cases h
  ·rename_i fz sz rs hg
   obtain ⟨vs,hcb,hsz,hcn,hfit,hrl,hrc,_⟩:=hI.blk id mb _ hm hg
   subst hsz
   split at h
   ·rename_i r hr
    split at h
    ·rename_i hle
     cases h
     refine ⟨by simp; omega,fun j c hj => ?_⟩
     obtain ⟨hj,hjn⟩:=getElem_drop_take hj
     obtain ⟨h1,h2⟩:=hrc i r _ c hr hj
     have hlt:=(List.getElem?_eq_some_iff.1 hj).1
     have hilt:=(List.getElem?_eq_some_iff.1 hr).1
     have hr2:=hrl i r hr
     refine ⟨h1,_,?_,.fz h2⟩
     have hb : mb.base + i * mb.sz + (off + j) < vs.size:=by
      have : (i + 1) * mb.sz ≤ mb.cn * mb.sz:=Nat.mul_le_mul_right _ (by omega)
      rw [Nat.add_mul,Nat.one_mul] at this
      omega
     have:=hcb.cell _ hb
     simpa [Nat.add_assoc] using this
    ·cases h
   ·cases h
  ·cases h
 | pim rows i off =>
  have hv:=vr_pim hv
  cases hv with
  | pim cv hr h1 hc hh =>
  simp only [cellsAt] at h
  refine ⟨_,_,rfl,?_⟩
  split at h
  ·rename_i r hr'
   split at h
   ·rename_i hle
    cases h
    refine ⟨by simp; omega,fun j c hj => ?_⟩
    obtain ⟨hj,hjn⟩:=getElem_drop_take hj
    refine ⟨h1 i r _ c hr' hj,_,hI.fz _ _ _ ?_,.fz (hh i r _ c hr' hj)⟩
    have:=hc i r _ c hr' hj
    rw [← Nat.add_assoc] at this
    exact this
   ·cases h
  ·cases h
 | _ => simp [cellsAt] at h
theorem loaded {P : Program} {m : Mp} {F : Fz} {H : Heap} {w : World} (hI : Inv P m F H w) {p : AV} {pv : Value} (hv : VR m F p pv) {n : Nat} {cs : List AV} (h : cellsAt H p n = some cs) {t : TypeId} {g : Bool} (hg : aggB P t = some g)
  {ti : TypeInfo} (hi : P.info? t = some ti) (hn : ti.size = n) {r : AV} (hp : pack g cs = some r) : ∃ ad u,pv = .pointer (some ad) ∧ (loadVar t ad).run P w = .ok u w ∧ VR m F r u:=by
 obtain ⟨b,o,rfl,hl,hc⟩:=cellsAt_sound hI hv h
 cases g with
 | true =>
  simp [pack] at hp
  subst hp
  have hrun:=run_loadCells (P:=P) (w:=w) ⟨b,o,none⟩ n (fun j => (w.cell? ⟨b,o + j,none⟩).getD undef) (fun j hj => by
   obtain ⟨_,u,hu,_⟩:=hc j cs[j] (List.getElem?_eq_getElem (by omega))
   rw [addr_add,hu]; rfl)
  refine ⟨_,.agg ((List.range n).map fun j => (w.cell? ⟨b,o + j,none⟩).getD undef).toArray,rfl,?_,?_⟩
  ·simp only [loadVar,Sem.run_bind,aggB_some hg,Result.andThen_ok,Sem.run_ite,if_true,run_sizeOf' hi,hn,hrun]
   rfl
  ·refine .agg (by simp [hl]) (fun i c hi => (hc i c hi).1) (fun i c hi => ?_)
   obtain ⟨_,u,hu,hr⟩:=hc i c hi
   have hlt : i < n:=by rw [← hl]; exact (List.getElem?_eq_some_iff.1 hi).1
   have : ((List.range n).map fun j => (w.cell? ⟨b,o + j,none⟩).getD undef).toArray.getD i undef = u:=by
    refine getD_of ?_
    simp [hlt,hu]
   rw [this]
   exact hr
 | false =>
  simp only [pack] at hp
  split at hp
  ·cases ‹false = true›
  ·split at hp
   ·rename_i c
    cases hp
    obtain ⟨_,u,hu,hr⟩:=hc 0 r rfl
    simp only [Nat.add_zero] at hu
    refine ⟨_,_,rfl,?_,hr⟩
    simp only [loadVar,Sem.run_bind,aggB_some hg,Result.andThen_ok]
    simp [hu]
   ·cases hp
theorem sim_load {P : Program} {m : Mp} {F : Fz} {H : Heap} {w : World} {e : Env} {a : Act} (hs : Sit P m F H w e a) {co : Oper} {t : TypeId} {x : Operand} (ho : co.op = .load t x) {g : Bool} (hg : aggB P t = some g) {i : Nat × Nat × List AV} (hi : infoA P t = some i)
  {cs : List AV} (h : cellsAt H (ev e x) i.1 = some cs) {r : AV} (hp : pack g cs = some r) {al : Option Nat} : OpOk P co a al m F w r H:=by
 obtain ⟨ti,z,h1,h2,rfl,h4,h5,_⟩:=infoA_some hi
 obtain ⟨ad,u,he,hr,hv⟩:=loaded hs.inv (hs.ev x) h hg h1 rfl hp
 refine OpOk.still hs.inv ?_ hv
 simp [execOp,ho,Instr.loadAt,he,Instr.sureAddr,hr]
end Go.VI
namespace Go.VI
variable {P : Program}
theorem cb_other {m : Mp} {F : Fz} {H : Heap} {w : World} (hI : Inv P m F H w) {id j : Nat} {mb mj : MB} (hm : m id = some mb) (hj : m j = some mj) (hl : live H id) (lj : live H j) (hne : j ≠ id) : mj.cb ≠ mb.cb :=
 fun e => hne (hI.inj j id mj mb hj hm lj hl e)
theorem Inv.write {m : Mp} {F : Fz} {H : Heap} {w w' : World} (h : Inv P m F H w) {id : Nat} {mb : MB} (hm : m id = some mb) (hl : live H id) {o : Nat} {us : List Value} {vs vs' : Array Value} (hw : Wrote w w' mb.cb o us vs vs')
  (hn : ∀ o,F mb.cb o = none) (B' : Blk) (hB : BlkR P m F w' mb B') : Inv P m F (H.set id B') w' ∧ Ext m F w m F w':=by
 refine ⟨h.next (MLe.refl m) (FLe.refl F) (fun b o v hv => ?_) (fun j mj hj => ?_) (fun j mj B hj hB2 => ?_) (fun i j mi mj hi hj li lj e => ?_),?_⟩
 ·have : b ≠ mb.cb:=fun e => by rw [e,hn o] at hv; cases hv
  rw [cell_of_heap (hw.heap b this)]
  exact h.fz b o v hv
 ·have:=h.lt j mj hj
  simp only [Heap.next_set]
  rw [hw.hs]
  exact this
 ·by_cases e : j = id
  ·subst e
   rw [Heap.get_set_self _ (h.lt _ _ hm).1] at hB2
   cases hB2
   rw [hm] at hj
   cases hj
   exact .inr hB
  ·rw [Heap.get_set_ne _ e] at hB2
   by_cases hd : B = .dead
   ·subst hd
    exact .inr trivial
   ·exact .inl ⟨hj,hB2,hw.heap _ (cb_other h hm hj hl (live_of hB2 hd) e),fun _ _ hv => hv⟩
 ·exact h.inj i j mi mj hi hj (live_set li (.inl hl)) (live_set lj (.inl hl)) e
 ·exact ⟨MLe.refl m,FLe.refl F,by rw [hw.hs]; exact Nat.le_refl _,hw.tape,hw.os,hw.out,fun b _ hb => hw.heap b (fun e => hb id mb hm e.symm),fun _ _ x => .inl x,fun _ _ _ x => .inl x⟩
theorem getElem?_splice {α : Type} {l : List α} {off : Nat} {xs : List α} (h : off + xs.length ≤ l.length) (j : Nat) :
  (splice l off xs)[j]? = if off ≤ j ∧ j < off + xs.length then xs[j - off]? else l[j]?:=by
 unfold splice
 by_cases h1 : j < off
 ·rw [if_neg (by omega),List.getElem?_append_left (by simp; omega),List.getElem?_append_left (by simp; omega),List.getElem?_take_of_lt h1]
 ·by_cases h2 : j < off + xs.length
  ·rw [if_pos ⟨by omega,h2⟩,List.getElem?_append_left (by simp; omega),List.getElem?_append_right (by simp; omega)]
   congr 1
   simp
   omega
  ·rw [if_neg (by omega),List.getElem?_append_right (by simp; omega),List.getElem?_drop]
   congr 1
   simp
   omega
theorem length_splice {α : Type} {l : List α} {off : Nat} {xs : List α} (h : off + xs.length ≤ l.length) : (splice l off xs).length = l.length:=by
 simp [splice]
 omega
theorem run_storeVar {P : Program} {m : Mp} {F : Fz} {w : World} {t : TypeId} {ti : TypeInfo} (hi : P.info? t = some ti) {b o : Nat} {vs : Array Value} (hc : CB w b vs) {x : AV} {v : Value} (hv : VR m F x v) (h1 : oneAll x.cells = true)
  (hn : x.cells.length = ti.size) (hfit : o + x.cells.length ≤ vs.size) :
  ∃ w' vs',(storeVar t ⟨b,o,none⟩ v).run P w = .ok () w' ∧ Wrote w w' b o v.cells.toList vs vs':=by
 obtain ⟨hl,hcs⟩:=vr_cells hv h1
 obtain ⟨w',vs',hr,hw⟩:=run_stores P b o v.cells.toList 0 w vs hc (by simp; omega) (fun u hu => by
  obtain ⟨i,hi⟩:=List.getElem?_of_mem hu
  have hlt : i < x.cells.length:=by have:=(List.getElem?_eq_some_iff.1 hi).1; simp at this; omega
  obtain ⟨a,b⟩:=hcs i _ (List.getElem?_eq_getElem hlt)
  rw [getD_of (by simpa using hi)] at b
  exact oneCell_of b a)
 refine ⟨w',vs',?_,by simpa using hw⟩
 simp only [storeVar,Sem.run_bind,run_sizeOf' hi,Result.andThen_ok]
 rw [if_neg (by simp; omega)]
 exact hr
theorem frzCells_sound {m : Mp} {F : Fz} {H H' : Heap} {w : World} (hI : Inv P m F H w) {x : AV} {v : Value} (hv : VR m F x v) (h1 : oneAll x.cells = true) {cs : List AV} (h : frzCells H x.cells = some (cs,H')) :
  ∃ F',FrzOk P m F H w F' H' ∧ cs.length = x.cells.length ∧ ∀ (i : Nat) (c : AV),cs[i]? = some c → c.one = true ∧ VF F' c (v.cells.getD i undef):=by
 obtain ⟨hl,hcs⟩:=vr_cells hv h1
 obtain ⟨F',ho,hr⟩:=(frz_sound FZ).2 H H' F x.cells cs (fun i => v.cells.getD i undef) h hI (fun i c hc => (hcs i c hc).2)
 obtain ⟨hl2,hq⟩:=frzL_one h
 refine ⟨F',ho,hl2,fun i c hc => ⟨?_,hr i c hc⟩⟩
 have hlt : i < x.cells.length:=by rw [← hl2]; exact (List.getElem?_eq_some_iff.1 hc).1
 exact hq i _ c (List.getElem?_eq_getElem hlt) hc (hcs i _ (List.getElem?_eq_getElem hlt)).1
theorem FrzOk.ext {m : Mp} {F F' : Fz} {H H' : Heap} {w : World} (h : FrzOk P m F H w F' H') : Ext m F w m F' w:=h.fr.ext w
theorem storeA_sound {P : Program} {m : Mp} {F : Fz} {H H' : Heap} {w : World} (hI : Inv P m F H w) {t : TypeId} {ti : TypeInfo} (hi : P.info? t = some ti) {p x : AV} {pv v : Value} (hp : VR m F p pv) (hv : VR m F x v)
    (h : storeA H p ti.size x = some H') : ∃ ad F' w', pv = .pointer (some ad) ∧ (storeVar t ad v).run P w = .ok () w' ∧ Inv P m F' H' w' ∧ Ext m F w m F' w' := by
  unfold storeA at h
  split at h
  rotate_left
  · cases h
  rename_i hh
  obtain ⟨hn, h1⟩ := hh
  split at h
  rotate_left
  · cases h
  rename_i id i off
  obtain ⟨mb, hm, rfl⟩ := vr_ptr hp
  split at h
  · rename_i cs hg
    split at h
    rotate_left
    · cases h
    rename_i hh
    obtain ⟨rfl, hle⟩ := hh
    cases h
    obtain ⟨vs, hcb, hfit, hcs, hF, _⟩ := hI.blk id mb _ hm hg
    obtain ⟨hl, hcx⟩ := vr_cells hv h1
    obtain ⟨w', vs', hr, hw⟩ := run_storeVar (P := P) (o := mb.base + 0 * mb.sz + off) hi hcb hv h1 hn (by omega)
    simp only [Nat.zero_mul, Nat.add_zero] at hr hw ⊢
    have hlen : v.cells.toList.length = x.cells.length := by simpa using hl
    have key : BlkR P m F w' mb (.box false (splice cs off x.cells)) := by
      refine ⟨vs', hw.cb, by rw [length_splice (by omega), hw.size]; exact hfit, fun j c hj => ?_, hF, by simp⟩
      rw [getElem?_splice (by omega)] at hj
      split at hj
      · rename_i hr2
        obtain ⟨a, b⟩ := hcx _ c hj
        refine ⟨a, ?_⟩
        have := hw.at_ (j - off) (by omega)
        rw [show mb.base + off + (j - off) = mb.base + j by omega] at this
        rw [this]
        simpa [List.getD_eq_getElem?_getD, Array.getD_eq_getD_getElem?] using b
      · rename_i hr2
        obtain ⟨a, b⟩ := hcs j c hj
        rw [hw.ne _ (by omega)]
        exact ⟨a, b⟩
    obtain ⟨a, b⟩ := hI.write hm (live_of hg (by simp)) hw (hF rfl) _ key
    exact ⟨_, F, w', rfl, hr, a, b⟩
  · rename_i sz0 rs0 hg0
    simp only [Option.bind_eq_some_iff] at h
    obtain ⟨⟨cs, H1⟩, hc1, h⟩ := h
    obtain ⟨F1, o1, hl1, hcs1⟩ := frzCells_sound hI hv h1 hc1
    simp only at h
    split at h
    rotate_left
    · cases h
    rename_i sz rs hg
    split at h
    rotate_left
    · cases h
    rename_i r hr0
    split at h
    rotate_left
    · cases h
    rename_i hle
    cases h
    obtain ⟨vs, hcb, hsz, hcn, hfit, hrl, hrc, hF, _, hfull⟩ := o1.inv.blk id mb _ hm hg
    subst hsz
    have hilt := (List.getElem?_eq_some_iff.1 hr0).1
    have hrow : (i + 1) * mb.sz ≤ mb.cn * mb.sz := Nat.mul_le_mul_right _ (by omega)
    rw [Nat.add_mul, Nat.one_mul] at hrow
    have hr2 := hrl i r hr0
    have hv1 : VR m F1 x v := hv.mono (MLe.refl m) o1.fr.le
    obtain ⟨hl, _⟩ := vr_cells hv h1
    obtain ⟨w', vs', hr, hw⟩ := run_storeVar (P := P) (o := mb.base + i * mb.sz + off) hi hcb hv1 h1 hn (by omega)
    have hlen : v.cells.toList.length = x.cells.length := by simpa using hl
    have hst : ∀ (rs : List (List AV)), rs[i]? = some r → RowC F1 vs mb.base mb.sz rs → RowC F1 vs' mb.base mb.sz (rs.set i (splice r off cs)) := fun rs hr0 hR => by
     have hilt := (List.getElem?_eq_some_iff.1 hr0).1
     refine ⟨fun k q hq => ?_, fun k q j c hq hj => ?_⟩
     · rw [List.getElem?_set] at hq
       split at hq
       · simp only [Option.some.injEq] at hq
         subst hq
         rw [length_splice (by omega)]
         exact hr2
       · exact hR.len k q hq
     · rw [List.getElem?_set] at hq
       by_cases hk : i = k
       · subst hk
         rw [if_pos rfl, if_pos hilt] at hq
         cases hq
         rw [getElem?_splice (by omega)] at hj
         split at hj
         · rename_i hr3
           obtain ⟨a, b⟩ := hcs1 _ c hj
           refine ⟨a, ?_⟩
           have := hw.at_ (j - off) (by omega)
           rw [show mb.base + i * mb.sz + off + (j - off) = mb.base + i * mb.sz + j by omega] at this
           rw [this]
           simpa [List.getD_eq_getElem?_getD, Array.getD_eq_getD_getElem?] using b
         · rename_i hr3
           obtain ⟨a, b⟩ := hR.cell i r j c hr0 hj
           have hjlt := (List.getElem?_eq_some_iff.1 hj).1
           rw [hw.ne _ (by omega)]
           exact ⟨a, b⟩
       · rw [if_neg hk] at hq
         obtain ⟨a, b⟩ := hR.cell k q j c hq hj
         have hjlt := (List.getElem?_eq_some_iff.1 hj).1
         rw [hR.len k q hq] at hjlt
         rw [hw.ne _ ?_]
         · exact ⟨a, b⟩
         · rcases Nat.lt_or_ge k i with h3 | h3
           · left
             have : (k + 1) * mb.sz ≤ i * mb.sz := Nat.mul_le_mul_right _ h3
             rw [Nat.add_mul, Nat.one_mul] at this
             omega
           · right
             have : (i + 1) * mb.sz ≤ k * mb.sz := Nat.mul_le_mul_right _ (by omega)
             rw [Nat.add_mul, Nat.one_mul] at this
             omega
    have key : BlkR P m F1 w' mb (.row false mb.sz (rs.set i (splice r off cs))) := by
      have hk := hst rs hr0 ⟨hrl, hrc⟩
      refine ⟨vs', hw.cb, rfl, by simpa using hcn, by rw [hw.size]; exact hfit, hk.len, hk.cell, hF, by simp, fun _ => ⟨?_, fun h => hw.unm ((hfull rfl).2 h)⟩⟩
      obtain ⟨⟨rsF, f1, f2, f3⟩, _⟩ := hfull rfl
      refine ⟨rsF.set i (splice r off cs), by simpa using f1, ?_, hst rsF ?_ f3⟩
      · rw [List.length_set, List.take_set, f2]
      · have := hr0
        rw [← f2, List.getElem?_take_of_lt hilt] at this
        exact this
    obtain ⟨a, b⟩ := o1.inv.write hm (live_of hg (by simp)) hw (hF rfl) _ key
    exact ⟨_, F1, w', rfl, hr, a, o1.ext.trans b⟩
  · cases h
theorem sim_store {P : Program} {m : Mp} {F : Fz} {H H' : Heap} {w : World} {e : Env} {a : Act} (hs : Sit P m F H w e a) {co : Oper} {t : TypeId} {p x : Operand} (ho : co.op = .store t p x) {i : Nat × Nat × List AV} (hi : infoA P t = some i)
  (h : storeA H (ev e p) i.1 (ev e x) = some H') {al : Option Nat} : OpOk P co a al m F w .bad H':=by
 obtain ⟨ti,z,h1,h2,rfl,h4,h5,_⟩:=infoA_some hi
 obtain ⟨ad,F',w',he,hr,hI,hE⟩:=storeA_sound hs.inv h1 (hs.ev p) (hs.ev x) h
 refine ⟨_,undef,m,F',w',?_,.inr ⟨rfl,rfl⟩,.bad _,hI,hE,Dom.refl al m⟩
 simp [execOp,ho,Instr.storeAt,he,Instr.sureAddr,hr]
end Go.VI
namespace Go.VI
section
variable {P : Program} {m : Mp} {F : Fz} {H : Heap} {w : World} {e : Env} {a : Act} {co : Oper} {nid : Nat} {al : Option Nat}
theorem sim_mov (hs : Sit P m F H w e a) {x : Operand} (ho : co.op = .move x ∨ co.op = .assign x) : OpOk P co a al m F w (ev e x) H:=by
 refine OpOk.still hs.inv ?_ (hs.ev x)
 rcases ho with ho | ho <;> simp [execOp,ho]
theorem sim_pick (hs : Sit P m F H w e a) {c x y : Operand} (ho : co.op = .pick c x y) {t : Bool} (h : toB (ev e c) = some t) : OpOk P co a al m F w (if t then ev e x else ev e y) H:=by
 have hc:=toB_some h (hs.ev c)
 cases t
 ·exact OpOk.still (u:=a.eval y) hs.inv (by simp [execOp,ho,hc,asBool]) (hs.ev y)
 ·exact OpOk.still (u:=a.eval x) hs.inv (by simp [execOp,ho,hc,asBool]) (hs.ev x)
theorem sim_ext (hs : Sit P m F H w e a) {x : Operand} {i : Nat} (ho : co.op = .extract x i) {vs : List AV} (hx : ev e x = .tup vs) {v : AV} (h : vs[i]? = some v) : OpOk P co a al m F w v H:=by
 obtain ⟨us,he,hl,hv⟩:=vr_tup (hx ▸ hs.ev x)
 have hlt : i < us.size:=by rw [hl]; exact (List.getElem?_eq_some_iff.1 h).1
 refine OpOk.still hs.inv ?_ (hv i v h)
 simp [execOp,ho,he,Instr.extract,hlt]
theorem sim_mkfn (hs : Sit P m F H w e a) {f : Fn} {first caps : Array Operand} (ho : co.op = .makeFunc f first caps) : OpOk P co a al m F w (.fn f (first.toList.map (ev e)) (caps.toList.map (ev e))) H:=by
 refine OpOk.still (u:=.func f (first.map a.eval) (caps.map a.eval)) hs.inv (by simp [execOp,ho,Instr.makeFunc]) (.fn (by simp) (by simp) (fun i c hc => ?_) (fun i c hc => ?_))
 all_goals
  rw [List.getElem?_map,Option.map_eq_some_iff] at hc
  obtain ⟨x,hx,rfl⟩:=hc
  rw [getD_of (v:=a.eval x) (by simpa using ⟨x,by simpa using hx,rfl⟩)]
  exact hs.ev x
theorem sim_nilck (hs : Sit P m F H w e a) {x : Operand} (ho : co.op = .nilCheck x) {v : AV} {H' : Heap} (h : opS nid e H (.nilck x) = some (v,H')) : OpOk P co a al m F w v H':=by
 have hv:=hs.ev x
 simp only [opS] at h
 split at h
 ·rename_i i j k hx
  cases h
  rw [hx] at hv
  obtain ⟨mb,hm,he⟩:=vr_ptr hv
  exact OpOk.still (u:=a.eval x) hs.inv (by simp [execOp,ho,he]) hv
 ·rename_i i j k hx
  cases h
  rw [hx] at hv
  have hp:=vr_pim hv
  refine OpOk.still (u:=a.eval x) hs.inv ?_ hv
  generalize hq : a.eval x = u at hp ⊢
  cases hp
  simp [execOp, *]
 ·rename_i f b c hx
  cases h
  rw [hx] at hv
  obtain ⟨vf,vc,he,_⟩:=vr_fn hv
  exact OpOk.still (u:=a.eval x) hs.inv (by simp [execOp,ho,he]) hv
 ·cases h
theorem vr_fldS {m : Mp} {F : Fz} {cs : List AV} {us : Array Value} (hl : us.size = cs.length) (h1 : ∀ (i : Nat) (c : AV),cs[i]? = some c → c.one = true) (h : ∀ (i : Nat) (c : AV),cs[i]? = some c → VR m F c (us.getD i undef))
  {off n : Nat} (hle : off + n ≤ cs.length) {P : Program} {w : World} {t : TypeId} {g : Bool} (hg : aggB P t = some g) {ti : TypeInfo} (hi : P.info? t = some ti) (hn : ti.size = n) {r : AV} (hp : pack g ((cs.drop off).take n) = some r) :
  ∃ u,(part t us off).run P w = .ok u w ∧ VR m F r u:=by
 cases g with
 | true =>
  simp [pack] at hp
  subst hp
  refine ⟨.agg (us.extract off (off + n)),?_,.agg (by simp; omega) (fun i c hc => h1 _ c (getElem_drop_take hc).1) (fun i c hc => ?_)⟩
  ·simp only [part,Sem.run_bind,aggB_some hg,Result.andThen_ok,Sem.run_ite,if_true,run_sizeOf' hi,hn]
   rfl
  ·obtain ⟨hc,hlt⟩:=getElem_drop_take hc
   have:=h _ c hc
   have hu : off + i < us.size:=by rw [hl]; exact (List.getElem?_eq_some_iff.1 hc).1
   rw [getD_of (v:=us.getD (off + i) undef)]
   ·exact this
   ·simp [Array.getElem?_extract,hu]
    omega
 | false =>
  simp only [pack] at hp
  split at hp
  ·cases ‹false = true›
  ·split at hp
   ·rename_i c he
    cases hp
    have h0 : ((cs.drop off).take n)[0]? = some r:=by rw [he]; rfl
    have hc:=(getElem_drop_take h0).1
    have hu : off < us.size:=by have:=(List.getElem?_eq_some_iff.1 hc).1; omega
    refine ⟨us.getD off undef,?_,h _ r hc⟩
    simp only [part,Sem.run_bind,aggB_some hg,Result.andThen_ok]
    simp [hu]
   ·cases hp
theorem sim_field (hs : Sit P m F H w e a) {t : TypeId} {x : Operand} {i : Nat} (ho : co.op = .field t x i) {fs : Array Field} (hf : fieldsA P t = some fs) {f : Field} (hfi : fs[i]? = some f) {g : Bool} (hg : aggB P f.type = some g) {j : Nat × Nat × List AV} (hj : infoA P f.type = some j)
  {cs : List AV} (hx : ev e x = .agg cs) (hle : f.offset + j.1 ≤ cs.length) {r : AV} (hp : pack g ((cs.drop f.offset).take j.1) = some r) : OpOk P co a al m F w r H:=by
 obtain ⟨ti,z,i1,i2,rfl,_⟩:=infoA_some hj
 obtain ⟨us,he,hl,h1,hv⟩:=vr_agg (hx ▸ hs.ev x)
 obtain ⟨u,hr,hu⟩:=vr_fldS (w:=w) hl h1 hv hle hg i1 rfl hp
 refine OpOk.still hs.inv ?_ hu
 simp [execOp,ho,Instr.field,run_under' (fieldsA_some hf),hfi,he,asAgg,hr]
theorem sim_index (hs : Sit P m F H w e a) {t : TypeId} {x ix : Operand} (ho : co.op = .index t x ix) {n : Nat} {el : TypeId} (hu : P.underlying t = some (.array n el)) {g : Bool} (hg : aggB P el = some g) {j : Nat × Nat × List AV} (hj : infoA P el = some j)
  {k : Int} (hk : toI (ev e ix) = some k) {cs : List AV} (hx : ev e x = .agg cs) (hb : 0 ≤ k ∧ k < n ∧ k.toNat * j.1 + j.1 ≤ cs.length) {r : AV} (hp : pack g ((cs.drop (k.toNat * j.1)).take j.1) = some r) : OpOk P co a al m F w r H:=by
 obtain ⟨ti,z,i1,i2,rfl,_⟩:=infoA_some hj
 obtain ⟨us,he,hl,h1,hv⟩:=vr_agg (hx ▸ hs.ev x)
 obtain ⟨kk,hk'⟩:=toI_some hk (hs.ev ix)
 obtain ⟨u,hr,hu'⟩:=vr_fldS (w:=w) hl h1 hv hb.2.2 hg i1 rfl hp
 refine OpOk.still hs.inv ?_ hu'
 simp [execOp,ho,Instr.index,run_under' hu,hk',asIntOf,he,hb.1,hb.2.1,run_sizeOf' i1,hr]
theorem sim_faddr (hs : Sit P m F H w e a) {t : TypeId} {x : Operand} {i : Nat} (ho : co.op = .fieldAddr t x i) {fs : Array Field} (hf : fieldsA P t = some fs) {f : Field} (hfi : fs[i]? = some f) {j : Nat × Nat × List AV} (hj : infoA P f.type = some j)
  {v : AV} {H' : Heap} (h : opS nid e H (.faddr f.offset x) = some (v,H')) : OpOk P co a al m F w v H':=by
 obtain ⟨ti,z,i1,i2,rfl,_,_,hpos,_⟩:=infoA_some hj
 have hv:=hs.ev x
 have hrun : ∀ b o,a.eval x = .pointer (some ⟨b,o,none⟩) → (execOp a.eval co).run P w = .ok (.value (.pointer (some ⟨b,o + f.offset,none⟩))) w:=by
  intro b o he
  simp only [execOp,ho,Instr.fieldAt,Sem.run_bind,run_under' (fieldsA_some hf),Result.andThen_ok,hfi,he,Instr.sureAddr,fieldPlace,run_sizeOf' i1,Sem.run_pure]
  rw [if_neg (by omega)]
  simp [addr_add]
 simp only [opS] at h
 split at h
 ·rename_i id k o hx
  cases h
  rw [hx] at hv
  obtain ⟨mb,hm,he⟩:=vr_ptr hv
  refine OpOk.still hs.inv (hrun _ _ he) ?_
  have:=VR.ptr (m:=m) (F:=F) (i:=k) (off:=o + f.offset) hm
  simpa [Nat.add_assoc] using this
 ·rename_i rows k o hx
  cases h
  rw [hx] at hv
  have hp:=vr_pim hv
  generalize hu : a.eval x = u at hp hrun
  cases hp with
  | pim cv hr h1 hc hh =>
   refine OpOk.still hs.inv (hrun _ _ rfl) (.fz ?_)
   have:=VF.pim (F:=F) (i0:=k) (off:=o + f.offset) cv hr h1 hc hh
   simpa [Nat.add_assoc] using this
 ·cases h
theorem rowSz_some {id sz : Nat} (h : rowSz H id = some sz) : ∃ fz rs,H.get id = some (.row fz sz rs):=by
 unfold rowSz at h
 split at h
 ·rename_i fz sz' rs hg
  cases h
  exact ⟨_,_,hg⟩
 ·cases h
theorem sim_iaddr (hs : Sit P m F H w e a) {t : TypeId} {x ix : Operand} (ho : co.op = .indexAddr t x ix) {arr : Option Nat} {el : TypeId} (hu : P.underlying t = some (match arr with | none => .slice el | some n => .array n el)) {j : Nat × Nat × List AV} (hj : infoA P el = some j)
  {k : Int} (hk : toI (ev e ix) = some k) {v : AV} (h : iaddrA H arr j.1 (ev e x) k = some v) : OpOk P co a al m F w v H:=by
 obtain ⟨ti,z,i1,i2,rfl,_⟩:=infoA_some hj
 obtain ⟨kk,hk'⟩:=toI_some hk (hs.ev ix)
 have hv:=hs.ev x
 unfold iaddrA at h
 split at h
 ·rename_i rows hx
  split at h
  rotate_left
  ·cases h
  rename_i h0
  split at h
  rotate_left
  ·cases h
  rename_i r hr0
  split at h
  rotate_left
  ·cases h
  rename_i hsz
  cases h
  rw [hx] at hv
  have hp:=vr_lst hv
  generalize hq : a.eval x = u at hp
  cases hp with
  | lst cv hcap hA hr h1 hc hh =>
   rename_i A cap sz b o
   have hlt:=(List.getElem?_eq_some_iff.1 hr0).1
   have hne : rows ≠ []:=by intro h0; subst h0; simp at hlt
   obtain rfl : sz = ti.size:=(hr _ r hr0).symm.trans hsz
   refine OpOk.still (u:=.pointer (some ⟨b,o + k.toNat * ti.size + 0,none⟩)) hs.inv ?_ (.fz (.pim cv hr h1 hc hh))
   have hk2 : k < rows.length:=by omega
   simp [execOp,ho,Instr.indexAt,hk',asIntOf,run_under' hu,hq,hA hne,h0,hk2,run_sizeOf' i1,addr_add]
 ·rename_i id off len hx
  split at h
  rotate_left
  ·cases h
  rename_i hb
  cases h
  rw [hx] at hv
  obtain ⟨mb,cap,hm,he,hcap,hlen⟩:=vr_sl hv
  obtain ⟨fz,rs,hg⟩:=rowSz_some hb.2.2
  obtain ⟨vs,_,hsz,_⟩:=hs.inv.blk id mb _ hm hg
  refine OpOk.still (u:=.pointer (some ⟨mb.cb,mb.base + (off + k.toNat) * mb.sz + 0,none⟩)) hs.inv ?_ (.ptr hm)
  simp [execOp,ho,Instr.indexAt,hk',asIntOf,run_under' hu,he,hb.1,hb.2.1,run_sizeOf' i1,addr_add,hsz,Nat.add_mul,Nat.add_assoc]
 ·rename_i n id i0 off hx
  split at h
  rotate_left
  ·cases h
  rename_i hb
  cases h
  rw [hx] at hv
  obtain ⟨mb,hm,he⟩:=vr_ptr hv
  refine OpOk.still (u:=.pointer (some ⟨mb.cb,mb.base + i0 * mb.sz + (off + k.toNat * ti.size),none⟩)) hs.inv ?_ (.ptr hm)
  simp [execOp,ho,Instr.indexAt,hk',asIntOf,run_under' hu,he,Instr.sureAddr,hb.1,hb.2,run_sizeOf' i1,addr_add,Nat.add_assoc]
 ·rename_i n rows i0 off hx
  split at h
  rotate_left
  ·cases h
  rename_i hb
  cases h
  rw [hx] at hv
  have hp:=vr_pim hv
  generalize hq : a.eval x = u at hp
  cases hp with
  | pim cv hr h1 hc hh =>
   rename_i sz b o
   refine OpOk.still (u:=.pointer (some ⟨b,o + i0 * sz + (off + k.toNat * ti.size),none⟩)) hs.inv ?_ (.fz (.pim cv hr h1 hc hh))
   simp [execOp,ho,Instr.indexAt,hk',asIntOf,run_under' hu,hq,Instr.sureAddr,hb.1,hb.2,run_sizeOf' i1,addr_add,Nat.add_assoc]
 ·cases h
end
end Go.VI
namespace Go.VI
section
variable {P : Program} {m : Mp} {F : Fz} {H : Heap} {w : World} {e : Env} {a : Act} {co : Oper} {nid : Nat} {al : Option Nat}
theorem toV_some {x : AV} {v u : Value} (h : toV x = some u) (hv : VR m F x v) : v = u:=by
 unfold toV at h
 split at h
 ·cases h
  exact (vr_sc hv).1
 ·cases h
theorem run_guard {op : BinOp} {t : TypeId} {x y : Operand} {u v : Value} (h : u ≠ .nilIface) (h2 : ∀ cs,u ≠ .agg cs) (w : World) : (eqGuard op t x y u v).run P w = .ok () w:=by
 cases op <;> cases u <;> first
  | rfl
  | exact absurd rfl h
  | exact absurd rfl (h2 _)
theorem sim_bin (hs : Sit P m F H w e a) {op : BinOp} {t ty : TypeId} {x y : Operand} (ho : co.op = .binOp op t x y ty) {v : AV} (h : binA op t (ev e x) (ev e y) = some v) : OpOk P co a al m F w v H:=by
 have hx:=hs.ev x
 have hy:=hs.ev y
 unfold binA at h
 split at h
 ·cases h
 ·rename_i u v' hnil e1 e2
  rw [e1] at hx
  rw [e2] at hy
  obtain ⟨ex,hx'⟩:=vr_sc hx
  obtain ⟨ey,hy'⟩:=vr_sc hy
  simp only [Option.bind_eq_some_iff] at h
  obtain ⟨r,hr,h⟩:=h
  obtain ⟨rfl,hsc⟩:=ofScalar_some h
  refine OpOk.still hs.inv ?_ (.fz (.sc hsc))
  have:=run_guard (P:=P) (op:=op) (t:=t) (x:=x) (y:=y) (u:=u) (v:=v') hnil (fun cs h0 => by subst h0; simp [isSc] at hx') w
  simp [execOp,ho,ex,ey,this,pureRun_some hr P w]
 ·cases h
theorem sim_eqb (hs : Sit P m F H w e a) {op : BinOp} {t ty : TypeId} {x y : Operand} (ho : co.op = .binOp op t x y ty) (hop : op = .eql ∨ op = .neq) (ht : P.underlying t = some .bool) {b c : Bool} (hb : toB (ev e x) = some b) (hc : toB (ev e y) = some c) :
  OpOk P co a al m F w (.sc (.bool ((b == c) != (isNeq op)))) H:=by
 have ex:=toB_some hb (hs.ev x)
 have ey:=toB_some hc (hs.ev y)
 refine OpOk.still hs.inv ?_ (.fz (.sc rfl))
 rcases hop with rfl | rfl
 ·simp [execOp,ho,ex,ey,eqGuard,run_eql_bool w t b c ht,isNeq]
 ·simp [execOp,ho,ex,ey,eqGuard,run_neq_bool w t b c ht,isNeq]
theorem sim_un (hs : Sit P m F H w e a) {op : UnOp} {t : TypeId} {x : Operand} (ho : co.op = .unOp op t x) {u r : Value} (hu : toV (ev e x) = some u) (hr : pureRun (Op.unary op u) = some r) {v : AV} (h : ofScalar r = some v) : OpOk P co a al m F w v H:=by
 have ex:=toV_some hu (hs.ev x)
 obtain ⟨rfl,hsc⟩:=ofScalar_some h
 refine OpOk.still hs.inv ?_ (.fz (.sc hsc))
 simp [execOp,ho,ex,pureRun_some hr P w]
theorem sim_conv (hs : Sit P m F H w e a) {s d : TypeId} {x : Operand} (ho : co.op = .convert s d x) {k j : IntKind} (h1 : P.underlying s = some (.int j)) (h2 : P.underlying d = some (.int k)) {n : Int} (hn : toI (ev e x) = some n) : OpOk P co a al m F w (.sc (.int k (k.wrap n))) H:=by
 obtain ⟨kk,ex⟩:=toI_some hn (hs.ev x)
 refine OpOk.still hs.inv ?_ (.fz (.sc rfl))
 simp [execOp,ho,ex,convert,run_under' h1,run_under' h2,Conv.intToInt]
def nilV : Nat → Value
 | 0 => .slice none 0 0
 | 1 => .pointer none
 | 2 => .map none
 | _ => .nilFunc
theorem isNilC_some {k : Nat} {x : Operand} (h : isNilC k x = true) : a.eval x = nilV k:=by
 unfold isNilC at h
 split at h <;> simp_all [Act.eval,nilV]
def ofKind : Nat → Bool → Value → Prop
 | 0,b,v => ∃ ad n c,v = .slice ad n c ∧ b = ad.isNone
 | 1,b,v => ∃ ad,v = .pointer ad ∧ b = ad.isNone
 | 2,b,v => ∃ r,v = .map r ∧ b = r.isNone
 | 3,b,v => (b = true ∧ v = .nilFunc) ∨ (b = false ∧ ∃ f g c,v = .func f g c)
 | _,_,_ => False
theorem isnil_sound {k : Nat} {x : AV} {v : Value} (hv : VR m F x v) {b : Bool} (h : isnilA k x = some b) : ofKind k b v:=by
 unfold isnilA at h
 split at h <;> first
  | (cases h; obtain ⟨rfl,_⟩:=vr_sc hv; simp [ofKind]; done)
  | (cases h; obtain ⟨vf,vc,rfl,_⟩:=vr_fn hv; exact .inr ⟨rfl,_,_,_,rfl⟩)
  | (cases h; obtain ⟨mb,hm,rfl⟩:=vr_ptr hv; exact ⟨_,rfl,rfl⟩)
  | (cases h; have hp:=vr_pim hv; cases hp; exact ⟨_,rfl,rfl⟩)
  | (cases h; obtain ⟨mb,hm,rfl⟩:=vr_mp hv; exact ⟨_,rfl,rfl⟩)
  | (cases h; obtain ⟨mb,cap,hm,rfl,_⟩:=vr_sl hv; exact ⟨_,_,_,rfl,rfl⟩)
  | (cases h; have hp:=vr_lst hv; cases hp with | lst cv hcap hA hr h1 hc hh => exact ⟨_,_,_,rfl,by rw [hA (by simp)]; rfl⟩)
  | cases h
theorem nilable_some {t : TypeId} {k : Nat} (h : nilable P t = some k) : (k = 0 ∧ ∃ e,P.underlying t = some (.slice e)) ∨ (k = 1 ∧ ∃ e,P.underlying t = some (.pointer e)) ∨ (k = 2 ∧ ∃ e f,P.underlying t = some (.map e f)) ∨
  (k = 3 ∧ ∃ x y z,P.underlying t = some (.func x y z)):=by
 unfold nilable at h
 split at h <;> cases h <;> simp_all
theorem run_nil_eq {t : TypeId} {k : Nat} (ht : nilable P t = some k) {b : Bool} {v : Value} (hv : ofKind k b v) (d : Nat) : (Op.equalIn (d + 1) t v (nilV k)).run P w = .ok b w ∧ (Op.equalIn (d + 1) t (nilV k) v).run P w = .ok b w:=by
 rcases nilable_some ht with ⟨rfl,e,he⟩ | ⟨rfl,e,he⟩ | ⟨rfl,e,f,he⟩ | ⟨rfl,x,y,z,he⟩
 ·obtain ⟨ad,n,c,rfl,rfl⟩:=hv
  cases ad <;> exact ⟨by simp [Op.equalIn,run_under' he,nilV],by simp [Op.equalIn,run_under' he,nilV]⟩
 ·obtain ⟨ad,rfl,rfl⟩:=hv
  cases ad <;> exact ⟨by simp [Op.equalIn,run_under' he,nilV],by simp [Op.equalIn,run_under' he,nilV]⟩
 ·obtain ⟨ad,rfl,rfl⟩:=hv
  cases ad <;> exact ⟨by simp [Op.equalIn,run_under' he,nilV],by simp [Op.equalIn,run_under' he,nilV]⟩
 ·rcases hv with ⟨rfl,rfl⟩ | ⟨rfl,f,g,c,rfl⟩
  ·exact ⟨by simp [Op.equalIn,run_under' he,nilV],by simp [Op.equalIn,run_under' he,nilV]⟩
  ·exact ⟨by simp [Op.equalIn,run_under' he,nilV],by simp [Op.equalIn,run_under' he,nilV]⟩
theorem run_nil_bin {op : BinOp} (hop : op = .eql ∨ op = .neq) {t : TypeId} {k : Nat} (ht : nilable P t = some k) {b : Bool} {v : Value} (hv : ofKind k b v) :
  (binOp op t v (nilV k)).run P w = .ok (.bool (b != (isNeq op))) w ∧ (binOp op t (nilV k) v).run P w = .ok (.bool (b != (isNeq op))) w:=by
 obtain ⟨h1,h2⟩:=run_nil_eq (w:=w) ht hv 9999
 have hk : k = 0 ∨ k = 1 ∨ k = 2 ∨ k = 3:=by
  rcases nilable_some ht with ⟨rfl,_⟩ | ⟨rfl,_⟩ | ⟨rfl,_⟩ | ⟨rfl,_⟩ <;> simp
 have h3 : (Op.equal t v (nilV k)).run P w = .ok b w:=h1
 have h4 : (Op.equal t (nilV k) v).run P w = .ok b w:=h2
 have hb : (b != true) = !b:=by cases b <;> rfl
 have hb2 : (b != false) = b:=by cases b <;> rfl
 have gen : ∀ x y : Value,(∀ op : BinOp,op = .eql ∨ op = .neq → binOp op t x y = (match op with | .eql => (do pure (.bool (← Op.equal t x y))) | _ => (do pure (.bool (!(← Op.equal t x y))) : Sem Value))) →
   (Op.equal t x y).run P w = .ok b w → (binOp op t x y).run P w = .ok (.bool (b != (isNeq op))) w:=by
  intro x y hxy he
  rw [hxy op hop]
  rcases hop with rfl | rfl
  ·simp [he,isNeq]
  ·simp [he,isNeq]
 rcases hk with rfl | rfl | rfl | rfl
 ·obtain ⟨ad,n,c,rfl,_⟩:=hv
  exact ⟨gen _ _ (by rintro op (rfl | rfl) <;> rfl) h3,gen _ _ (by rintro op (rfl | rfl) <;> rfl) h4⟩
 ·obtain ⟨ad,rfl,_⟩:=hv
  exact ⟨gen _ _ (by rintro op (rfl | rfl) <;> rfl) h3,gen _ _ (by rintro op (rfl | rfl) <;> rfl) h4⟩
 ·obtain ⟨ad,rfl,_⟩:=hv
  exact ⟨gen _ _ (by rintro op (rfl | rfl) <;> rfl) h3,gen _ _ (by rintro op (rfl | rfl) <;> rfl) h4⟩
 ·rcases hv with ⟨_,rfl⟩ | ⟨_,f,g,c,rfl⟩
  ·exact ⟨gen _ _ (by rintro op (rfl | rfl) <;> rfl) h3,gen _ _ (by rintro op (rfl | rfl) <;> rfl) h4⟩
  ·exact ⟨gen _ _ (by rintro op (rfl | rfl) <;> rfl) h3,gen _ _ (by rintro op (rfl | rfl) <;> rfl) h4⟩
theorem ofKind_plain {k : Nat} {b : Bool} {v : Value} (h : ofKind k b v) : v ≠ .nilIface ∧ ∀ cs,v ≠ .agg cs:=by
 unfold ofKind at h
 split at h
 ·obtain ⟨_,_,_,rfl,_⟩:=h; simp
 ·obtain ⟨_,rfl,_⟩:=h; simp
 ·obtain ⟨_,rfl,_⟩:=h; simp
 ·rcases h with ⟨_,rfl⟩ | ⟨_,_,_,_,rfl⟩ <;> simp
 ·cases h
theorem nilV_plain (k : Nat) : nilV k ≠ .nilIface ∧ ∀ cs,nilV k ≠ .agg cs:=by
 unfold nilV
 split <;> simp
theorem sim_isnil (hs : Sit P m F H w e a) {op : BinOp} {t ty : TypeId} {x y z : Operand} (ho : co.op = .binOp op t x y ty) (hop : op = .eql ∨ op = .neq) {k : Nat} (ht : nilable P t = some k) (hz : (z = x ∧ isNilC k y = true) ∨ (z = y ∧ isNilC k x = true)) {b : Bool}
  (hb : isnilA k (ev e z) = some b) : OpOk P co a al m F w (.sc (.bool (b != (isNeq op)))) H:=by
 have hk:=isnil_sound (hs.ev z) hb
 refine OpOk.still hs.inv ?_ (.fz (.sc rfl))
 rcases hz with ⟨rfl,hn⟩ | ⟨rfl,hn⟩
 ·have:=run_guard (P:=P) (op:=op) (t:=t) (x:=z) (y:=y) (u:=a.eval z) (v:=nilV k) (ofKind_plain hk).1 (ofKind_plain hk).2 w
  simp only [execOp,ho,isNilC_some (a:=a) hn,Sem.run_bind,this,Result.andThen_ok,(run_nil_bin (w:=w) hop ht hk).1,Sem.run_pure]
 ·have:=run_guard (P:=P) (op:=op) (t:=t) (x:=x) (y:=z) (u:=nilV k) (v:=a.eval z) (nilV_plain k).1 (nilV_plain k).2 w
  simp only [execOp,ho,isNilC_some (a:=a) hn,Sem.run_bind,this,Result.andThen_ok,(run_nil_bin (w:=w) hop ht hk).2,Sem.run_pure]
theorem sim_mx (hs : Sit P m F H w e a) {c : Call} {x y : Operand} (ho : co.op = .call c) (hc : c.callee = .builtin .max) (ha : c.args = #[x,y]) {k k' : IntKind} {p q : Int} (hx : ev e x = .sc (.int k p)) (hy : ev e y = .sc (.int k' q)) :
  OpOk P co a al m F w (.sc (.int k (if q > p then q else p))) H:=by
 have ex:=(vr_sc (hx ▸ hs.ev x)).1
 have ey:=(vr_sc (hy ▸ hs.ev y)).1
 refine OpOk.still hs.inv ?_ (.fz (.sc rfl))
 simp [execOp,ho,resolve,hc,ha,invoke,builtin,ex,ey,Builtin.max_,Builtin.max2]
theorem sim_mn (hs : Sit P m F H w e a) {c : Call} {x y : Operand} (ho : co.op = .call c) (hc : c.callee = .builtin .min) (ha : c.args = #[x,y]) {k k' : IntKind} {p q : Int} (hx : ev e x = .sc (.int k p)) (hy : ev e y = .sc (.int k' q)) :
  OpOk P co a al m F w (.sc (.int k (if q < p then q else p))) H:=by
 have ex:=(vr_sc (hx ▸ hs.ev x)).1
 have ey:=(vr_sc (hy ▸ hs.ev y)).1
 refine OpOk.still hs.inv ?_ (.fz (.sc rfl))
 simp [execOp,ho,resolve,hc,ha,invoke,builtin,ex,ey,Builtin.min_,Builtin.min2]
end
end Go.VI
namespace Go.VI
section
variable {P : Program} {m : Mp} {F : Fz} {H : Heap} {w : World} {e : Env} {a : Act} {co : Oper} {nid : Nat} {al : Option Nat}
theorem run_mapM_list {α β : Type} {f : α → Sem β} {g : α → β} {w : World} : ∀ (l : List α),(∀ x ∈ l,(f x).run P w = .ok (g x) w) → (l.mapM f).run P w = .ok (l.map g) w
 | [],_ => by simp
 | x :: l,h => by
  rw [List.mapM_cons]
  simp only [Sem.run_bind,h x List.mem_cons_self,Result.andThen_ok,run_mapM_list l (fun y hy => h y (List.mem_cons_of_mem _ hy)),Sem.run_pure]
  rfl
theorem run_mapM_arr {α β : Type} {f : α → Sem β} {g : α → β} {w : World} (l : Array α) (h : ∀ x ∈ l.toList,(f x).run P w = .ok (g x) w) : (l.mapM f).run P w = .ok (l.map g) w:=by
 rw [Array.mapM_eq_mapM_toList]
 simp only [Sem.run_map,run_mapM_list l.toList h,Result.andThen_ok]
 congr 1
 apply Array.ext'
 simp
def lay (cs : Array Value) (off : Nat) (us : Array Value) : Array Value:=us.zipIdx.foldl (fun cs (c,j) => cs.setIfInBounds (off + j) c) cs
theorem lay_spec (off : Nat) (us : List Value) : ∀ (k : Nat) (cs : Array Value),((us.zipIdx k).foldl (fun cs (c,j) => cs.setIfInBounds (off + j) c) cs).size = cs.size ∧
  ∀ q,off + k + us.length ≤ cs.size → ((us.zipIdx k).foldl (fun cs (c,j) => cs.setIfInBounds (off + j) c) cs).getD q undef = if off + k ≤ q ∧ q < off + k + us.length then us.getD (q - (off + k)) undef else cs.getD q undef:=by
 induction us with
 | nil => intro k cs; exact ⟨rfl,fun q _ => by rw [if_neg (by simp only [List.length_nil]; omega)]; rfl⟩
 | cons u us ih =>
  intro k cs
  obtain ⟨h1,h2⟩:=ih (k + 1) (cs.setIfInBounds (off + k) u)
  simp only [List.zipIdx_cons,List.foldl_cons,List.length_cons]
  refine ⟨by rw [h1]; simp,fun q hq => ?_⟩
  rw [h2 q (by simp; omega)]
  by_cases hq1 : q = off + k
  ·subst hq1
   rw [if_neg (by omega),if_pos ⟨by omega,by omega⟩]
   have : off + k < cs.size:=by omega
   simp [this]
  ·by_cases hq2 : off + (k + 1) ≤ q ∧ q < off + (k + 1) + us.length
   ·rw [if_pos hq2,if_pos ⟨by omega,by omega⟩]
    rw [show q - (off + k) = (q - (off + (k + 1))) + 1 by omega]
    rfl
   ·rw [if_neg hq2,if_neg (by omega)]
    simp only [Array.getD_eq_getD_getElem?]
    rw [Array.getElem?_setIfInBounds_ne (fun h => hq1 h.symm)]
theorem lay_size (cs : Array Value) (off : Nat) (us : Array Value) : (lay cs off us).size = cs.size:=by
 unfold lay
 rw [← Array.foldl_toList,Array.toList_zipIdx]
 exact (lay_spec off us.toList 0 cs).1
theorem lay_getD (cs : Array Value) (off : Nat) (us : Array Value) (h : off + us.size ≤ cs.size) (q : Nat) : (lay cs off us).getD q undef = if off ≤ q ∧ q < off + us.size then us.getD (q - off) undef else cs.getD q undef:=by
 unfold lay
 rw [← Array.foldl_toList,Array.toList_zipIdx]
 have:=(lay_spec off us.toList 0 cs).2 q (by simpa using h)
 simp only [Nat.add_zero,Array.length_toList] at this
 rw [this]
 simp [List.getD_eq_getElem?_getD,Array.getD_eq_getD_getElem?]
theorem fill_sound (place : Nat → Option (Nat × Nat)) : ∀ (ps : List (Nat × Operand)) (L : List (Nat × Nat × Operand)) (z cs : List AV) (zs : Array Value),Sit P m F H w e a →
  L.length = ps.length → (∀ (i : Nat) (p : Nat × Operand) (q : Nat × Nat × Operand),ps[i]? = some p → L[i]? = some q → place p.1 = some (q.1,q.2.1) ∧ p.2 = q.2.2) →
  zs.size = z.length → (∀ (i : Nat) (c : AV),z[i]? = some c → c.one = true ∧ VR m F c (zs.getD i undef)) →
  fillA z (L.map fun (o,n,x) => (o,n,ev e x)) = some cs →
  ∃ us,Instr.fill place zs (ps.map fun (i,x) => (i,a.eval x)) = some us ∧ us.size = cs.length ∧ ∀ (i : Nat) (c : AV),cs[i]? = some c → c.one = true ∧ VR m F c (us.getD i undef)
 | [],L,z,cs,zs,hs,hl,hp,hz,hc,h => by
  have : L = []:=List.eq_nil_of_length_eq_zero (by simpa using hl)
  subst this
  simp [fillA] at h
  subst h
  exact ⟨zs,rfl,hz,hc⟩
 | (pi,px) :: ps,[],z,cs,zs,hs,hl,hp,hz,hc,h => by simp at hl
 | (pi,px) :: ps,(off,n,qx) :: L,z,cs,zs,hs,hl,hp,hz,hc,h => by
  obtain ⟨h1,h2⟩:=hp 0 _ _ rfl rfl
  simp only at h1 h2
  subst h2
  simp only [List.map_cons,fillA] at h
  split at h
  rotate_left
  ·cases h
  rename_i hh
  obtain ⟨hn,hle,ho⟩:=hh
  obtain ⟨hvl,hvc⟩:=vr_cells (hs.ev px) ho
  have hsz : off + (a.eval px).cells.size ≤ zs.size:=by omega
  obtain ⟨us,hu,hul,huc⟩:=fill_sound place ps L (splice z off (ev e px).cells) cs (lay zs off (a.eval px).cells) hs (by simpa using hl) (fun i p q hp' hq' => hp (i + 1) p q (by simpa using hp') (by simpa using hq'))
   (by rw [lay_size,length_splice (by omega)]; exact hz) (fun i c hi => by
    rw [getElem?_splice (by omega)] at hi
    rw [lay_getD _ _ _ hsz]
    split at hi
    ·rename_i hr
     rw [if_pos ⟨hr.1,by omega⟩]
     exact hvc _ c hi
    ·rename_i hr
     rw [if_neg (by omega)]
     exact hc i c hi) h
  refine ⟨us,?_,hul,huc⟩
  simp only [List.map_cons,Instr.fill,h1]
  rw [if_neg (by simp; omega)]
  exact hu
theorem partsS_spec {fs : Array Field} : ∀ {ps : List (Nat × Operand)} {L : List (Nat × Nat × Operand)},partsS P fs ps = some L → L.length = ps.length ∧
  ∀ (i : Nat) (p : Nat × Operand) (q : Nat × Nat × Operand),ps[i]? = some p → L[i]? = some q → (∃ f ti,fs[p.1]? = some f ∧ P.info? f.type = some ti ∧ q.1 = f.offset ∧ q.2.1 = ti.size) ∧ p.2 = q.2.2
 | [],L,h => by simp [partsS] at h; subst h; simp
 | (k,x) :: ps,L,h => by
  simp only [partsS,Option.bind_eq_some_iff,Option.map_eq_some_iff] at h
  obtain ⟨f,hf,ti,hti,r,hr,rfl⟩:=h
  obtain ⟨h1,h2⟩:=partsS_spec hr
  refine ⟨by simp [h1],fun i p q hp hq => ?_⟩
  cases i with
  | zero => simp at hp hq; subst hp; subst hq; exact ⟨⟨f,ti,hf,hti,rfl,rfl⟩,rfl⟩
  | succ i => exact h2 i p q (by simpa using hp) (by simpa using hq)
theorem partsA_spec {sz : Nat} : ∀ {ps : List (Nat × Operand)},(partsA sz ps).length = ps.length ∧ ∀ (i : Nat) (p : Nat × Operand) (q : Nat × Nat × Operand),ps[i]? = some p → (partsA sz ps)[i]? = some q → (q.1 = p.1 * sz ∧ q.2.1 = sz) ∧ p.2 = q.2.2
 | [] => by simp [partsA]
 | (k,x) :: ps => by
  obtain ⟨h1,h2⟩:=partsA_spec (sz:=sz) (ps:=ps)
  refine ⟨by simp [partsA,h1],fun i p q hp hq => ?_⟩
  cases i with
  | zero => simp [partsA] at hp hq; subst hp; subst hq; exact ⟨⟨rfl,rfl⟩,rfl⟩
  | succ i => exact h2 i p q (by simpa using hp) (by simpa [partsA] using hq)
theorem zero_ok {z : Value} (h : ∀ x ∈ z.cells.toList,isSc x = true) (i : Nat) (c : AV) (hc : (z.cells.toList.map AV.sc)[i]? = some c) : c.one = true ∧ VF F c (z.cells.getD i undef):=by
 rw [List.getElem?_map,Option.map_eq_some_iff] at hc
 obtain ⟨x,hx,rfl⟩:=hc
 rw [getD_of (by simpa using hx)]
 exact ⟨rfl,.sc (h x (List.mem_of_getElem? hx))⟩
theorem sim_build (hs : Sit P m F H w e a) {ty t : TypeId} {parts : Array (Nat × Operand)} (ho : co.op = .build t parts) {ao : AOp} (hc : compOp P ty (.build t parts) = some ao) {v : AV} {H' : Heap} (h : opS nid e H ao = some (v,H')) : OpOk P co a al m F w v H':=by
 simp only [compOp,Option.bind_eq_some_iff] at hc
 obtain ⟨i,hi,hc⟩:=hc
 obtain ⟨ti,z,i1,i2,rfl,i3,i4,_⟩:=infoA_some hi
 split at hc
 ·rename_i fs hu
  split at hc
  rotate_left
  ·cases hc
  rename_i hall
  simp only [Option.map_eq_some_iff] at hc
  obtain ⟨ps,hps,rfl⟩:=hc
  simp only [opS,Option.map_eq_some_iff] at h
  obtain ⟨cs,hcs,h⟩:=h
  cases h
  obtain ⟨p1,p2⟩:=partsS_spec hps
  rw [List.all_eq_true] at hall
  let g : Field → Nat × Nat:=fun f => (f.offset,((P.info? f.type).map (·.size)).getD 0)
  have hmap:=run_mapM_arr (P:=P) (w:=w) (f:=fun f : Field => (do pure (f.offset,← sizeOf f.type) : Sem (Nat × Nat))) (g:=g) fs (fun f hf => by
   obtain ⟨tj,htj⟩:=Option.isSome_iff_exists.1 (hall f hf)
   simp [run_sizeOf' htj,g,htj])
  obtain ⟨us,hu',hl,hv⟩:=fill_sound (m:=m) (F:=F) (H:=H) (w:=w) (e:=e) (a:=a) ((fs.map g)[·]?) parts.toList ps (z.cells.toList.map .sc) cs z.cells hs p1 (fun k p q hp hq => by
   obtain ⟨⟨f,tj,b1,b2,b3,b4⟩,b5⟩:=p2 k p q hp hq
   refine ⟨?_,b5⟩
   simp [b1,g,b2,b3,b4]) (by simp) (fun k c hk => ⟨(zero_ok (F:=F) i3 k c hk).1,.fz (zero_ok i3 k c hk).2⟩) hcs
  refine OpOk.still hs.inv ?_ (.agg hl (fun k c hk => (hv k c hk).1) (fun k c hk => (hv k c hk).2))
  have hparts : (parts.map fun (i,x) => (i,a.eval x)).toList = parts.toList.map fun (i,x) => (i,a.eval x):=by simp
  simp only [execOp,ho,Instr.build,Sem.run_bind,run_zero' i1 i2,run_under' hu,Result.andThen_ok,hmap,hparts,hu',Sem.run_pure]
 ·rename_i n el hu
  simp only [Option.map_eq_some_iff] at hc
  obtain ⟨j,hj,rfl⟩:=hc
  obtain ⟨tj,zj,j1,j2,rfl,_⟩:=infoA_some hj
  simp only [opS,Option.map_eq_some_iff] at h
  obtain ⟨cs,hcs,h⟩:=h
  cases h
  obtain ⟨p1,p2⟩:=partsA_spec (sz:=tj.size) (ps:=parts.toList)
  obtain ⟨us,hu',hl,hv⟩:=fill_sound (m:=m) (F:=F) (H:=H) (w:=w) (e:=e) (a:=a) (fun k => some (k * tj.size,tj.size)) parts.toList (partsA tj.size parts.toList) (z.cells.toList.map .sc) cs z.cells hs p1 (fun k p q hp hq => by
   obtain ⟨⟨b1,b2⟩,b3⟩:=p2 k p q hp hq
   exact ⟨by rw [b1,b2],b3⟩) (by simp) (fun k c hk => ⟨(zero_ok (F:=F) i3 k c hk).1,.fz (zero_ok i3 k c hk).2⟩) hcs
  refine OpOk.still hs.inv ?_ (.agg hl (fun k c hk => (hv k c hk).1) (fun k c hk => (hv k c hk).2))
  have hparts : (parts.map fun (i,x) => (i,a.eval x)).toList = parts.toList.map fun (i,x) => (i,a.eval x):=by simp
  simp only [execOp,ho,Instr.build,Sem.run_bind,run_zero' i1 i2,run_under' hu,Result.andThen_ok,run_sizeOf' j1,hparts,hu',Sem.run_pure]
 ·cases hc
end
end Go.VI
namespace Go.VI
variable {P : Program}
section
variable {P : Program} {m : Mp} {F : Fz} {H : Heap} {w : World} {e : Env} {a : Act} {co : Oper} {nid : Nat} {al : Option Nat}
structure RowsR (F : Fz) (sz : Nat) (rs : List (List AV)) (vs : Array Value) : Prop where
 size : vs.size = rs.length * sz
 len : ∀ (i : Nat) (r : List AV),rs[i]? = some r → r.length = sz
 cell : ∀ (i : Nat) (r : List AV) (j : Nat) (c : AV),rs[i]? = some r → r[j]? = some c → c.one = true ∧ VF F c (vs.getD (i * sz + j) undef)
theorem RowsR.mono {F F' : Fz} {sz : Nat} {rs : List (List AV)} {vs : Array Value} (h : RowsR F sz rs vs) (hF : FLe F F') : RowsR F' sz rs vs :=
 ⟨h.size,h.len,fun i r j c hr hc => ⟨(h.cell i r j c hr hc).1,(h.cell i r j c hr hc).2.mono hF⟩⟩
theorem ij_lt {i n j sz : Nat} (hi : i < n) (hj : j < sz) : i * sz + j < n * sz:=by
 have : (i + 1) * sz ≤ n * sz:=Nat.mul_le_mul_right _ hi
 rw [Nat.add_mul,Nat.one_mul] at this
 omega
theorem ij_ne {i k j sz : Nat} (hik : i ≠ k) (hj : j < sz) : k * sz + j < i * sz ∨ i * sz + sz ≤ k * sz + j:=by
 rcases Nat.lt_or_ge k i with h | h
 ·left
  have : (k + 1) * sz ≤ i * sz:=Nat.mul_le_mul_right _ h
  rw [Nat.add_mul,Nat.one_mul] at this
  omega
 ·right
  have : (i + 1) * sz ≤ k * sz:=Nat.mul_le_mul_right _ (by omega)
  rw [Nat.add_mul,Nat.one_mul] at this
  omega
theorem newRowA (hn : Free m H nid) (hI : Inv P m F H w) {wd : World} (hd : wd.heap = w.heap) (ht : wd.tape = w.tape) (hos : wd.os = w.os) (hout : wd.output = w.output) (sz : Nat) (rs rsF : List (List AV)) (vs : Array Value) (t : TypeId) (hle : rs.length ≤ rsF.length)
  (htk : rsF.take rs.length = rs) (hsz : rsF.length * sz ≤ vs.size) (hR : RowC F vs 0 sz rsF) :
  ∃ m',VR m' F (.sl nid 0 rs.length) (.slice (some ⟨w.heap.size,0,none⟩) rs.length rsF.length) ∧ Inv P m' F (H.put nid (.row false sz rs)) (wd.alloc (.cells vs t)) ∧ Ext m F w m' F (wd.alloc (.cells vs t)) ∧ Dom (some nid) m m':=by
 have hin : ∀ (i : Nat) (r : List AV),rs[i]? = some r → rsF[i]? = some r:=fun i r hr => by
  have hi:=(List.getElem?_eq_some_iff.1 hr).1
  rw [← htk,List.getElem?_take_of_lt hi] at hr
  exact hr
 obtain ⟨h1,h2⟩:=Inv.push hn hI hd ht hos hout (.cells vs t) (.row false sz rs) 0 sz rsF.length
  ⟨vs,by have:=cb_alloc wd vs t; rw [hd] at this; exact this,rfl,hle,by simpa using hsz,fun i r hr => hR.len i r (hin i r hr),fun i r j c hr hj => hR.cell i r j c (hin i r hr) hj,fun _ o => hI.fz_new (Nat.le_refl _) o,by simp,fun _ => ⟨⟨rsF,rfl,htk,hR⟩,fun _ => ⟨vs,t,by rw [← hd]; exact heap_alloc_at⟩⟩⟩
 refine ⟨_,?_,h1,h2,Dom.mset _ _ _⟩
 have : VR (mset m nid ⟨w.heap.size,0,sz,rsF.length⟩) F (.sl nid 0 rs.length) (.slice (some ⟨w.heap.size,0 + 0 * sz,none⟩) rs.length rsF.length):=.sl (mset_self _ _ _) (by simp) hle
 simpa using this
theorem RowsR.rowC {F : Fz} {sz : Nat} {rs : List (List AV)} {vs : Array Value} (h : RowsR F sz rs vs) : RowC F vs 0 sz rs:=⟨h.len,fun i r j c hr hc => by simpa using h.cell i r j c hr hc⟩
theorem fillR_sound {sz : Nat} : ∀ (ps : List (Nat × Operand)) (F : Fz) (H H' : Heap) (rs rs' : List (List AV)) (zs : Array Value),Inv P m F H w → EnvR m F e a.tmps → RowsR F sz rs zs →
  fillR sz rs H (ps.map fun (i,x) => (i,ev e x)) = some (rs',H') →
  ∃ us F',Instr.fill (fun i => some (i * sz,sz)) zs (ps.map fun (i,x) => (i,a.eval x)) = some us ∧ FrzOk P m F H w F' H' ∧ RowsR F' sz rs' us ∧ rs'.length = rs.length
 | [],F,H,H',rs,rs',zs,hI,hE,hr,h => by
  simp [fillR] at h
  obtain ⟨rfl,rfl⟩:=h
  exact ⟨zs,F,rfl,FrzOk.refl hI,hr,rfl⟩
 | (pi,px) :: ps,F,H,H',rs,rs',zs,hI,hE,hr,h => by
  simp only [List.map_cons,fillR] at h
  split at h
  rotate_left
  ·cases h
  rename_i hh
  obtain ⟨hn,hi,ho⟩:=hh
  simp only [Option.bind_eq_some_iff] at h
  obtain ⟨⟨cs,H1⟩,hc1,h⟩:=h
  have hs : Sit P m F H w e a:=⟨hI,hE⟩
  obtain ⟨F1,o1,hl1,hcs⟩:=frzCells_sound hI (hs.ev px) ho hc1
  obtain ⟨hvl,_⟩:=vr_cells (hs.ev px) ho
  have hsz : pi * sz + (a.eval px).cells.size ≤ zs.size:=by
   have : (pi + 1) * sz ≤ rs.length * sz:=Nat.mul_le_mul_right _ hi
   rw [Nat.add_mul,Nat.one_mul] at this
   rw [hr.size]
   omega
  have hr1 : RowsR F1 sz (rs.set pi cs) (lay zs (pi * sz) (a.eval px).cells):=by
   refine ⟨by rw [lay_size,hr.size]; simp,fun i r hir => ?_,fun i r j c hir hj => ?_⟩
   ·rw [List.getElem?_set] at hir
    by_cases hk : pi = i
    ·subst hk
     rw [if_pos rfl,if_pos hi] at hir
     cases hir
     omega
    ·rw [if_neg hk] at hir
     exact hr.len i r hir
   ·rw [lay_getD _ _ _ hsz]
    rw [List.getElem?_set] at hir
    by_cases hk : pi = i
    ·subst hk
     rw [if_pos rfl,if_pos hi] at hir
     cases hir
     have hjl:=(List.getElem?_eq_some_iff.1 hj).1
     rw [if_pos ⟨by omega,by omega⟩,show pi * sz + j - pi * sz = j by omega]
     exact hcs j c hj
    ·rw [if_neg hk] at hir
     have hjl:=(List.getElem?_eq_some_iff.1 hj).1
     rw [hr.len i r hir] at hjl
     have:=ij_ne (i:=pi) (k:=i) hk hjl
     rw [if_neg (by omega)]
     exact ⟨(hr.cell i r j c hir hj).1,(hr.cell i r j c hir hj).2.mono o1.fr.le⟩
  obtain ⟨us,F',hu,o2,hr2,hl2⟩:=fillR_sound ps F1 H1 H' (rs.set pi cs) rs' _ o1.inv (hE.mono (MLe.refl m) o1.fr.le) hr1 h
  refine ⟨us,F',?_,o1.trans o2,hr2,by rw [hl2]; simp⟩
  simp only [List.map_cons,Instr.fill]
  rw [if_neg (by simp; omega)]
  exact hu
theorem zrow (z : Array Value) (n sz : Nat) (hz : z.size = sz) (F : Fz) (h : ∀ x ∈ z.toList,isSc x = true) :
  RowsR F sz (List.replicate n (z.toList.map AV.sc)) ((Array.range (n * sz)).map (fun k => z[k % z.size]!)):=by
 refine ⟨by simp,fun i r hr => ?_,fun i r j c hr hc => ?_⟩
 ·rw [List.getElem?_replicate] at hr
  split at hr
  ·cases hr; simp [hz]
  ·cases hr
 ·rw [List.getElem?_replicate] at hr
  split at hr
  ·rename_i hi
   cases hr
   rw [List.getElem?_map,Option.map_eq_some_iff] at hc
   obtain ⟨x,hx,rfl⟩:=hc
   have hjl:=(List.getElem?_eq_some_iff.1 hx).1
   simp only [Array.length_toList,hz] at hjl
   have hlt:=ij_lt hi hjl
   have hmod : (i * sz + j) % sz = j:=by rw [Nat.mul_comm,Nat.mul_add_mod,Nat.mod_eq_of_lt hjl]
   have hx' : z[j]? = some x:=by simpa using hx
   refine ⟨rfl,?_⟩
   rw [getD_of (v:=x)]
   ·exact .sc (h x (List.mem_of_getElem? hx))
   ·have hz' : j < z.size:=by omega
    have hxx : z[j] = x:=by
     have:=Array.getElem?_eq_getElem hz'
     rw [this] at hx'
     exact Option.some.inj hx'
    have hbang : z[j]! = x:=by rw [getElem!_pos z j hz']; exact hxx
    simp [hlt,hz,hmod,hbang]
  ·cases hr
theorem Inv.killM {m : Mp} {F : Fz} {H : Heap} {w : World} (hI : Inv P m F H w) (id : Nat) : Inv P m F (H.set id .dead) w:=by
 refine hI.next (MLe.refl m) (FLe.refl F) hI.fz (fun j mj hj => by simpa using hI.lt j mj hj) (fun j mj B hj hB => ?_) (fun i j mi mj hi hj li lj e => hI.inj i j mi mj hi hj (live_set li (.inr rfl)) (live_set lj (.inr rfl)) e)
 by_cases e : j = id
 ·subst e
  rw [Heap.get_set_self _ (hI.lt _ _ hj).1] at hB
  cases hB
  exact .inr trivial
 ·rw [Heap.get_set_ne _ e] at hB
  exact .inl ⟨hj,hB,rfl,fun _ _ hv => hv⟩
theorem put_dead {H : Heap} {id : Nat} (B : Blk) (h : id ≤ H.next) : (H.put id B).set id .dead = H.put id .dead:=by
 unfold Heap.put
 split
 ·simp [Heap.set]
 ·have : id = H.next:=by omega
  subst this
  simp [Heap.set,Heap.push,Heap.next]
theorem sim_bslice (hn : Free m H nid) (hs : Sit P m F H w e a) {t : TypeId} {len : Nat} {parts : Array (Nat × Operand)} (ho : co.op = .buildSlice t len parts) {el : TypeId} (hel : elemA P t = some el) {i : Nat × Nat × List AV} (hi : infoA P el = some i) (hlen : len * i.1 ≤ 16777216)
  {v : AV} {H' : Heap} (h : opS nid e H (.bslice i.1 i.2.2 len parts.toList) = some (v,H')) : OpOk P co a (some nid) m F w v H':=by
 obtain ⟨ti,z,i1,i2,rfl,i3,i4,hpos,_⟩:=infoA_some hi
 simp only [opS,Option.map_eq_some_iff] at h
 obtain ⟨⟨rs,H1⟩,hf,h⟩:=h
 cases h
 have hz:=zrow z.cells len ti.size i4 F i3
 obtain ⟨us,F',hu,o1,hr,hl⟩:=fillR_sound parts.toList F H H1 _ rs _ hs.inv hs.env hz hf
 simp at hl
 obtain ⟨m',a1,a2,a3,a4⟩:=newRowA ⟨hn.no,by rw [o1.nx]; exact hn.le⟩ o1.inv (wd:=w) rfl rfl rfl rfl ti.size rs rs us el (Nat.le_refl _) (List.take_length) (by rw [hr.size]; exact Nat.le_refl _) hr.rowC
 rw [hl] at a1
 have a12 : VR m' F' (if len = 0 then .emp else .sl nid 0 len) (.slice (some ⟨w.heap.size,0,none⟩) len len) ∧ Inv P m' F' (H1.put nid (if len = 0 then .dead else .row false ti.size rs)) (w.alloc (.cells us el)):=by
  by_cases hl0 : len = 0
  ·subst hl0
   rw [if_pos rfl,if_pos rfl]
   refine ⟨.fz (.emp _),?_⟩
   have:=a2.killM nid
   rwa [put_dead _ (by rw [o1.nx]; exact hn.le)] at this
  ·rw [if_neg hl0,if_neg hl0]
   exact ⟨a1,a2⟩
 refine ⟨_,_,m',F',_,?_,.inl rfl,a12.1,a12.2,o1.ext.trans a3,a4⟩
 have hparts : (parts.map fun (i,x) => (i,a.eval x)).toList = parts.toList.map fun (i,x) => (i,a.eval x):=by simp
 simp only [execOp,ho,Instr.buildSlice,Sem.run_bind,run_under' (elemA_some hel),run_sizeOf' i1,Result.andThen_ok]
 rw [if_neg (show ¬ len * ti.size > 2 ^ 24 by simp; omega)]
 by_cases h0 : len * ti.size = 0
 ·have hl0 : len = 0:=by
   rcases Nat.mul_eq_zero.1 h0 with h | h <;> omega
  subst hl0
  rw [if_pos (by simp)]
  have hr0 : Array.range (0 * ti.size) = #[]:=by rw [Nat.zero_mul]; rfl
  have hu0 : Instr.fill (fun i => some (i * ti.size,ti.size)) (#[] : Array Value) (parts.toList.map fun (i,x) => (i,a.eval x)) = some us:=by
   rw [hr0,Array.map_empty] at hu
   exact hu
  simp only [Sem.run_bind,Sem.run_pure,Result.andThen_ok,hparts,hr0,Array.map_empty,hu0]
  simp [newRow]
 ·rw [if_neg h0]
  simp only [Sem.run_bind,run_zero' i1 i2,Sem.run_pure,Result.andThen_ok,hparts,hu]
  simp [newRow]
theorem sim_mkslice (hn : Free m H nid) (hs : Sit P m F H w e a) {t : TypeId} {l c : Operand} (ho : co.op = .makeSlice t l c) {el : TypeId} (hel : elemA P t = some el) {i : Nat × Nat × List AV} (hi : infoA P el = some i)
  {v : AV} {H' : Heap} (h : opS nid e H (.mkslice i.1 i.2.1 i.2.2 l c) = some (v,H')) : OpOk P co a (some nid) m F w v H':=by
 obtain ⟨ti,z,i1,i2,rfl,i3,i4,hpos,_⟩:=infoA_some hi
 simp only [opS,Option.bind_eq_some_iff] at h
 obtain ⟨ln,hln,cn,hcn,h⟩:=h
 split at h
 rotate_left
 ·cases h
 rename_i hh
 obtain ⟨h0,hlc,hb,hby⟩:=hh
 cases h
 obtain ⟨k1,e1⟩:=toI_some hln (hs.ev l)
 obtain ⟨k2,e2⟩:=toI_some hcn (hs.ev c)
 have hcb : cn ≤ 140737488355328:=by
  have : cn * 1 ≤ cn * ti.bytes:=Int.mul_le_mul_of_nonneg_left (by omega) (by omega)
  omega
 have hw1 : IntKind.i64.wrap ln = ln:=IntWalk.i64_in _ (by omega)
 have hw2 : IntKind.i64.wrap cn = cn:=IntWalk.i64_in _ (by omega)
 have hz:=zrow z.cells cn.toNat ti.size i4 F i3
 have hnl : ln.toNat ≤ cn.toNat:=by omega
 obtain ⟨m',a1,a2,a3,a4⟩:=newRowA hn hs.inv (wd:=w) rfl rfl rfl rfl ti.size (List.replicate ln.toNat (z.cells.toList.map AV.sc)) (List.replicate cn.toNat (z.cells.toList.map AV.sc)) ((Array.range (cn.toNat * ti.size)).map (fun k => z.cells[k % z.cells.size]!)) el (by simpa using hnl)
  (by rw [List.length_replicate,List.take_replicate,Nat.min_eq_left hnl]) (by rw [hz.size]; simp) hz.rowC
 simp only [List.length_replicate] at a1
 refine ⟨_,_,m',F,_,?_,.inl rfl,a1,a2,a3,a4⟩
 simp only [execOp,ho,Instr.makeSlice,Sem.run_bind,run_under' (elemA_some hel),Result.andThen_ok,e1,e2,asInt,asIntOf,Sem.run_pure,hw1,hw2,typeInfo,run_program,i1]
 have hnb : ¬ ((cn < 0 || decide ((ti.bytes : Int) * cn > 2 ^ 48)) || (decide (ln < 0) || decide (ln > cn))) = true:=by
  have : (ti.bytes : Int) * cn = cn * ti.bytes:=Int.mul_comm _ _
  simp
  omega
 rw [if_neg (by simpa [Bool.or_assoc] using hnb)]
 simp only [Sem.run_bind,run_askRoom,Result.andThen_ok,run_sizeOf' i1]
 by_cases hc0 : cn.toNat * ti.size = 0
 ·have hc00 : cn.toNat = 0:=by
   rcases Nat.mul_eq_zero.1 hc0 with h | h <;> omega
  rw [if_pos hc0]
  have hr0 : Array.range 0 = #[]:=rfl
  simp [newRow,hc00,hr0]
 ·rw [if_neg hc0]
  simp [newRow,run_zero' i1 i2]
end
end Go.VI
namespace Go.VI
variable {P : Program}
section
variable {P : Program} {m : Mp} {F : Fz} {H : Heap} {w : World} {e : Env} {a : Act} {co : Oper} {nid : Nat} {al : Option Nat}
theorem rowsOf_sound (hI : Inv P m F H w) {x : AV} {v : Value} (hv : VR m F x v) {rows : List (List AV)} (h : rowsOf H x = some rows) :
  ∃ A cap,v = .slice A rows.length cap ∧ ∀ (sz : Nat),allSz sz rows = true → ∃ us : List Value,us.length = rows.length * sz ∧ (∀ (j : Nat) (u : Value),us[j]? = some u → ∃ ad,A = some ad ∧ ad.spot = none ∧ w.cell? (ad.add j) = some u) ∧
   (∀ u ∈ us,u.oneCell' = true) ∧ RowsR F sz rows us.toArray ∧ (0 < us.length → ∃ b o,A = some ⟨b,o,none⟩):=by
 have gen : ∀ (A : Option Addr) (sz0 b o : Nat) (cv : Nat → Nat → Value),(rows ≠ [] → A = some ⟨b,o,none⟩) → (∀ (i : Nat) (r : List AV),rows[i]? = some r → r.length = sz0) →
   (∀ (i : Nat) (r : List AV) (j : Nat) (c : AV),rows[i]? = some r → r[j]? = some c → c.one = true ∧ VF F c (cv i j) ∧ w.cell? ⟨b,o + i * sz0 + j,none⟩ = some (cv i j)) →
   ∀ (sz : Nat),allSz sz rows = true → ∃ us : List Value,us.length = rows.length * sz ∧ (∀ (j : Nat) (u : Value),us[j]? = some u → ∃ ad,A = some ad ∧ ad.spot = none ∧ w.cell? (ad.add j) = some u) ∧
   (∀ u ∈ us,u.oneCell' = true) ∧ RowsR F sz rows us.toArray ∧ (0 < us.length → ∃ b o,A = some ⟨b,o,none⟩):=by
  intro A sz0 b o cv hA hl hc sz hall
  simp only [allSz,List.all_eq_true,beq_iff_eq] at hall
  have hszz : ∀ (i : Nat) (r : List AV),rows[i]? = some r → r.length = sz:=fun i r hr => hall r (List.mem_of_getElem? hr)
  have hcell : ∀ k,k < rows.length * sz → ∃ (r : List AV) (c : AV),rows[k / sz]? = some r ∧ r[k % sz]? = some c:=by
   intro k hk
   have hpos : 0 < sz:=by rcases Nat.eq_zero_or_pos sz with h | h; (subst h; simp at hk); exact h
   have h1 : k / sz < rows.length:=(Nat.div_lt_iff_lt_mul hpos).2 hk
   have h2:=List.getElem?_eq_getElem h1
   refine ⟨_,_,h2,List.getElem?_eq_getElem (by rw [hszz _ _ h2]; exact Nat.mod_lt _ hpos)⟩
  have hrange : (List.range (rows.length * sz)).length = rows.length * sz:=by simp
  refine ⟨(List.range (rows.length * sz)).map fun k => cv (k / sz) (k % sz),by simp,fun j u hj => ?_,fun u hu => ?_,⟨by simp,hszz,fun i r j c hr hj => ?_⟩,fun hpos => ⟨b,o,hA (by intro h0; subst h0; simp at hpos)⟩⟩
  ·have hlt : j < rows.length * sz:=by have:=(List.getElem?_eq_some_iff.1 hj).1; simpa using this
   rw [List.getElem?_map,List.getElem?_range hlt,Option.map_some] at hj
   cases hj
   obtain ⟨r,c,hr,hc'⟩:=hcell j hlt
   obtain ⟨_,_,h3⟩:=hc _ r _ c hr hc'
   refine ⟨⟨b,o,none⟩,hA (by intro h0; subst h0; simp at hlt),rfl,?_⟩
   have h4 : sz0 = sz:=(hl _ r hr).symm.trans (hszz _ r hr)
   subst h4
   rw [addr_add,← h3]
   congr 2
   have:=Nat.div_add_mod j sz0
   rw [Nat.mul_comm] at this
   omega
  ·obtain ⟨k,hk,rfl⟩:=List.mem_map.1 hu
   rw [List.mem_range] at hk
   obtain ⟨r,c,hr,hc'⟩:=hcell k hk
   obtain ⟨h1,h2,_⟩:=hc _ r _ c hr hc'
   exact oneCell_of (m:=fun _ => none) (.fz h2) h1
  ·obtain ⟨h1,h2,_⟩:=hc i r j c hr hj
   refine ⟨h1,?_⟩
   have hil:=(List.getElem?_eq_some_iff.1 hr).1
   have hjl:=(List.getElem?_eq_some_iff.1 hj).1
   rw [hszz i r hr] at hjl
   have hlt:=ij_lt hil hjl
   rw [getD_of (v:=cv i j)]
   ·exact h2
   ·have hd : (i * sz + j) / sz = i:=by
     rw [Nat.mul_comm,Nat.mul_add_div (by omega),Nat.div_eq_of_lt hjl,Nat.add_zero]
    have hm : (i * sz + j) % sz = j:=by rw [Nat.mul_comm,Nat.mul_add_mod,Nat.mod_eq_of_lt hjl]
    simp [hlt,hd,hm]
 unfold rowsOf at h
 split at h
 ·cases h
  obtain ⟨rfl,_⟩:=vr_sc hv
  exact ⟨none,0,rfl,gen none 0 0 0 (fun _ _ => undef) (fun h => absurd rfl h) (by simp) (by simp)⟩
 ·cases h
  have hp:=vr_lst hv
  cases hp with
  | lst cv hcap hA hr h1 hc hh =>
   exact ⟨_,_,rfl,gen _ _ _ _ cv hA hr (fun i r j c hr' hj => ⟨h1 i r j c hr' hj,hh i r j c hr' hj,hI.fz _ _ _ (hc i r j c hr' hj)⟩)⟩
 ·rename_i id off len
  obtain ⟨mb,cap,hm,rfl,hcap,hlen⟩:=vr_sl hv
  split at h
  rotate_left
  ·cases h
  rename_i fz sz rs hg
  split at h
  rotate_left
  ·cases h
  rename_i hle
  cases h
  obtain ⟨vs,hcb,hsz,hcn,hfit,hrl,hrc,_⟩:=hI.blk id mb _ hm hg
  subst hsz
  have hl' : ((rs.drop off).take len).length = len:=by simp; omega
  refine ⟨some ⟨mb.cb,mb.base + off * mb.sz,none⟩,cap,by rw [hl'],?_⟩
  refine gen (some ⟨mb.cb,mb.base + off * mb.sz,none⟩) mb.sz mb.cb (mb.base + off * mb.sz) (fun i j => vs.getD (mb.base + off * mb.sz + i * mb.sz + j) undef) (fun _ => rfl) (fun i r hr => hrl _ r (getElem_drop_take hr).1) (fun i r j c hr hj => ?_)
  obtain ⟨hr',_⟩:=getElem_drop_take hr
  obtain ⟨h1,h2⟩:=hrc _ r j c hr' hj
  have hil:=(List.getElem?_eq_some_iff.1 hr').1
  have hjl:=(List.getElem?_eq_some_iff.1 hj).1
  rw [hrl _ r hr'] at hjl
  have hlt : (off + i) * mb.sz + j < rs.length * mb.sz:=ij_lt hil hjl
  have hfit2 : rs.length * mb.sz ≤ mb.cn * mb.sz:=Nat.mul_le_mul_right _ hcn
  have he : mb.base + off * mb.sz + i * mb.sz + j = mb.base + (off + i) * mb.sz + j:=by rw [Nat.add_mul]; omega
  refine ⟨h1,by rw [he]; exact h2,?_⟩
  rw [he]
  exact hcb.cell _ (by omega)
 ·cases h
theorem run_first {A : Option Addr} {len cap n sz : Nat} {us : List Value} (hl : us.length = n * sz) (hc : ∀ (j : Nat) (u : Value),us[j]? = some u → ∃ ad,A = some ad ∧ ad.spot = none ∧ w.cell? (ad.add j) = some u) :
  (Builtin.firstCells sz n (.slice A len cap)).run P w = .ok us.toArray w:=by
 cases A with
 | none =>
  have : us = []:=by
   cases us with
   | nil => rfl
   | cons u us => obtain ⟨ad,h,_⟩:=hc 0 u rfl; cases h
  subst this
  simp [Builtin.firstCells]
 | some ad =>
  simp only [Builtin.firstCells]
  rw [← hl]
  exact run_loadCells_list w ad us (fun j v hj => by
   obtain ⟨ad',he,_,h⟩:=hc j v hj
   cases he
   exact h)
section
variable {t ty el u : TypeId} {ti : TypeInfo} {z : Value} {A base : Option Addr} {n cap sLen sCap : Nat} {us os : List Value}
theorem run_app_room (hu : P.underlying t = some (.slice el)) (hu2 : ∃ el2,P.underlying u = some (.slice el2)) (i1 : P.info? el = some ti) (hl : us.length = n * ti.size)
  (hc : ∀ (j : Nat) (u : Value),us[j]? = some u → ∃ ad,A = some ad ∧ ad.spot = none ∧ w.cell? (ad.add j) = some u) (hroom : sLen + n ≤ sCap) {w' : World}
  (hst : ∀ a,base = some a → (storeCells (a.add (sLen * ti.size)) us).run P w = .ok () w') (hn : base = none → w' = w) :
  (Builtin.append_ #[t,u] ty #[.slice base sLen sCap,.slice A n cap]).run P w = .ok (.slice base (sLen + n) sCap) w':=by
 obtain ⟨el2,hu2⟩:=hu2
 have hf:=run_first (P:=P) (w:=w) (len:=n) (cap:=cap) hl hc
 cases base with
 | none =>
  cases hn rfl
  simp [Builtin.append_,run_under' hu,run_under' hu2,run_sizeOf' i1,Builtin.lenOf,hroom,hf]
 | some b =>
  have:=hst b rfl
  simp [Builtin.append_,run_under' hu,run_under' hu2,run_sizeOf' i1,Builtin.lenOf,hroom,hf,this]
theorem run_app_grow (hu : P.underlying t = some (.slice el)) (hu2 : ∃ el2,P.underlying u = some (.slice el2)) (i1 : P.info? el = some ti) (i2 : ti.zero = some z) (hl : us.length = n * ti.size)
  (hc : ∀ (j : Nat) (u : Value),us[j]? = some u → ∃ ad,A = some ad ∧ ad.spot = none ∧ w.cell? (ad.add j) = some u) (hol : os.length = sLen * ti.size)
  (hoc : ∀ (j : Nat) (u : Value),os[j]? = some u → ∃ ad,base = some ad ∧ ad.spot = none ∧ w.cell? (ad.add j) = some u) (hroom : ¬ sLen + n ≤ sCap) (hb : (sLen + n) * ti.bytes ≤ 140737488355328) (hby : 0 < ti.bytes) :
  (Builtin.append_ #[t,u] ty #[.slice base sLen sCap,.slice A n cap]).run P w = .ok (.slice (some ⟨w.heap.size,0,none⟩) (sLen + n) (grownCap w (sLen + n) sCap el))
   (w.drew.alloc (.cells (os.toArray ++ us.toArray ++ Builtin.zeroCells z.cells (grownCap w (sLen + n) sCap el - (sLen + n))) el)):=by
 obtain ⟨el2,hu2⟩:=hu2
 have hf:=run_first (P:=P) (w:=w.drew) (len:=n) (cap:=cap) hl (fun j u hj => by
  obtain ⟨ad,h1,h2,h3⟩:=hc j u hj
  exact ⟨ad,h1,h2,by rw [World.cell?_drew]; exact h3⟩)
 have hfo:=run_first (P:=P) (w:=w.drew) (len:=sLen) (cap:=sCap) hol (fun j u hj => by
  obtain ⟨ad,h1,h2,h3⟩:=hoc j u hj
  exact ⟨ad,h1,h2,by rw [World.cell?_drew]; exact h3⟩)
 have hcap:=growslice_fits (old:=sCap) (need:=sLen + n) (by omega) hb
 have hle : sLen + n ≤ 140737488355328:=Nat.le_trans (Nat.le_mul_of_pos_right _ hby) hb
 have h63' : ¬ (9223372036854775807 < ((sLen : Int) + (n : Int))):=by omega
 have h48' : ¬ (281474976710656 < Builtin.nextslicecap (sLen + n) sCap * ti.bytes):=by omega
 simp [Builtin.append_,run_under' hu,run_under' hu2,sizeOf,typeInfo,zeroValue,i1,i2,Builtin.lenOf,hroom,h63',h48',Question.forced,hf,hfo,newRow,grownCap]
 congr 2
 apply Array.ext'
 simp [List.append_assoc]
end
theorem RowsR.append {F : Fz} {sz : Nat} {rs rs2 : List (List AV)} {us us2 : Array Value} (h : RowsR F sz rs us) (h2 : RowsR F sz rs2 us2) : RowsR F sz (rs ++ rs2) (us ++ us2):=by
 refine ⟨by rw [Array.size_append,List.length_append,Nat.add_mul,h.size,h2.size],fun i r hr => ?_,fun i r j c hr hc => ?_⟩
 ·rw [List.getElem?_append] at hr
  split at hr
  ·exact h.len i r hr
  ·exact h2.len _ r hr
 ·rw [List.getElem?_append] at hr
  split at hr
  ·rename_i hi
   obtain ⟨b1,b2⟩:=h.cell i r j c hr hc
   have hj:=(List.getElem?_eq_some_iff.1 hc).1
   rw [h.len i r hr] at hj
   have hlt:=ij_lt hi hj
   refine ⟨b1,?_⟩
   rwa [Array.getD_eq_getD_getElem?,Array.getElem?_append_left (by rw [h.size]; exact hlt),← Array.getD_eq_getD_getElem?]
  ·rename_i hi
   obtain ⟨b1,b2⟩:=h2.cell _ r j c hr hc
   refine ⟨b1,?_⟩
   have he : (i - rs.length) * sz + rs.length * sz = i * sz:=by rw [← Nat.add_mul]; congr 1; omega
   rw [Array.getD_eq_getD_getElem?,Array.getElem?_append_right (by rw [h.size]; omega),← Array.getD_eq_getD_getElem?,h.size,show i * sz + j - rs.length * sz = (i - rs.length) * sz + j by omega]
   exact b2
theorem take_pre {α : Type} {l l' : List α} (h : l'.take l.length = l) {i : Nat} {x : α} (hx : l[i]? = some x) : l'[i]? = some x:=by
 have hi:=(List.getElem?_eq_some_iff.1 hx).1
 rw [← h,List.getElem?_take_of_lt hi] at hx
 exact hx
theorem RowC.splice {w w' : World} {vs vs' : Array Value} {cb base sz off : Nat} {us : List Value} {rs xs : List (List AV)} (h : RowC F vs base sz rs) (hx : RowsR F sz xs us.toArray) (hle : off + xs.length ≤ rs.length) (hw : Wrote w w' cb (base + off * sz) us vs vs') : RowC F vs' base sz (splice rs off xs):=by
 have hul : us.length = xs.length * sz:=by simpa using hx.size
 refine ⟨fun k r hr => ?_,fun k r j c hr hj => ?_⟩
 ·rw [getElem?_splice hle] at hr
  split at hr
  ·exact hx.len _ r hr
  ·exact h.len k r hr
 ·rw [getElem?_splice hle] at hr
  split at hr
  ·rename_i hk
   obtain ⟨b1,b2⟩:=hx.cell _ r j c hr hj
   refine ⟨b1,?_⟩
   have hjl:=(List.getElem?_eq_some_iff.1 hj).1
   rw [hx.len _ r hr] at hjl
   have hlt : (k - off) * sz + j < xs.length * sz:=ij_lt (List.getElem?_eq_some_iff.1 hr).1 hjl
   have:=hw.at_ ((k - off) * sz + j) (by rw [hul]; exact hlt)
   have he : (k - off) * sz + off * sz = k * sz:=by rw [← Nat.add_mul,Nat.sub_add_cancel hk.1]
   rw [show base + off * sz + ((k - off) * sz + j) = base + k * sz + j by omega] at this
   rw [this]
   rw [List.getD_eq_getElem?_getD]
   simpa [Array.getD_eq_getD_getElem?] using b2
  ·rename_i hk
   obtain ⟨b1,b2⟩:=h.cell k r j c hr hj
   have hjl:=(List.getElem?_eq_some_iff.1 hj).1
   rw [h.len k r hr] at hjl
   rw [hw.ne _ ?_]
   ·exact ⟨b1,b2⟩
   ·rw [hul]
    rcases Nat.lt_or_ge k off with h5 | h5
    ·left
     have:=ij_lt h5 hjl
     omega
    ·right
     have h6 : (off + xs.length) * sz ≤ k * sz:=Nat.mul_le_mul_right _ (by omega)
     rw [Nat.add_mul] at h6
     omega
theorem splice_pre {α : Type} {l l' xs : List α} {off : Nat} (h : l'.take l.length = l) (hle : off + xs.length ≤ l.length) : (splice l' off xs).take (splice l off xs).length = splice l off xs:=by
 have hll : l.length ≤ l'.length:=by have:=congrArg List.length h; simp at this; omega
 rw [length_splice hle]
 refine List.ext_getElem? fun i => ?_
 rw [List.getElem?_take]
 split
 ·rename_i hi
  rw [getElem?_splice (by omega),getElem?_splice hle]
  split
  ·rfl
  ·rw [← h,List.getElem?_take_of_lt hi]
 ·rename_i hi
  rw [List.getElem?_eq_none (by rw [length_splice hle]; omega)]
theorem RowsR.take {sz : Nat} {rs : List (List AV)} {us : List Value} (h : RowsR F sz rs us.toArray) (n : Nat) (hn : n ≤ rs.length) : RowsR F sz (rs.take n) (us.take (n * sz)).toArray:=by
 have hul : us.length = rs.length * sz:=by simpa using h.size
 refine ⟨?_,fun i r hr => ?_,fun i r j c hr hc => ?_⟩
 ·have : n * sz ≤ rs.length * sz:=Nat.mul_le_mul_right _ hn
  rw [List.size_toArray,List.length_take,List.length_take,Nat.min_eq_left hn,hul,Nat.min_eq_left this]
 ·rw [List.getElem?_take] at hr
  split at hr
  ·exact h.len i r hr
  ·cases hr
 ·rw [List.getElem?_take] at hr
  split at hr
  ·rename_i hi
   obtain ⟨b1,b2⟩:=h.cell i r j c hr hc
   have hjl:=(List.getElem?_eq_some_iff.1 hc).1
   rw [h.len i r hr] at hjl
   have hlt:=ij_lt hi hjl
   refine ⟨b1,?_⟩
   have h2 : (us.take (n * sz)).toArray.getD (i * sz + j) undef = us.toArray.getD (i * sz + j) undef:=by
    simp only [Array.getD_eq_getD_getElem?,List.getElem?_toArray]
    rw [List.getElem?_take_of_lt hlt]
   rw [h2]
   exact b2
  ·cases hr
theorem row_write (hI : Inv P m F H w) {id off sz : Nat} {mb : MB} {rs xs : List (List AV)} {us : List Value} {w' : World} {vs vs' : Array Value} (hm : m id = some mb) (hg : H.get id = some (.row false sz rs)) (hx : RowsR F sz xs us.toArray) (hle : off + xs.length ≤ rs.length)
  (hcb : CB w mb.cb vs) (hw : Wrote w w' mb.cb (mb.base + off * mb.sz) us vs vs') : Inv P m F (H.set id (.row false sz (splice rs off xs))) w' ∧ Ext m F w m F w':=by
 obtain ⟨vs2,hcb2,hsz,hcn,hfit,hrl,hrc,hF,_,hfull⟩:=hI.blk id mb _ hm hg
 cases hcb.fun_ hcb2
 rw [hsz] at hw
 have hk:=RowC.splice (⟨hrl,hrc⟩ : RowC F vs mb.base sz rs) hx hle hw
 obtain ⟨⟨rsF,f1,f2,f3⟩,hum⟩:=hfull rfl
 rw [hsz] at f3
 have hll : rs.length ≤ rsF.length:=by omega
 refine hI.write hm (live_of hg (by simp)) (by rw [← hsz] at hw; exact hw) (hF rfl) _ ⟨vs',hw.cb,hsz,by rw [length_splice hle]; exact hcn,by rw [hw.size]; exact hfit,hk.len,hk.cell,fun _ o => hF rfl o,by simp,fun _ => ⟨?_,fun h => hw.unm (hum h)⟩⟩
 exact ⟨_,by rw [length_splice (by omega)]; exact f1,splice_pre f2 hle,by rw [hsz]; exact RowC.splice f3 hx (by omega) hw⟩
structure AppRun (P : Program) (w : World) (el : TypeId) (ti : TypeInfo) (z : Value) (n : Nat) (us : List Value) (run : Value → Sem Value) : Prop where
 room : ∀ (base : Option Addr) (sLen sCap : Nat) (w' : World),sLen + n ≤ sCap → (∀ a,base = some a → (storeCells (a.add (sLen * ti.size)) us).run P w = .ok () w') → (base = none → w' = w) → (run (.slice base sLen sCap)).run P w = .ok (.slice base (sLen + n) sCap) w'
 grow : ∀ (base : Option Addr) (sLen sCap : Nat) (os : List Value),os.length = sLen * ti.size → (∀ (j : Nat) (u : Value),os[j]? = some u → ∃ ad,base = some ad ∧ ad.spot = none ∧ w.cell? (ad.add j) = some u) → ¬ sLen + n ≤ sCap → (sLen + n) * ti.bytes ≤ 140737488355328 →
  (run (.slice base sLen sCap)).run P w = .ok (.slice (some ⟨w.heap.size,0,none⟩) (sLen + n) (grownCap w (sLen + n) sCap el)) (w.drew.alloc (.cells (os.toArray ++ us.toArray ++ Builtin.zeroCells z.cells (grownCap w (sLen + n) sCap el - (sLen + n))) el))
theorem zzR {z : Value} {sz : Nat} (i4 : z.cells.size = sz) (i3 : ∀ x ∈ z.cells.toList,isSc x = true) (n : Nat) (F : Fz) : RowsR F sz (List.replicate n (z.cells.toList.map AV.sc)) (Builtin.zeroCells z.cells n):=by
 have:=zrow z.cells n sz i4 F i3
 unfold Builtin.zeroCells
 rwa [i4] at this ⊢
theorem appA_core (hn : Free m H nid) (hI : Inv P m F H w) {el : TypeId} {ti : TypeInfo} {z : Value} (i3 : ∀ x ∈ z.cells.toList,isSc x = true) (i4 : z.cells.size = ti.size) {s : AV} {sv : Value} (hs : VR m F s sv) {xs : List (List AV)} {us : List Value} (hul : us.length = xs.length * ti.size) (huone : ∀ u ∈ us,u.oneCell' = true) (hur : RowsR F ti.size xs us.toArray)
  {run : Value → Sem Value} (hR : AppRun P w el ti z xs.length us run) {v : AV} {H' : Heap} (h : appA nid H ti.size ti.bytes s xs = some (v,H')) :
  ∃ r m' F' w',(run sv).run P w = .ok r w' ∧ VR m' F' v r ∧ Inv P m' F' H' w' ∧ Ext m F w m' F' w' ∧ Dom (some nid) m m':=by
 have hcapge : ∀ need old,need ≤ grownCap w need old el:=fun need old => grownCap_ge w need old el
 have hzz:=zzR i4 i3
 unfold appA at h
 split at h
 ·obtain ⟨rfl,_⟩:=vr_sc hs
  split at h
  ·rename_i h0
   cases h
   have hr0:=hR.room none 0 0 w (by omega) (by simp) (fun _ => rfl)
   rw [h0] at hr0
   exact ⟨.slice none 0 0,m,F,w,hr0,hs,hI,Ext.refl m F w,Dom.refl _ m⟩
  ·rename_i h0
   split at h
   rotate_left
   ·cases h
   rename_i hh
   cases h
   have hg:=hcapge (0 + xs.length) 0
   have hrun:=hR.grow none 0 0 [] (by simp) (by simp) (by omega) (by simpa using hh.1)
   generalize grownCap w (0 + xs.length) 0 el = G at hg hrun
   rw [Nat.zero_add] at hg hrun
   have hRR:=hur.append (hzz (G - xs.length) F)
   have he : ([] : List Value).toArray ++ us.toArray = us.toArray:=by simp
   rw [he] at hrun
   have hGl : (xs ++ List.replicate (G - xs.length) (z.cells.toList.map AV.sc)).length = G:=by simp; omega
   obtain ⟨m',a1,a2,a3⟩:=newRowA hn hI (wd:=w.drew) rfl rfl rfl rfl ti.size xs (xs ++ List.replicate (G - xs.length) (z.cells.toList.map AV.sc)) (us.toArray ++ Builtin.zeroCells z.cells (G - xs.length)) el (by rw [hGl]; exact hg) (by rw [List.take_left]) (by rw [hRR.size]; exact Nat.le_refl _) hRR.rowC
   rw [hGl] at a1
   exact ⟨_,m',F,_,hrun,a1,a2,a3⟩
 ·rename_i id off len
  obtain ⟨mb,scap,hm,rfl,hscap,hslen⟩:=vr_sl hs
  split at h
  rotate_left
  ·cases h
  rename_i sz' rs hg
  split at h
  rotate_left
  ·cases h
  rename_i hh
  obtain ⟨rfl,hle,hb,hall⟩:=hh
  obtain ⟨vs,hcb,hsz,hcn,hfit,hrl,hrc,hF,_,hfull⟩:=hI.blk id mb _ hm hg
  obtain ⟨⟨rsF,f1,f2,f3⟩,hum⟩:=hfull rfl
  have hpre : (rsF.drop off).take len = (rs.drop off).take len:=by
   rw [← f2,List.drop_take,List.take_take]
   congr 1
   omega
  have hnlen : ((rs.drop off).take len ++ xs).length = len + xs.length:=by simp; omega
  split at h
  ·rename_i hin
   cases h
   have hmul : (off + len + xs.length) * ti.size ≤ mb.cn * ti.size:=Nat.mul_le_mul_right _ (by omega)
   rw [Nat.add_mul,Nat.add_mul] at hmul
   obtain ⟨w',vs',hst,hw⟩:=run_stores P mb.cb (mb.base + (off + len) * mb.sz) us 0 w vs hcb (by rw [hsz,hul,Nat.add_mul]; omega) huone
   simp only [Nat.add_zero] at hw
   obtain ⟨b1,b2⟩:=row_write hI hm hg hur hin hcb hw
   refine ⟨_,m,F,w',hR.room (some ⟨mb.cb,mb.base + off * mb.sz,none⟩) len scap w' (by omega) (fun a ha => ?_) (by simp),.sl hm hscap (by omega),b1,b2,Dom.refl _ m⟩
   cases ha
   rw [addr_add,hsz,Nat.add_assoc,← Nat.add_mul,← hsz]
   exact hst
  rename_i hin
  cases h
  by_cases hroom : len + xs.length ≤ scap
  ·-- in place
   have hfit2 : (off + (len + xs.length)) * ti.size ≤ mb.cn * ti.size:=Nat.mul_le_mul_right _ (by omega)
   rw [Nat.add_mul,Nat.add_mul] at hfit2
   obtain ⟨w',vs',hst,hw⟩:=run_stores P mb.cb (mb.base + off * mb.sz + len * ti.size) us 0 w vs hcb (by rw [hsz,hul]; omega) huone
   simp only [Nat.add_zero] at hw
   have hrun:=hR.room (some ⟨mb.cb,mb.base + off * mb.sz,none⟩) len scap w' hroom (fun a ha => by
    cases ha
    rw [addr_add]
    exact hst) (by simp)
   have hlen' : vs'.size = vs.size:=hw.size
   let nb : MB:=⟨mb.cb,mb.base + off * mb.sz,mb.sz,scap⟩
   let rsG : List (List AV):=(rs.drop off).take len ++ xs ++ rsF.drop (off + len + xs.length)
   have hGl : rsG.length = scap:=by
    show ((rs.drop off).take len ++ xs ++ rsF.drop (off + len + xs.length)).length = scap
    rw [List.length_append,hnlen,List.length_drop,f1]
    omega
   have hG : ∀ (i : Nat) (r : List AV),rsG[i]? = some r → (i < len ∧ rsF[off + i]? = some r) ∨ (len ≤ i ∧ xs[i - len]? = some r) ∨ (len + xs.length ≤ i ∧ rsF[off + i]? = some r):=by
    intro i r hr
    rcases Nat.lt_or_ge i (len + xs.length) with h1 | h1
    ·rw [List.getElem?_append_left (by rw [hnlen]; exact h1)] at hr
     have hl' : ((rs.drop off).take len).length = len:=by simp; omega
     rcases Nat.lt_or_ge i len with h2 | h2
     ·rw [List.getElem?_append_left (by omega)] at hr
      exact .inl ⟨h2,take_pre f2 (getElem_drop_take hr).1⟩
     ·rw [List.getElem?_append_right (by omega),hl'] at hr
      exact .inr (.inl ⟨h2,hr⟩)
    ·rw [List.getElem?_append_right (by rw [hnlen]; exact h1),hnlen,List.getElem?_drop] at hr
     rw [show off + len + xs.length + (i - (len + xs.length)) = off + i by omega] at hr
     exact .inr (.inr ⟨h1,hr⟩)
   have hGR : RowC F vs' nb.base nb.sz rsG:=by
    refine ⟨fun i r hr => ?_,fun i r j c hr hj => ?_⟩
    ·rcases hG i r hr with ⟨_,h⟩ | ⟨_,h⟩ | ⟨_,h⟩
     ·exact f3.len _ r h
     ·exact (hur.len _ r h).trans hsz.symm
     ·exact f3.len _ r h
    ·show c.one = true ∧ VF F c (vs'.getD (mb.base + off * mb.sz + i * mb.sz + j) undef)
     have hjl0:=(List.getElem?_eq_some_iff.1 hj).1
     rcases hG i r hr with ⟨h1,h2⟩ | ⟨h1,h2⟩ | ⟨h1,h2⟩
     ·obtain ⟨b1,b2⟩:=f3.cell _ r j c h2 hj
      rw [f3.len _ r h2] at hjl0
      have:=ij_lt h1 hjl0
      rw [hsz] at this
      rw [hw.ne _ (by rw [hsz]; omega)]
      rw [Nat.add_assoc mb.base,← Nat.add_mul]
      exact ⟨b1,b2⟩
     ·obtain ⟨b1,b2⟩:=hur.cell _ r j c h2 hj
      rw [hur.len _ r h2] at hjl0
      have hil:=(List.getElem?_eq_some_iff.1 h2).1
      have hlt:=ij_lt hil hjl0
      have he : (i - len) * ti.size + len * ti.size = i * ti.size:=by rw [← Nat.add_mul]; congr 1; omega
      have:=hw.at_ ((i - len) * ti.size + j) (by rw [hul]; exact hlt)
      rw [hsz] at this ⊢
      rw [show mb.base + off * ti.size + len * ti.size + ((i - len) * ti.size + j) = mb.base + off * ti.size + i * ti.size + j by omega] at this
      rw [this]
      refine ⟨b1,?_⟩
      simpa [List.getD_eq_getElem?_getD,Array.getD_eq_getD_getElem?] using b2
     ·obtain ⟨b1,b2⟩:=f3.cell _ r j c h2 hj
      have h3 : (len + xs.length) * ti.size ≤ i * ti.size:=Nat.mul_le_mul_right _ h1
      rw [Nat.add_mul] at h3
      rw [hw.ne _ (by rw [hsz,hul]; omega)]
      rw [Nat.add_assoc mb.base,← Nat.add_mul]
      exact ⟨b1,b2⟩
   have hGt : rsG.take ((rs.drop off).take len ++ xs).length = (rs.drop off).take len ++ xs:=List.take_left
   have hmle:=mset_le nb hn.no
   have hid : id < H.next:=(hI.lt _ _ hm).1
   have hlv : live H id:=live_of hg (by simp)
   have hnid : id ≠ nid:=fun e => by subst e; rw [hn.no] at hm; cases hm
   have hnle : nid ≤ (H.set id .dead).next:=by simpa using hn.le
   have hdead : ∀ B,((H.set id .dead).put nid (.row false ti.size ((rs.drop off).take len ++ xs))).get id = some B → B = .dead:=fun B hB => by
    rw [Heap.get_put_ne _ hnle hnid,Heap.get_set_self _ hid] at hB
    exact (Option.some.inj hB).symm
   have hlivne : ∀ j,live ((H.set id .dead).put nid (.row false ti.size ((rs.drop off).take len ++ xs))) j → j ≠ id:=fun j ⟨B,h1,h2⟩ e => by
    subst e
    exact h2 (hdead B h1)
   have hlivold : ∀ j,live ((H.set id .dead).put nid (.row false ti.size ((rs.drop off).take len ++ xs))) j → j ≠ nid → live H j:=fun j h1 h2 => live_set (live_push hnle h1 h2) (.inl hlv)
   refine ⟨_,mset m nid nb,F,w',hrun,?_,hI.next hmle (FLe.refl F) (fun b o v hv => ?_) (fun j mj hj => ?_) (fun j mj B hj hB => ?_) (fun i j mi mj hi hj li lj e => ?_),?_,Dom.mset _ _ _⟩
   ·have : VR (mset m nid nb) F (.sl nid 0 (len + xs.length)) (.slice (some ⟨nb.cb,nb.base + 0 * nb.sz,none⟩) (len + xs.length) scap):=.sl (mset_self _ _ _) (by simp [nb]) hroom
    simpa [nb] using this
   ·have : b ≠ mb.cb:=fun e => by rw [e,hF rfl o] at hv; cases hv
    rw [cell_of_heap (hw.heap b this)]
    exact hI.fz b o v hv
   ·rcases mset_cases hj with ⟨rfl,rfl⟩ | ⟨hne,hj⟩
    ·rw [hw.hs]
     exact ⟨Heap.lt_next_put _ hnle,hcb.lt⟩
    ·have:=hI.lt j mj hj
     have:=Heap.next_put_le (H.set id .dead) (.row false ti.size ((rs.drop off).take len ++ xs)) nid
     rw [Heap.next_set] at this
     rw [hw.hs]
     omega
   ·rcases mset_cases hj with ⟨rfl,rfl⟩ | ⟨hne,hj⟩
    ·rw [Heap.get_put_self _ hnle] at hB
     cases hB
     refine .inr ⟨vs',hw.cb,hsz,by rw [hnlen]; exact hroom,?_,fun i r hr => (hGR.len i r (take_pre hGt hr)).trans hsz,fun i r j c hr hj => ?_,fun _ o => hF rfl o,by simp,fun _ => ⟨⟨rsG,hGl,hGt,hGR⟩,fun h => hw.unm (hum h)⟩⟩
     ·have : (off + scap) * ti.size ≤ mb.cn * ti.size:=Nat.mul_le_mul_right _ (by omega)
      rw [Nat.add_mul] at this
      rw [hlen']
      show mb.base + off * mb.sz + scap * ti.size ≤ vs.size
      rw [hsz]
      omega
     ·have:=hGR.cell i r j c (take_pre hGt hr) hj
      rw [← hsz]
      exact this
    ·by_cases e : j = id
     ·subst e
      rw [hdead B hB]
      exact .inr trivial
     ·rw [Heap.get_put_ne _ hnle hne,Heap.get_set_ne _ e] at hB
      by_cases hd : B = .dead
      ·subst hd
       exact .inr trivial
      ·exact .inl ⟨hj,hB,hw.heap _ (cb_other hI hm hj hlv (live_of hB hd) e),fun _ _ hv => hv⟩
   ·rcases mset_cases hi with ⟨q1,q2⟩ | ⟨hne,gi⟩ <;> rcases mset_cases hj with ⟨q3,q4⟩ | ⟨hne2,gj⟩
    ·rw [q1,q3]
    ·exact absurd (hI.inj j id mj mb gj hm (hlivold j lj hne2) hlv (by rw [← e,q2])) (hlivne j lj)
    ·exact absurd (hI.inj i id mi mb gi hm (hlivold i li hne) hlv (by rw [e,q4])) (hlivne i li)
    ·exact hI.inj i j mi mj gi gj (hlivold i li hne) (hlivold j lj hne2) e
   ·exact ⟨hmle,FLe.refl F,by rw [hw.hs]; exact Nat.le_refl _,hw.tape,hw.os,hw.out,fun b _ hb => hw.heap b (fun e => hb id mb hm e.symm),fun j mj hj => by
     rcases mset_cases hj with ⟨rfl,rfl⟩ | ⟨hne,hj⟩
     ·exact .inr (.inr ⟨id,mb,hm,rfl⟩)
     ·exact .inl hj,fun _ _ _ x => .inl x⟩
  ·-- a new row
   have hrs : rowsOf H (.sl id off len) = some ((rs.drop off).take len):=by
    simp only [rowsOf,hg]
    rw [if_pos hle]
   obtain ⟨A2,cap2,he2,hrows2⟩:=rowsOf_sound hI hs hrs
   have hl' : ((rs.drop off).take len).length = len:=by simp; omega
   obtain ⟨os,hol,hocell,hoone,hor,hoa⟩:=hrows2 ti.size (by
    simp only [allSz,List.all_eq_true,beq_iff_eq]
    intro r hr
    obtain ⟨i,hi⟩:=List.getElem?_of_mem hr
    exact hrl _ r (getElem_drop_take hi).1)
   rw [hl'] at he2 hol
   injection he2 with he3 he4 he5
   subst he3
   have hg':=hcapge (len + xs.length) scap
   have hrun:=hR.grow (some ⟨mb.cb,mb.base + off * mb.sz,none⟩) len scap os hol hocell hroom hb
   generalize grownCap w (len + xs.length) scap el = G at hg' hrun
   have hK : Inv P m F (H.set id .dead) w:=by
    refine hI.next (MLe.refl m) (FLe.refl F) hI.fz (fun j mj hj => by simpa using hI.lt j mj hj) (fun j mj B hj hB => ?_) (fun i j mi mj hi hj li lj e => hI.inj i j mi mj hi hj (live_set li (.inr rfl)) (live_set lj (.inr rfl)) e)
    by_cases e : j = id
    ·subst e
     rw [Heap.get_set_self _ (hI.lt _ _ hm).1] at hB
     cases hB
     exact .inr trivial
    ·rw [Heap.get_set_ne _ e] at hB
     exact .inl ⟨hj,hB,rfl,fun _ _ hv => hv⟩
   have hRR:=(hor.append hur).append (hzz (G - (len + xs.length)) F)
   have hGl : ((rs.drop off).take len ++ xs ++ List.replicate (G - (len + xs.length)) (z.cells.toList.map AV.sc)).length = G:=by
    rw [List.length_append,hnlen,List.length_replicate]; omega
   obtain ⟨m',a1,a2,a3⟩:=newRowA (⟨hn.no,by simpa using hn.le⟩ : Free m (H.set id .dead) nid) hK (wd:=w.drew) rfl rfl rfl rfl ti.size ((rs.drop off).take len ++ xs) ((rs.drop off).take len ++ xs ++ List.replicate (G - (len + xs.length)) (z.cells.toList.map AV.sc)) (os.toArray ++ us.toArray ++ Builtin.zeroCells z.cells (G - (len + xs.length))) el (by rw [hnlen,hGl]; exact hg') List.take_left (by rw [hRR.size]; exact Nat.le_refl _) hRR.rowC
   rw [hnlen,hGl] at a1
   exact ⟨_,m',F,_,hrun,a1,a2,a3⟩
 ·obtain ⟨A,rfl⟩:=vr_emp hs
  split at h
  ·rename_i h0
   cases h
   have hus : us = []:=List.eq_nil_of_length_eq_zero (by rw [hul,h0,Nat.zero_mul])
   have hr0:=hR.room A 0 0 w (by omega) (fun a _ => by rw [hus]; rfl) (fun _ => rfl)
   rw [h0] at hr0
   exact ⟨.slice A 0 0,m,F,w,hr0,hs,hI,Ext.refl m F w,Dom.refl _ m⟩
  rename_i h0
  split at h
  rotate_left
  ·cases h
  rename_i hh
  cases h
  have hx0 : 0 < xs.length:=Nat.pos_of_ne_zero h0
  have hg:=hcapge (0 + xs.length) 0
  have hrun:=hR.grow A 0 0 [] (by simp) (by simp) (by omega) (by simpa using hh.1)
  generalize grownCap w (0 + xs.length) 0 el = G at hg hrun
  rw [Nat.zero_add] at hg hrun
  have hRR:=hur.append (hzz (G - xs.length) F)
  have he : ([] : List Value).toArray ++ us.toArray = us.toArray:=by simp
  rw [he] at hrun
  have hGl : (xs ++ List.replicate (G - xs.length) (z.cells.toList.map AV.sc)).length = G:=by simp; omega
  obtain ⟨m',a1,a2,a3⟩:=newRowA hn hI (wd:=w.drew) rfl rfl rfl rfl ti.size xs (xs ++ List.replicate (G - xs.length) (z.cells.toList.map AV.sc)) (us.toArray ++ Builtin.zeroCells z.cells (G - xs.length)) el (by rw [hGl]; exact hg) (by rw [List.take_left]) (by rw [hRR.size]; exact Nat.le_refl _) hRR.rowC
  rw [hGl] at a1
  exact ⟨_,m',F,_,hrun,a1,a2,a3⟩
 ·cases h
theorem appA_allSz {sz b : Nat} {s : AV} {xs : List (List AV)} {v : AV} {H' : Heap} (h : appA nid H sz b s xs = some (v,H')) : allSz sz xs = true:=by
 unfold appA at h
 split at h
 ·split at h
  ·rename_i h0
   rw [List.eq_nil_of_length_eq_zero h0]
   rfl
  ·split at h
   ·rename_i hh; exact hh.2
   ·cases h
 ·split at h
  ·split at h
   ·rename_i hh; exact hh.2.2.2
   ·cases h
  ·cases h
 ·split at h
  ·rename_i h0
   rw [List.eq_nil_of_length_eq_zero h0]
   rfl
  ·split at h
   ·rename_i hh; exact hh.2
   ·cases h
 ·cases h
theorem app_run {t ty el : TypeId} (hu : P.underlying t = some (.slice el)) {u : TypeId} (hu2 : ∃ el2,P.underlying u = some (.slice el2)) {ti : TypeInfo} (i1 : P.info? el = some ti) {z : Value} (i2 : ti.zero = some z) (i5 : 0 < ti.bytes) {n cap : Nat} {A : Option Addr} {us : List Value} (hul : us.length = n * ti.size)
  (hucell : ∀ (j : Nat) (u : Value),us[j]? = some u → ∃ ad,A = some ad ∧ ad.spot = none ∧ w.cell? (ad.add j) = some u) : AppRun P w el ti z n us fun sv => Builtin.append_ #[t,u] ty #[sv,.slice A n cap] :=
 ⟨fun base sLen sCap w' h1 h2 h3 => run_app_room hu hu2 i1 hul hucell h1 h2 h3,fun base sLen sCap os h1 h2 h3 h4 => run_app_grow hu hu2 i1 i2 hul hucell h1 h2 h3 h4 i5⟩
theorem appA_sound (hn : Free m H nid) (hI : Inv P m F H w) {t ty el : TypeId} (hu : P.underlying t = some (.slice el)) {u : TypeId} (hu2 : ∃ el2,P.underlying u = some (.slice el2)) {ti : TypeInfo} (i1 : P.info? el = some ti) {z : Value} (i2 : ti.zero = some z) (i3 : ∀ x ∈ z.cells.toList,isSc x = true) (i4 : z.cells.size = ti.size) (i5 : 0 < ti.bytes)
  {s x : AV} {sv xv : Value} (hs : VR m F s sv) (hx : VR m F x xv) {xs : List (List AV)} (hxs : rowsOf H x = some xs) {v : AV} {H' : Heap} (h : appA nid H ti.size ti.bytes s xs = some (v,H')) :
  ∃ r m' F' w',(Builtin.append_ #[t,u] ty #[sv,xv]).run P w = .ok r w' ∧ VR m' F' v r ∧ Inv P m' F' H' w' ∧ Ext m F w m' F' w' ∧ Dom (some nid) m m':=by
 obtain ⟨A,cap,rfl,hrows⟩:=rowsOf_sound hI hx hxs
 obtain ⟨us,hul,hucell,huone,hur,hua⟩:=hrows ti.size (appA_allSz h)
 exact appA_core hn hI i3 i4 hs hul huone hur (app_run hu hu2 i1 i2 i5 hul hucell) h
theorem run_appz_room {t ty el u : TypeId} {ti : TypeInfo} {k : IntKind} (hu : P.underlying t = some (.slice el)) (hu2 : P.underlying u = some (.int k)) (i1 : P.info? el = some ti) {z : Value} (i2 : ti.zero = some z) (i4 : z.cells.size = ti.size) {base : Option Addr} {n sLen sCap : Nat} (hb : n * ti.bytes ≤ 140737488355328) (hby : 0 < ti.bytes) (hpos : 0 < ti.size) (hroom : sLen + n ≤ sCap) {w' : World}
  (hst : ∀ a,base = some a → (storeCells (a.add (sLen * ti.size)) (Builtin.zeroCells z.cells n).toList).run P w = .ok () w') (hn : base = none → w' = w) :
  (Builtin.append_ #[t,u] ty #[.slice base sLen sCap,.int .i64 (n : Int)]).run P w = .ok (.slice base (sLen + n) sCap) w':=by
 have hle : n ≤ 140737488355328:=Nat.le_trans (Nat.le_mul_of_pos_right _ hby) hb
 have hw1 : IntKind.i64.wrap (n : Int) = n:=IntWalk.i64_in _ (by omega)
 have hnn : ¬ ((n : Int) < 0):=by omega
 have hbb : ¬ (281474976710656 < (n : Int) * (ti.bytes : Int)):=by omega
 have hz0 : n * ti.size = 0 → (Builtin.zeroCells z.cells n) = #[]:=fun h => by
  have : n = 0:=by rcases Nat.mul_eq_zero.1 h with h | h <;> omega
  subst this
  simp [Builtin.zeroCells]
 cases base with
 | none =>
  cases hn rfl
  by_cases h0 : n * ti.size = 0
  ·simp [Builtin.append_,run_under' hu,run_under' hu2,sizeOf,typeInfo,zeroValue,i1,i2,asInt,asIntOf,hw1,hnn,hbb,hroom,h0]
  ·simp [Builtin.append_,run_under' hu,run_under' hu2,sizeOf,typeInfo,zeroValue,i1,i2,asInt,asIntOf,hw1,hnn,hbb,hroom,h0]
 | some b =>
  have:=hst b rfl
  by_cases h0 : n * ti.size = 0
  ·rw [hz0 h0] at this
   have h9 : Sem.run P (storeCells (b.add (sLen * ti.size)) []) w = .ok () w':=this
   simp [Builtin.append_,run_under' hu,run_under' hu2,sizeOf,typeInfo,zeroValue,i1,i2,asInt,asIntOf,hw1,hnn,hbb,hroom,h0,h9]
  ·simp [Builtin.append_,run_under' hu,run_under' hu2,sizeOf,typeInfo,zeroValue,i1,i2,asInt,asIntOf,hw1,hnn,hbb,hroom,h0,this]
theorem run_appz_grow {t ty el u : TypeId} {ti : TypeInfo} {k : IntKind} (hu : P.underlying t = some (.slice el)) (hu2 : P.underlying u = some (.int k)) (i1 : P.info? el = some ti) {z : Value} (i2 : ti.zero = some z) (i4 : z.cells.size = ti.size) {base : Option Addr} {n sLen sCap : Nat} (hby : 0 < ti.bytes) (hpos : 0 < ti.size) {os : List Value} (hol : os.length = sLen * ti.size)
  (hoc : ∀ (j : Nat) (u : Value),os[j]? = some u → ∃ ad,base = some ad ∧ ad.spot = none ∧ w.cell? (ad.add j) = some u) (hroom : ¬ sLen + n ≤ sCap) (hb : (sLen + n) * ti.bytes ≤ 140737488355328) :
  (Builtin.append_ #[t,u] ty #[.slice base sLen sCap,.int .i64 (n : Int)]).run P w = .ok (.slice (some ⟨w.heap.size,0,none⟩) (sLen + n) (grownCap w (sLen + n) sCap el))
   (w.drew.alloc (.cells (os.toArray ++ (Builtin.zeroCells z.cells n).toList.toArray ++ Builtin.zeroCells z.cells (grownCap w (sLen + n) sCap el - (sLen + n))) el)):=by
 have hfo:=run_first (P:=P) (w:=w.drew) (len:=sLen) (cap:=sCap) hol (fun j u hj => by
  obtain ⟨ad,h1,h2,h3⟩:=hoc j u hj
  exact ⟨ad,h1,h2,by rw [World.cell?_drew]; exact h3⟩)
 have hcap:=growslice_fits (old:=sCap) (need:=sLen + n) (by omega) hb
 have hnb : n * ti.bytes ≤ 140737488355328:=Nat.le_trans (Nat.mul_le_mul_right _ (Nat.le_add_left n sLen)) hb
 have hle : sLen + n ≤ 140737488355328:=Nat.le_trans (Nat.le_mul_of_pos_right _ hby) hb
 have hw1 : IntKind.i64.wrap (n : Int) = n:=IntWalk.i64_in _ (by omega)
 have hnn : ¬ ((n : Int) < 0):=by omega
 have hbb : ¬ (281474976710656 < (n : Int) * (ti.bytes : Int)):=by
  have : (n : Int) * (ti.bytes : Int) = ((n * ti.bytes : Nat) : Int):=by simp
  omega
 have h63' : ¬ (9223372036854775807 < ((sLen : Int) + (n : Int))):=by omega
 have h48' : ¬ (281474976710656 < Builtin.nextslicecap (sLen + n) sCap * ti.bytes):=by omega
 have hz0 : n * ti.size = 0 → (Builtin.zeroCells z.cells n) = #[]:=fun h => by
  have : n = 0:=by rcases Nat.mul_eq_zero.1 h with h | h <;> omega
  subst this
  simp [Builtin.zeroCells]
 by_cases h0 : n * ti.size = 0
 ·have hz:=hz0 h0
  rw [hz]
  simp [Builtin.append_,run_under' hu,run_under' hu2,sizeOf,typeInfo,zeroValue,i1,i2,asInt,asIntOf,hw1,hnn,hbb,hroom,h0,h63',h48',Question.forced,hfo,newRow,grownCap]
 ·simp [Builtin.append_,run_under' hu,run_under' hu2,sizeOf,typeInfo,zeroValue,i1,i2,asInt,asIntOf,hw1,hnn,hbb,hroom,h0,h63',h48',Question.forced,hfo,newRow,grownCap]
theorem appz_run {t ty el u : TypeId} {ti : TypeInfo} {k : IntKind} (hu : P.underlying t = some (.slice el)) (hu2 : P.underlying u = some (.int k)) (i1 : P.info? el = some ti) {z : Value} (i2 : ti.zero = some z) (i4 : z.cells.size = ti.size) {n : Nat} (hb : n * ti.bytes ≤ 140737488355328) (hby : 0 < ti.bytes) (hpos : 0 < ti.size) :
  AppRun P w el ti z n (Builtin.zeroCells z.cells n).toList fun sv => Builtin.append_ #[t,u] ty #[sv,.int .i64 (n : Int)] :=
 ⟨fun base sLen sCap w' h1 h2 h3 => run_appz_room hu hu2 i1 i2 i4 hb hby hpos h1 h2 h3,fun base sLen sCap os h1 h2 h3 h4 => run_appz_grow hu hu2 i1 i2 i4 hby hpos h1 h2 h3 h4⟩
theorem zeros_us {z : Value} {sz : Nat} (i3 : ∀ x ∈ z.cells.toList,isSc x = true) (i4 : z.cells.size = sz) (hpos : 0 < sz) (n : Nat) (m : Mp) (F : Fz) :
  (Builtin.zeroCells z.cells n).toList.length = (List.replicate n (z.cells.toList.map AV.sc)).length * sz ∧ (∀ u ∈ (Builtin.zeroCells z.cells n).toList,u.oneCell' = true) ∧ RowsR F sz (List.replicate n (z.cells.toList.map AV.sc)) (Builtin.zeroCells z.cells n).toList.toArray:=by
 have hz:=zzR i4 i3 n F
 have hl : (Builtin.zeroCells z.cells n).toList.length = n * sz:=by
  have:=hz.size
  rw [List.length_replicate] at this
  simpa using this
 refine ⟨by rw [hl,List.length_replicate],fun u hu => ?_,by rw [Array.toArray_toList]; exact hz⟩
 obtain ⟨k,hk⟩:=List.getElem?_of_mem hu
 have hk':=(List.getElem?_eq_some_iff.1 hk).1
 rw [hl] at hk'
 have hdiv : k / sz < n:=(Nat.div_lt_iff_lt_mul hpos).2 hk'
 have hmod : k % sz < sz:=Nat.mod_lt _ hpos
 have hr : (List.replicate n (z.cells.toList.map AV.sc))[k / sz]? = some (z.cells.toList.map AV.sc):=by rw [List.getElem?_replicate,if_pos hdiv]
 have hrl : (z.cells.toList.map AV.sc).length = sz:=by simp [i4]
 obtain ⟨b1,b2⟩:=hz.cell _ _ (k % sz) _ hr (List.getElem?_eq_getElem (by rw [hrl]; exact hmod))
 have he : k / sz * sz + k % sz = k:=Nat.div_add_mod' k sz
 rw [he] at b2
 have hu2 : (Builtin.zeroCells z.cells n).getD k undef = u:=getD_of (by simpa using hk)
 rw [hu2] at b2
 exact oneCell_of (.fz b2 : VR m F _ u) b1
end
end Go.VI
namespace Go.VI
section
variable {P : Program} {m : Mp} {F : Fz} {H : Heap} {w : World} {e : Env} {a : Act} {co : Oper} {nid : Nat} {al : Option Nat}
theorem sim_app (hn : Free m H nid) (hs : Sit P m F H w e a) {c : Call} {s x : Operand} {t u : TypeId} (ho : co.op = .call c) (hc : c.callee = .builtin .append) (ha : c.args = #[s,x]) (ht : c.argTypes = #[t,u]) {el : TypeId} (hel : elemA P t = some el) (hu2 : ∃ el2,P.underlying u = some (.slice el2))
  {i : Nat × Nat × List AV} (hi : infoA P el = some i) {v : AV} {H' : Heap} (h : opS nid e H (.app i.1 i.2.1 s x) = some (v,H')) : OpOk P co a (some nid) m F w v H':=by
 obtain ⟨ti,z,i1,i2,rfl,i3,i4,hpos,hby⟩:=infoA_some hi
 simp only [opS,Option.bind_eq_some_iff] at h
 obtain ⟨xs,hxs,h⟩:=h
 obtain ⟨r,m',F',w',hr,hv,hI,hE⟩:=appA_sound (ty:=co.type) hn hs.inv (elemA_some hel) hu2 i1 i2 i3 i4 hby (hs.ev s) (hs.ev x) hxs h
 refine ⟨_,r,m',F',w',?_,.inl rfl,hv,hI,hE⟩
 simp [execOp,ho,resolve,hc,ha,ht,invoke,builtin,hr]
theorem sim_appz (hn : Free m H nid) (hs : Sit P m F H w e a) {c : Call} {s x : Operand} {t u : TypeId} (ho : co.op = .call c) (hc : c.callee = .builtin .append) (ha : c.args = #[s,x]) (ht : c.argTypes = #[t,u]) {el : TypeId} (hel : elemA P t = some el) {k : IntKind} (hu2 : P.underlying u = some (.int k))
  {i : Nat × Nat × List AV} (hi : infoA P el = some i) {v : AV} {H' : Heap} (h : opS nid e H (.appz i.1 i.2.1 i.2.2 s x) = some (v,H')) : OpOk P co a (some nid) m F w v H':=by
 obtain ⟨ti,z,i1,i2,rfl,i3,i4,hpos,hby⟩:=infoA_some hi
 simp only [opS] at h
 split at h
 rotate_left
 ·cases h
 rename_i n hxx
 split at h
 rotate_left
 ·cases h
 rename_i hh
 obtain ⟨he,_⟩:=vr_sc (hxx ▸ hs.ev x)
 obtain ⟨nn,rfl⟩:=Int.eq_ofNat_of_zero_le hh.1
 obtain ⟨u1,u2,u3⟩:=zeros_us i3 i4 hpos nn m F
 rw [Int.toNat_natCast] at h hh
 have hR:=appz_run (P:=P) (w:=w) (ty:=co.type) (elemA_some hel) hu2 i1 i2 i4 (n:=nn) hh.2 hby hpos
 obtain ⟨r,m',F',w',hr,hv,hI,hE⟩:=appA_core hn hs.inv i3 i4 (hs.ev s) u1 u2 u3 (by rw [List.length_replicate]; exact hR) h
 refine ⟨_,r,m',F',w',?_,.inl rfl,hv,hI,hE⟩
 simp [execOp,ho,resolve,hc,ha,ht,invoke,builtin,he,hr]
theorem sim_len (hs : Sit P m F H w e a) {c : Call} {x : Operand} {t : TypeId} (ho : co.op = .call c) (hc : c.callee = .builtin .len) (ha : c.args = #[x]) (ht : c.argTypes = #[t]) {kd : Nat}
  (hk : (kd = 0 ∧ ∃ el,P.underlying t = some (.slice el)) ∨ (kd = 1 ∧ P.underlying t = some .string) ∨ (kd = 2 ∧ ∃ k el,P.underlying t = some (.map k el)))
  {v : AV} {H' : Heap} (h : opS nid e H (.len kd x) = some (v,H')) : OpOk P co a al m F w v H':=by
 have hx:=hs.ev x
 simp only [opS] at h
 split at h
 ·rename_i id hxx
  rw [hxx] at hx
  obtain ⟨mb,hm,he⟩:=vr_mp hx
  split at h
  rotate_left
  ·cases h
  rename_i hkd
  subst hkd
  have hk : ∃ k el,P.underlying t = some (.map k el):=by
   rcases hk with ⟨h,_⟩ | ⟨h,_⟩ | ⟨_,h⟩
   ·cases h
   ·cases h
   ·exact h
  obtain ⟨k,el,hk⟩:=hk
  split at h
  ·rename_i es bs ck hg
   cases h
   obtain ⟨ens,h1,h2,h2b,h3⟩:=hs.inv.blk id mb _ hm hg
   refine OpOk.still hs.inv ?_ (.fz (.sc rfl))
   simp [execOp,ho,resolve,hc,ha,ht,invoke,builtin,Builtin.len_,run_under' hk,he,getObj,Sem.run,h1,h2,goInt]
  ·cases h
 ·simp only [Option.map_eq_some_iff] at h
  obtain ⟨n,hn,h⟩:=h
  cases h
  refine OpOk.still (u:=.int .i64 n) hs.inv ?_ (.fz (.sc rfl))
  unfold lenOfA at hn
  split at hn
  ·rename_i hxx
   cases hn
   rw [hxx] at hx
   obtain ⟨he,_⟩:=vr_sc hx
   have hk : ∃ el,P.underlying t = some (.slice el):=by
    rcases hk with ⟨_,h⟩ | ⟨h,_⟩ | ⟨h,_⟩
    ·exact h
    ·cases h
    ·cases h
   obtain ⟨el,hk⟩:=hk
   simp [execOp,ho,resolve,hc,ha,ht,invoke,builtin,Builtin.len_,run_under' hk,he,goInt]
  ·rename_i rows hxx
   cases hn
   rw [hxx] at hx
   have hp:=vr_lst hx
   generalize hq : a.eval x = q at hp
   have hk : ∃ el,P.underlying t = some (.slice el):=by
    rcases hk with ⟨_,h⟩ | ⟨h,_⟩ | ⟨h,_⟩
    ·exact h
    ·cases h
    ·cases h
   obtain ⟨el,hk⟩:=hk
   cases hp
   simp [execOp,ho,resolve,hc,ha,ht,invoke,builtin,Builtin.len_,run_under' hk,hq,goInt]
  ·rename_i id off len hxx
   cases hn
   rw [hxx] at hx
   obtain ⟨mb,cap,_,he,_⟩:=vr_sl hx
   have hk : ∃ el,P.underlying t = some (.slice el):=by
    rcases hk with ⟨_,h⟩ | ⟨h,_⟩ | ⟨h,_⟩
    ·exact h
    ·cases h
    ·cases h
   obtain ⟨el,hk⟩:=hk
   simp [execOp,ho,resolve,hc,ha,ht,invoke,builtin,Builtin.len_,run_under' hk,he,goInt]
  ·rename_i hxx
   cases hn
   rw [hxx] at hx
   obtain ⟨A,he⟩:=vr_emp hx
   have hk : ∃ el,P.underlying t = some (.slice el):=by
    rcases hk with ⟨_,h⟩ | ⟨h,_⟩ | ⟨h,_⟩
    ·exact h
    ·cases h
    ·cases h
   obtain ⟨el,hk⟩:=hk
   simp [execOp,ho,resolve,hc,ha,ht,invoke,builtin,Builtin.len_,run_under' hk,he,goInt]
  ·rename_i s hxx
   cases hn
   rw [hxx] at hx
   obtain ⟨he,_⟩:=vr_sc hx
   have hk : P.underlying t = some .string:=by
    rcases hk with ⟨h,_⟩ | ⟨_,h⟩ | ⟨h,_⟩
    ·cases h
    ·exact h
    ·cases h
   simp [execOp,ho,resolve,hc,ha,ht,invoke,builtin,Builtin.len_,run_under' hk,he,goInt]
  ·cases hn
theorem boundsA_some {n : Nat} {lo hi mx : Option Int} {l h : Nat} (hb : boundsA n lo hi mx = some (l,h)) :
  0 ≤ lo.getD 0 ∧ (lo.getD 0).toNat = l ∧ (hi.getD n).toNat = h ∧ 0 ≤ hi.getD n ∧ l ≤ h ∧ h ≤ n ∧ lo.getD 0 ≤ hi.getD n ∧ hi.getD n ≤ mx.getD n ∧ mx.getD n ≤ n:=by
 unfold boundsA at hb
 simp only at hb
 split at hb
 ·simp only [Option.some.injEq,Prod.mk.injEq] at hb
  omega
 ·cases hb
theorem boundsS_some {n cp : Nat} {lo hi mx : Option Int} {l h : Nat} (hb : boundsS n cp lo hi mx = some (l,h)) :
  0 ≤ lo.getD 0 ∧ (lo.getD 0).toNat = l ∧ (hi.getD n).toNat = h ∧ 0 ≤ hi.getD n ∧ l ≤ h ∧ h ≤ cp ∧ lo.getD 0 ≤ hi.getD n ∧ hi.getD n ≤ mx.getD cp ∧ mx.getD cp ≤ cp:=by
 unfold boundsS at hb
 simp only at hb
 split at hb
 ·simp only [Option.some.injEq,Prod.mk.injEq] at hb
  omega
 ·cases hb
theorem optI_some {o : Option Operand} {r : Option Int} (h : optI e o = some r) (hs : Sit P m F H w e a) : (o = none ∧ r = none) ∨ ∃ x k n,o = some x ∧ a.eval x = .int k n ∧ r = some n:=by
 cases o with
 | none => simp [optI] at h; exact .inl ⟨rfl,h.symm⟩
 | some x =>
  simp only [optI,Option.map_eq_some_iff] at h
  obtain ⟨n,hn,rfl⟩:=h
  obtain ⟨k,hk⟩:=toI_some hn (hs.ev x)
  exact .inr ⟨x,k,n,rfl,hk,rfl⟩
theorem run_bounds (hs : Sit P m F H w e a) {lo hi mx : Option Operand} {lr hr mr : Option Int} (h1 : optI e lo = some lr) (h2 : optI e hi = some hr) (h3 : optI e mx = some mr) {n cap l h : Nat} (hb : boundsA n lr hr mr = some (l,h)) (hc : n ≤ cap) (hmx : mx.isSome → hi.isSome) (sl : Bool) :
  ∃ cm,(Instr.sliceBounds sl n cap (lo.map a.eval) (hi.map a.eval) (mx.map a.eval)).run P w = .ok (l,h,cm) w ∧ h ≤ cm ∧ cm ≤ cap:=by
 obtain ⟨b1,b2,b3,b4,b5,b6,b7,b8,b9⟩:=boundsA_some hb
 rcases optI_some h1 hs with ⟨rfl,rfl⟩ | ⟨xl,kl,nl,rfl,el,rfl⟩ <;> rcases optI_some h2 hs with ⟨rfl,rfl⟩ | ⟨xh,kh,nh,rfl,eh,rfl⟩ <;> rcases optI_some h3 hs with ⟨rfl,rfl⟩ | ⟨xm,km,nm,rfl,em,rfl⟩ <;>
  simp only [Option.getD_none,Option.getD_some] at b1 b2 b3 b4 b5 b6 b7 b8 b9
 ·exact ⟨cap,by simp [Instr.sliceBounds]; omega,by omega,Nat.le_refl _⟩
 ·simp at hmx
 ·refine ⟨cap,?_,by omega,Nat.le_refl _⟩
  simp only [Instr.sliceBounds,Option.map_some,Option.map_none,Sem.run_bind,Sem.run_pure,Result.andThen_ok,eh]
  rw [run_sliceBound (h0:=b4) (h1:=by omega)]
  simp
  omega
 ·refine ⟨nm.toNat,?_,by omega,by omega⟩
  simp only [Instr.sliceBounds,Option.map_some,Option.map_none,Sem.run_bind,Sem.run_pure,Result.andThen_ok,eh,em]
  rw [run_sliceBound (h0:=by omega) (h1:=by omega)]
  simp only [Result.andThen_ok]
  rw [run_sliceBound (h0:=b4) (h1:=by omega)]
  simp
  omega
 ·refine ⟨cap,?_,by omega,Nat.le_refl _⟩
  simp only [Instr.sliceBounds,Option.map_some,Option.map_none,Sem.run_bind,Sem.run_pure,Result.andThen_ok,el]
  rw [run_sliceBound (h0:=b1) (h1:=by omega)]
  simp
  omega
 ·simp at hmx
 ·refine ⟨cap,?_,by omega,Nat.le_refl _⟩
  simp only [Instr.sliceBounds,Option.map_some,Option.map_none,Sem.run_bind,Sem.run_pure,Result.andThen_ok,el,eh]
  rw [run_sliceBound (h0:=b4) (h1:=by omega)]
  simp only [Result.andThen_ok]
  rw [run_sliceBound (h0:=b1) (h1:=by omega)]
  simp
  omega
 ·refine ⟨nm.toNat,?_,by omega,by omega⟩
  simp only [Instr.sliceBounds,Option.map_some,Option.map_none,Sem.run_bind,Sem.run_pure,Result.andThen_ok,el,eh,em]
  rw [run_sliceBound (h0:=by omega) (h1:=by omega)]
  simp only [Result.andThen_ok]
  rw [run_sliceBound (h0:=b4) (h1:=by omega)]
  simp only [Result.andThen_ok]
  rw [run_sliceBound (h0:=b1) (h1:=by omega)]
  simp
  omega
theorem run_boundsS (hs : Sit P m F H w e a) {lo hi mx : Option Operand} {lr hr mr : Option Int} (h1 : optI e lo = some lr) (h2 : optI e hi = some hr) (h3 : optI e mx = some mr) {n cp cap l h : Nat} (hb : boundsS n cp lr hr mr = some (l,h)) (hn : n ≤ cp) (hc : cp ≤ cap) (hmx : mx.isSome → hi.isSome) (sl : Bool) :
  ∃ cm,(Instr.sliceBounds sl n cap (lo.map a.eval) (hi.map a.eval) (mx.map a.eval)).run P w = .ok (l,h,cm) w ∧ h ≤ cm ∧ cm ≤ cap ∧ (mx = none → cm = cap):=by
 obtain ⟨b1,b2,b3,b4,b5,b6,b7,b8,b9⟩:=boundsS_some hb
 rcases optI_some h1 hs with ⟨rfl,rfl⟩ | ⟨xl,kl,nl,rfl,el,rfl⟩ <;> rcases optI_some h2 hs with ⟨rfl,rfl⟩ | ⟨xh,kh,nh,rfl,eh,rfl⟩ <;> rcases optI_some h3 hs with ⟨rfl,rfl⟩ | ⟨xm,km,nm,rfl,em,rfl⟩ <;>
  simp only [Option.getD_none,Option.getD_some] at b1 b2 b3 b4 b5 b6 b7 b8 b9
 ·exact ⟨cap,by simp [Instr.sliceBounds]; omega,by omega,Nat.le_refl _,fun _ => rfl⟩
 ·simp at hmx
 ·refine ⟨cap,?_,by omega,Nat.le_refl _,fun _ => rfl⟩
  simp only [Instr.sliceBounds,Option.map_some,Option.map_none,Sem.run_bind,Sem.run_pure,Result.andThen_ok,eh]
  rw [run_sliceBound (h0:=b4) (h1:=by omega)]
  simp
  omega
 ·refine ⟨nm.toNat,?_,by omega,by omega,by simp⟩
  simp only [Instr.sliceBounds,Option.map_some,Option.map_none,Sem.run_bind,Sem.run_pure,Result.andThen_ok,eh,em]
  rw [run_sliceBound (h0:=by omega) (h1:=by omega)]
  simp only [Result.andThen_ok]
  rw [run_sliceBound (h0:=b4) (h1:=by omega)]
  simp
  omega
 ·refine ⟨cap,?_,by omega,Nat.le_refl _,fun _ => rfl⟩
  simp only [Instr.sliceBounds,Option.map_some,Option.map_none,Sem.run_bind,Sem.run_pure,Result.andThen_ok,el]
  rw [run_sliceBound (h0:=b1) (h1:=by omega)]
  simp
  omega
 ·simp at hmx
 ·refine ⟨cap,?_,by omega,Nat.le_refl _,fun _ => rfl⟩
  simp only [Instr.sliceBounds,Option.map_some,Option.map_none,Sem.run_bind,Sem.run_pure,Result.andThen_ok,el,eh]
  rw [run_sliceBound (h0:=b4) (h1:=by omega)]
  simp only [Result.andThen_ok]
  rw [run_sliceBound (h0:=b1) (h1:=by omega)]
  simp
  omega
 ·refine ⟨nm.toNat,?_,by omega,by omega,by simp⟩
  simp only [Instr.sliceBounds,Option.map_some,Option.map_none,Sem.run_bind,Sem.run_pure,Result.andThen_ok,el,eh,em]
  rw [run_sliceBound (h0:=by omega) (h1:=by omega)]
  simp only [Result.andThen_ok]
  rw [run_sliceBound (h0:=b4) (h1:=by omega)]
  simp only [Result.andThen_ok]
  rw [run_sliceBound (h0:=b1) (h1:=by omega)]
  simp
  omega
end
end Go.VI
