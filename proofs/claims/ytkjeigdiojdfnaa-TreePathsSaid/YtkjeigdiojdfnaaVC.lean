/- VI, part C: the resolved operation of a loaded one. -/
import Derived.Test.YtkjeigdiojdfnaaVB
set_option linter.unusedVariables false
set_option linter.unusedSimpArgs false
namespace Go.VI

def aggB (P : Program) (t : TypeId) : Option Bool :=
  match P.underlying t with
  | some (.struct _) => some true
  | some (.array _ _) => some true
  | some _ => some false
  | none => none
/-- size in cells, bytes, zero cells. -/
def infoA (P : Program) (t : TypeId) : Option (Nat × Nat × List AV) :=
  (P.info? t).bind fun i => i.zero.bind fun z =>
    if z.cells.toList.all isSc ∧ z.cells.size = i.size ∧ 0 < i.size ∧ 0 < i.bytes then some (i.size, i.bytes, z.cells.toList.map .sc) else none
def elemA (P : Program) (t : TypeId) : Option TypeId :=
  match P.underlying t with
  | some (.slice e) => some e
  | _ => none
def fieldsA (P : Program) (t : TypeId) : Option (Array Field) :=
  match P.underlying t with
  | some (.struct fs) => some fs
  | _ => none
def partsS (P : Program) (fs : Array Field) : List (Nat × Operand) → Option (List (Nat × Nat × Operand))
  | [] => some []
  | (i, x) :: r => (fs[i]?).bind fun f => (P.info? f.type).bind fun ti => (partsS P fs r).map fun r => (f.offset, ti.size, x) :: r
def partsA (sz : Nat) : List (Nat × Operand) → List (Nat × Nat × Operand)
  | [] => []
  | (i, x) :: r => (i * sz, sz, x) :: partsA sz r
def isNilC : Nat → Operand → Bool
  | 0, .const (.slice none 0 0) => true
  | 1, .const (.pointer none) => true
  | 2, .const (.map none) => true
  | 3, .const .nilFunc => true
  | _, _ => false
def nilable (P : Program) (t : TypeId) : Option Nat :=
  match P.underlying t with
  | some (.slice _) => some 0
  | some (.pointer _) => some 1
  | some (.map _ _) => some 2
  | some (.func _ _ _) => some 3
  | _ => none
def scalarT (P : Program) (t : TypeId) : Bool :=
  match P.underlying t with
  | some (.int _) | some .bool | some .string => true
  | _ => false
/-- A struct's cells are whole numbers, bools and strings, one a field: their kinds. -/
def kindS (P : Program) (t : TypeId) : Option Nat :=
  match P.underlying t with
  | some (.int _) => some 0
  | some .bool => some 1
  | some .string => some 2
  | _ => none
def kindsF (P : Program) : Nat → List Field → Option (List Nat)
  | _, [] => some []
  | i, f :: fs => if f.name != "_" ∧ f.offset = i then (kindS P f.type).bind fun k => (kindsF P (i + 1) fs).map fun r => k :: r else none
def flatS (P : Program) (t : TypeId) : Option (List Nat) :=
  match P.underlying t with
  | some (.struct fs) => if P.stoodInHeld t then none else kindsF P 0 fs.toList
  | _ => none

def isBoolT (P : Program) (t : TypeId) : Bool :=
  match P.underlying t with
  | some .bool => true
  | _ => false
def isU8 (P : Program) (t : TypeId) : Bool :=
  match P.underlying t with
  | some (.int .u8) => true
  | _ => false
/-- A map's kind of keys, and its elements' type. -/
def keyT (P : Program) (t : TypeId) : Option (Option IntKind × TypeId) :=
  match P.underlying t with
  | some (.map kt el) => (match P.underlying kt with
    | some (.int k) => some (some k, el)
    | some .string => some (none, el)
    | _ => none)
  | _ => none
def isNeq : BinOp → Bool
  | .neq => true
  | _ => false

def compOp (P : Program) (ty : TypeId) : Op → Option AOp
  | .move x | .assign x => some (.mov x)
  | .pick c a b => some (.pick c a b)
  | .alloc t => (infoA P t).map fun i => .alloc i.2.2
  | .box t x => (infoA P t).map fun i => .box i.1 x
  | .build t parts => (infoA P t).bind fun i =>
    match P.underlying t with
    | some (.struct fs) => if (fs.toList.all fun f => (P.info? f.type).isSome) then (partsS P fs parts.toList).map fun ps => .build i.2.2 ps else none
    | some (.array _ el) => (infoA P el).map fun j => .build i.2.2 (partsA j.1 parts.toList)
    | _ => none
  | .buildSlice t len parts => (elemA P t).bind fun el => (infoA P el).bind fun i =>
    if len * i.1 ≤ 16777216 then some (.bslice i.1 i.2.2 len parts.toList) else none
  | .load t a => (aggB P t).bind fun g => (infoA P t).map fun i => .load g i.1 a
  | .store t a x => (infoA P t).map fun i => .store i.1 a x
  | .nilCheck x => some (.nilck x)
  | .binOp op t x y _ =>
    match op with
    | .eql | .neq =>
      if isBoolT P t then some (.eqb (isNeq op) x y)
      else if scalarT P t then some (.bin op t x y)
      else match nilable P t with
      | some kd => if isNilC kd y then some (.isnil (isNeq op) kd x) else if isNilC kd x then some (.isnil (isNeq op) kd y) else none
      | none => (flatS P t).map fun ks => .eqs (isNeq op) ks x y
    | _ => some (.bin op t x y)
  | .unOp op _ x => some (.un op x)
  | .convert s d x =>
    match P.underlying s, P.underlying d with
    | some (.int _), some (.int k) => some (.conv k x)
    | some (.slice _), some (.slice el) => if s = d ∧ isU8 P el = true then some (.stringish x) else none
    | some (.slice el), some .string => if isU8 P el then some (.tostr x) else none
    | _, _ => none
  | .makeFunc f first caps => some (.mkfn f first.toList caps.toList)
  | .makeSlice t l c => (elemA P t).bind fun el => (infoA P el).map fun i => .mkslice i.1 i.2.1 i.2.2 l c
  | .slice t x lo hi mx =>
    match P.underlying t with
    | some (.slice el) => if mx.isSome && hi.isNone then none else (infoA P el).map fun i => .slice i.1 x lo hi mx
    | some .string => if mx.isNone then some (.slstr x lo hi) else none
    | _ => none
  | .fieldAddr t x i => (fieldsA P t).bind fun fs => (fs[i]?).bind fun f => (infoA P f.type).map fun _ => .faddr f.offset x
  | .field t x i => (fieldsA P t).bind fun fs => (fs[i]?).bind fun f => (aggB P f.type).bind fun g => (infoA P f.type).map fun j => .field g f.offset j.1 x
  | .indexAddr t x ix =>
    match P.underlying t with
    | some (.slice el) => (infoA P el).map fun i => .iaddr none i.1 x ix
    | some (.array n el) => (infoA P el).map fun i => .iaddr (some n) i.1 x ix
    | _ => none
  | .index t x ix =>
    match P.underlying t with
    | some (.array n el) => (aggB P el).bind fun g => (infoA P el).map fun i => .index n g i.1 x ix
    | _ => none
  | .extract x i => some (.ext x i)
  | .makeMap t none => (keyT P t).map fun kd => .mkmap kd.1
  | .lookup t m k ok => (keyT P t).bind fun kd => (aggB P kd.2).bind fun g => if g then none else (P.info? kd.2).bind fun i => i.zero.bind fun z => if isSc z then some (.look kd.1 (.sc z) m k ok) else none
  | .mapUpdate t m k v | .insert t m k v => (keyT P t).map fun kd => .mput kd.1 m k v
  | .call c =>
    match c.callee with
    | .value f => some (.call f c.args.toList)
    | .invoke _ _ => none
    | .builtin b =>
      match b, c.args.toList, c.argTypes.toList with
      | .len, [x], [t] => (match P.underlying t with
        | some (.slice _) => some (.len 0 x)
        | some .string => some (.len 1 x)
        | some (.map _ _) => some (.len 2 x)
        | _ => none)
      | .append, [s, x], [t, u] => (elemA P t).bind fun el => (infoA P el).bind fun i =>
          (match P.underlying u with
          | some (.slice _) => some (.app i.1 i.2.1 s x)
          | _ => none)
      | .copy, [d, s], [t, u] => (elemA P t).bind fun el => (infoA P el).bind fun i =>
          (match P.underlying u with
          | some (.slice _) => some (.copy i.1 d s)
          | _ => none)
      | .max, [x, y], _ => if scalarT P ty then some (.mx2 x y) else none
      | .min, [x, y], _ => if scalarT P ty then some (.mn2 x y) else none
      | _, _, _ => none
  | _ => none

def compOper (P : Program) (ops : Array Oper) (o : Oper) : Option AOper :=
  (compOp P o.type o.op).map fun op => { dst := o.dst, op, guard := o.guard.map fun (j, b) => ((ops[j]?).bind (·.dst), b) }

/-- Classes: 0: no heap; 1: reads; 2: takes a number; 3: writes; 4: a call. -/
def clsA : AOp → Nat
  | .load .. | .stringish .. | .tostr .. | .slice .. | .iaddr .. | .len .. | .look .. => 1
  | .alloc .. | .box .. | .mkslice .. | .mkmap .. => 2
  | .store .. | .app .. | .copy .. | .mput .. | .bslice .. => 3
  | .call .. => 4
  | _ => 0
def clash : Nat → Nat → Bool
  | 0, _ | _, 0 => false
  | 1, 1 => false
  | 2, 2 => false
  | _, _ => true
def slotsX : Operand → List Nat
  | .tmp t => [t]
  | _ => []
def slotsO : Option Operand → List Nat
  | some x => slotsX x
  | none => []
/-- The slots that an operation looks at. -/
def slotsA : AOp → List Nat
  | .mov x | .box _ x | .nilck x | .un _ x | .conv _ x | .stringish x | .tostr x | .faddr _ x | .field _ _ _ x | .ext x _ | .len _ x | .load _ _ x => slotsX x
  | .pick c a b => slotsX c ++ slotsX a ++ slotsX b
  | .alloc _ | .mkmap _ => []
  | .build _ ps => ps.flatMap fun p => slotsX p.2.2
  | .bslice _ _ _ ps => ps.flatMap fun p => slotsX p.2
  | .store _ a x => slotsX a ++ slotsX x
  | .bin _ _ x y | .eqs _ _ x y | .eqb _ x y | .mx2 x y | .mn2 x y => slotsX x ++ slotsX y
  | .isnil _ _ x => slotsX x
  | .mkfn _ f c => f.flatMap slotsX ++ c.flatMap slotsX
  | .mkslice _ _ _ l c => slotsX l ++ slotsX c
  | .slice _ x a b c => slotsX x ++ slotsO a ++ slotsO b ++ slotsO c
  | .slstr x a b => slotsX x ++ slotsO a ++ slotsO b
  | .iaddr _ _ x y | .index _ _ _ x y => slotsX x ++ slotsX y
  | .app _ _ x y | .copy _ x y => slotsX x ++ slotsX y
  | .look _ _ x y _ => slotsX x ++ slotsX y
  | .mput _ x y z => slotsX x ++ slotsX y ++ slotsX z
  | .call f xs => slotsX f ++ xs.flatMap slotsX
def slotsG (o : AOper) : List Nat :=
  slotsA o.op ++ match o.guard with
    | some (some t, _) => [t]
    | _ => []
/-- Neither looks at the other's slot; their slots are two. -/
def apartA (x y : AOper) : Bool :=
  (match x.dst with
   | some d => !(slotsG y).contains d && y.dst != some d
   | none => true) &&
  (match y.dst with
   | some d => !(slotsG x).contains d
   | none => true)
/-- What each operation comes after. -/
def needs (o : Oper) : List Nat := o.after.toList.filterMap fun e => if Region.binds .any e then some e.on else none
/-- All that it comes after, as bits. -/
def bitsOf (acc : List Nat) (ns : List Nat) : Nat := ns.foldl (fun b i => b ||| (1 <<< i) ||| acc.getD i 0) 0
def closeB : List Nat → List (List Nat) → List Nat
  | acc, [] => acc
  | acc, ns :: r => closeB (acc ++ [bitsOf acc ns]) r
def befores (ops : Array Oper) : List Nat := closeB [] (ops.toList.map needs)
/-- The pairs to look at: none of the two comes after the other, and they may meet on the heap. 'none': some meet in a slot. -/
def pairsAt (os : List AOper) (bf : List Nat) (j : Nat) (y : AOper) : Nat → List AOper → Option (List (Nat × Nat))
  | _, [] => some []
  | i, x :: r => (pairsAt os bf j y (i + 1) r).bind fun ps =>
    if j ≤ i then some ps
    else if (bf.getD j 0).testBit i then some ps
    else if apartA x y then (if clash (clsA x.op) (clsA y.op) then some ((i, j) :: ps) else some ps)
    else none
def pairsOf (os : List AOper) (bf : List Nat) : Nat → List AOper → Option (List (Nat × Nat))
  | _, [] => some []
  | j, y :: r => (pairsAt os bf j y 0 os).bind fun ps => (pairsOf os bf (j + 1) r).map fun qs => ps ++ qs
/-- Each needs elder ones alone. -/
def elder : Nat → List (List Nat) → Bool
  | _, [] => true
  | i, ns :: r => ns.all (fun j => j < i) && elder (i + 1) r
def prsOf (ops : Array Oper) (os : List AOper) : Option (List (Nat × Nat)) :=
  if elder 0 (ops.toList.map needs) then pairsOf os (befores ops) 0 os else none

def compC (P : Program) : Code → Option ACode
  | .skip => some .skip
  | .region _ ops draw => ((ops.toList.mapM (compOper P ops))).bind fun os => if draw then (prsOf ops os).map fun prs => .region os true prs else some (.region os false [])
  | .seq a b => (compC P a).bind fun a => (compC P b).map fun b => .seq a b
  | .cond c a b => (compC P a).bind fun a => (compC P b).map fun b => .cond c a b
  | .block id c => (compC P c).map fun c => .block id c
  | .loop c => (compC P c).map fun c => .loop c
  | .exit id => some (.exit id)
  | .ret => some .ret
  | _ => none

def compRes (P : Program) : ResultVar → Option ARes
  | .tmp t => some (.tmp t)
  | .cell t ty => (aggB P ty).bind fun g => (infoA P ty).map fun i => .cell t g i.1

/-- A function of the program, resolved. -/
def compF (P : Program) (f : FuncId) : Option (Nat × List ARes × ACode) :=
  (P.funcs[f]?).bind fun fn => fn.body.bind fun b => (compC P b).bind fun c => (fn.results.toList.mapM (compRes P)).map fun rs => (fn.ntmps, rs, c)
end Go.VI
