/- What each operation does to known blocks: definitions in the form in which the kernel reduces them. No condition of its own. -/
import Derived.Test.YtjgifhegfadohaaDoorSxB
namespace Go.Sx
open Go Go.RowKit
set_option linter.unusedVariables false

structure St where
  tmps : List Value
  lh : List Blk
structure Env where
  P : Program
  G : Nat
  fns : List (FuncId × Func)
  eqs : List (TypeId × List Bool)
  orc : FuncId → Option (List Value → List Blk → M (Value × List Blk))

def evx (G : Nat) (tm : List Value) : Operand → Value
  | .tmp t => tm.getD t undef
  | .const v => cond (plain v) v undef
  | .global g => cond (Nat.blt g G) (.pointer (some ⟨g, 0, none⟩)) undef
  | .func f => .func (.func f) #[] #[]

def isCell : Value → Bool
  | .agg _ | .tuple _ | .chan _ => false
  | _ => true
/-- The cells of a value that is known. -/
def cellsOf : Value → Option (List Value)
  | .agg c => cond (c.all isCell) (some c.toList) none
  | .tuple _ => none
  | .chan _ => none
  | v => some [v]
/-- none: the type is not known; some none: one cell; some (some n): a struct or an array of n cells. -/
def aggSize (P : Program) (t : TypeId) : Option (Option Nat) :=
  match P.underlying t with
  | none => none
  | some (.struct _) => (P.info? t).map fun i => some i.size
  | some (.array _ _) => (P.info? t).map fun i => some i.size
  | some _ => some none

def loadM (P : Program) (t : TypeId) (a : Value) (lh : List Blk) : M Value :=
  match aggSize P t, a with
  | some none, .pointer (some ⟨k, off, none⟩) =>
    match lh.getD k .dead with
    | .cells _ _ c => .ofOption c[off]?
    | .ints _ _ l => .br (Nat.blt off l.length) (.ret (.int .i64 (l.getD off 0))) .bad
    | _ => .bad
  | some none, .pointer (some ⟨k, i, some j⟩) =>
    match lh.getD k .dead with
    | .rows _ _ wd m g => .br (Nat.blt i m) (.br (Nat.blt j wd) (.ret (g i j)) .bad) .bad
    | _ => .bad
  | some (some n), .pointer (some ⟨k, off, none⟩) =>
    match lh.getD k .dead with
    | .cells _ _ c => .br (Nat.ble (off + n) c.length) (.ret (.agg ((c.drop off).take n).toArray)) .bad
    | _ => .bad
  | some (some n), .pointer (some ⟨k, i, some j⟩) =>
    match lh.getD k .dead with
    | .rows _ _ wd m g => .br (Nat.blt i m) (.br (Nat.ble (j + n) wd) (.ret (.agg ((List.range n).map fun q => g i (j + q)).toArray)) .bad) .bad
    | _ => .bad
  | _, _ => .bad

def storeM (P : Program) (t : TypeId) (a x : Value) (lh : List Blk) : M (List Blk) :=
  match P.info? t, cellsOf x, a with
  | some i, some xs, .pointer (some ⟨k, off, none⟩) =>
    match lh.getD k .dead with
    | .cells true true c => .br (Nat.beq xs.length i.size) (.br (Nat.ble (off + xs.length) c.length) (.ret (lh.set k (.cells true true (c.take off ++ xs ++ c.drop (off + xs.length))))) .bad) .bad
    | .ints true true l =>
      match xs with
      | [.int .i64 v] => .br (Nat.beq 1 i.size) (.br (Nat.blt off l.length) (.ret (lh.set k (.ints true true (l.set off v)))) .bad) .bad
      | _ => .bad
    | _ => .bad
  | _, _, _ => .bad

/-- A new block, and the value that leads to it, by its number. -/
def boxM (x : Value) : M ((Nat → Value) × Blk) :=
  match cellsOf x with
  | some xs => .ret (fun a => .pointer (some ⟨a, 0, none⟩), .cells true true xs)
  | none => .bad
def zeroOf (P : Program) (t : TypeId) : Option Value :=
  match (P.info? t).bind (·.zero) with
  | some z => cond (plain z) (some z) none
  | none => none
def allocM (P : Program) (t : TypeId) : M ((Nat → Value) × Blk) :=
  match zeroOf P t with
  | some z => boxM z
  | none => .bad

/-- Are all values known, with cells of their own? -/
def allKnown (vs : List Value) : Bool := vs.all fun v => (cellsOf v).isSome
def places (P : Program) (fs : List Field) : Option (List (Nat × Nat)) :=
  match fs with
  | [] => some []
  | f :: r => match P.info? f.type, places P r with
    | some i, some ps => some ((f.offset, i.size) :: ps)
    | _, _ => none
def buildM (P : Program) (t : TypeId) (parts : Array (Nat × Value)) : M Value :=
  match zeroOf P t, P.underlying t with
  | some z, some (.struct fs) =>
    match places P fs.toList, allKnown (parts.toList.map (·.2)) with
    | some ps, true =>
      match Instr.fill (fun i => ps[i]?) z.cells parts.toList with
      | some cs => .ret (.agg cs)
      | none => .bad
    | _, _ => .bad
  | some z, some (.array _ e) =>
    match P.info? e, allKnown (parts.toList.map (·.2)) with
    | some i, true =>
      match Instr.fill (fun k => some (k * i.size, i.size)) z.cells parts.toList with
      | some cs => .ret (.agg cs)
      | none => .bad
    | _, _ => .bad
  | _, _ => .bad
def buildSliceM (P : Program) (t : TypeId) (len : Nat) (parts : Array (Nat × Value)) : M ((Nat → Value) × Blk) :=
  match P.underlying t with
  | some (.slice e) =>
    match P.info? e, zeroOf P e, allKnown (parts.toList.map (·.2)) with
    | some i, some z, true =>
      match Nat.ble (len * i.size) 16777216, Instr.fill (fun k => some (k * i.size, i.size)) ((Array.range (len * i.size)).map (fun j => z.cells[j % z.cells.size]!)) parts.toList with
      | true, some cs => .ret (fun a => .slice (some ⟨a, 0, none⟩) len len, .cells true true cs.toList)
      | _, _ => .bad
    | _, _, _ => .bad
  | _ => .bad

def fieldAddrM (P : Program) (s : TypeId) (x : Value) (f : Nat) : M Value :=
  match P.underlying s with
  | some (.struct fs) =>
    match fs[f]? with
    | some fd =>
      match P.info? fd.type with
      | some i =>
        match Nat.beq i.size 0, x with
        | false, .pointer (some ⟨k, off, none⟩) => .ret (.pointer (some ⟨k, off + fd.offset, none⟩))
        | false, .pointer (some ⟨k, r, some j⟩) => .ret (.pointer (some ⟨k, r, some (j + fd.offset)⟩))
        | _, _ => .bad
      | none => .bad
    | none => .bad
  | _ => .bad
def partM (P : Program) (t : TypeId) (cs : Array Value) (off : Nat) : M Value :=
  match aggSize P t with
  | some none => .ofOption cs[off]?
  | some (some n) => .ret (.agg (cs.extract off (off + n)))
  | none => .bad
def fieldM (P : Program) (s : TypeId) (x : Value) (f : Nat) : M Value :=
  match P.underlying s, x with
  | some (.struct fs), .agg cs =>
    match fs[f]? with
    | some fd => partM P fd.type cs fd.offset
    | none => .bad
  | _, _ => .bad

/-- The index i, one of n numbers. -/
def idxM {α : Type} (i : Int) : Nat → (Nat → M α) → M α
  | 0, _ => .bad
  | n + 1, f => .br (decide (i = (n : Int))) (f n) (idxM i n f)
def inRange (i : Int) (n : Nat) : Bool := decide (0 ≤ i) && decide (i < (n : Int))
def indexAddrM (P : Program) (t : TypeId) (x ix : Value) (lh : List Blk) : M Value :=
  match ix with
  | .int _ i =>
    match P.underlying t, x with
    | some (.array len e), .pointer (some ⟨k, off, none⟩) =>
      match P.info? e with
      | some inf => idxM i len fun j => .ret (.pointer (some ⟨k, off + j * inf.size, none⟩))
      | none => .bad
    | some (.slice e), .slice (some ⟨k, off, none⟩) len _ =>
      match P.info? e with
      | some inf =>
        match lh.getD k .dead with
        | .cells _ _ _ => idxM i len fun j => .ret (.pointer (some ⟨k, off + j * inf.size, none⟩))
        | .ints _ _ _ => match inf.size with
          | 1 => .br (inRange i len) (.ret (.pointer (some ⟨k, off + i.toNat, none⟩))) .bad
          | _ => .bad
        | _ => .bad
      | none => .bad
    | some (.slice e), .slice (some ⟨k, r, some 0⟩) len _ =>
      match P.info? e with
      | some inf =>
        match lh.getD k .dead with
        | .rows _ _ wd _ _ => .br (Nat.beq wd inf.size) (.br (inRange i len) (.ret (.pointer (some ⟨k, r + i.toNat, some 0⟩))) .bad) .bad
        | _ => .bad
      | none => .bad
    | some (.slice e), .slice (some ⟨k, 0, some 1⟩) len _ =>
      match P.info? e with
      | some inf =>
        match lh.getD k .dead with
        | .ints _ _ _ => match inf.size with
          | 1 => .br (inRange i len) (.ret (.pointer (some ⟨k, i.toNat, none⟩))) .bad
          | _ => .bad
        | .rows _ _ wd _ _ => .br (Nat.beq wd inf.size) (.br (inRange i len) (.ret (.pointer (some ⟨k, i.toNat, some 0⟩))) .bad) .bad
        | _ => .bad
      | none => .bad
    | _, _ => .bad
  | _ => .bad
def indexM (P : Program) (t : TypeId) (x ix : Value) : M Value :=
  match ix, P.underlying t, x with
  | .int _ i, some (.array len e), .agg cs =>
    match P.info? e with
    | some inf => idxM i len fun j => partM P e cs (j * inf.size)
    | none => .bad
  | _, _, _ => .bad

def boundM (x : Value) (y : Nat) : M Nat :=
  match x with
  | .int _ i => .br (decide (0 ≤ i) && decide (i ≤ (y : Int))) (.ret i.toNat) .bad
  | _ => .bad
def boundsM (len cap : Nat) (lo hi mx : Option Value) : M (Nat × Nat × Nat) :=
  M.bind (match mx with | some v => boundM v cap | none => .ret cap) fun m =>
  M.bind (match hi, mx with | some v, some _ => boundM v m | some v, none => boundM v cap | none, none => .ret len | none, some _ => .bad) fun h =>
  M.bind (match lo with | some v => boundM v h | none => .ret 0) fun l =>
  .ret (l, h, m)
def sliceM (P : Program) (t : TypeId) (x : Value) (lo hi mx : Option Value) : M Value :=
  match P.underlying t, x with
  | some (.array n e), .pointer (some ⟨k, off, none⟩) =>
    match P.info? e, lo, hi, mx with
    | some _, none, none, none => .br (Nat.beq n 0) .bad (.ret (.slice (some ⟨k, off, none⟩) n n))
    | _, _, _, _ => .bad
  | some (.slice e), .slice (some ⟨k, off, none⟩) len cap =>
    match P.info? e with
    | some inf => M.bind (boundsM len cap lo hi mx) fun r =>
      .br (Nat.beq r.2.2 r.1) (.ret (.slice (some ⟨k, off, none⟩) (r.2.1 - r.1) (r.2.2 - r.1))) (.ret (.slice (some ⟨k, off + r.1 * inf.size, none⟩) (r.2.1 - r.1) (r.2.2 - r.1)))
    | none => .bad
  | some (.slice e), .slice (some ⟨_, _, some _⟩) _ _ =>
    match P.info? e, lo, hi, mx with
    | some _, none, some (.int _ 0), some (.int _ 0) => .ret (.slice (some ⟨0, 0, some 3⟩) 0 0)
    | some _, some (.int _ 0), some (.int _ 0), some (.int _ 0) => .ret (.slice (some ⟨0, 0, some 3⟩) 0 0)
    | _, _, _, _ => .bad
  | some (.slice e), .slice none 0 0 =>
    match P.info? e with
    | some _ => M.bind (boundsM 0 0 lo hi mx) fun r => .ret (.slice none (r.2.1 - r.1) (r.2.2 - r.1))
    | none => .bad
  | _, _ => .bad

def extractM (x : Value) (i : Nat) : M Value :=
  match x with
  | .tuple vs => .ofOption vs[i]?
  | _ => .bad

/-- Are two rows of cells one? The pattern: which cells are Bools. -/
def eqCells : List Bool → List Value → List Value → Option Bool
  | [], [], [] => some true
  | false :: p, .int k a :: r, .int k' b :: r' => match decide (k = k'), eqCells p r r' with | true, some e => some (a == b && e) | _, _ => none
  | true :: p, .bool a :: r, .bool b :: r' => match eqCells p r r' with | some e => some (a == b && e) | none => none
  | _, _, _ => none
def eqPat (E : Env) (t : TypeId) : Option (List Bool) :=
  match E.eqs.find? fun e => Nat.beq e.1 t with
  | some e => some e.2
  | none => none

def binM (E : Env) (op : BinOp) (t : TypeId) (x y : Value) : M Value :=
  match op, x, y with
  | .shl, .int k a, .int _ b => .br (decide (b < 0)) .bad (.ret (.int k (k.wrap (a * 2 ^ (min b.toNat k.bits)))))
  | .shr, .int k a, .int _ b => .br (decide (b < 0)) .bad (.ret (.int k (a.fdiv (2 ^ (min b.toNat k.bits)))))
  | .add, .int k a, .int k' b => .br (decide (k = k')) (.ret (.int k (k.wrap (a + b)))) .bad
  | .sub, .int k a, .int k' b => .br (decide (k = k')) (.ret (.int k (k.wrap (a - b)))) .bad
  | .mul, .int k a, .int k' b => .br (decide (k = k')) (.ret (.int k (k.wrap (a * b)))) .bad
  | .quo, .int k a, .int k' b => .br (decide (k = k')) (.br (decide (b = 0)) .bad (.ret (.int k (k.wrap (a.tdiv b))))) .bad
  | .rem, .int k a, .int k' b => .br (decide (k = k')) (.br (decide (b = 0)) .bad (.ret (.int k (a.tmod b)))) .bad
  | .and, .int k a, .int k' b => .br (decide (k = k')) (.ret (.int k (bits .and k a b))) .bad
  | .or, .int k a, .int k' b => .br (decide (k = k')) (.ret (.int k (bits .or k a b))) .bad
  | .xor, .int k a, .int k' b => .br (decide (k = k')) (.ret (.int k (bits .xor k a b))) .bad
  | .andNot, .int k a, .int k' b => .br (decide (k = k')) (.ret (.int k (bits .andNot k a b))) .bad
  | .eql, .int k a, .int k' b => .br (decide (k = k')) (.ret (.bool (a == b))) .bad
  | .neq, .int k a, .int k' b => .br (decide (k = k')) (.ret (.bool (a != b))) .bad
  | .lss, .int k a, .int k' b => .br (decide (k = k')) (.ret (.bool (decide (a < b)))) .bad
  | .leq, .int k a, .int k' b => .br (decide (k = k')) (.ret (.bool (decide (a ≤ b)))) .bad
  | .gtr, .int k a, .int k' b => .br (decide (k = k')) (.ret (.bool (decide (a > b)))) .bad
  | .geq, .int k a, .int k' b => .br (decide (k = k')) (.ret (.bool (decide (a ≥ b)))) .bad
  | .eql, .bool a, .bool b => match E.P.underlying t with | some .bool => .ret (.bool (a == b)) | _ => .bad
  | .neq, .bool a, .bool b => match E.P.underlying t with | some .bool => .ret (.bool (!(a == b))) | _ => .bad
  | .eql, .string a, .string b => .ret (.bool (a.data.toList == b.data.toList))
  | .neq, .string a, .string b => .ret (.bool (!(a.data.toList == b.data.toList)))
  | .eql, .pointer a, .pointer none => match E.P.underlying t with | some (.pointer _) => .ret (.bool a.isNone) | _ => .bad
  | .neq, .pointer a, .pointer none => match E.P.underlying t with | some (.pointer _) => .ret (.bool (!a.isNone)) | _ => .bad
  | .eql, .agg xs, .agg ys =>
    match eqPat E t with
    | some p => match eqCells p xs.toList ys.toList with
      | some b => .ret (.bool b)
      | none => .bad
    | none => .bad
  | .neq, .agg xs, .agg ys =>
    match eqPat E t with
    | some p => match eqCells p xs.toList ys.toList with
      | some b => .ret (.bool (!b))
      | none => .bad
    | none => .bad
  | _, _, _ => .bad
def unM (op : UnOp) (x : Value) : M Value :=
  match op, x with
  | .not, .bool b => .ret (.bool (!b))
  | .neg, .int k a => .ret (.int k (k.wrap (0 - a)))
  | .xor, .int k a => .ret (.int k (bits .xor k (cond k.signed (-1) k.max) a))
  | _, _ => .bad
def convertM (P : Program) (src dst : TypeId) (x : Value) : M Value :=
  match P.underlying src, P.underlying dst, x with
  | some _, some (.int k), .int _ a => .ret (.int k (k.wrap a))
  | _, _, _ => .bad
def nilCheckM (x : Value) : M Value :=
  match x with
  | .pointer (some a) => .ret (.pointer (some a))
  | .func (.func f) a c => .ret (.func (.func f) a c)
  | _ => .bad
def pickM (c a b : Value) : M Value :=
  match c with
  | .bool t => .br t (.ret a) (.ret b)
  | _ => .bad
/-- A slice of n ints, all 0, or of n values that are known one by one. -/
def makeSliceM (P : Program) (t : TypeId) (ln cp : Value) : M ((Nat → Value) × Blk) :=
  match P.underlying t, ln, cp with
  | some (.slice e), .int .i64 l, .int .i64 c =>
    match P.info? e, zeroOf P e with
    | some i, some (.int .i64 0) =>
      .br (Nat.beq i.size 1 && Nat.beq i.bytes 8) (.br (decide (l = c)) (.br (decide (0 ≤ l) && decide (l ≤ 1048576))
        (.ret (fun a => .slice (some ⟨a, 0, none⟩) l.toNat l.toNat, .ints true true (List.replicate l.toNat 0))) .bad) .bad) .bad
    | _, _ => .bad
  | _, _, _ => .bad
def lenM (P : Program) (t : TypeId) (x : Value) : M Value :=
  match P.underlying t, x with
  | some (.slice _), .slice _ l _ => .ret (.int .i64 (l : Int))
  | some (.array l _), _ => .ret (.int .i64 (l : Int))
  | _, _ => .bad
def min2M (x y : Value) : M Value :=
  match x, y with
  | .int k a, .int _ b => .ret (.int k (if b < a then b else a))
  | _, _ => .bad
def max2M (x y : Value) : M Value :=
  match x, y with
  | .int k a, .int _ b => .ret (.int k (if b > a then b else a))
  | _, _ => .bad
end Go.Sx
