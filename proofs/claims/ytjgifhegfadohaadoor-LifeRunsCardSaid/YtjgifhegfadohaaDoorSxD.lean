/- The symbolic run of code: operations, regions, code, calls: definitions. No condition of its own. -/
import Derived.Test.YtjgifhegfadohaaDoorSxC
namespace Go.Sx
open Go Go.RowKit
set_option linter.unusedVariables false

/-- The ints that a slice holds. -/
def intsOfCells : List Value → Option (List Int)
  | [] => some []
  | .int .i64 a :: r => match intsOfCells r with | some l => some (a :: l) | none => none
  | _ => none
def srcInts (lh : List Blk) (x : Value) : M (List Int) :=
  match x with
  | .slice none 0 0 => .ret []
  | .slice (some ⟨0, 0, some 3⟩) 0 0 => .ret []
  | .slice (some ⟨k, off, none⟩) l _ =>
    match lh.getD k .dead with
    | .ints _ _ xs => .br (Nat.ble (off + l) xs.length) (.ret ((xs.drop off).take l)) .bad
    | .cells _ _ c => .br (Nat.ble (off + l) c.length) (.ofOption (intsOfCells ((c.drop off).take l))) .bad
    | _ => .bad
  | .slice (some ⟨k, 0, some 1⟩) l 0 =>
    match lh.getD k .dead with
    | .ints _ _ xs => .br (Nat.ble l xs.length) (.ret (xs.take l)) .bad
    | _ => .bad
  | _ => .bad
def smallN (n : Nat) : Bool := Nat.ble n 1073741824
def vecOf (k l : Nat) : Value := .slice (some ⟨k, 0, some 1⟩) l 0
/-- append of ints. -/
def appendInts (s : Value) (xs : List Int) (lh : List Blk) : M (Value × List Blk) :=
  match s with
  | .slice none 0 0 => .br (Nat.beq xs.length 0) (.ret (s, lh)) (.br (smallN xs.length) (.ret (vecOf lh.length xs.length, lh ++ [.ints true true xs])) .bad)
  | .slice (some ⟨0, 0, some 3⟩) 0 0 => .br (Nat.beq xs.length 0) (.ret (s, lh)) (.br (smallN xs.length) (.ret (vecOf lh.length xs.length, lh ++ [.ints true true xs])) .bad)
  | .slice (some ⟨k, off, none⟩) l c =>
    .br (Nat.beq l c) (.br (Nat.beq xs.length 0) (.ret (s, lh)) (.bind (srcInts lh (.slice (some ⟨k, off, none⟩) l c)) fun ys =>
      .br (smallN (l + xs.length)) (.ret (vecOf lh.length (l + xs.length), lh ++ [.ints true true (ys ++ xs)])) .bad)) .bad
  | .slice (some ⟨k, 0, some 1⟩) l 0 =>
    match lh.getD k .dead with
    | .ints true true ys => .br (Nat.beq l ys.length) (.br (Nat.beq xs.length 0) (.ret (s, lh)) (.br (smallN (l + xs.length)) (.ret (vecOf lh.length (l + xs.length), lh.set k .dead ++ [.ints true true (ys ++ xs)])) .bad)) .bad
    | _ => .bad
  | _ => .bad
/-- append of one row of n cells. -/
def appendRow (n : Nat) (s : Value) (x : List Value) (lh : List Blk) : M (Value × List Blk) :=
  match s with
  | .slice none 0 0 => .ret (vecOf lh.length 1, lh ++ [.rows true true n 1 fun _ j => x.getD j undef])
  | .slice (some ⟨k, 0, some 1⟩) l 0 =>
    match lh.getD k .dead with
    | .rows true true wd m g => .br (Nat.beq wd n) (.br (Nat.beq l m) (.br (smallN (l + 1)) (.ret (vecOf lh.length (l + 1), lh.set k .dead ++ [.rows true true n (m + 1) fun i j => cond (Nat.beq i m) (x.getD j undef) (g i j)])) .bad) .bad) .bad
    | _ => .bad
  | _ => .bad
def appendM (P : Program) (t : TypeId) (xt : TypeId) (s x : Value) (lh : List Blk) : M (Value × List Blk) :=
  match P.underlying t, P.underlying xt with
  | some (.slice e), some (.slice _) =>
    match P.info? e, P.underlying e, zeroOf P e with
    | some i, some (.int .i64), some (.int .i64 0) => .br (Nat.beq i.size 1 && Nat.beq i.bytes 8) (.bind (srcInts lh x) fun xs => appendInts s xs lh) .bad
    | _, _, _ => .bad
  | _, _ => .bad

/-- What an operation gives that turns nothing. -/
def valM (E : Env) (ev : Operand → Value) (lh : List Blk) (op : Op) : M Value :=
  match op with
  | .move x => .ret (ev x)
  | .assign x => .ret (ev x)
  | .pick c a b => pickM (ev c) (ev a) (ev b)
  | .build t parts => buildM E.P t (parts.map fun (i, x) => (i, ev x))
  | .load t a => loadM E.P t (ev a) lh
  | .nilCheck x => nilCheckM (ev x)
  | .binOp o t x y _ => binM E o t (ev x) (ev y)
  | .unOp o _ x => unM o (ev x)
  | .convert src dst x => convertM E.P src dst (ev x)
  | .makeFunc (.func f) first captured => .ret (.func (.func f) (first.map ev) (captured.map ev))
  | .slice t x lo hi mx => sliceM E.P t (ev x) (lo.map ev) (hi.map ev) (mx.map ev)
  | .fieldAddr s x f => fieldAddrM E.P s (ev x) f
  | .field s x f => fieldM E.P s (ev x) f
  | .indexAddr t x ix => indexAddrM E.P t (ev x) (ev ix) lh
  | .index t x ix => indexM E.P t (ev x) (ev ix)
  | .extract t ix => extractM (ev t) ix
  | .call c =>
    match c.callee, c.args.toList, c.argTypes.toList with
    | .builtin .len, [x], [t] => lenM E.P t (ev x)
    | .builtin .min, [x, y], _ => min2M (ev x) (ev y)
    | .builtin .max, [x, y], _ => max2M (ev x) (ev y)
    | _, _, _ => .bad
  | _ => .bad
/-- What an operation gives that makes one block. -/
def newM (E : Env) (ev : Operand → Value) (op : Op) : M ((Nat → Value) × Blk) :=
  match op with
  | .alloc t => allocM E.P t
  | .box _ x => boxM (ev x)
  | .buildSlice t len parts => buildSliceM E.P t len (parts.map fun (i, x) => (i, ev x))
  | .makeSlice t l c => makeSliceM E.P t (ev l) (ev c)
  | _ => .bad
/-- What a store, an append or a call does. -/
def loudM (E : Env) (callF : FuncId → List Value → List Blk → M (Value × List Blk)) (ev : Operand → Value) (lh : List Blk) (op : Op) : M (Value × List Blk) :=
  match op with
  | .store t a x => .bind (storeM E.P t (ev a) (ev x) lh) fun lh' => .ret (undef, lh')
  | .call c =>
    match c.callee with
    | .value f =>
      match ev f with
      | .func (.func g) a cp => callF g (a.toList ++ c.args.toList.map ev ++ cp.toList) lh
      | _ => .bad
    | .builtin b =>
      match b, c.args.toList, c.argTypes.toList with
      | .append, [x, y], [t, u] => appendM E.P t u (ev x) (ev y) lh
      | _, _, _ => .bad
    | .invoke _ _ => .bad
  | _ => .bad
/-- 0: it turns nothing; 1: it makes one block; 2: else. -/
def kindOf : Op → Nat
  | .alloc _ | .box _ _ | .buildSlice _ _ _ | .makeSlice _ _ _ => 1
  | .store _ _ _ => 2
  | .call c => match c.callee with
    | .builtin .len | .builtin .min | .builtin .max => 0
    | _ => 2
  | _ => 0
def opM (E : Env) (callF : FuncId → List Value → List Blk → M (Value × List Blk)) (ev : Operand → Value) (lh : List Blk) (op : Op) : M (Value × List Blk) :=
  match kindOf op with
  | 0 => .bind (valM E ev lh op) fun v => .ret (v, lh)
  | 1 => .bind (newM E ev op) fun r => .ret (r.1 lh.length, lh ++ [r.2])
  | _ => loudM E callF ev lh op

def putL (tm : List Value) (dst : Option Tmp) (v : Value) : List Value :=
  match dst with
  | some d => tm.set d v
  | none => tm
def runOp (E : Env) (callF : FuncId → List Value → List Blk → M (Value × List Blk)) (o : Oper) (s : St) : M St :=
  .bind (opM E callF (evx E.G s.tmps) s.lh o.op) fun r => .ret ⟨putL s.tmps o.dst r.1, r.2⟩
def skipOp (o : Oper) (s : St) : M St := .ret ⟨putL s.tmps o.dst (.chan (some 0)), s.lh⟩
/-- An operation behind its guard; a guard's Bool is known behind it. -/
def guardM {α : Type} (ops : Array Oper) (o : Oper) (s : St) (yes no : St → M α) : M α :=
  match o.guard with
  | none => yes s
  | some (j, want) =>
    match (ops[j]?).bind (·.dst) with
    | none => .bad
    | some t =>
      match s.tmps.getD t undef with
      | .bool b =>
        .br b (cond want (yes ⟨s.tmps.set t (.bool true), s.lh⟩) (no ⟨s.tmps.set t (.bool true), s.lh⟩))
          (cond want (no ⟨s.tmps.set t (.bool false), s.lh⟩) (yes ⟨s.tmps.set t (.bool false), s.lh⟩))
      | .chan _ => no s
      | _ => .bad
def stepOp (E : Env) (callF : FuncId → List Value → List Blk → M (Value × List Blk)) (ops : Array Oper) (i : Nat) (s : St) : M St :=
  match ops[i]? with
  | none => .ret s
  | some o => guardM ops o s (runOp E callF o) (skipOp o)
def stepsM (f : Nat → St → M St) : List Nat → St → M St
  | [], s => .ret s
  | i :: r, s => .bind (f i s) (stepsM f r)

def resultM (P : Program) (s : St) : ResultVar → M Value
  | .tmp t => .ret (s.tmps.getD t undef)
  | .cell a t => loadM P t (s.tmps.getD a undef) s.lh
def resultsL (P : Program) (s : St) : List ResultVar → M (List Value)
  | [] => .ret []
  | r :: rs => .bind (resultM P s r) fun v => .bind (resultsL P s rs) fun vs => .ret (v :: vs)
def resultsM (P : Program) (fn : Func) (s : St) : M Value :=
  .bind (resultsL P s fn.results.toList) fun vs => match vs with
    | [v] => .ret v
    | _ => .ret (.tuple vs.toArray)
def callM (E : Env) (ex : Code → St → M (Exit × St)) (f : FuncId) (args : List Value) (lh : List Blk) : M (Value × List Blk) :=
  match E.orc f with
  | some F => F args lh
  | none =>
    match E.fns.find? fun e => Nat.beq e.1 f with
    | none => .bad
    | some e =>
      match e.2.body with
      | none => .bad
      | some c =>
        .bind (ex c ⟨args ++ List.replicate (e.2.ntmps - args.length) undef, lh⟩) fun r =>
          match r.1 with
          | .normal => .bind (resultsM E.P e.2 r.2) fun v => .ret (v, r.2.lh)
          | .ret => .bind (resultsM E.P e.2 r.2) fun v => .ret (v, r.2.lh)
          | _ => .bad

/-! ### Regions that draw their order -/
/-- The operations that each one waits for, as bits. -/
def ancs (ops : List Oper) : List Nat :=
  ops.foldl (fun acc o => acc ++ [o.after.toList.foldl (fun s e => cond (Region.binds .any e) (s ||| 2 ^ e.on ||| acc.getD e.on 0) s) 0]) []
def backOK (ops : List Oper) : Bool := ops.zipIdx.all fun (o, i) => o.after.toList.all fun e => !Region.binds .any e || Nat.blt e.on i
def readyIn (anc : List Nat) (listed : Nat) (i : Nat) : Bool := !Nat.testBit listed i && Nat.beq (anc.getD i 0 &&& listed) (anc.getD i 0)
/-- An order: what turns nothing, or makes one block, as early as may be. -/
def ordGo (anc kinds : List Nat) (n : Nat) : Nat → Nat → List Nat
  | 0, _ => []
  | fuel + 1, listed =>
    let rs := (List.range n).filter (readyIn anc listed)
    match rs.find? fun i => !Nat.beq (kinds.getD i 2) 2 with
    | some i => i :: ordGo anc kinds n fuel (listed ||| 2 ^ i)
    | none => match rs with
      | i :: _ => i :: ordGo anc kinds n fuel (listed ||| 2 ^ i)
      | [] => []
def ordOf (ops : List Oper) : List Nat := ordGo (ancs ops) (ops.map (kindOf ·.op)) ops.length ops.length 0
def ordered (anc : List Nat) (i j : Nat) : Bool := Nat.testBit (anc.getD i 0) j || Nat.testBit (anc.getD j 0) i
def tmpsOf : List Operand → List Nat
  | [] => []
  | .tmp t :: r => t :: tmpsOf r
  | _ :: r => tmpsOf r
/-- The temporaries that an operation names. -/
def named (ops : Array Oper) (o : Oper) : List Nat :=
  o.dst.toList ++ tmpsOf o.op.operands.toList ++ (match o.guard with | some (g, _) => ((ops[g]?).bind (·.dst)).toList | none => [])
def tmpsOK (ops : Array Oper) (anc : List Nat) : Bool :=
  ops.toList.zipIdx.all fun (o, i) => (named ops o).all fun t => ops.toList.zipIdx.all fun (q, j) => !(match q.dst with | some d => Nat.beq d t | none => false) || Nat.beq i j || ordered anc i j
def loudsOK (anc kinds : List Nat) : Bool :=
  kinds.zipIdx.all fun (k, i) => !Nat.beq k 2 || kinds.zipIdx.all fun (k', j) => !Nat.beq k' 2 || Nat.beq i j || ordered anc i j
/-- Along an order: what it waits for is listed; what is loud and listed is waited for. -/
def ordOK (anc kinds : List Nat) : List Nat → Nat → Bool
  | [], _ => true
  | i :: r, listed => readyIn anc listed i && kinds.zipIdx.all (fun (k, j) => !Nat.beq k 2 || !Nat.testBit listed j || Nat.testBit (anc.getD i 0) j) && ordOK anc kinds r (listed ||| 2 ^ i)
def drawOK (ops : Array Oper) : Bool :=
  let l := ops.toList
  let anc := ancs l
  let kinds := l.map (kindOf ·.op)
  backOK l && tmpsOK ops anc && ordOK anc kinds (ordOf l) 0 && ((List.range l.length).all fun i => (ordOf l).any fun j => Nat.beq i j) && (ordOf l).all fun i => Nat.blt i l.length
def idOf : Value → List Nat
  | .pointer (some a) => [a.block]
  | .slice (some a) _ _ => [a.block]
  | _ => []
/-- The blocks that an operation's value hangs on. -/
def readsOf (ev : Operand → Value) : Op → List Nat
  | .load _ a => idOf (ev a)
  | .indexAddr _ x _ => idOf (ev x)
  | _ => []
def protL (U : List Nat) (lh : List Blk) : List Blk := U.foldl (fun l k => l.set k (l.getD k .dead).prot) lh
def unprotL (U : List Nat) (orig lh : List Blk) : List Blk := U.foldl (fun l k => l.set k (orig.getD k .dead)) lh
def drawGo (E : Env) (callF : FuncId → List Value → List Blk → M (Value × List Blk)) (ops : Array Oper) (anc : List Nat) : List Nat → List (Nat × List Nat) → St → M St
  | [], _, s => .ret s
  | i :: r, pr, s =>
    match ops[i]? with
    | none => .bad
    | some o => guardM ops o s
      (fun s =>
        match kindOf o.op with
        | 0 => .br ((readsOf (evx E.G s.tmps) o.op).all fun k => Nat.blt k s.lh.length) (.bind (valM E (evx E.G s.tmps) s.lh o.op) fun v => drawGo E callF ops anc r ((i, readsOf (evx E.G s.tmps) o.op) :: pr) ⟨putL s.tmps o.dst v, s.lh⟩) .bad
        | 1 => .bind (newM E (evx E.G s.tmps) o.op) fun q => drawGo E callF ops anc r ((i, [s.lh.length]) :: pr) ⟨putL s.tmps o.dst (q.1 s.lh.length), s.lh ++ [q.2]⟩
        | _ =>
          let U := pr.flatMap fun e => cond (Nat.testBit (anc.getD i 0) e.1) [] e.2
          .bind (loudM E callF (evx E.G s.tmps) (protL U s.lh) o.op) fun q => drawGo E callF ops anc r pr ⟨putL s.tmps o.dst q.1, unprotL U s.lh q.2⟩)
      (fun s => drawGo E callF ops anc r pr ⟨putL s.tmps o.dst (.chan (some 0)), s.lh⟩)
def drawM (E : Env) (callF : FuncId → List Value → List Blk → M (Value × List Blk)) (ops : Array Oper) (s : St) : M St :=
  .br (drawOK ops) (drawGo E callF ops (ancs ops.toList) (ordOf ops.toList) [] s) .bad

/-! ### Code -/
def exec (E : Env) : Nat → Code → St → M (Exit × St)
  | 0, _, _ => .bad
  | n + 1, c, s =>
    match c with
    | .skip => .ret (.normal, s)
    | .region _ ops false => .bind (stepsM (stepOp E (callM E (exec E n)) ops) (List.range ops.size) s) fun s' => .ret (.normal, s')
    | .region _ ops true => .bind (drawM E (callM E (exec E n)) ops s) fun s' => .ret (.normal, s')
    | .seq a b => .bind (exec E n a s) fun r => match r.1 with
      | .normal => exec E n b r.2
      | _ => .ret r
    | .cond c x y =>
      match evx E.G s.tmps c with
      | .bool b => .br b (exec E n x s) (exec E n y s)
      | _ => .bad
    | .block id b => .bind (exec E n b s) fun r => match r.1 with
      | .exit id' => cond (Nat.beq id' id) (.ret (.normal, r.2)) (.ret r)
      | _ => .ret r
    | .loop b => .bind (exec E n b s) fun r => match r.1 with
      | .normal => exec E n (.loop b) r.2
      | _ => .ret r
    | .exit id => .ret (.exit id, s)
    | .ret => .ret (.ret, s)
    | _ => .bad
/-- A call of function f. -/
def call (E : Env) (n : Nat) (f : FuncId) (args : List Value) (lh : List Blk) : M (Value × List Blk) := callM E (exec E n) f args lh
end Go.Sx
