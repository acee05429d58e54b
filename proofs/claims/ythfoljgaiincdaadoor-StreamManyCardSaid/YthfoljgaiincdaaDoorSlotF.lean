
/- The forms of a slot's word: plain definitions. No condition of its own. -/
import Derived.Test.YthfoljgaiincdaaDoorSlotA
namespace Go.Proofs.YthfoljgaiincdaaDoor
open Go.RowKit Go.Fld
set_option linter.unusedVariables false
def fr (n m : Int) : Bool := decide (0 ≤ n) && decide (n ≤ m)
def livesS (s : Slt) : Bool := s.st == 2 || s.st == 3 || s.st == 4
def rightR (s : Slt) : Bool :=
  (fr s.st 6 && fr s.own 15 && fr s.str 255 && fr s.uses 63 && fr s.gen 4095 && fr s.ep 4095 && fr s.ver 32767) &&
  !(decide (0 < s.str) && s.st != 3 || s.brk && !livesS s || decide (0 < s.uses) && !livesS s || s.mrk && s.st != 2) &&
  ((s.ep == 0 || s.st == 6) && (s.own == 0 || decide (0 < s.st) && decide (s.st < 6)))
def sumW (s : Slt) : Int := s.st + 8 * s.own + 128 * s.str + 131072 * s.uses + 8388608 * s.gen + 34359738368 * s.ep + 140737488355328 * s.ver
def sumS (s : Slt) : Int := sumW s + (if s.brk then 32768 else 0) + (if s.mrk then 65536 else 0)
def encR (s : Slt) : Option Int := if rightR s then some (sumS s) else none
/-- The slot of a word. -/
def rawS (w : Int) : Slt := ⟨getZ w 0 3, getZ w 3 4, getZ w 7 8, getZ w 15 1 == 1, getZ w 16 1 == 1, getZ w 17 6, getZ w 23 12, getZ w 35 12, getZ w 47 15⟩
def decS (w : Int) : Option Slt := if encS (rawS w) = some w then some (rawS w) else none
/-- What Decode hands back. -/
def decR (o : Option Slt) : Value := .tuple #[(o.getD Slt.zero).val, .bool o.isSome]
def rawR (w : Int) : Slt := ⟨w % 8, w / 8 % 16, w / 128 % 256, w / 32768 % 2 == 1, w / 65536 % 2 == 1, w / 131072 % 64, w / 8388608 % 4096, w / 34359738368 % 4096, w / 140737488355328⟩
def decQ (w : Int) : Option Slt := if w < 0 then none else if rightR (rawR w) then some (rawR w) else none
end Go.Proofs.YthfoljgaiincdaaDoor
