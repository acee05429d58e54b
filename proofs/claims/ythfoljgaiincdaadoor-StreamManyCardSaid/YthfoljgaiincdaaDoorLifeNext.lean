
/- What life.Next tells, and what its reference tells, are one and the same. No condition of its own. -/
import Derived.Test.YthfoljgaiincdaaDoorLifeSym
namespace Go.Proofs.YthfoljgaiincdaaDoor
open Go.RowKit Go.Fld Go.Sx
set_option linter.unusedVariables false
set_option linter.unusedSimpArgs false
def outS (s : Slt) (o : Option Slt) : Option Value := some (decR (o.map fun t => { t with ver := (s.ver + 1) % 32768 }))
def lifeT0 (s : Slt) (own more : Int) : Option Value := bif !s.st == 0 then no else yes (Slt.mk 1 own 0 false false 0 s.gen 0 (Int.tmod (IntKind.i64.wrap (s.ver + 1)) 32768))
def lifeT1 (s : Slt) (own more : Int) : Option Value := bif s.st == 1 then bif !s.own == own then no else yes (Slt.mk 3 own s.str s.brk false (if 63 < IntKind.i64.wrap (s.uses + 1) then 63 else IntKind.i64.wrap (s.uses + 1)) (Int.tmod (IntKind.i64.wrap (s.gen + 1)) 4096) 0 (Int.tmod (IntKind.i64.wrap (s.ver + 1)) 32768)) else no
def lifeT2 (s : Slt) (own more : Int) : Option Value := bif s.st == 1 then bif !s.own == own then no else yes (Slt.mk 0 0 0 false false 0 s.gen 0 (Int.tmod (IntKind.i64.wrap (s.ver + 1)) 32768)) else no
def lifeT3 (s : Slt) (own more : Int) : Option Value := bif s.st == 2 then bif !!s.brk then no else yes (Slt.mk 3 own s.str s.brk false (if 63 < IntKind.i64.wrap (s.uses + 1) then 63 else IntKind.i64.wrap (s.uses + 1)) (Int.tmod (IntKind.i64.wrap (s.gen + 1)) 4096) 0 (Int.tmod (IntKind.i64.wrap (s.ver + 1)) 32768)) else no
def lifeT4 (s : Slt) (own more : Int) : Option Value := bif s.st == 3 then bif s.own == own then bif !s.str == 0 then no else yes (Slt.mk 2 own 0 s.brk s.mrk s.uses s.gen 0 (Int.tmod (IntKind.i64.wrap (s.ver + 1)) 32768)) else no else no
def lifeT5 (s : Slt) (own more : Int) : Option Value := bif s.st == 2 then bif !!s.brk then no else yes (Slt.mk 4 own 0 s.brk false s.uses s.gen 0 (Int.tmod (IntKind.i64.wrap (s.ver + 1)) 32768)) else no
def lifeT6 (s : Slt) (own more : Int) : Option Value := bif !s.st == 4 then no else yes (Slt.mk 2 own 0 s.brk s.mrk s.uses s.gen 0 (Int.tmod (IntKind.i64.wrap (s.ver + 1)) 32768))
def lifeT7 (s : Slt) (own more : Int) : Option Value := bif !s.st == 0 then no else yes (Slt.mk 5 own 0 false false 0 s.gen 0 (Int.tmod (IntKind.i64.wrap (s.ver + 1)) 32768))
def lifeT8 (s : Slt) (own more : Int) : Option Value := bif !s.st == 5 then no else yes (Slt.mk 0 0 0 false false 0 s.gen 0 (Int.tmod (IntKind.i64.wrap (s.ver + 1)) 32768))
def lifeT9 (s : Slt) (own more : Int) : Option Value := bif !s.st == 2 then no else yes (Slt.mk 2 own 0 s.brk s.mrk s.uses s.gen 0 (Int.tmod (IntKind.i64.wrap (s.ver + 1)) 32768))
def lifeT10 (s : Slt) (own more : Int) : Option Value := bif s.st == 2 then bif !!s.mrk then no else yes (Slt.mk s.st s.own s.str s.brk true s.uses s.gen s.ep (Int.tmod (IntKind.i64.wrap (s.ver + 1)) 32768)) else no
def lifeT11 (s : Slt) (own more : Int) : Option Value := bif decide (more ≥ 0) then bif decide (more ≤ 4095) then bif s.st == 2 then yes (Slt.mk 6 0 0 false false 0 s.gen more (Int.tmod (IntKind.i64.wrap (s.ver + 1)) 32768)) else bif !s.st == 3 then no else yes (Slt.mk 6 0 0 false false 0 s.gen more (Int.tmod (IntKind.i64.wrap (s.ver + 1)) 32768)) else no else no
def lifeT12 (s : Slt) (own more : Int) : Option Value := bif !s.st == 6 then no else yes (Slt.mk 0 0 0 false false 0 s.gen 0 (Int.tmod (IntKind.i64.wrap (s.ver + 1)) 32768))
def lifeT13 (s : Slt) (own more : Int) : Option Value := bif !s.brk then bif s.st == 2 then yes (Slt.mk s.st s.own s.str true s.mrk s.uses s.gen s.ep (Int.tmod (IntKind.i64.wrap (s.ver + 1)) 32768)) else bif s.st == 3 then yes (Slt.mk s.st s.own s.str true s.mrk s.uses s.gen s.ep (Int.tmod (IntKind.i64.wrap (s.ver + 1)) 32768)) else bif !s.st == 4 then no else yes (Slt.mk s.st s.own s.str true s.mrk s.uses s.gen s.ep (Int.tmod (IntKind.i64.wrap (s.ver + 1)) 32768)) else no
def lifeT14 (s : Slt) (own more : Int) : Option Value := bif s.st == 3 then bif !s.own == own then no else bif s.brk then no else bif decide (0 < if 8 < more then 8 else more) then bif bits BinOp.and IntKind.i64 s.str 1 == 0 then yes (Slt.mk s.st s.own (bits BinOp.or IntKind.i64 s.str 1) s.brk s.mrk s.uses s.gen s.ep (Int.tmod (IntKind.i64.wrap (s.ver + 1)) 32768)) else bif decide (1 < if 8 < more then 8 else more) then bif bits BinOp.and IntKind.i64 s.str 2 == 0 then yes (Slt.mk s.st s.own (bits BinOp.or IntKind.i64 s.str 2) s.brk s.mrk s.uses s.gen s.ep (Int.tmod (IntKind.i64.wrap (s.ver + 1)) 32768)) else bif decide (2 < if 8 < more then 8 else more) then bif bits BinOp.and IntKind.i64 s.str 4 == 0 then yes (Slt.mk s.st s.own (bits BinOp.or IntKind.i64 s.str 4) s.brk s.mrk s.uses s.gen s.ep (Int.tmod (IntKind.i64.wrap (s.ver + 1)) 32768)) else bif decide (3 < if 8 < more then 8 else more) then bif bits BinOp.and IntKind.i64 s.str 8 == 0 then yes (Slt.mk s.st s.own (bits BinOp.or IntKind.i64 s.str 8) s.brk s.mrk s.uses s.gen s.ep (Int.tmod (IntKind.i64.wrap (s.ver + 1)) 32768)) else bif decide (4 < if 8 < more then 8 else more) then bif bits BinOp.and IntKind.i64 s.str 16 == 0 then yes (Slt.mk s.st s.own (bits BinOp.or IntKind.i64 s.str 16) s.brk s.mrk s.uses s.gen s.ep (Int.tmod (IntKind.i64.wrap (s.ver + 1)) 32768)) else bif decide (5 < if 8 < more then 8 else more) then bif bits BinOp.and IntKind.i64 s.str 32 == 0 then yes (Slt.mk s.st s.own (bits BinOp.or IntKind.i64 s.str 32) s.brk s.mrk s.uses s.gen s.ep (Int.tmod (IntKind.i64.wrap (s.ver + 1)) 32768)) else bif decide (6 < if 8 < more then 8 else more) then bif bits BinOp.and IntKind.i64 s.str 64 == 0 then yes (Slt.mk s.st s.own (bits BinOp.or IntKind.i64 s.str 64) s.brk s.mrk s.uses s.gen s.ep (Int.tmod (IntKind.i64.wrap (s.ver + 1)) 32768)) else bif decide (7 < if 8 < more then 8 else more) then bif bits BinOp.and IntKind.i64 s.str 128 == 0 then yes (Slt.mk s.st s.own (bits BinOp.or IntKind.i64 s.str 128) s.brk s.mrk s.uses s.gen s.ep (Int.tmod (IntKind.i64.wrap (s.ver + 1)) 32768)) else bif decide (8 < if 8 < more then 8 else more) then bif bits BinOp.and IntKind.i64 s.str 256 == 0 then yes (Slt.mk s.st s.own (bits BinOp.or IntKind.i64 s.str 256) s.brk s.mrk s.uses s.gen s.ep (Int.tmod (IntKind.i64.wrap (s.ver + 1)) 32768)) else bif decide (9 < if 8 < more then 8 else more) then bif bits BinOp.and IntKind.i64 s.str 512 == 0 then none else bif decide (10 < if 8 < more then 8 else more) then bif bits BinOp.and IntKind.i64 s.str 1024 == 0 then none else bif decide (11 < if 8 < more then 8 else more) then bif bits BinOp.and IntKind.i64 s.str 2048 == 0 then none else none else no else no else no else no else no else no else no else no else no else no else no else no else no
def lifeT15 (s : Slt) (own more : Int) : Option Value := bif s.st == 3 then bif !s.own == own then no else bif decide (more < 0) then no else bif decide (more ≥ 8) then no else bif decide (more < 0) then none else bif bits BinOp.and IntKind.i64 s.str (IntKind.i64.wrap (1 * 2 ^ min (Int.toNat more) 64)) == 0 then no else bif decide (more < 0) then none else yes (Slt.mk s.st s.own (bits BinOp.andNot IntKind.i64 s.str (IntKind.i64.wrap (1 * 2 ^ min (Int.toNat more) 64))) s.brk s.mrk s.uses s.gen s.ep (Int.tmod (IntKind.i64.wrap (s.ver + 1)) 32768)) else no
def lifeT16 (s : Slt) (own more : Int) : Option Value := bif s.st == 5 then bif s.own == own then yes (Slt.mk 1 own 0 false false 0 s.gen 0 (Int.tmod (IntKind.i64.wrap (s.ver + 1)) 32768)) else bif s.st == 4 then bif !s.own == own then no else yes (Slt.mk 3 own s.str s.brk false (if 63 < IntKind.i64.wrap (s.uses + 1) then 63 else IntKind.i64.wrap (s.uses + 1)) (Int.tmod (IntKind.i64.wrap (s.gen + 1)) 4096) 0 (Int.tmod (IntKind.i64.wrap (s.ver + 1)) 32768)) else no else bif s.st == 4 then bif !s.own == own then no else yes (Slt.mk 3 own s.str s.brk false (if 63 < IntKind.i64.wrap (s.uses + 1) then 63 else IntKind.i64.wrap (s.uses + 1)) (Int.tmod (IntKind.i64.wrap (s.gen + 1)) 4096) 0 (Int.tmod (IntKind.i64.wrap (s.ver + 1)) 32768)) else no
def lifeT17 (s : Slt) (own more : Int) : Option Value := bif decide (more ≥ 0) then bif decide (more ≤ 4095) then bif !s.st == 6 then no else yes (Slt.mk 6 0 0 false false 0 s.gen more (Int.tmod (IntKind.i64.wrap (s.ver + 1)) 32768)) else no else no
def lifeRest (s : Slt) (k own more : Int) : Option Value := bif decide (k < 0) then no else bif decide (k ≥ 18) then no else bif decide (k = 17) then lifeT17 s own more else bif decide (k = 16) then lifeT16 s own more else bif decide (k = 15) then lifeT15 s own more else bif decide (k = 14) then lifeT14 s own more else bif decide (k = 13) then lifeT13 s own more else bif decide (k = 12) then lifeT12 s own more else bif decide (k = 11) then lifeT11 s own more else bif decide (k = 10) then lifeT10 s own more else bif decide (k = 9) then lifeT9 s own more else bif decide (k = 8) then lifeT8 s own more else bif decide (k = 7) then lifeT7 s own more else bif decide (k = 6) then lifeT6 s own more else bif decide (k = 5) then lifeT5 s own more else bif decide (k = 4) then lifeT4 s own more else bif decide (k = 3) then lifeT3 s own more else bif decide (k = 2) then lifeT2 s own more else bif decide (k = 1) then lifeT1 s own more else bif decide (k = 0) then lifeT0 s own more else none
theorem life_tree (s : Slt) (k own more : Int) : (call lifeEnv 30 59 [s.val, .int .i64 k, .int .i64 own, .int .i64 more] []).run (Option Value) none (fun r => some r.1) =
    bif !rightR s then no else bif decide (own < 0) then no else bif decide (own > 15) then no else lifeRest s k own more := by kernel_rfl
def refT0 (s : Slt) (own more : Int) : Option Value := bif !s.st == 0 then no else bif IntKind.i64.wrap (s.ver + 1) == 32768 then yes (Slt.mk 1 own 0 false false 0 s.gen 0 0) else yes (Slt.mk 1 own 0 false false 0 s.gen 0 (IntKind.i64.wrap (s.ver + 1)))
def refT1 (s : Slt) (own more : Int) : Option Value := bif IntKind.i64.wrap (s.gen + 1) == 4096 then bif s.st == 1 then bif !s.own == own then no else bif IntKind.i64.wrap (s.ver + 1) == 32768 then yes (Slt.mk 3 own 0 false false 1 0 0 0) else yes (Slt.mk 3 own 0 false false 1 0 0 (IntKind.i64.wrap (s.ver + 1))) else no else bif s.st == 1 then bif !s.own == own then no else bif IntKind.i64.wrap (s.ver + 1) == 32768 then yes (Slt.mk 3 own 0 false false 1 (IntKind.i64.wrap (s.gen + 1)) 0 0) else yes (Slt.mk 3 own 0 false false 1 (IntKind.i64.wrap (s.gen + 1)) 0 (IntKind.i64.wrap (s.ver + 1))) else no
def refT2 (s : Slt) (own more : Int) : Option Value := bif s.st == 1 then bif !s.own == own then no else bif IntKind.i64.wrap (s.ver + 1) == 32768 then yes (Slt.mk 0 0 0 false false 0 s.gen 0 0) else yes (Slt.mk 0 0 0 false false 0 s.gen 0 (IntKind.i64.wrap (s.ver + 1))) else no
def refT3 (s : Slt) (own more : Int) : Option Value := bif IntKind.i64.wrap (s.gen + 1) == 4096 then bif s.st == 2 then bif !!s.brk then no else bif IntKind.i64.wrap (s.ver + 1) == 32768 then yes (Slt.mk 3 own 0 s.brk false (if 63 < IntKind.i64.wrap (s.uses + 1) then 63 else IntKind.i64.wrap (s.uses + 1)) 0 0 0) else yes (Slt.mk 3 own 0 s.brk false (if 63 < IntKind.i64.wrap (s.uses + 1) then 63 else IntKind.i64.wrap (s.uses + 1)) 0 0 (IntKind.i64.wrap (s.ver + 1))) else no else bif s.st == 2 then bif !!s.brk then no else bif IntKind.i64.wrap (s.ver + 1) == 32768 then yes (Slt.mk 3 own 0 s.brk false (if 63 < IntKind.i64.wrap (s.uses + 1) then 63 else IntKind.i64.wrap (s.uses + 1)) (IntKind.i64.wrap (s.gen + 1)) 0 0) else yes (Slt.mk 3 own 0 s.brk false (if 63 < IntKind.i64.wrap (s.uses + 1) then 63 else IntKind.i64.wrap (s.uses + 1)) (IntKind.i64.wrap (s.gen + 1)) 0 (IntKind.i64.wrap (s.ver + 1))) else no
def refT4 (s : Slt) (own more : Int) : Option Value := bif s.st == 3 then bif s.own == own then bif !s.str == 0 then no else bif IntKind.i64.wrap (s.ver + 1) == 32768 then yes (Slt.mk 2 s.own s.str s.brk s.mrk s.uses s.gen s.ep 0) else yes (Slt.mk 2 s.own s.str s.brk s.mrk s.uses s.gen s.ep (IntKind.i64.wrap (s.ver + 1))) else no else no
def refT5 (s : Slt) (own more : Int) : Option Value := bif s.st == 2 then bif !!s.brk then no else bif IntKind.i64.wrap (s.ver + 1) == 32768 then yes (Slt.mk 4 own s.str s.brk false s.uses s.gen s.ep 0) else yes (Slt.mk 4 own s.str s.brk false s.uses s.gen s.ep (IntKind.i64.wrap (s.ver + 1))) else no
def refT6 (s : Slt) (own more : Int) : Option Value := bif !s.st == 4 then no else bif IntKind.i64.wrap (s.ver + 1) == 32768 then yes (Slt.mk 2 own s.str s.brk s.mrk s.uses s.gen s.ep 0) else yes (Slt.mk 2 own s.str s.brk s.mrk s.uses s.gen s.ep (IntKind.i64.wrap (s.ver + 1)))
def refT7 (s : Slt) (own more : Int) : Option Value := bif !s.st == 0 then no else bif IntKind.i64.wrap (s.ver + 1) == 32768 then yes (Slt.mk 5 own 0 false false 0 s.gen 0 0) else yes (Slt.mk 5 own 0 false false 0 s.gen 0 (IntKind.i64.wrap (s.ver + 1)))
def refT8 (s : Slt) (own more : Int) : Option Value := bif !s.st == 5 then no else bif IntKind.i64.wrap (s.ver + 1) == 32768 then yes (Slt.mk 0 0 0 false false 0 s.gen 0 0) else yes (Slt.mk 0 0 0 false false 0 s.gen 0 (IntKind.i64.wrap (s.ver + 1)))
def refT9 (s : Slt) (own more : Int) : Option Value := bif !s.st == 2 then no else bif IntKind.i64.wrap (s.ver + 1) == 32768 then yes (Slt.mk s.st own s.str s.brk s.mrk s.uses s.gen s.ep 0) else yes (Slt.mk s.st own s.str s.brk s.mrk s.uses s.gen s.ep (IntKind.i64.wrap (s.ver + 1)))
def refT10 (s : Slt) (own more : Int) : Option Value := bif s.st == 2 then bif !!s.mrk then no else bif IntKind.i64.wrap (s.ver + 1) == 32768 then yes (Slt.mk s.st s.own s.str s.brk true s.uses s.gen s.ep 0) else yes (Slt.mk s.st s.own s.str s.brk true s.uses s.gen s.ep (IntKind.i64.wrap (s.ver + 1))) else no
def refT11 (s : Slt) (own more : Int) : Option Value := bif s.st == 2 then bif decide (more ≥ 0) then bif !decide (more ≤ 4095) then no else bif IntKind.i64.wrap (s.ver + 1) == 32768 then yes (Slt.mk 6 0 0 false false 0 s.gen more 0) else yes (Slt.mk 6 0 0 false false 0 s.gen more (IntKind.i64.wrap (s.ver + 1))) else no else bif s.st == 3 then bif decide (more ≥ 0) then bif !decide (more ≤ 4095) then no else bif IntKind.i64.wrap (s.ver + 1) == 32768 then yes (Slt.mk 6 0 0 false false 0 s.gen more 0) else yes (Slt.mk 6 0 0 false false 0 s.gen more (IntKind.i64.wrap (s.ver + 1))) else no else no
def refT12 (s : Slt) (own more : Int) : Option Value := bif !s.st == 6 then no else bif IntKind.i64.wrap (s.ver + 1) == 32768 then yes (Slt.mk 0 0 0 false false 0 s.gen 0 0) else yes (Slt.mk 0 0 0 false false 0 s.gen 0 (IntKind.i64.wrap (s.ver + 1)))
def refT13 (s : Slt) (own more : Int) : Option Value := bif decide (s.st ≥ 2) then bif decide (s.st ≤ 4) then bif !!s.brk then no else bif IntKind.i64.wrap (s.ver + 1) == 32768 then yes (Slt.mk s.st s.own s.str true s.mrk s.uses s.gen s.ep 0) else yes (Slt.mk s.st s.own s.str true s.mrk s.uses s.gen s.ep (IntKind.i64.wrap (s.ver + 1))) else no else no
def refT14 (s : Slt) (own more : Int) : Option Value := bif in255 s.str then bif in8 (lowI s.str) then bif s.st == 3 then bif s.own == own then bif !s.brk then bif decide (lowI s.str < more) then bif !decide (lowI s.str < 8) then no else bif IntKind.i64.wrap (s.ver + 1) == 32768 then yes (Slt.mk s.st s.own (IntKind.i64.wrap (s.str + 2 ^ Int.toNat (lowI s.str))) s.brk s.mrk s.uses s.gen s.ep 0) else yes (Slt.mk s.st s.own (IntKind.i64.wrap (s.str + 2 ^ Int.toNat (lowI s.str))) s.brk s.mrk s.uses s.gen s.ep (IntKind.i64.wrap (s.ver + 1))) else no else no else no else no else none else none
def refT15 (s : Slt) (own more : Int) : Option Value := bif s.st != 3 then no else bif !s.own == own then no else bif decide (more < 0) then no else bif decide (more > 7) then no else bif in8 more then bif decide ((2 : Int) ^ Int.toNat more = 0) then none else bif in8 more then bif !Int.tmod (IntKind.i64.wrap (Int.tdiv s.str (2 ^ Int.toNat more))) 2 == 1 then no else bif IntKind.i64.wrap (s.ver + 1) == 32768 then yes (Slt.mk s.st s.own (IntKind.i64.wrap (s.str - 2 ^ Int.toNat more)) s.brk s.mrk s.uses s.gen s.ep 0) else yes (Slt.mk s.st s.own (IntKind.i64.wrap (s.str - 2 ^ Int.toNat more)) s.brk s.mrk s.uses s.gen s.ep (IntKind.i64.wrap (s.ver + 1))) else none else none
def refT16 (s : Slt) (own more : Int) : Option Value := bif s.st == 4 then bif IntKind.i64.wrap (s.gen + 1) == 4096 then bif !s.own == own then no else bif IntKind.i64.wrap (s.ver + 1) == 32768 then yes (Slt.mk 3 own 0 s.brk false (if 63 < IntKind.i64.wrap (s.uses + 1) then 63 else IntKind.i64.wrap (s.uses + 1)) 0 0 0) else yes (Slt.mk 3 own 0 s.brk false (if 63 < IntKind.i64.wrap (s.uses + 1) then 63 else IntKind.i64.wrap (s.uses + 1)) 0 0 (IntKind.i64.wrap (s.ver + 1))) else bif !s.own == own then no else bif IntKind.i64.wrap (s.ver + 1) == 32768 then yes (Slt.mk 3 own 0 s.brk false (if 63 < IntKind.i64.wrap (s.uses + 1) then 63 else IntKind.i64.wrap (s.uses + 1)) (IntKind.i64.wrap (s.gen + 1)) 0 0) else yes (Slt.mk 3 own 0 s.brk false (if 63 < IntKind.i64.wrap (s.uses + 1) then 63 else IntKind.i64.wrap (s.uses + 1)) (IntKind.i64.wrap (s.gen + 1)) 0 (IntKind.i64.wrap (s.ver + 1))) else bif s.st == 5 then bif !s.own == own then no else bif IntKind.i64.wrap (s.ver + 1) == 32768 then yes (Slt.mk 1 own 0 false false 0 s.gen 0 0) else yes (Slt.mk 1 own 0 false false 0 s.gen 0 (IntKind.i64.wrap (s.ver + 1))) else no
def refT17 (s : Slt) (own more : Int) : Option Value := bif s.st == 6 then bif decide (more ≥ 0) then bif !decide (more ≤ 4095) then no else bif IntKind.i64.wrap (s.ver + 1) == 32768 then yes (Slt.mk s.st s.own s.str s.brk s.mrk s.uses s.gen more 0) else yes (Slt.mk s.st s.own s.str s.brk s.mrk s.uses s.gen more (IntKind.i64.wrap (s.ver + 1))) else no else no
def refRest (s : Slt) (k own more : Int) : Option Value := bif k == 0 then refT0 s own more else bif k == 1 then refT1 s own more else bif k == 2 then refT2 s own more else bif k == 3 then refT3 s own more else bif k == 4 then refT4 s own more else bif k == 5 then refT5 s own more else bif k == 6 then refT6 s own more else bif k == 7 then refT7 s own more else bif k == 8 then refT8 s own more else bif k == 9 then refT9 s own more else bif k == 10 then refT10 s own more else bif k == 11 then refT11 s own more else bif k == 12 then refT12 s own more else bif k == 13 then refT13 s own more else bif k == 14 then refT14 s own more else bif k == 15 then refT15 s own more else bif k == 16 then refT16 s own more else bif k == 17 then refT17 s own more else no
theorem life0 {s : Slt} {own more : Int} (F : Facts s) (h0 : 0 ≤ own) (h1 : own ≤ 15) : lifeT0 s own more = outS s (row0 s own) := by
  obtain ⟨a, b, c, d, e, f, g, h, i⟩ := s
  obtain ⟨F1, F2, F3, F4, F5, F6, F7, F8, F9, F10, F11, F12, F13⟩ := F
  simp only at F1 F2 F3 F4 F5 F6 F7 F8 F9 F10 F11 F12 F13
  have w1 : IntKind.i64.wrap (i + 1) = i + 1 := wrap_small (by omega) (by omega)
  have w2 : IntKind.i64.wrap (g + 1) = g + 1 := wrap_small (by omega) (by omega)
  have w3 : IntKind.i64.wrap (f + 1) = f + 1 := wrap_small (by omega) (by omega)
  have t1 : (i + 1).tmod 32768 = (i + 1) % 32768 := Int.tmod_eq_emod_of_nonneg (by omega)
  have t2 : (g + 1).tmod 4096 = (g + 1) % 4096 := Int.tmod_eq_emod_of_nonneg (by omega)
  simp only [lifeT0, row0, plainS, leasedS, w1, w2, w3, t1, t2, yes, no, outS, Bool.cond_eq_ite, decide_eq_true_eq, beq_iff_eq, Bool.not_eq_true', beq_eq_false_iff_ne, decide_eq_false_iff_not, Bool.not_not]
  repeat' split
  all_goals first | rfl | (simp_all; done) | (simp_all; omega) | (exfalso; simp_all; omega) | (simp_all [Option.map, decR, Slt.val]; omega)
theorem life1 {s : Slt} {own more : Int} (F : Facts s) (h0 : 0 ≤ own) (h1 : own ≤ 15) : lifeT1 s own more = outS s (row1 s own) := by
  obtain ⟨a, b, c, d, e, f, g, h, i⟩ := s
  obtain ⟨F1, F2, F3, F4, F5, F6, F7, F8, F9, F10, F11, F12, F13⟩ := F
  simp only at F1 F2 F3 F4 F5 F6 F7 F8 F9 F10 F11 F12 F13
  have w1 : IntKind.i64.wrap (i + 1) = i + 1 := wrap_small (by omega) (by omega)
  have w2 : IntKind.i64.wrap (g + 1) = g + 1 := wrap_small (by omega) (by omega)
  have w3 : IntKind.i64.wrap (f + 1) = f + 1 := wrap_small (by omega) (by omega)
  have t1 : (i + 1).tmod 32768 = (i + 1) % 32768 := Int.tmod_eq_emod_of_nonneg (by omega)
  have t2 : (g + 1).tmod 4096 = (g + 1) % 4096 := Int.tmod_eq_emod_of_nonneg (by omega)
  simp only [lifeT1, row1, plainS, leasedS, w1, w2, w3, t1, t2, yes, no, outS, Bool.cond_eq_ite, decide_eq_true_eq, beq_iff_eq, Bool.not_eq_true', beq_eq_false_iff_ne, decide_eq_false_iff_not, Bool.not_not]
  repeat' split
  all_goals first | rfl | (simp_all; done) | (simp_all; omega) | (exfalso; simp_all; omega) | (simp_all [Option.map, decR, Slt.val]; omega)
theorem life2 {s : Slt} {own more : Int} (F : Facts s) (h0 : 0 ≤ own) (h1 : own ≤ 15) : lifeT2 s own more = outS s (row2 s own) := by
  obtain ⟨a, b, c, d, e, f, g, h, i⟩ := s
  obtain ⟨F1, F2, F3, F4, F5, F6, F7, F8, F9, F10, F11, F12, F13⟩ := F
  simp only at F1 F2 F3 F4 F5 F6 F7 F8 F9 F10 F11 F12 F13
  have w1 : IntKind.i64.wrap (i + 1) = i + 1 := wrap_small (by omega) (by omega)
  have w2 : IntKind.i64.wrap (g + 1) = g + 1 := wrap_small (by omega) (by omega)
  have w3 : IntKind.i64.wrap (f + 1) = f + 1 := wrap_small (by omega) (by omega)
  have t1 : (i + 1).tmod 32768 = (i + 1) % 32768 := Int.tmod_eq_emod_of_nonneg (by omega)
  have t2 : (g + 1).tmod 4096 = (g + 1) % 4096 := Int.tmod_eq_emod_of_nonneg (by omega)
  simp only [lifeT2, row2, plainS, leasedS, w1, w2, w3, t1, t2, yes, no, outS, Bool.cond_eq_ite, decide_eq_true_eq, beq_iff_eq, Bool.not_eq_true', beq_eq_false_iff_ne, decide_eq_false_iff_not, Bool.not_not]
  repeat' split
  all_goals first | rfl | (simp_all; done) | (simp_all; omega) | (exfalso; simp_all; omega) | (simp_all [Option.map, decR, Slt.val]; omega)
theorem life3 {s : Slt} {own more : Int} (F : Facts s) (h0 : 0 ≤ own) (h1 : own ≤ 15) : lifeT3 s own more = outS s (row3 s own) := by
  obtain ⟨a, b, c, d, e, f, g, h, i⟩ := s
  obtain ⟨F1, F2, F3, F4, F5, F6, F7, F8, F9, F10, F11, F12, F13⟩ := F
  simp only at F1 F2 F3 F4 F5 F6 F7 F8 F9 F10 F11 F12 F13
  have w1 : IntKind.i64.wrap (i + 1) = i + 1 := wrap_small (by omega) (by omega)
  have w2 : IntKind.i64.wrap (g + 1) = g + 1 := wrap_small (by omega) (by omega)
  have w3 : IntKind.i64.wrap (f + 1) = f + 1 := wrap_small (by omega) (by omega)
  have t1 : (i + 1).tmod 32768 = (i + 1) % 32768 := Int.tmod_eq_emod_of_nonneg (by omega)
  have t2 : (g + 1).tmod 4096 = (g + 1) % 4096 := Int.tmod_eq_emod_of_nonneg (by omega)
  simp only [lifeT3, row3, plainS, leasedS, w1, w2, w3, t1, t2, yes, no, outS, Bool.cond_eq_ite, decide_eq_true_eq, beq_iff_eq, Bool.not_eq_true', beq_eq_false_iff_ne, decide_eq_false_iff_not, Bool.not_not]
  repeat' split
  all_goals first | rfl | (simp_all; done) | (simp_all; omega) | (exfalso; simp_all; omega) | (simp_all [Option.map, decR, Slt.val]; omega)
theorem life4 {s : Slt} {own more : Int} (F : Facts s) (h0 : 0 ≤ own) (h1 : own ≤ 15) : lifeT4 s own more = outS s (row4 s own) := by
  obtain ⟨a, b, c, d, e, f, g, h, i⟩ := s
  obtain ⟨F1, F2, F3, F4, F5, F6, F7, F8, F9, F10, F11, F12, F13⟩ := F
  simp only at F1 F2 F3 F4 F5 F6 F7 F8 F9 F10 F11 F12 F13
  have w1 : IntKind.i64.wrap (i + 1) = i + 1 := wrap_small (by omega) (by omega)
  have w2 : IntKind.i64.wrap (g + 1) = g + 1 := wrap_small (by omega) (by omega)
  have w3 : IntKind.i64.wrap (f + 1) = f + 1 := wrap_small (by omega) (by omega)
  have t1 : (i + 1).tmod 32768 = (i + 1) % 32768 := Int.tmod_eq_emod_of_nonneg (by omega)
  have t2 : (g + 1).tmod 4096 = (g + 1) % 4096 := Int.tmod_eq_emod_of_nonneg (by omega)
  simp only [lifeT4, row4, plainS, leasedS, w1, w2, w3, t1, t2, yes, no, outS, Bool.cond_eq_ite, decide_eq_true_eq, beq_iff_eq, Bool.not_eq_true', beq_eq_false_iff_ne, decide_eq_false_iff_not, Bool.not_not]
  repeat' split
  all_goals first | rfl | (simp_all; done) | (simp_all; omega) | (exfalso; simp_all; omega) | (simp_all [Option.map, decR, Slt.val]; omega)
theorem life5 {s : Slt} {own more : Int} (F : Facts s) (h0 : 0 ≤ own) (h1 : own ≤ 15) : lifeT5 s own more = outS s (row5 s own) := by
  obtain ⟨a, b, c, d, e, f, g, h, i⟩ := s
  obtain ⟨F1, F2, F3, F4, F5, F6, F7, F8, F9, F10, F11, F12, F13⟩ := F
  simp only at F1 F2 F3 F4 F5 F6 F7 F8 F9 F10 F11 F12 F13
  have w1 : IntKind.i64.wrap (i + 1) = i + 1 := wrap_small (by omega) (by omega)
  have w2 : IntKind.i64.wrap (g + 1) = g + 1 := wrap_small (by omega) (by omega)
  have w3 : IntKind.i64.wrap (f + 1) = f + 1 := wrap_small (by omega) (by omega)
  have t1 : (i + 1).tmod 32768 = (i + 1) % 32768 := Int.tmod_eq_emod_of_nonneg (by omega)
  have t2 : (g + 1).tmod 4096 = (g + 1) % 4096 := Int.tmod_eq_emod_of_nonneg (by omega)
  simp only [lifeT5, row5, plainS, leasedS, w1, w2, w3, t1, t2, yes, no, outS, Bool.cond_eq_ite, decide_eq_true_eq, beq_iff_eq, Bool.not_eq_true', beq_eq_false_iff_ne, decide_eq_false_iff_not, Bool.not_not]
  repeat' split
  all_goals first | rfl | (simp_all; done) | (simp_all; omega) | (exfalso; simp_all; omega) | (simp_all [Option.map, decR, Slt.val]; omega)
theorem life6 {s : Slt} {own more : Int} (F : Facts s) (h0 : 0 ≤ own) (h1 : own ≤ 15) : lifeT6 s own more = outS s (row6 s own) := by
  obtain ⟨a, b, c, d, e, f, g, h, i⟩ := s
  obtain ⟨F1, F2, F3, F4, F5, F6, F7, F8, F9, F10, F11, F12, F13⟩ := F
  simp only at F1 F2 F3 F4 F5 F6 F7 F8 F9 F10 F11 F12 F13
  have w1 : IntKind.i64.wrap (i + 1) = i + 1 := wrap_small (by omega) (by omega)
  have w2 : IntKind.i64.wrap (g + 1) = g + 1 := wrap_small (by omega) (by omega)
  have w3 : IntKind.i64.wrap (f + 1) = f + 1 := wrap_small (by omega) (by omega)
  have t1 : (i + 1).tmod 32768 = (i + 1) % 32768 := Int.tmod_eq_emod_of_nonneg (by omega)
  have t2 : (g + 1).tmod 4096 = (g + 1) % 4096 := Int.tmod_eq_emod_of_nonneg (by omega)
  simp only [lifeT6, row6, plainS, leasedS, w1, w2, w3, t1, t2, yes, no, outS, Bool.cond_eq_ite, decide_eq_true_eq, beq_iff_eq, Bool.not_eq_true', beq_eq_false_iff_ne, decide_eq_false_iff_not, Bool.not_not]
  repeat' split
  all_goals first | rfl | (simp_all; done) | (simp_all; omega) | (exfalso; simp_all; omega) | (simp_all [Option.map, decR, Slt.val]; omega)
theorem life7 {s : Slt} {own more : Int} (F : Facts s) (h0 : 0 ≤ own) (h1 : own ≤ 15) : lifeT7 s own more = outS s (row7 s own) := by
  obtain ⟨a, b, c, d, e, f, g, h, i⟩ := s
  obtain ⟨F1, F2, F3, F4, F5, F6, F7, F8, F9, F10, F11, F12, F13⟩ := F
  simp only at F1 F2 F3 F4 F5 F6 F7 F8 F9 F10 F11 F12 F13
  have w1 : IntKind.i64.wrap (i + 1) = i + 1 := wrap_small (by omega) (by omega)
  have w2 : IntKind.i64.wrap (g + 1) = g + 1 := wrap_small (by omega) (by omega)
  have w3 : IntKind.i64.wrap (f + 1) = f + 1 := wrap_small (by omega) (by omega)
  have t1 : (i + 1).tmod 32768 = (i + 1) % 32768 := Int.tmod_eq_emod_of_nonneg (by omega)
  have t2 : (g + 1).tmod 4096 = (g + 1) % 4096 := Int.tmod_eq_emod_of_nonneg (by omega)
  simp only [lifeT7, row7, plainS, leasedS, w1, w2, w3, t1, t2, yes, no, outS, Bool.cond_eq_ite, decide_eq_true_eq, beq_iff_eq, Bool.not_eq_true', beq_eq_false_iff_ne, decide_eq_false_iff_not, Bool.not_not]
  repeat' split
  all_goals first | rfl | (simp_all; done) | (simp_all; omega) | (exfalso; simp_all; omega) | (simp_all [Option.map, decR, Slt.val]; omega)
theorem life8 {s : Slt} {own more : Int} (F : Facts s) (h0 : 0 ≤ own) (h1 : own ≤ 15) : lifeT8 s own more = outS s (row8 s ) := by
  obtain ⟨a, b, c, d, e, f, g, h, i⟩ := s
  obtain ⟨F1, F2, F3, F4, F5, F6, F7, F8, F9, F10, F11, F12, F13⟩ := F
  simp only at F1 F2 F3 F4 F5 F6 F7 F8 F9 F10 F11 F12 F13
  have w1 : IntKind.i64.wrap (i + 1) = i + 1 := wrap_small (by omega) (by omega)
  have w2 : IntKind.i64.wrap (g + 1) = g + 1 := wrap_small (by omega) (by omega)
  have w3 : IntKind.i64.wrap (f + 1) = f + 1 := wrap_small (by omega) (by omega)
  have t1 : (i + 1).tmod 32768 = (i + 1) % 32768 := Int.tmod_eq_emod_of_nonneg (by omega)
  have t2 : (g + 1).tmod 4096 = (g + 1) % 4096 := Int.tmod_eq_emod_of_nonneg (by omega)
  simp only [lifeT8, row8, plainS, leasedS, w1, w2, w3, t1, t2, yes, no, outS, Bool.cond_eq_ite, decide_eq_true_eq, beq_iff_eq, Bool.not_eq_true', beq_eq_false_iff_ne, decide_eq_false_iff_not, Bool.not_not]
  repeat' split
  all_goals first | rfl | (simp_all; done) | (simp_all; omega) | (exfalso; simp_all; omega) | (simp_all [Option.map, decR, Slt.val]; omega)
theorem life9 {s : Slt} {own more : Int} (F : Facts s) (h0 : 0 ≤ own) (h1 : own ≤ 15) : lifeT9 s own more = outS s (row9 s own) := by
  obtain ⟨a, b, c, d, e, f, g, h, i⟩ := s
  obtain ⟨F1, F2, F3, F4, F5, F6, F7, F8, F9, F10, F11, F12, F13⟩ := F
  simp only at F1 F2 F3 F4 F5 F6 F7 F8 F9 F10 F11 F12 F13
  have w1 : IntKind.i64.wrap (i + 1) = i + 1 := wrap_small (by omega) (by omega)
  have w2 : IntKind.i64.wrap (g + 1) = g + 1 := wrap_small (by omega) (by omega)
  have w3 : IntKind.i64.wrap (f + 1) = f + 1 := wrap_small (by omega) (by omega)
  have t1 : (i + 1).tmod 32768 = (i + 1) % 32768 := Int.tmod_eq_emod_of_nonneg (by omega)
  have t2 : (g + 1).tmod 4096 = (g + 1) % 4096 := Int.tmod_eq_emod_of_nonneg (by omega)
  simp only [lifeT9, row9, plainS, leasedS, w1, w2, w3, t1, t2, yes, no, outS, Bool.cond_eq_ite, decide_eq_true_eq, beq_iff_eq, Bool.not_eq_true', beq_eq_false_iff_ne, decide_eq_false_iff_not, Bool.not_not]
  repeat' split
  all_goals first | rfl | (simp_all; done) | (simp_all; omega) | (exfalso; simp_all; omega) | (simp_all [Option.map, decR, Slt.val]; omega)
theorem life10 {s : Slt} {own more : Int} (F : Facts s) (h0 : 0 ≤ own) (h1 : own ≤ 15) : lifeT10 s own more = outS s (row10 s ) := by
  obtain ⟨a, b, c, d, e, f, g, h, i⟩ := s
  obtain ⟨F1, F2, F3, F4, F5, F6, F7, F8, F9, F10, F11, F12, F13⟩ := F
  simp only at F1 F2 F3 F4 F5 F6 F7 F8 F9 F10 F11 F12 F13
  have w1 : IntKind.i64.wrap (i + 1) = i + 1 := wrap_small (by omega) (by omega)
  have w2 : IntKind.i64.wrap (g + 1) = g + 1 := wrap_small (by omega) (by omega)
  have w3 : IntKind.i64.wrap (f + 1) = f + 1 := wrap_small (by omega) (by omega)
  have t1 : (i + 1).tmod 32768 = (i + 1) % 32768 := Int.tmod_eq_emod_of_nonneg (by omega)
  have t2 : (g + 1).tmod 4096 = (g + 1) % 4096 := Int.tmod_eq_emod_of_nonneg (by omega)
  simp only [lifeT10, row10, plainS, leasedS, w1, w2, w3, t1, t2, yes, no, outS, Bool.cond_eq_ite, decide_eq_true_eq, beq_iff_eq, Bool.not_eq_true', beq_eq_false_iff_ne, decide_eq_false_iff_not, Bool.not_not]
  repeat' split
  all_goals first | rfl | (simp_all; done) | (simp_all; omega) | (exfalso; simp_all; omega) | (simp_all [Option.map, decR, Slt.val]; omega)
theorem life11 {s : Slt} {own more : Int} (F : Facts s) (h0 : 0 ≤ own) (h1 : own ≤ 15) : lifeT11 s own more = outS s (row11 s more) := by
  obtain ⟨a, b, c, d, e, f, g, h, i⟩ := s
  obtain ⟨F1, F2, F3, F4, F5, F6, F7, F8, F9, F10, F11, F12, F13⟩ := F
  simp only at F1 F2 F3 F4 F5 F6 F7 F8 F9 F10 F11 F12 F13
  have w1 : IntKind.i64.wrap (i + 1) = i + 1 := wrap_small (by omega) (by omega)
  have w2 : IntKind.i64.wrap (g + 1) = g + 1 := wrap_small (by omega) (by omega)
  have w3 : IntKind.i64.wrap (f + 1) = f + 1 := wrap_small (by omega) (by omega)
  have t1 : (i + 1).tmod 32768 = (i + 1) % 32768 := Int.tmod_eq_emod_of_nonneg (by omega)
  have t2 : (g + 1).tmod 4096 = (g + 1) % 4096 := Int.tmod_eq_emod_of_nonneg (by omega)
  simp only [lifeT11, row11, plainS, leasedS, w1, w2, w3, t1, t2, yes, no, outS, Bool.cond_eq_ite, decide_eq_true_eq, beq_iff_eq, Bool.not_eq_true', beq_eq_false_iff_ne, decide_eq_false_iff_not, Bool.not_not]
  repeat' split
  all_goals first | rfl | (simp_all; done) | (simp_all; omega) | (exfalso; simp_all; omega) | (simp_all [Option.map, decR, Slt.val]; omega)
theorem life12 {s : Slt} {own more : Int} (F : Facts s) (h0 : 0 ≤ own) (h1 : own ≤ 15) : lifeT12 s own more = outS s (row12 s ) := by
  obtain ⟨a, b, c, d, e, f, g, h, i⟩ := s
  obtain ⟨F1, F2, F3, F4, F5, F6, F7, F8, F9, F10, F11, F12, F13⟩ := F
  simp only at F1 F2 F3 F4 F5 F6 F7 F8 F9 F10 F11 F12 F13
  have w1 : IntKind.i64.wrap (i + 1) = i + 1 := wrap_small (by omega) (by omega)
  have w2 : IntKind.i64.wrap (g + 1) = g + 1 := wrap_small (by omega) (by omega)
  have w3 : IntKind.i64.wrap (f + 1) = f + 1 := wrap_small (by omega) (by omega)
  have t1 : (i + 1).tmod 32768 = (i + 1) % 32768 := Int.tmod_eq_emod_of_nonneg (by omega)
  have t2 : (g + 1).tmod 4096 = (g + 1) % 4096 := Int.tmod_eq_emod_of_nonneg (by omega)
  simp only [lifeT12, row12, plainS, leasedS, w1, w2, w3, t1, t2, yes, no, outS, Bool.cond_eq_ite, decide_eq_true_eq, beq_iff_eq, Bool.not_eq_true', beq_eq_false_iff_ne, decide_eq_false_iff_not, Bool.not_not]
  repeat' split
  all_goals first | rfl | (simp_all; done) | (simp_all; omega) | (exfalso; simp_all; omega) | (simp_all [Option.map, decR, Slt.val]; omega)
theorem life13 {s : Slt} {own more : Int} (F : Facts s) (h0 : 0 ≤ own) (h1 : own ≤ 15) : lifeT13 s own more = outS s (row13 s ) := by
  obtain ⟨a, b, c, d, e, f, g, h, i⟩ := s
  obtain ⟨F1, F2, F3, F4, F5, F6, F7, F8, F9, F10, F11, F12, F13⟩ := F
  simp only at F1 F2 F3 F4 F5 F6 F7 F8 F9 F10 F11 F12 F13
  have w1 : IntKind.i64.wrap (i + 1) = i + 1 := wrap_small (by omega) (by omega)
  have w2 : IntKind.i64.wrap (g + 1) = g + 1 := wrap_small (by omega) (by omega)
  have w3 : IntKind.i64.wrap (f + 1) = f + 1 := wrap_small (by omega) (by omega)
  have t1 : (i + 1).tmod 32768 = (i + 1) % 32768 := Int.tmod_eq_emod_of_nonneg (by omega)
  have t2 : (g + 1).tmod 4096 = (g + 1) % 4096 := Int.tmod_eq_emod_of_nonneg (by omega)
  simp only [lifeT13, row13, plainS, leasedS, w1, w2, w3, t1, t2, yes, no, outS, Bool.cond_eq_ite, decide_eq_true_eq, beq_iff_eq, Bool.not_eq_true', beq_eq_false_iff_ne, decide_eq_false_iff_not, Bool.not_not]
  repeat' split
  all_goals first | rfl | (simp_all; done) | (simp_all; omega) | (exfalso; simp_all; omega) | (simp_all [Option.map, decR, Slt.val]; omega)
theorem life16 {s : Slt} {own more : Int} (F : Facts s) (h0 : 0 ≤ own) (h1 : own ≤ 15) : lifeT16 s own more = outS s (row16 s own) := by
  obtain ⟨a, b, c, d, e, f, g, h, i⟩ := s
  obtain ⟨F1, F2, F3, F4, F5, F6, F7, F8, F9, F10, F11, F12, F13⟩ := F
  simp only at F1 F2 F3 F4 F5 F6 F7 F8 F9 F10 F11 F12 F13
  have w1 : IntKind.i64.wrap (i + 1) = i + 1 := wrap_small (by omega) (by omega)
  have w2 : IntKind.i64.wrap (g + 1) = g + 1 := wrap_small (by omega) (by omega)
  have w3 : IntKind.i64.wrap (f + 1) = f + 1 := wrap_small (by omega) (by omega)
  have t1 : (i + 1).tmod 32768 = (i + 1) % 32768 := Int.tmod_eq_emod_of_nonneg (by omega)
  have t2 : (g + 1).tmod 4096 = (g + 1) % 4096 := Int.tmod_eq_emod_of_nonneg (by omega)
  simp only [lifeT16, row16, plainS, leasedS, w1, w2, w3, t1, t2, yes, no, outS, Bool.cond_eq_ite, decide_eq_true_eq, beq_iff_eq, Bool.not_eq_true', beq_eq_false_iff_ne, decide_eq_false_iff_not, Bool.not_not]
  repeat' split
  all_goals first | rfl | (simp_all; done) | (simp_all; omega) | (exfalso; simp_all; omega) | (simp_all [Option.map, decR, Slt.val]; omega)
theorem life17 {s : Slt} {own more : Int} (F : Facts s) (h0 : 0 ≤ own) (h1 : own ≤ 15) : lifeT17 s own more = outS s (row17 s more) := by
  obtain ⟨a, b, c, d, e, f, g, h, i⟩ := s
  obtain ⟨F1, F2, F3, F4, F5, F6, F7, F8, F9, F10, F11, F12, F13⟩ := F
  simp only at F1 F2 F3 F4 F5 F6 F7 F8 F9 F10 F11 F12 F13
  have w1 : IntKind.i64.wrap (i + 1) = i + 1 := wrap_small (by omega) (by omega)
  have w2 : IntKind.i64.wrap (g + 1) = g + 1 := wrap_small (by omega) (by omega)
  have w3 : IntKind.i64.wrap (f + 1) = f + 1 := wrap_small (by omega) (by omega)
  have t1 : (i + 1).tmod 32768 = (i + 1) % 32768 := Int.tmod_eq_emod_of_nonneg (by omega)
  have t2 : (g + 1).tmod 4096 = (g + 1) % 4096 := Int.tmod_eq_emod_of_nonneg (by omega)
  simp only [lifeT17, row17, plainS, leasedS, w1, w2, w3, t1, t2, yes, no, outS, Bool.cond_eq_ite, decide_eq_true_eq, beq_iff_eq, Bool.not_eq_true', beq_eq_false_iff_ne, decide_eq_false_iff_not, Bool.not_not]
  repeat' split
  all_goals first | rfl | (simp_all; done) | (simp_all; omega) | (exfalso; simp_all; omega) | (simp_all [Option.map, decR, Slt.val]; omega)
theorem ref0 {s : Slt} {own more : Int} (F : Facts s) (h0 : 0 ≤ own) (h1 : own ≤ 15) : refT0 s own more = outS s (row0 s own) := by
  obtain ⟨a, b, c, d, e, f, g, h, i⟩ := s
  obtain ⟨F1, F2, F3, F4, F5, F6, F7, F8, F9, F10, F11, F12, F13⟩ := F
  simp only at F1 F2 F3 F4 F5 F6 F7 F8 F9 F10 F11 F12 F13
  have w1 : IntKind.i64.wrap (i + 1) = i + 1 := wrap_small (by omega) (by omega)
  have w2 : IntKind.i64.wrap (g + 1) = g + 1 := wrap_small (by omega) (by omega)
  have w3 : IntKind.i64.wrap (f + 1) = f + 1 := wrap_small (by omega) (by omega)
  have t1 : (i + 1).tmod 32768 = (i + 1) % 32768 := Int.tmod_eq_emod_of_nonneg (by omega)
  have t2 : (g + 1).tmod 4096 = (g + 1) % 4096 := Int.tmod_eq_emod_of_nonneg (by omega)
  simp only [refT0, row0, plainS, leasedS, w1, w2, w3, t1, t2, yes, no, outS, Bool.cond_eq_ite, decide_eq_true_eq, beq_iff_eq, Bool.not_eq_true', beq_eq_false_iff_ne, decide_eq_false_iff_not, Bool.not_not]
  repeat' split
  all_goals first | rfl | (simp_all; done) | (simp_all; omega) | (exfalso; simp_all; omega) | (simp_all [Option.map, decR, Slt.val]; omega)
theorem ref1 {s : Slt} {own more : Int} (F : Facts s) (h0 : 0 ≤ own) (h1 : own ≤ 15) : refT1 s own more = outS s (row1 s own) := by
  obtain ⟨a, b, c, d, e, f, g, h, i⟩ := s
  obtain ⟨F1, F2, F3, F4, F5, F6, F7, F8, F9, F10, F11, F12, F13⟩ := F
  simp only at F1 F2 F3 F4 F5 F6 F7 F8 F9 F10 F11 F12 F13
  have w1 : IntKind.i64.wrap (i + 1) = i + 1 := wrap_small (by omega) (by omega)
  have w2 : IntKind.i64.wrap (g + 1) = g + 1 := wrap_small (by omega) (by omega)
  have w3 : IntKind.i64.wrap (f + 1) = f + 1 := wrap_small (by omega) (by omega)
  have t1 : (i + 1).tmod 32768 = (i + 1) % 32768 := Int.tmod_eq_emod_of_nonneg (by omega)
  have t2 : (g + 1).tmod 4096 = (g + 1) % 4096 := Int.tmod_eq_emod_of_nonneg (by omega)
  simp only [refT1, row1, plainS, leasedS, w1, w2, w3, t1, t2, yes, no, outS, Bool.cond_eq_ite, decide_eq_true_eq, beq_iff_eq, Bool.not_eq_true', beq_eq_false_iff_ne, decide_eq_false_iff_not, Bool.not_not]
  repeat' split
  all_goals first | rfl | (simp_all; done) | (simp_all; omega) | (exfalso; simp_all; omega) | (simp_all [Option.map, decR, Slt.val]; omega)
theorem ref2 {s : Slt} {own more : Int} (F : Facts s) (h0 : 0 ≤ own) (h1 : own ≤ 15) : refT2 s own more = outS s (row2 s own) := by
  obtain ⟨a, b, c, d, e, f, g, h, i⟩ := s
  obtain ⟨F1, F2, F3, F4, F5, F6, F7, F8, F9, F10, F11, F12, F13⟩ := F
  simp only at F1 F2 F3 F4 F5 F6 F7 F8 F9 F10 F11 F12 F13
  have w1 : IntKind.i64.wrap (i + 1) = i + 1 := wrap_small (by omega) (by omega)
  have w2 : IntKind.i64.wrap (g + 1) = g + 1 := wrap_small (by omega) (by omega)
  have w3 : IntKind.i64.wrap (f + 1) = f + 1 := wrap_small (by omega) (by omega)
  have t1 : (i + 1).tmod 32768 = (i + 1) % 32768 := Int.tmod_eq_emod_of_nonneg (by omega)
  have t2 : (g + 1).tmod 4096 = (g + 1) % 4096 := Int.tmod_eq_emod_of_nonneg (by omega)
  simp only [refT2, row2, plainS, leasedS, w1, w2, w3, t1, t2, yes, no, outS, Bool.cond_eq_ite, decide_eq_true_eq, beq_iff_eq, Bool.not_eq_true', beq_eq_false_iff_ne, decide_eq_false_iff_not, Bool.not_not]
  repeat' split
  all_goals first | rfl | (simp_all; done) | (simp_all; omega) | (exfalso; simp_all; omega) | (simp_all [Option.map, decR, Slt.val]; omega)
theorem ref3 {s : Slt} {own more : Int} (F : Facts s) (h0 : 0 ≤ own) (h1 : own ≤ 15) : refT3 s own more = outS s (row3 s own) := by
  obtain ⟨a, b, c, d, e, f, g, h, i⟩ := s
  obtain ⟨F1, F2, F3, F4, F5, F6, F7, F8, F9, F10, F11, F12, F13⟩ := F
  simp only at F1 F2 F3 F4 F5 F6 F7 F8 F9 F10 F11 F12 F13
  have w1 : IntKind.i64.wrap (i + 1) = i + 1 := wrap_small (by omega) (by omega)
  have w2 : IntKind.i64.wrap (g + 1) = g + 1 := wrap_small (by omega) (by omega)
  have w3 : IntKind.i64.wrap (f + 1) = f + 1 := wrap_small (by omega) (by omega)
  have t1 : (i + 1).tmod 32768 = (i + 1) % 32768 := Int.tmod_eq_emod_of_nonneg (by omega)
  have t2 : (g + 1).tmod 4096 = (g + 1) % 4096 := Int.tmod_eq_emod_of_nonneg (by omega)
  simp only [refT3, row3, plainS, leasedS, w1, w2, w3, t1, t2, yes, no, outS, Bool.cond_eq_ite, decide_eq_true_eq, beq_iff_eq, Bool.not_eq_true', beq_eq_false_iff_ne, decide_eq_false_iff_not, Bool.not_not]
  repeat' split
  all_goals first | rfl | (simp_all; done) | (simp_all; omega) | (exfalso; simp_all; omega) | (simp_all [Option.map, decR, Slt.val]; omega)
theorem ref4 {s : Slt} {own more : Int} (F : Facts s) (h0 : 0 ≤ own) (h1 : own ≤ 15) : refT4 s own more = outS s (row4 s own) := by
  obtain ⟨a, b, c, d, e, f, g, h, i⟩ := s
  obtain ⟨F1, F2, F3, F4, F5, F6, F7, F8, F9, F10, F11, F12, F13⟩ := F
  simp only at F1 F2 F3 F4 F5 F6 F7 F8 F9 F10 F11 F12 F13
  have w1 : IntKind.i64.wrap (i + 1) = i + 1 := wrap_small (by omega) (by omega)
  have w2 : IntKind.i64.wrap (g + 1) = g + 1 := wrap_small (by omega) (by omega)
  have w3 : IntKind.i64.wrap (f + 1) = f + 1 := wrap_small (by omega) (by omega)
  have t1 : (i + 1).tmod 32768 = (i + 1) % 32768 := Int.tmod_eq_emod_of_nonneg (by omega)
  have t2 : (g + 1).tmod 4096 = (g + 1) % 4096 := Int.tmod_eq_emod_of_nonneg (by omega)
  simp only [refT4, row4, plainS, leasedS, w1, w2, w3, t1, t2, yes, no, outS, Bool.cond_eq_ite, decide_eq_true_eq, beq_iff_eq, Bool.not_eq_true', beq_eq_false_iff_ne, decide_eq_false_iff_not, Bool.not_not]
  repeat' split
  all_goals first | rfl | (simp_all; done) | (simp_all; omega) | (exfalso; simp_all; omega) | (simp_all [Option.map, decR, Slt.val]; omega)
theorem ref5 {s : Slt} {own more : Int} (F : Facts s) (h0 : 0 ≤ own) (h1 : own ≤ 15) : refT5 s own more = outS s (row5 s own) := by
  obtain ⟨a, b, c, d, e, f, g, h, i⟩ := s
  obtain ⟨F1, F2, F3, F4, F5, F6, F7, F8, F9, F10, F11, F12, F13⟩ := F
  simp only at F1 F2 F3 F4 F5 F6 F7 F8 F9 F10 F11 F12 F13
  have w1 : IntKind.i64.wrap (i + 1) = i + 1 := wrap_small (by omega) (by omega)
  have w2 : IntKind.i64.wrap (g + 1) = g + 1 := wrap_small (by omega) (by omega)
  have w3 : IntKind.i64.wrap (f + 1) = f + 1 := wrap_small (by omega) (by omega)
  have t1 : (i + 1).tmod 32768 = (i + 1) % 32768 := Int.tmod_eq_emod_of_nonneg (by omega)
  have t2 : (g + 1).tmod 4096 = (g + 1) % 4096 := Int.tmod_eq_emod_of_nonneg (by omega)
  simp only [refT5, row5, plainS, leasedS, w1, w2, w3, t1, t2, yes, no, outS, Bool.cond_eq_ite, decide_eq_true_eq, beq_iff_eq, Bool.not_eq_true', beq_eq_false_iff_ne, decide_eq_false_iff_not, Bool.not_not]
  repeat' split
  all_goals first | rfl | (simp_all; done) | (simp_all; omega) | (exfalso; simp_all; omega) | (simp_all [Option.map, decR, Slt.val]; omega)
theorem ref6 {s : Slt} {own more : Int} (F : Facts s) (h0 : 0 ≤ own) (h1 : own ≤ 15) : refT6 s own more = outS s (row6 s own) := by
  obtain ⟨a, b, c, d, e, f, g, h, i⟩ := s
  obtain ⟨F1, F2, F3, F4, F5, F6, F7, F8, F9, F10, F11, F12, F13⟩ := F
  simp only at F1 F2 F3 F4 F5 F6 F7 F8 F9 F10 F11 F12 F13
  have w1 : IntKind.i64.wrap (i + 1) = i + 1 := wrap_small (by omega) (by omega)
  have w2 : IntKind.i64.wrap (g + 1) = g + 1 := wrap_small (by omega) (by omega)
  have w3 : IntKind.i64.wrap (f + 1) = f + 1 := wrap_small (by omega) (by omega)
  have t1 : (i + 1).tmod 32768 = (i + 1) % 32768 := Int.tmod_eq_emod_of_nonneg (by omega)
  have t2 : (g + 1).tmod 4096 = (g + 1) % 4096 := Int.tmod_eq_emod_of_nonneg (by omega)
  simp only [refT6, row6, plainS, leasedS, w1, w2, w3, t1, t2, yes, no, outS, Bool.cond_eq_ite, decide_eq_true_eq, beq_iff_eq, Bool.not_eq_true', beq_eq_false_iff_ne, decide_eq_false_iff_not, Bool.not_not]
  repeat' split
  all_goals first | rfl | (simp_all; done) | (simp_all; omega) | (exfalso; simp_all; omega) | (simp_all [Option.map, decR, Slt.val]; omega)
theorem ref7 {s : Slt} {own more : Int} (F : Facts s) (h0 : 0 ≤ own) (h1 : own ≤ 15) : refT7 s own more = outS s (row7 s own) := by
  obtain ⟨a, b, c, d, e, f, g, h, i⟩ := s
  obtain ⟨F1, F2, F3, F4, F5, F6, F7, F8, F9, F10, F11, F12, F13⟩ := F
  simp only at F1 F2 F3 F4 F5 F6 F7 F8 F9 F10 F11 F12 F13
  have w1 : IntKind.i64.wrap (i + 1) = i + 1 := wrap_small (by omega) (by omega)
  have w2 : IntKind.i64.wrap (g + 1) = g + 1 := wrap_small (by omega) (by omega)
  have w3 : IntKind.i64.wrap (f + 1) = f + 1 := wrap_small (by omega) (by omega)
  have t1 : (i + 1).tmod 32768 = (i + 1) % 32768 := Int.tmod_eq_emod_of_nonneg (by omega)
  have t2 : (g + 1).tmod 4096 = (g + 1) % 4096 := Int.tmod_eq_emod_of_nonneg (by omega)
  simp only [refT7, row7, plainS, leasedS, w1, w2, w3, t1, t2, yes, no, outS, Bool.cond_eq_ite, decide_eq_true_eq, beq_iff_eq, Bool.not_eq_true', beq_eq_false_iff_ne, decide_eq_false_iff_not, Bool.not_not]
  repeat' split
  all_goals first | rfl | (simp_all; done) | (simp_all; omega) | (exfalso; simp_all; omega) | (simp_all [Option.map, decR, Slt.val]; omega)
theorem ref8 {s : Slt} {own more : Int} (F : Facts s) (h0 : 0 ≤ own) (h1 : own ≤ 15) : refT8 s own more = outS s (row8 s ) := by
  obtain ⟨a, b, c, d, e, f, g, h, i⟩ := s
  obtain ⟨F1, F2, F3, F4, F5, F6, F7, F8, F9, F10, F11, F12, F13⟩ := F
  simp only at F1 F2 F3 F4 F5 F6 F7 F8 F9 F10 F11 F12 F13
  have w1 : IntKind.i64.wrap (i + 1) = i + 1 := wrap_small (by omega) (by omega)
  have w2 : IntKind.i64.wrap (g + 1) = g + 1 := wrap_small (by omega) (by omega)
  have w3 : IntKind.i64.wrap (f + 1) = f + 1 := wrap_small (by omega) (by omega)
  have t1 : (i + 1).tmod 32768 = (i + 1) % 32768 := Int.tmod_eq_emod_of_nonneg (by omega)
  have t2 : (g + 1).tmod 4096 = (g + 1) % 4096 := Int.tmod_eq_emod_of_nonneg (by omega)
  simp only [refT8, row8, plainS, leasedS, w1, w2, w3, t1, t2, yes, no, outS, Bool.cond_eq_ite, decide_eq_true_eq, beq_iff_eq, Bool.not_eq_true', beq_eq_false_iff_ne, decide_eq_false_iff_not, Bool.not_not]
  repeat' split
  all_goals first | rfl | (simp_all; done) | (simp_all; omega) | (exfalso; simp_all; omega) | (simp_all [Option.map, decR, Slt.val]; omega)
theorem ref9 {s : Slt} {own more : Int} (F : Facts s) (h0 : 0 ≤ own) (h1 : own ≤ 15) : refT9 s own more = outS s (row9 s own) := by
  obtain ⟨a, b, c, d, e, f, g, h, i⟩ := s
  obtain ⟨F1, F2, F3, F4, F5, F6, F7, F8, F9, F10, F11, F12, F13⟩ := F
  simp only at F1 F2 F3 F4 F5 F6 F7 F8 F9 F10 F11 F12 F13
  have w1 : IntKind.i64.wrap (i + 1) = i + 1 := wrap_small (by omega) (by omega)
  have w2 : IntKind.i64.wrap (g + 1) = g + 1 := wrap_small (by omega) (by omega)
  have w3 : IntKind.i64.wrap (f + 1) = f + 1 := wrap_small (by omega) (by omega)
  have t1 : (i + 1).tmod 32768 = (i + 1) % 32768 := Int.tmod_eq_emod_of_nonneg (by omega)
  have t2 : (g + 1).tmod 4096 = (g + 1) % 4096 := Int.tmod_eq_emod_of_nonneg (by omega)
  simp only [refT9, row9, plainS, leasedS, w1, w2, w3, t1, t2, yes, no, outS, Bool.cond_eq_ite, decide_eq_true_eq, beq_iff_eq, Bool.not_eq_true', beq_eq_false_iff_ne, decide_eq_false_iff_not, Bool.not_not]
  repeat' split
  all_goals first | rfl | (simp_all; done) | (simp_all; omega) | (exfalso; simp_all; omega) | (simp_all [Option.map, decR, Slt.val]; omega)
theorem ref10 {s : Slt} {own more : Int} (F : Facts s) (h0 : 0 ≤ own) (h1 : own ≤ 15) : refT10 s own more = outS s (row10 s ) := by
  obtain ⟨a, b, c, d, e, f, g, h, i⟩ := s
  obtain ⟨F1, F2, F3, F4, F5, F6, F7, F8, F9, F10, F11, F12, F13⟩ := F
  simp only at F1 F2 F3 F4 F5 F6 F7 F8 F9 F10 F11 F12 F13
  have w1 : IntKind.i64.wrap (i + 1) = i + 1 := wrap_small (by omega) (by omega)
  have w2 : IntKind.i64.wrap (g + 1) = g + 1 := wrap_small (by omega) (by omega)
  have w3 : IntKind.i64.wrap (f + 1) = f + 1 := wrap_small (by omega) (by omega)
  have t1 : (i + 1).tmod 32768 = (i + 1) % 32768 := Int.tmod_eq_emod_of_nonneg (by omega)
  have t2 : (g + 1).tmod 4096 = (g + 1) % 4096 := Int.tmod_eq_emod_of_nonneg (by omega)
  simp only [refT10, row10, plainS, leasedS, w1, w2, w3, t1, t2, yes, no, outS, Bool.cond_eq_ite, decide_eq_true_eq, beq_iff_eq, Bool.not_eq_true', beq_eq_false_iff_ne, decide_eq_false_iff_not, Bool.not_not]
  repeat' split
  all_goals first | rfl | (simp_all; done) | (simp_all; omega) | (exfalso; simp_all; omega) | (simp_all [Option.map, decR, Slt.val]; omega)
theorem ref11 {s : Slt} {own more : Int} (F : Facts s) (h0 : 0 ≤ own) (h1 : own ≤ 15) : refT11 s own more = outS s (row11 s more) := by
  obtain ⟨a, b, c, d, e, f, g, h, i⟩ := s
  obtain ⟨F1, F2, F3, F4, F5, F6, F7, F8, F9, F10, F11, F12, F13⟩ := F
  simp only at F1 F2 F3 F4 F5 F6 F7 F8 F9 F10 F11 F12 F13
  have w1 : IntKind.i64.wrap (i + 1) = i + 1 := wrap_small (by omega) (by omega)
  have w2 : IntKind.i64.wrap (g + 1) = g + 1 := wrap_small (by omega) (by omega)
  have w3 : IntKind.i64.wrap (f + 1) = f + 1 := wrap_small (by omega) (by omega)
  have t1 : (i + 1).tmod 32768 = (i + 1) % 32768 := Int.tmod_eq_emod_of_nonneg (by omega)
  have t2 : (g + 1).tmod 4096 = (g + 1) % 4096 := Int.tmod_eq_emod_of_nonneg (by omega)
  simp only [refT11, row11, plainS, leasedS, w1, w2, w3, t1, t2, yes, no, outS, Bool.cond_eq_ite, decide_eq_true_eq, beq_iff_eq, Bool.not_eq_true', beq_eq_false_iff_ne, decide_eq_false_iff_not, Bool.not_not]
  repeat' split
  all_goals first | rfl | (simp_all; done) | (simp_all; omega) | (exfalso; simp_all; omega) | (simp_all [Option.map, decR, Slt.val]; omega)
theorem ref12 {s : Slt} {own more : Int} (F : Facts s) (h0 : 0 ≤ own) (h1 : own ≤ 15) : refT12 s own more = outS s (row12 s ) := by
  obtain ⟨a, b, c, d, e, f, g, h, i⟩ := s
  obtain ⟨F1, F2, F3, F4, F5, F6, F7, F8, F9, F10, F11, F12, F13⟩ := F
  simp only at F1 F2 F3 F4 F5 F6 F7 F8 F9 F10 F11 F12 F13
  have w1 : IntKind.i64.wrap (i + 1) = i + 1 := wrap_small (by omega) (by omega)
  have w2 : IntKind.i64.wrap (g + 1) = g + 1 := wrap_small (by omega) (by omega)
  have w3 : IntKind.i64.wrap (f + 1) = f + 1 := wrap_small (by omega) (by omega)
  have t1 : (i + 1).tmod 32768 = (i + 1) % 32768 := Int.tmod_eq_emod_of_nonneg (by omega)
  have t2 : (g + 1).tmod 4096 = (g + 1) % 4096 := Int.tmod_eq_emod_of_nonneg (by omega)
  simp only [refT12, row12, plainS, leasedS, w1, w2, w3, t1, t2, yes, no, outS, Bool.cond_eq_ite, decide_eq_true_eq, beq_iff_eq, Bool.not_eq_true', beq_eq_false_iff_ne, decide_eq_false_iff_not, Bool.not_not]
  repeat' split
  all_goals first | rfl | (simp_all; done) | (simp_all; omega) | (exfalso; simp_all; omega) | (simp_all [Option.map, decR, Slt.val]; omega)
theorem ref13 {s : Slt} {own more : Int} (F : Facts s) (h0 : 0 ≤ own) (h1 : own ≤ 15) : refT13 s own more = outS s (row13 s ) := by
  obtain ⟨a, b, c, d, e, f, g, h, i⟩ := s
  obtain ⟨F1, F2, F3, F4, F5, F6, F7, F8, F9, F10, F11, F12, F13⟩ := F
  simp only at F1 F2 F3 F4 F5 F6 F7 F8 F9 F10 F11 F12 F13
  have w1 : IntKind.i64.wrap (i + 1) = i + 1 := wrap_small (by omega) (by omega)
  have w2 : IntKind.i64.wrap (g + 1) = g + 1 := wrap_small (by omega) (by omega)
  have w3 : IntKind.i64.wrap (f + 1) = f + 1 := wrap_small (by omega) (by omega)
  have t1 : (i + 1).tmod 32768 = (i + 1) % 32768 := Int.tmod_eq_emod_of_nonneg (by omega)
  have t2 : (g + 1).tmod 4096 = (g + 1) % 4096 := Int.tmod_eq_emod_of_nonneg (by omega)
  simp only [refT13, row13, plainS, leasedS, w1, w2, w3, t1, t2, yes, no, outS, Bool.cond_eq_ite, decide_eq_true_eq, beq_iff_eq, Bool.not_eq_true', beq_eq_false_iff_ne, decide_eq_false_iff_not, Bool.not_not]
  repeat' split
  all_goals first | rfl | (simp_all; done) | (simp_all; omega) | (exfalso; simp_all; omega) | (simp_all [Option.map, decR, Slt.val]; omega)
theorem ref16 {s : Slt} {own more : Int} (F : Facts s) (h0 : 0 ≤ own) (h1 : own ≤ 15) : refT16 s own more = outS s (row16 s own) := by
  obtain ⟨a, b, c, d, e, f, g, h, i⟩ := s
  obtain ⟨F1, F2, F3, F4, F5, F6, F7, F8, F9, F10, F11, F12, F13⟩ := F
  simp only at F1 F2 F3 F4 F5 F6 F7 F8 F9 F10 F11 F12 F13
  have w1 : IntKind.i64.wrap (i + 1) = i + 1 := wrap_small (by omega) (by omega)
  have w2 : IntKind.i64.wrap (g + 1) = g + 1 := wrap_small (by omega) (by omega)
  have w3 : IntKind.i64.wrap (f + 1) = f + 1 := wrap_small (by omega) (by omega)
  have t1 : (i + 1).tmod 32768 = (i + 1) % 32768 := Int.tmod_eq_emod_of_nonneg (by omega)
  have t2 : (g + 1).tmod 4096 = (g + 1) % 4096 := Int.tmod_eq_emod_of_nonneg (by omega)
  simp only [refT16, row16, plainS, leasedS, w1, w2, w3, t1, t2, yes, no, outS, Bool.cond_eq_ite, decide_eq_true_eq, beq_iff_eq, Bool.not_eq_true', beq_eq_false_iff_ne, decide_eq_false_iff_not, Bool.not_not]
  repeat' split
  all_goals first | rfl | (simp_all; done) | (simp_all; omega) | (exfalso; simp_all; omega) | (simp_all [Option.map, decR, Slt.val]; omega)
theorem ref17 {s : Slt} {own more : Int} (F : Facts s) (h0 : 0 ≤ own) (h1 : own ≤ 15) : refT17 s own more = outS s (row17 s more) := by
  obtain ⟨a, b, c, d, e, f, g, h, i⟩ := s
  obtain ⟨F1, F2, F3, F4, F5, F6, F7, F8, F9, F10, F11, F12, F13⟩ := F
  simp only at F1 F2 F3 F4 F5 F6 F7 F8 F9 F10 F11 F12 F13
  have w1 : IntKind.i64.wrap (i + 1) = i + 1 := wrap_small (by omega) (by omega)
  have w2 : IntKind.i64.wrap (g + 1) = g + 1 := wrap_small (by omega) (by omega)
  have w3 : IntKind.i64.wrap (f + 1) = f + 1 := wrap_small (by omega) (by omega)
  have t1 : (i + 1).tmod 32768 = (i + 1) % 32768 := Int.tmod_eq_emod_of_nonneg (by omega)
  have t2 : (g + 1).tmod 4096 = (g + 1) % 4096 := Int.tmod_eq_emod_of_nonneg (by omega)
  simp only [refT17, row17, plainS, leasedS, w1, w2, w3, t1, t2, yes, no, outS, Bool.cond_eq_ite, decide_eq_true_eq, beq_iff_eq, Bool.not_eq_true', beq_eq_false_iff_ne, decide_eq_false_iff_not, Bool.not_not]
  repeat' split
  all_goals first | rfl | (simp_all; done) | (simp_all; omega) | (exfalso; simp_all; omega) | (simp_all [Option.map, decR, Slt.val]; omega)
def bitsOK (n i : Nat) : Bool := (decide (bits .and .i64 n (2 ^ i : Nat) = if n / 2 ^ i % 2 = 1 then ((2 ^ i : Nat) : Int) else 0)) && (decide (n / 2 ^ i % 2 = 1) || decide (bits .or .i64 n (2 ^ i : Nat) = ((n + 2 ^ i : Nat) : Int))) && (decide (n / 2 ^ i % 2 = 0) || decide (bits .andNot .i64 n (2 ^ i : Nat) = ((n - 2 ^ i : Nat) : Int)))
theorem bits_all : (List.range 256).all (fun n => (List.range 8).all (bitsOK n)) = true := by kernel_rfl
theorem bits_at {c : Int} (h0 : 0 ≤ c) (h1 : c ≤ 255) (i : Nat) (hi : i < 8) : (bits .and .i64 c (2 ^ i : Nat) = if c / (2 ^ i : Nat) % 2 = 1 then ((2 ^ i : Nat) : Int) else 0) ∧ (c / (2 ^ i : Nat) % 2 ≠ 1 → bits .or .i64 c (2 ^ i : Nat) = c + (2 ^ i : Nat)) ∧ (c / (2 ^ i : Nat) % 2 = 1 → bits .andNot .i64 c (2 ^ i : Nat) = c - (2 ^ i : Nat)) := by
  have h := List.all_eq_true.1 (List.all_eq_true.1 bits_all c.toNat (List.mem_range.2 (by omega))) i (List.mem_range.2 hi)
  simp only [bitsOK, Bool.and_eq_true, Bool.or_eq_true, decide_eq_true_eq] at h
  obtain ⟨n, rfl⟩ : ∃ n : Nat, c = n := ⟨c.toNat, by omega⟩
  simp only [Int.toNat_natCast] at h
  obtain ⟨⟨h2, h3⟩, h4⟩ := h
  have e : ((n : Int) / ((2 ^ i : Nat) : Int) % 2) = ((n / 2 ^ i % 2 : Nat) : Int) := by simp
  rw [e]
  refine ⟨?_, fun hh => ?_, fun hh => ?_⟩
  · rw [h2]
    by_cases q : n / 2 ^ i % 2 = 1
    · rw [if_pos q, if_pos (by omega)]
    · rw [if_neg q, if_neg (by omega)]
  · rcases h3 with h3 | h3
    · omega
    · rw [h3]; omega
  · rcases h4 with h4 | h4
    · omega
    · rw [h4]
      have : 2 ^ i ≤ n := by
        rcases Nat.lt_or_ge n (2 ^ i) with hlt | hge
        · rw [Nat.div_eq_of_lt hlt] at hh; simp at hh
        · exact hge
      omega
theorem low_bound (c : Int) : 0 ≤ lowI c ∧ lowI c ≤ 8 := by
  unfold lowI
  repeat' split
  all_goals omega
theorem ref14 {s : Slt} {own more : Int} (F : Facts s) (h0 : 0 ≤ own) (h1 : own ≤ 15) : refT14 s own more = outS s (row14 s own more) := by
  obtain ⟨a, b, c, d, e, f, g, h, i⟩ := s
  obtain ⟨F1, F2, F3, F4, F5, F6, F7, F8, F9, F10, F11, F12, F13⟩ := F
  simp only at F1 F2 F3 F4 F5 F6 F7 F8 F9 F10 F11 F12 F13
  have w1 : IntKind.i64.wrap (i + 1) = i + 1 := wrap_small (by omega) (by omega)
  have t1 : (i + 1).tmod 32768 = (i + 1) % 32768 := Int.tmod_eq_emod_of_nonneg (by omega)
  obtain ⟨l0, l8⟩ := low_bound c
  have e1 : in255 c = true := by simp [in255]; omega
  simp only [refT14, row14, e1, yes, no, outS, cond_true]
  generalize lowI c = l at l0 l8 ⊢
  have e2 : in8 l = true := by simp [in8]; omega
  have p : (2 : Int) ^ l.toNat = 1 ∨ (2 : Int) ^ l.toNat = 2 ∨ (2 : Int) ^ l.toNat = 4 ∨ (2 : Int) ^ l.toNat = 8 ∨ (2 : Int) ^ l.toNat = 16 ∨ (2 : Int) ^ l.toNat = 32 ∨ (2 : Int) ^ l.toNat = 64 ∨ (2 : Int) ^ l.toNat = 128 ∨ (2 : Int) ^ l.toNat = 256 := by
    rcases (show l = 0 ∨ l = 1 ∨ l = 2 ∨ l = 3 ∨ l = 4 ∨ l = 5 ∨ l = 6 ∨ l = 7 ∨ l = 8 by omega) with rfl | rfl | rfl | rfl | rfl | rfl | rfl | rfl | rfl <;> decide
  generalize (2 : Int) ^ l.toNat = q at p
  have w4 : IntKind.i64.wrap (c + q) = c + q := wrap_small (by omega) (by omega)
  simp only [e2, w1, w4, cond_true, Bool.cond_eq_ite, decide_eq_true_eq, beq_iff_eq, Bool.not_eq_true', beq_eq_false_iff_ne, decide_eq_false_iff_not, Bool.not_not]
  repeat' split
  all_goals first | rfl | (simp_all; done) | (simp_all; omega) | (exfalso; simp_all; omega) | (simp_all [Option.map, decR, Slt.val]; omega)
theorem ref15 {s : Slt} {own more : Int} (F : Facts s) (h0 : 0 ≤ own) (h1 : own ≤ 15) : refT15 s own more = outS s (row15 s own more) := by
  obtain ⟨a, b, c, d, e, f, g, h, i⟩ := s
  obtain ⟨F1, F2, F3, F4, F5, F6, F7, F8, F9, F10, F11, F12, F13⟩ := F
  simp only at F1 F2 F3 F4 F5 F6 F7 F8 F9 F10 F11 F12 F13
  have w1 : IntKind.i64.wrap (i + 1) = i + 1 := wrap_small (by omega) (by omega)
  have t1 : (i + 1).tmod 32768 = (i + 1) % 32768 := Int.tmod_eq_emod_of_nonneg (by omega)
  simp only [refT15, row15, yes, no, outS]
  by_cases m0 : more < 0
  · simp only [w1, Bool.cond_eq_ite, decide_eq_true_eq, beq_iff_eq, Bool.not_eq_true', beq_eq_false_iff_ne, decide_eq_false_iff_not, Bool.not_not]
    repeat' split
    all_goals first | rfl | (simp_all; done) | (exfalso; simp_all; omega)
  by_cases m7 : more > 7
  · simp only [w1, Bool.cond_eq_ite, decide_eq_true_eq, beq_iff_eq, Bool.not_eq_true', beq_eq_false_iff_ne, decide_eq_false_iff_not, Bool.not_not]
    repeat' split
    all_goals first | rfl | (simp_all; done) | (exfalso; simp_all; omega)
  have e2 : in8 more = true := by simp [in8]; omega
  have p : (2 : Int) ^ more.toNat = 1 ∨ (2 : Int) ^ more.toNat = 2 ∨ (2 : Int) ^ more.toNat = 4 ∨ (2 : Int) ^ more.toNat = 8 ∨ (2 : Int) ^ more.toNat = 16 ∨ (2 : Int) ^ more.toNat = 32 ∨ (2 : Int) ^ more.toNat = 64 ∨ (2 : Int) ^ more.toNat = 128 := by
    rcases (show more = 0 ∨ more = 1 ∨ more = 2 ∨ more = 3 ∨ more = 4 ∨ more = 5 ∨ more = 6 ∨ more = 7 by omega) with rfl | rfl | rfl | rfl | rfl | rfl | rfl | rfl <;> decide
  generalize (2 : Int) ^ more.toNat = q at p
  have e3 : c.tdiv q = c / q := Int.tdiv_eq_ediv_of_nonneg (by omega)
  have e4 : IntKind.i64.wrap (c / q) = c / q := by
    refine wrap_small ?_ ?_ <;> rcases p with rfl | rfl | rfl | rfl | rfl | rfl | rfl | rfl <;> omega
  have e5 : (c / q).tmod 2 = c / q % 2 := Int.tmod_eq_emod_of_nonneg (by rcases p with rfl | rfl | rfl | rfl | rfl | rfl | rfl | rfl <;> omega)
  have e6 : c / q % 2 = 1 → IntKind.i64.wrap (c - q) = c - q := by
    intro hh
    refine wrap_small ?_ ?_ <;> rcases p with rfl | rfl | rfl | rfl | rfl | rfl | rfl | rfl <;> omega
  have e7 : q ≠ 0 := by omega
  simp only [e2, e3, e4, e5, w1, m0, m7, cond_true, Bool.cond_eq_ite, decide_eq_true_eq, beq_iff_eq, Bool.not_eq_true', beq_eq_false_iff_ne, decide_eq_false_iff_not, Bool.not_not]
  repeat' split
  all_goals first | rfl | (simp_all; done) | (simp_all; omega) | (exfalso; simp_all; omega) | (simp_all [Option.map, decR, Slt.val]; omega)
theorem life15 {s : Slt} {own more : Int} (F : Facts s) (h0 : 0 ≤ own) (h1 : own ≤ 15) : lifeT15 s own more = outS s (row15 s own more) := by
  obtain ⟨a, b, c, d, e, f, g, h, i⟩ := s
  obtain ⟨F1, F2, F3, F4, F5, F6, F7, F8, F9, F10, F11, F12, F13⟩ := F
  simp only at F1 F2 F3 F4 F5 F6 F7 F8 F9 F10 F11 F12 F13
  have w1 : IntKind.i64.wrap (i + 1) = i + 1 := wrap_small (by omega) (by omega)
  have t1 : (i + 1).tmod 32768 = (i + 1) % 32768 := Int.tmod_eq_emod_of_nonneg (by omega)
  simp only [lifeT15, row15, yes, no, outS]
  by_cases m0 : more < 0
  · simp only [w1, Bool.cond_eq_ite, decide_eq_true_eq, beq_iff_eq, Bool.not_eq_true', beq_eq_false_iff_ne, decide_eq_false_iff_not, Bool.not_not]
    repeat' split
    all_goals first | rfl | (simp_all; done) | (exfalso; simp_all; omega)
  by_cases m7 : more ≥ 8
  · simp only [w1, Bool.cond_eq_ite, decide_eq_true_eq, beq_iff_eq, Bool.not_eq_true', beq_eq_false_iff_ne, decide_eq_false_iff_not, Bool.not_not]
    repeat' split
    all_goals first | rfl | (simp_all; done) | (exfalso; simp_all; omega)
  have hb := bits_at F3.1 F3.2 more.toNat (by omega)
  have p : ((2 ^ more.toNat : Nat) : Int) = (2 : Int) ^ more.toNat := by simp
  rw [p] at hb
  have e2 : IntKind.i64.wrap (1 * 2 ^ min (Int.toNat more) 64) = (2 : Int) ^ more.toNat := by
    rcases (show more = 0 ∨ more = 1 ∨ more = 2 ∨ more = 3 ∨ more = 4 ∨ more = 5 ∨ more = 6 ∨ more = 7 by omega) with rfl | rfl | rfl | rfl | rfl | rfl | rfl | rfl <;> decide
  have e7 : (2 : Int) ^ more.toNat ≠ 0 := by
    rcases (show more = 0 ∨ more = 1 ∨ more = 2 ∨ more = 3 ∨ more = 4 ∨ more = 5 ∨ more = 6 ∨ more = 7 by omega) with rfl | rfl | rfl | rfl | rfl | rfl | rfl | rfl <;> decide
  rw [e2]
  generalize (2 : Int) ^ more.toNat = q at hb e7 ⊢
  obtain ⟨b1, b2, b3⟩ := hb
  by_cases hq : c / q % 2 = 1
  · rw [if_pos hq] at b1
    rw [b1, b3 hq]
    simp only [w1, t1, m0, m7, Bool.cond_eq_ite, decide_eq_true_eq, beq_iff_eq, Bool.not_eq_true', beq_eq_false_iff_ne, decide_eq_false_iff_not, Bool.not_not]
    repeat' split
    all_goals first | rfl | (simp_all; done) | (simp_all; omega) | (exfalso; simp_all; omega) | (simp_all [Option.map, decR, Slt.val]; omega)
  · rw [if_neg hq] at b1
    rw [b1]
    simp only [w1, t1, m0, m7, Bool.cond_eq_ite, decide_eq_true_eq, beq_iff_eq, Bool.not_eq_true', beq_eq_false_iff_ne, decide_eq_false_iff_not, Bool.not_not]
    repeat' split
    all_goals first | rfl | (simp_all; done) | (simp_all; omega) | (exfalso; simp_all; omega) | (simp_all [Option.map, decR, Slt.val]; omega)
theorem life14 {s : Slt} {own more : Int} (F : Facts s) (h0 : 0 ≤ own) (h1 : own ≤ 15) : lifeT14 s own more = outS s (row14 s own more) := by
  obtain ⟨a, b, c, d, e, f, g, h, i⟩ := s
  obtain ⟨F1, F2, F3, F4, F5, F6, F7, F8, F9, F10, F11, F12, F13⟩ := F
  simp only at F1 F2 F3 F4 F5 F6 F7 F8 F9 F10 F11 F12 F13
  have w1 : IntKind.i64.wrap (i + 1) = i + 1 := wrap_small (by omega) (by omega)
  have t1 : (i + 1).tmod 32768 = (i + 1) % 32768 := Int.tmod_eq_emod_of_nonneg (by omega)
  have q0 := bits_at F3.1 F3.2 0 (by decide)
  rw [show ((2 ^ 0 : Nat) : Int) = 1 from rfl] at q0
  have q1 := bits_at F3.1 F3.2 1 (by decide)
  rw [show ((2 ^ 1 : Nat) : Int) = 2 from rfl] at q1
  have q2 := bits_at F3.1 F3.2 2 (by decide)
  rw [show ((2 ^ 2 : Nat) : Int) = 4 from rfl] at q2
  have q3 := bits_at F3.1 F3.2 3 (by decide)
  rw [show ((2 ^ 3 : Nat) : Int) = 8 from rfl] at q3
  have q4 := bits_at F3.1 F3.2 4 (by decide)
  rw [show ((2 ^ 4 : Nat) : Int) = 16 from rfl] at q4
  have q5 := bits_at F3.1 F3.2 5 (by decide)
  rw [show ((2 ^ 5 : Nat) : Int) = 32 from rfl] at q5
  have q6 := bits_at F3.1 F3.2 6 (by decide)
  rw [show ((2 ^ 6 : Nat) : Int) = 64 from rfl] at q6
  have q7 := bits_at F3.1 F3.2 7 (by decide)
  rw [show ((2 ^ 7 : Nat) : Int) = 128 from rfl] at q7
  simp only [Int.ediv_one] at q0
  have hN : some (decR (Option.map (fun t : Slt => { t with ver := (i + 1) % 32768 }) none)) = some (decR none) := rfl
  by_cases ha : a = 3
  case neg =>
    have e1 : (a == 3) = false := by simpa using ha
    simp only [lifeT14, row14, no, outS, e1, cond_false]
    rw [if_neg (fun hh => ha hh.1)]
    rfl
  by_cases hb : b = own
  case neg =>
    have e1 : (b == own) = false := by simpa using hb
    have e2 : (a == 3) = true := by simpa using ha
    simp only [lifeT14, row14, no, outS, e1, e2, cond_true, Bool.not_false]
    rw [if_neg (fun hh => hb hh.2.1)]
    rfl
  cases d with
  | true =>
    have e1 : (b == own) = true := by simpa using hb
    have e2 : (a == 3) = true := by simpa using ha
    simp only [lifeT14, row14, no, outS, e1, e2, cond_true, cond_false, Bool.not_true]
    rw [if_neg (fun hh => by cases hh.2.2.1)]
    rfl
  | false =>
  have e1 : (b == own) = true := by simpa using hb
  have e2 : (a == 3) = true := by simpa using ha
  by_cases z0 : c % 2 = 1
  case neg =>
    have hl : lowI c = 0 := by simp [lowI, z0]
    have A0 : (bits .and .i64 c 1 == 0) = true := by rw [q0.1, if_neg z0]; rfl
    have B : bits .or .i64 c 1 = c + 1 := q0.2.1 z0
    have hp : (2 : Int) ^ (0 : Int).toNat = 1 := by decide
    by_cases hm : (0 : Int) < more
    · skip
      have M0 : decide ((0 : Int) < if 8 < more then 8 else more) = true := decide_eq_true (by split <;> omega)
      simp only [lifeT14, row14, yes, no, outS, hl, e1, e2, A0, M0, cond_true, cond_false, Bool.not_true, w1, t1, hp, B]
      rw [if_pos (by refine ⟨ha, hb, ?_, hm, ?_⟩ <;> first | trivial | rfl | decide)]
      rfl
    have M0 : decide ((0 : Int) < if 8 < more then 8 else more) = false := decide_eq_false (by split <;> omega)
    simp only [lifeT14, row14, yes, no, outS, hl, e1, e2, A0, M0, cond_true, cond_false, Bool.not_true, w1, t1, hp, B]
    rw [if_neg (fun hh => by have := hh.2.2.2; omega)]
    rfl
  by_cases z1 : c / 2 % 2 = 1
  case neg =>
    have hl : lowI c = 1 := by simp [lowI, z0, z1]
    have A0 : (bits .and .i64 c 1 == 0) = false := by rw [q0.1, if_pos z0]; rfl
    have A1 : (bits .and .i64 c 2 == 0) = true := by rw [q1.1, if_neg z1]; rfl
    have B : bits .or .i64 c 2 = c + 2 := q1.2.1 z1
    have hp : (2 : Int) ^ (1 : Int).toNat = 2 := by decide
    by_cases hm : (1 : Int) < more
    · skip
      have M0 : decide ((0 : Int) < if 8 < more then 8 else more) = true := decide_eq_true (by split <;> omega)
      have M1 : decide ((1 : Int) < if 8 < more then 8 else more) = true := decide_eq_true (by split <;> omega)
      simp only [lifeT14, row14, yes, no, outS, hl, e1, e2, A0, A1, M0, M1, cond_true, cond_false, Bool.not_true, w1, t1, hp, B]
      rw [if_pos (by refine ⟨ha, hb, ?_, hm, ?_⟩ <;> first | trivial | rfl | decide)]
      rfl
    by_cases n0 : more ≤ 0
    · skip
      have M0 : decide ((0 : Int) < if 8 < more then 8 else more) = false := decide_eq_false (by split <;> omega)
      simp only [lifeT14, row14, yes, no, outS, hl, e1, e2, A0, A1, M0, cond_true, cond_false, Bool.not_true, w1, t1, hp, B]
      rw [if_neg (fun hh => by have := hh.2.2.2; omega)]
      rfl
    have M0 : decide ((0 : Int) < if 8 < more then 8 else more) = true := decide_eq_true (by split <;> omega)
    have M1 : decide ((1 : Int) < if 8 < more then 8 else more) = false := decide_eq_false (by split <;> omega)
    simp only [lifeT14, row14, yes, no, outS, hl, e1, e2, A0, A1, M0, M1, cond_true, cond_false, Bool.not_true, w1, t1, hp, B]
    rw [if_neg (fun hh => by have := hh.2.2.2; omega)]
    rfl
  by_cases z2 : c / 4 % 2 = 1
  case neg =>
    have hl : lowI c = 2 := by simp [lowI, z0, z1, z2]
    have A0 : (bits .and .i64 c 1 == 0) = false := by rw [q0.1, if_pos z0]; rfl
    have A1 : (bits .and .i64 c 2 == 0) = false := by rw [q1.1, if_pos z1]; rfl
    have A2 : (bits .and .i64 c 4 == 0) = true := by rw [q2.1, if_neg z2]; rfl
    have B : bits .or .i64 c 4 = c + 4 := q2.2.1 z2
    have hp : (2 : Int) ^ (2 : Int).toNat = 4 := by decide
    by_cases hm : (2 : Int) < more
    · skip
      have M0 : decide ((0 : Int) < if 8 < more then 8 else more) = true := decide_eq_true (by split <;> omega)
      have M1 : decide ((1 : Int) < if 8 < more then 8 else more) = true := decide_eq_true (by split <;> omega)
      have M2 : decide ((2 : Int) < if 8 < more then 8 else more) = true := decide_eq_true (by split <;> omega)
      simp only [lifeT14, row14, yes, no, outS, hl, e1, e2, A0, A1, A2, M0, M1, M2, cond_true, cond_false, Bool.not_true, w1, t1, hp, B]
      rw [if_pos (by refine ⟨ha, hb, ?_, hm, ?_⟩ <;> first | trivial | rfl | decide)]
      rfl
    by_cases n0 : more ≤ 0
    · skip
      have M0 : decide ((0 : Int) < if 8 < more then 8 else more) = false := decide_eq_false (by split <;> omega)
      simp only [lifeT14, row14, yes, no, outS, hl, e1, e2, A0, A1, A2, M0, cond_true, cond_false, Bool.not_true, w1, t1, hp, B]
      rw [if_neg (fun hh => by have := hh.2.2.2; omega)]
      rfl
    by_cases n1 : more ≤ 1
    · skip
      have M0 : decide ((0 : Int) < if 8 < more then 8 else more) = true := decide_eq_true (by split <;> omega)
      have M1 : decide ((1 : Int) < if 8 < more then 8 else more) = false := decide_eq_false (by split <;> omega)
      simp only [lifeT14, row14, yes, no, outS, hl, e1, e2, A0, A1, A2, M0, M1, cond_true, cond_false, Bool.not_true, w1, t1, hp, B]
      rw [if_neg (fun hh => by have := hh.2.2.2; omega)]
      rfl
    have M0 : decide ((0 : Int) < if 8 < more then 8 else more) = true := decide_eq_true (by split <;> omega)
    have M1 : decide ((1 : Int) < if 8 < more then 8 else more) = true := decide_eq_true (by split <;> omega)
    have M2 : decide ((2 : Int) < if 8 < more then 8 else more) = false := decide_eq_false (by split <;> omega)
    simp only [lifeT14, row14, yes, no, outS, hl, e1, e2, A0, A1, A2, M0, M1, M2, cond_true, cond_false, Bool.not_true, w1, t1, hp, B]
    rw [if_neg (fun hh => by have := hh.2.2.2; omega)]
    rfl
  by_cases z3 : c / 8 % 2 = 1
  case neg =>
    have hl : lowI c = 3 := by simp [lowI, z0, z1, z2, z3]
    have A0 : (bits .and .i64 c 1 == 0) = false := by rw [q0.1, if_pos z0]; rfl
    have A1 : (bits .and .i64 c 2 == 0) = false := by rw [q1.1, if_pos z1]; rfl
    have A2 : (bits .and .i64 c 4 == 0) = false := by rw [q2.1, if_pos z2]; rfl
    have A3 : (bits .and .i64 c 8 == 0) = true := by rw [q3.1, if_neg z3]; rfl
    have B : bits .or .i64 c 8 = c + 8 := q3.2.1 z3
    have hp : (2 : Int) ^ (3 : Int).toNat = 8 := by decide
    by_cases hm : (3 : Int) < more
    · skip
      have M0 : decide ((0 : Int) < if 8 < more then 8 else more) = true := decide_eq_true (by split <;> omega)
      have M1 : decide ((1 : Int) < if 8 < more then 8 else more) = true := decide_eq_true (by split <;> omega)
      have M2 : decide ((2 : Int) < if 8 < more then 8 else more) = true := decide_eq_true (by split <;> omega)
      have M3 : decide ((3 : Int) < if 8 < more then 8 else more) = true := decide_eq_true (by split <;> omega)
      simp only [lifeT14, row14, yes, no, outS, hl, e1, e2, A0, A1, A2, A3, M0, M1, M2, M3, cond_true, cond_false, Bool.not_true, w1, t1, hp, B]
      rw [if_pos (by refine ⟨ha, hb, ?_, hm, ?_⟩ <;> first | trivial | rfl | decide)]
      rfl
    by_cases n0 : more ≤ 0
    · skip
      have M0 : decide ((0 : Int) < if 8 < more then 8 else more) = false := decide_eq_false (by split <;> omega)
      simp only [lifeT14, row14, yes, no, outS, hl, e1, e2, A0, A1, A2, A3, M0, cond_true, cond_false, Bool.not_true, w1, t1, hp, B]
      rw [if_neg (fun hh => by have := hh.2.2.2; omega)]
      rfl
    by_cases n1 : more ≤ 1
    · skip
      have M0 : decide ((0 : Int) < if 8 < more then 8 else more) = true := decide_eq_true (by split <;> omega)
      have M1 : decide ((1 : Int) < if 8 < more then 8 else more) = false := decide_eq_false (by split <;> omega)
      simp only [lifeT14, row14, yes, no, outS, hl, e1, e2, A0, A1, A2, A3, M0, M1, cond_true, cond_false, Bool.not_true, w1, t1, hp, B]
      rw [if_neg (fun hh => by have := hh.2.2.2; omega)]
      rfl
    by_cases n2 : more ≤ 2
    · skip
      have M0 : decide ((0 : Int) < if 8 < more then 8 else more) = true := decide_eq_true (by split <;> omega)
      have M1 : decide ((1 : Int) < if 8 < more then 8 else more) = true := decide_eq_true (by split <;> omega)
      have M2 : decide ((2 : Int) < if 8 < more then 8 else more) = false := decide_eq_false (by split <;> omega)
      simp only [lifeT14, row14, yes, no, outS, hl, e1, e2, A0, A1, A2, A3, M0, M1, M2, cond_true, cond_false, Bool.not_true, w1, t1, hp, B]
      rw [if_neg (fun hh => by have := hh.2.2.2; omega)]
      rfl
    have M0 : decide ((0 : Int) < if 8 < more then 8 else more) = true := decide_eq_true (by split <;> omega)
    have M1 : decide ((1 : Int) < if 8 < more then 8 else more) = true := decide_eq_true (by split <;> omega)
    have M2 : decide ((2 : Int) < if 8 < more then 8 else more) = true := decide_eq_true (by split <;> omega)
    have M3 : decide ((3 : Int) < if 8 < more then 8 else more) = false := decide_eq_false (by split <;> omega)
    simp only [lifeT14, row14, yes, no, outS, hl, e1, e2, A0, A1, A2, A3, M0, M1, M2, M3, cond_true, cond_false, Bool.not_true, w1, t1, hp, B]
    rw [if_neg (fun hh => by have := hh.2.2.2; omega)]
    rfl
  by_cases z4 : c / 16 % 2 = 1
  case neg =>
    have hl : lowI c = 4 := by simp [lowI, z0, z1, z2, z3, z4]
    have A0 : (bits .and .i64 c 1 == 0) = false := by rw [q0.1, if_pos z0]; rfl
    have A1 : (bits .and .i64 c 2 == 0) = false := by rw [q1.1, if_pos z1]; rfl
    have A2 : (bits .and .i64 c 4 == 0) = false := by rw [q2.1, if_pos z2]; rfl
    have A3 : (bits .and .i64 c 8 == 0) = false := by rw [q3.1, if_pos z3]; rfl
    have A4 : (bits .and .i64 c 16 == 0) = true := by rw [q4.1, if_neg z4]; rfl
    have B : bits .or .i64 c 16 = c + 16 := q4.2.1 z4
    have hp : (2 : Int) ^ (4 : Int).toNat = 16 := by decide
    by_cases hm : (4 : Int) < more
    · skip
      have M0 : decide ((0 : Int) < if 8 < more then 8 else more) = true := decide_eq_true (by split <;> omega)
      have M1 : decide ((1 : Int) < if 8 < more then 8 else more) = true := decide_eq_true (by split <;> omega)
      have M2 : decide ((2 : Int) < if 8 < more then 8 else more) = true := decide_eq_true (by split <;> omega)
      have M3 : decide ((3 : Int) < if 8 < more then 8 else more) = true := decide_eq_true (by split <;> omega)
      have M4 : decide ((4 : Int) < if 8 < more then 8 else more) = true := decide_eq_true (by split <;> omega)
      simp only [lifeT14, row14, yes, no, outS, hl, e1, e2, A0, A1, A2, A3, A4, M0, M1, M2, M3, M4, cond_true, cond_false, Bool.not_true, w1, t1, hp, B]
      rw [if_pos (by refine ⟨ha, hb, ?_, hm, ?_⟩ <;> first | trivial | rfl | decide)]
      rfl
    by_cases n0 : more ≤ 0
    · skip
      have M0 : decide ((0 : Int) < if 8 < more then 8 else more) = false := decide_eq_false (by split <;> omega)
      simp only [lifeT14, row14, yes, no, outS, hl, e1, e2, A0, A1, A2, A3, A4, M0, cond_true, cond_false, Bool.not_true, w1, t1, hp, B]
      rw [if_neg (fun hh => by have := hh.2.2.2; omega)]
      rfl
    by_cases n1 : more ≤ 1
    · skip
      have M0 : decide ((0 : Int) < if 8 < more then 8 else more) = true := decide_eq_true (by split <;> omega)
      have M1 : decide ((1 : Int) < if 8 < more then 8 else more) = false := decide_eq_false (by split <;> omega)
      simp only [lifeT14, row14, yes, no, outS, hl, e1, e2, A0, A1, A2, A3, A4, M0, M1, cond_true, cond_false, Bool.not_true, w1, t1, hp, B]
      rw [if_neg (fun hh => by have := hh.2.2.2; omega)]
      rfl
    by_cases n2 : more ≤ 2
    · skip
      have M0 : decide ((0 : Int) < if 8 < more then 8 else more) = true := decide_eq_true (by split <;> omega)
      have M1 : decide ((1 : Int) < if 8 < more then 8 else more) = true := decide_eq_true (by split <;> omega)
      have M2 : decide ((2 : Int) < if 8 < more then 8 else more) = false := decide_eq_false (by split <;> omega)
      simp only [lifeT14, row14, yes, no, outS, hl, e1, e2, A0, A1, A2, A3, A4, M0, M1, M2, cond_true, cond_false, Bool.not_true, w1, t1, hp, B]
      rw [if_neg (fun hh => by have := hh.2.2.2; omega)]
      rfl
    by_cases n3 : more ≤ 3
    · skip
      have M0 : decide ((0 : Int) < if 8 < more then 8 else more) = true := decide_eq_true (by split <;> omega)
      have M1 : decide ((1 : Int) < if 8 < more then 8 else more) = true := decide_eq_true (by split <;> omega)
      have M2 : decide ((2 : Int) < if 8 < more then 8 else more) = true := decide_eq_true (by split <;> omega)
      have M3 : decide ((3 : Int) < if 8 < more then 8 else more) = false := decide_eq_false (by split <;> omega)
      simp only [lifeT14, row14, yes, no, outS, hl, e1, e2, A0, A1, A2, A3, A4, M0, M1, M2, M3, cond_true, cond_false, Bool.not_true, w1, t1, hp, B]
      rw [if_neg (fun hh => by have := hh.2.2.2; omega)]
      rfl
    have M0 : decide ((0 : Int) < if 8 < more then 8 else more) = true := decide_eq_true (by split <;> omega)
    have M1 : decide ((1 : Int) < if 8 < more then 8 else more) = true := decide_eq_true (by split <;> omega)
    have M2 : decide ((2 : Int) < if 8 < more then 8 else more) = true := decide_eq_true (by split <;> omega)
    have M3 : decide ((3 : Int) < if 8 < more then 8 else more) = true := decide_eq_true (by split <;> omega)
    have M4 : decide ((4 : Int) < if 8 < more then 8 else more) = false := decide_eq_false (by split <;> omega)
    simp only [lifeT14, row14, yes, no, outS, hl, e1, e2, A0, A1, A2, A3, A4, M0, M1, M2, M3, M4, cond_true, cond_false, Bool.not_true, w1, t1, hp, B]
    rw [if_neg (fun hh => by have := hh.2.2.2; omega)]
    rfl
  by_cases z5 : c / 32 % 2 = 1
  case neg =>
    have hl : lowI c = 5 := by simp [lowI, z0, z1, z2, z3, z4, z5]
    have A0 : (bits .and .i64 c 1 == 0) = false := by rw [q0.1, if_pos z0]; rfl
    have A1 : (bits .and .i64 c 2 == 0) = false := by rw [q1.1, if_pos z1]; rfl
    have A2 : (bits .and .i64 c 4 == 0) = false := by rw [q2.1, if_pos z2]; rfl
    have A3 : (bits .and .i64 c 8 == 0) = false := by rw [q3.1, if_pos z3]; rfl
    have A4 : (bits .and .i64 c 16 == 0) = false := by rw [q4.1, if_pos z4]; rfl
    have A5 : (bits .and .i64 c 32 == 0) = true := by rw [q5.1, if_neg z5]; rfl
    have B : bits .or .i64 c 32 = c + 32 := q5.2.1 z5
    have hp : (2 : Int) ^ (5 : Int).toNat = 32 := by decide
    by_cases hm : (5 : Int) < more
    · skip
      have M0 : decide ((0 : Int) < if 8 < more then 8 else more) = true := decide_eq_true (by split <;> omega)
      have M1 : decide ((1 : Int) < if 8 < more then 8 else more) = true := decide_eq_true (by split <;> omega)
      have M2 : decide ((2 : Int) < if 8 < more then 8 else more) = true := decide_eq_true (by split <;> omega)
      have M3 : decide ((3 : Int) < if 8 < more then 8 else more) = true := decide_eq_true (by split <;> omega)
      have M4 : decide ((4 : Int) < if 8 < more then 8 else more) = true := decide_eq_true (by split <;> omega)
      have M5 : decide ((5 : Int) < if 8 < more then 8 else more) = true := decide_eq_true (by split <;> omega)
      simp only [lifeT14, row14, yes, no, outS, hl, e1, e2, A0, A1, A2, A3, A4, A5, M0, M1, M2, M3, M4, M5, cond_true, cond_false, Bool.not_true, w1, t1, hp, B]
      rw [if_pos (by refine ⟨ha, hb, ?_, hm, ?_⟩ <;> first | trivial | rfl | decide)]
      rfl
    by_cases n0 : more ≤ 0
    · skip
      have M0 : decide ((0 : Int) < if 8 < more then 8 else more) = false := decide_eq_false (by split <;> omega)
      simp only [lifeT14, row14, yes, no, outS, hl, e1, e2, A0, A1, A2, A3, A4, A5, M0, cond_true, cond_false, Bool.not_true, w1, t1, hp, B]
      rw [if_neg (fun hh => by have := hh.2.2.2; omega)]
      rfl
    by_cases n1 : more ≤ 1
    · skip
      have M0 : decide ((0 : Int) < if 8 < more then 8 else more) = true := decide_eq_true (by split <;> omega)
      have M1 : decide ((1 : Int) < if 8 < more then 8 else more) = false := decide_eq_false (by split <;> omega)
      simp only [lifeT14, row14, yes, no, outS, hl, e1, e2, A0, A1, A2, A3, A4, A5, M0, M1, cond_true, cond_false, Bool.not_true, w1, t1, hp, B]
      rw [if_neg (fun hh => by have := hh.2.2.2; omega)]
      rfl
    by_cases n2 : more ≤ 2
    · skip
      have M0 : decide ((0 : Int) < if 8 < more then 8 else more) = true := decide_eq_true (by split <;> omega)
      have M1 : decide ((1 : Int) < if 8 < more then 8 else more) = true := decide_eq_true (by split <;> omega)
      have M2 : decide ((2 : Int) < if 8 < more then 8 else more) = false := decide_eq_false (by split <;> omega)
      simp only [lifeT14, row14, yes, no, outS, hl, e1, e2, A0, A1, A2, A3, A4, A5, M0, M1, M2, cond_true, cond_false, Bool.not_true, w1, t1, hp, B]
      rw [if_neg (fun hh => by have := hh.2.2.2; omega)]
      rfl
    by_cases n3 : more ≤ 3
    · skip
      have M0 : decide ((0 : Int) < if 8 < more then 8 else more) = true := decide_eq_true (by split <;> omega)
      have M1 : decide ((1 : Int) < if 8 < more then 8 else more) = true := decide_eq_true (by split <;> omega)
      have M2 : decide ((2 : Int) < if 8 < more then 8 else more) = true := decide_eq_true (by split <;> omega)
      have M3 : decide ((3 : Int) < if 8 < more then 8 else more) = false := decide_eq_false (by split <;> omega)
      simp only [lifeT14, row14, yes, no, outS, hl, e1, e2, A0, A1, A2, A3, A4, A5, M0, M1, M2, M3, cond_true, cond_false, Bool.not_true, w1, t1, hp, B]
      rw [if_neg (fun hh => by have := hh.2.2.2; omega)]
      rfl
    by_cases n4 : more ≤ 4
    · skip
      have M0 : decide ((0 : Int) < if 8 < more then 8 else more) = true := decide_eq_true (by split <;> omega)
      have M1 : decide ((1 : Int) < if 8 < more then 8 else more) = true := decide_eq_true (by split <;> omega)
      have M2 : decide ((2 : Int) < if 8 < more then 8 else more) = true := decide_eq_true (by split <;> omega)
      have M3 : decide ((3 : Int) < if 8 < more then 8 else more) = true := decide_eq_true (by split <;> omega)
      have M4 : decide ((4 : Int) < if 8 < more then 8 else more) = false := decide_eq_false (by split <;> omega)
      simp only [lifeT14, row14, yes, no, outS, hl, e1, e2, A0, A1, A2, A3, A4, A5, M0, M1, M2, M3, M4, cond_true, cond_false, Bool.not_true, w1, t1, hp, B]
      rw [if_neg (fun hh => by have := hh.2.2.2; omega)]
      rfl
    have M0 : decide ((0 : Int) < if 8 < more then 8 else more) = true := decide_eq_true (by split <;> omega)
    have M1 : decide ((1 : Int) < if 8 < more then 8 else more) = true := decide_eq_true (by split <;> omega)
    have M2 : decide ((2 : Int) < if 8 < more then 8 else more) = true := decide_eq_true (by split <;> omega)
    have M3 : decide ((3 : Int) < if 8 < more then 8 else more) = true := decide_eq_true (by split <;> omega)
    have M4 : decide ((4 : Int) < if 8 < more then 8 else more) = true := decide_eq_true (by split <;> omega)
    have M5 : decide ((5 : Int) < if 8 < more then 8 else more) = false := decide_eq_false (by split <;> omega)
    simp only [lifeT14, row14, yes, no, outS, hl, e1, e2, A0, A1, A2, A3, A4, A5, M0, M1, M2, M3, M4, M5, cond_true, cond_false, Bool.not_true, w1, t1, hp, B]
    rw [if_neg (fun hh => by have := hh.2.2.2; omega)]
    rfl
  by_cases z6 : c / 64 % 2 = 1
  case neg =>
    have hl : lowI c = 6 := by simp [lowI, z0, z1, z2, z3, z4, z5, z6]
    have A0 : (bits .and .i64 c 1 == 0) = false := by rw [q0.1, if_pos z0]; rfl
    have A1 : (bits .and .i64 c 2 == 0) = false := by rw [q1.1, if_pos z1]; rfl
    have A2 : (bits .and .i64 c 4 == 0) = false := by rw [q2.1, if_pos z2]; rfl
    have A3 : (bits .and .i64 c 8 == 0) = false := by rw [q3.1, if_pos z3]; rfl
    have A4 : (bits .and .i64 c 16 == 0) = false := by rw [q4.1, if_pos z4]; rfl
    have A5 : (bits .and .i64 c 32 == 0) = false := by rw [q5.1, if_pos z5]; rfl
    have A6 : (bits .and .i64 c 64 == 0) = true := by rw [q6.1, if_neg z6]; rfl
    have B : bits .or .i64 c 64 = c + 64 := q6.2.1 z6
    have hp : (2 : Int) ^ (6 : Int).toNat = 64 := by decide
    by_cases hm : (6 : Int) < more
    · skip
      have M0 : decide ((0 : Int) < if 8 < more then 8 else more) = true := decide_eq_true (by split <;> omega)
      have M1 : decide ((1 : Int) < if 8 < more then 8 else more) = true := decide_eq_true (by split <;> omega)
      have M2 : decide ((2 : Int) < if 8 < more then 8 else more) = true := decide_eq_true (by split <;> omega)
      have M3 : decide ((3 : Int) < if 8 < more then 8 else more) = true := decide_eq_true (by split <;> omega)
      have M4 : decide ((4 : Int) < if 8 < more then 8 else more) = true := decide_eq_true (by split <;> omega)
      have M5 : decide ((5 : Int) < if 8 < more then 8 else more) = true := decide_eq_true (by split <;> omega)
      have M6 : decide ((6 : Int) < if 8 < more then 8 else more) = true := decide_eq_true (by split <;> omega)
      simp only [lifeT14, row14, yes, no, outS, hl, e1, e2, A0, A1, A2, A3, A4, A5, A6, M0, M1, M2, M3, M4, M5, M6, cond_true, cond_false, Bool.not_true, w1, t1, hp, B]
      rw [if_pos (by refine ⟨ha, hb, ?_, hm, ?_⟩ <;> first | trivial | rfl | decide)]
      rfl
    by_cases n0 : more ≤ 0
    · skip
      have M0 : decide ((0 : Int) < if 8 < more then 8 else more) = false := decide_eq_false (by split <;> omega)
      simp only [lifeT14, row14, yes, no, outS, hl, e1, e2, A0, A1, A2, A3, A4, A5, A6, M0, cond_true, cond_false, Bool.not_true, w1, t1, hp, B]
      rw [if_neg (fun hh => by have := hh.2.2.2; omega)]
      rfl
    by_cases n1 : more ≤ 1
    · skip
      have M0 : decide ((0 : Int) < if 8 < more then 8 else more) = true := decide_eq_true (by split <;> omega)
      have M1 : decide ((1 : Int) < if 8 < more then 8 else more) = false := decide_eq_false (by split <;> omega)
      simp only [lifeT14, row14, yes, no, outS, hl, e1, e2, A0, A1, A2, A3, A4, A5, A6, M0, M1, cond_true, cond_false, Bool.not_true, w1, t1, hp, B]
      rw [if_neg (fun hh => by have := hh.2.2.2; omega)]
      rfl
    by_cases n2 : more ≤ 2
    · skip
      have M0 : decide ((0 : Int) < if 8 < more then 8 else more) = true := decide_eq_true (by split <;> omega)
      have M1 : decide ((1 : Int) < if 8 < more then 8 else more) = true := decide_eq_true (by split <;> omega)
      have M2 : decide ((2 : Int) < if 8 < more then 8 else more) = false := decide_eq_false (by split <;> omega)
      simp only [lifeT14, row14, yes, no, outS, hl, e1, e2, A0, A1, A2, A3, A4, A5, A6, M0, M1, M2, cond_true, cond_false, Bool.not_true, w1, t1, hp, B]
      rw [if_neg (fun hh => by have := hh.2.2.2; omega)]
      rfl
    by_cases n3 : more ≤ 3
    · skip
      have M0 : decide ((0 : Int) < if 8 < more then 8 else more) = true := decide_eq_true (by split <;> omega)
      have M1 : decide ((1 : Int) < if 8 < more then 8 else more) = true := decide_eq_true (by split <;> omega)
      have M2 : decide ((2 : Int) < if 8 < more then 8 else more) = true := decide_eq_true (by split <;> omega)
      have M3 : decide ((3 : Int) < if 8 < more then 8 else more) = false := decide_eq_false (by split <;> omega)
      simp only [lifeT14, row14, yes, no, outS, hl, e1, e2, A0, A1, A2, A3, A4, A5, A6, M0, M1, M2, M3, cond_true, cond_false, Bool.not_true, w1, t1, hp, B]
      rw [if_neg (fun hh => by have := hh.2.2.2; omega)]
      rfl
    by_cases n4 : more ≤ 4
    · skip
      have M0 : decide ((0 : Int) < if 8 < more then 8 else more) = true := decide_eq_true (by split <;> omega)
      have M1 : decide ((1 : Int) < if 8 < more then 8 else more) = true := decide_eq_true (by split <;> omega)
      have M2 : decide ((2 : Int) < if 8 < more then 8 else more) = true := decide_eq_true (by split <;> omega)
      have M3 : decide ((3 : Int) < if 8 < more then 8 else more) = true := decide_eq_true (by split <;> omega)
      have M4 : decide ((4 : Int) < if 8 < more then 8 else more) = false := decide_eq_false (by split <;> omega)
      simp only [lifeT14, row14, yes, no, outS, hl, e1, e2, A0, A1, A2, A3, A4, A5, A6, M0, M1, M2, M3, M4, cond_true, cond_false, Bool.not_true, w1, t1, hp, B]
      rw [if_neg (fun hh => by have := hh.2.2.2; omega)]
      rfl
    by_cases n5 : more ≤ 5
    · skip
      have M0 : decide ((0 : Int) < if 8 < more then 8 else more) = true := decide_eq_true (by split <;> omega)
      have M1 : decide ((1 : Int) < if 8 < more then 8 else more) = true := decide_eq_true (by split <;> omega)
      have M2 : decide ((2 : Int) < if 8 < more then 8 else more) = true := decide_eq_true (by split <;> omega)
      have M3 : decide ((3 : Int) < if 8 < more then 8 else more) = true := decide_eq_true (by split <;> omega)
      have M4 : decide ((4 : Int) < if 8 < more then 8 else more) = true := decide_eq_true (by split <;> omega)
      have M5 : decide ((5 : Int) < if 8 < more then 8 else more) = false := decide_eq_false (by split <;> omega)
      simp only [lifeT14, row14, yes, no, outS, hl, e1, e2, A0, A1, A2, A3, A4, A5, A6, M0, M1, M2, M3, M4, M5, cond_true, cond_false, Bool.not_true, w1, t1, hp, B]
      rw [if_neg (fun hh => by have := hh.2.2.2; omega)]
      rfl
    have M0 : decide ((0 : Int) < if 8 < more then 8 else more) = true := decide_eq_true (by split <;> omega)
    have M1 : decide ((1 : Int) < if 8 < more then 8 else more) = true := decide_eq_true (by split <;> omega)
    have M2 : decide ((2 : Int) < if 8 < more then 8 else more) = true := decide_eq_true (by split <;> omega)
    have M3 : decide ((3 : Int) < if 8 < more then 8 else more) = true := decide_eq_true (by split <;> omega)
    have M4 : decide ((4 : Int) < if 8 < more then 8 else more) = true := decide_eq_true (by split <;> omega)
    have M5 : decide ((5 : Int) < if 8 < more then 8 else more) = true := decide_eq_true (by split <;> omega)
    have M6 : decide ((6 : Int) < if 8 < more then 8 else more) = false := decide_eq_false (by split <;> omega)
    simp only [lifeT14, row14, yes, no, outS, hl, e1, e2, A0, A1, A2, A3, A4, A5, A6, M0, M1, M2, M3, M4, M5, M6, cond_true, cond_false, Bool.not_true, w1, t1, hp, B]
    rw [if_neg (fun hh => by have := hh.2.2.2; omega)]
    rfl
  by_cases z7 : c / 128 % 2 = 1
  case neg =>
    have hl : lowI c = 7 := by simp [lowI, z0, z1, z2, z3, z4, z5, z6, z7]
    have A0 : (bits .and .i64 c 1 == 0) = false := by rw [q0.1, if_pos z0]; rfl
    have A1 : (bits .and .i64 c 2 == 0) = false := by rw [q1.1, if_pos z1]; rfl
    have A2 : (bits .and .i64 c 4 == 0) = false := by rw [q2.1, if_pos z2]; rfl
    have A3 : (bits .and .i64 c 8 == 0) = false := by rw [q3.1, if_pos z3]; rfl
    have A4 : (bits .and .i64 c 16 == 0) = false := by rw [q4.1, if_pos z4]; rfl
    have A5 : (bits .and .i64 c 32 == 0) = false := by rw [q5.1, if_pos z5]; rfl
    have A6 : (bits .and .i64 c 64 == 0) = false := by rw [q6.1, if_pos z6]; rfl
    have A7 : (bits .and .i64 c 128 == 0) = true := by rw [q7.1, if_neg z7]; rfl
    have B : bits .or .i64 c 128 = c + 128 := q7.2.1 z7
    have hp : (2 : Int) ^ (7 : Int).toNat = 128 := by decide
    by_cases hm : (7 : Int) < more
    · skip
      have M0 : decide ((0 : Int) < if 8 < more then 8 else more) = true := decide_eq_true (by split <;> omega)
      have M1 : decide ((1 : Int) < if 8 < more then 8 else more) = true := decide_eq_true (by split <;> omega)
      have M2 : decide ((2 : Int) < if 8 < more then 8 else more) = true := decide_eq_true (by split <;> omega)
      have M3 : decide ((3 : Int) < if 8 < more then 8 else more) = true := decide_eq_true (by split <;> omega)
      have M4 : decide ((4 : Int) < if 8 < more then 8 else more) = true := decide_eq_true (by split <;> omega)
      have M5 : decide ((5 : Int) < if 8 < more then 8 else more) = true := decide_eq_true (by split <;> omega)
      have M6 : decide ((6 : Int) < if 8 < more then 8 else more) = true := decide_eq_true (by split <;> omega)
      have M7 : decide ((7 : Int) < if 8 < more then 8 else more) = true := decide_eq_true (by split <;> omega)
      simp only [lifeT14, row14, yes, no, outS, hl, e1, e2, A0, A1, A2, A3, A4, A5, A6, A7, M0, M1, M2, M3, M4, M5, M6, M7, cond_true, cond_false, Bool.not_true, w1, t1, hp, B]
      rw [if_pos (by refine ⟨ha, hb, ?_, hm, ?_⟩ <;> first | trivial | rfl | decide)]
      rfl
    by_cases n0 : more ≤ 0
    · skip
      have M0 : decide ((0 : Int) < if 8 < more then 8 else more) = false := decide_eq_false (by split <;> omega)
      simp only [lifeT14, row14, yes, no, outS, hl, e1, e2, A0, A1, A2, A3, A4, A5, A6, A7, M0, cond_true, cond_false, Bool.not_true, w1, t1, hp, B]
      rw [if_neg (fun hh => by have := hh.2.2.2; omega)]
      rfl
    by_cases n1 : more ≤ 1
    · skip
      have M0 : decide ((0 : Int) < if 8 < more then 8 else more) = true := decide_eq_true (by split <;> omega)
      have M1 : decide ((1 : Int) < if 8 < more then 8 else more) = false := decide_eq_false (by split <;> omega)
      simp only [lifeT14, row14, yes, no, outS, hl, e1, e2, A0, A1, A2, A3, A4, A5, A6, A7, M0, M1, cond_true, cond_false, Bool.not_true, w1, t1, hp, B]
      rw [if_neg (fun hh => by have := hh.2.2.2; omega)]
      rfl
    by_cases n2 : more ≤ 2
    · skip
      have M0 : decide ((0 : Int) < if 8 < more then 8 else more) = true := decide_eq_true (by split <;> omega)
      have M1 : decide ((1 : Int) < if 8 < more then 8 else more) = true := decide_eq_true (by split <;> omega)
      have M2 : decide ((2 : Int) < if 8 < more then 8 else more) = false := decide_eq_false (by split <;> omega)
      simp only [lifeT14, row14, yes, no, outS, hl, e1, e2, A0, A1, A2, A3, A4, A5, A6, A7, M0, M1, M2, cond_true, cond_false, Bool.not_true, w1, t1, hp, B]
      rw [if_neg (fun hh => by have := hh.2.2.2; omega)]
      rfl
    by_cases n3 : more ≤ 3
    · skip
      have M0 : decide ((0 : Int) < if 8 < more then 8 else more) = true := decide_eq_true (by split <;> omega)
      have M1 : decide ((1 : Int) < if 8 < more then 8 else more) = true := decide_eq_true (by split <;> omega)
      have M2 : decide ((2 : Int) < if 8 < more then 8 else more) = true := decide_eq_true (by split <;> omega)
      have M3 : decide ((3 : Int) < if 8 < more then 8 else more) = false := decide_eq_false (by split <;> omega)
      simp only [lifeT14, row14, yes, no, outS, hl, e1, e2, A0, A1, A2, A3, A4, A5, A6, A7, M0, M1, M2, M3, cond_true, cond_false, Bool.not_true, w1, t1, hp, B]
      rw [if_neg (fun hh => by have := hh.2.2.2; omega)]
      rfl
    by_cases n4 : more ≤ 4
    · skip
      have M0 : decide ((0 : Int) < if 8 < more then 8 else more) = true := decide_eq_true (by split <;> omega)
      have M1 : decide ((1 : Int) < if 8 < more then 8 else more) = true := decide_eq_true (by split <;> omega)
      have M2 : decide ((2 : Int) < if 8 < more then 8 else more) = true := decide_eq_true (by split <;> omega)
      have M3 : decide ((3 : Int) < if 8 < more then 8 else more) = true := decide_eq_true (by split <;> omega)
      have M4 : decide ((4 : Int) < if 8 < more then 8 else more) = false := decide_eq_false (by split <;> omega)
      simp only [lifeT14, row14, yes, no, outS, hl, e1, e2, A0, A1, A2, A3, A4, A5, A6, A7, M0, M1, M2, M3, M4, cond_true, cond_false, Bool.not_true, w1, t1, hp, B]
      rw [if_neg (fun hh => by have := hh.2.2.2; omega)]
      rfl
    by_cases n5 : more ≤ 5
    · skip
      have M0 : decide ((0 : Int) < if 8 < more then 8 else more) = true := decide_eq_true (by split <;> omega)
      have M1 : decide ((1 : Int) < if 8 < more then 8 else more) = true := decide_eq_true (by split <;> omega)
      have M2 : decide ((2 : Int) < if 8 < more then 8 else more) = true := decide_eq_true (by split <;> omega)
      have M3 : decide ((3 : Int) < if 8 < more then 8 else more) = true := decide_eq_true (by split <;> omega)
      have M4 : decide ((4 : Int) < if 8 < more then 8 else more) = true := decide_eq_true (by split <;> omega)
      have M5 : decide ((5 : Int) < if 8 < more then 8 else more) = false := decide_eq_false (by split <;> omega)
      simp only [lifeT14, row14, yes, no, outS, hl, e1, e2, A0, A1, A2, A3, A4, A5, A6, A7, M0, M1, M2, M3, M4, M5, cond_true, cond_false, Bool.not_true, w1, t1, hp, B]
      rw [if_neg (fun hh => by have := hh.2.2.2; omega)]
      rfl
    by_cases n6 : more ≤ 6
    · skip
      have M0 : decide ((0 : Int) < if 8 < more then 8 else more) = true := decide_eq_true (by split <;> omega)
      have M1 : decide ((1 : Int) < if 8 < more then 8 else more) = true := decide_eq_true (by split <;> omega)
      have M2 : decide ((2 : Int) < if 8 < more then 8 else more) = true := decide_eq_true (by split <;> omega)
      have M3 : decide ((3 : Int) < if 8 < more then 8 else more) = true := decide_eq_true (by split <;> omega)
      have M4 : decide ((4 : Int) < if 8 < more then 8 else more) = true := decide_eq_true (by split <;> omega)
      have M5 : decide ((5 : Int) < if 8 < more then 8 else more) = true := decide_eq_true (by split <;> omega)
      have M6 : decide ((6 : Int) < if 8 < more then 8 else more) = false := decide_eq_false (by split <;> omega)
      simp only [lifeT14, row14, yes, no, outS, hl, e1, e2, A0, A1, A2, A3, A4, A5, A6, A7, M0, M1, M2, M3, M4, M5, M6, cond_true, cond_false, Bool.not_true, w1, t1, hp, B]
      rw [if_neg (fun hh => by have := hh.2.2.2; omega)]
      rfl
    have M0 : decide ((0 : Int) < if 8 < more then 8 else more) = true := decide_eq_true (by split <;> omega)
    have M1 : decide ((1 : Int) < if 8 < more then 8 else more) = true := decide_eq_true (by split <;> omega)
    have M2 : decide ((2 : Int) < if 8 < more then 8 else more) = true := decide_eq_true (by split <;> omega)
    have M3 : decide ((3 : Int) < if 8 < more then 8 else more) = true := decide_eq_true (by split <;> omega)
    have M4 : decide ((4 : Int) < if 8 < more then 8 else more) = true := decide_eq_true (by split <;> omega)
    have M5 : decide ((5 : Int) < if 8 < more then 8 else more) = true := decide_eq_true (by split <;> omega)
    have M6 : decide ((6 : Int) < if 8 < more then 8 else more) = true := decide_eq_true (by split <;> omega)
    have M7 : decide ((7 : Int) < if 8 < more then 8 else more) = false := decide_eq_false (by split <;> omega)
    simp only [lifeT14, row14, yes, no, outS, hl, e1, e2, A0, A1, A2, A3, A4, A5, A6, A7, M0, M1, M2, M3, M4, M5, M6, M7, cond_true, cond_false, Bool.not_true, w1, t1, hp, B]
    rw [if_neg (fun hh => by have := hh.2.2.2; omega)]
    rfl
  have hl : lowI c = 8 := by simp [lowI, z0, z1, z2, z3, z4, z5, z6, z7]
  have A0 : (bits .and .i64 c 1 == 0) = false := by rw [q0.1, if_pos z0]; rfl
  have A1 : (bits .and .i64 c 2 == 0) = false := by rw [q1.1, if_pos z1]; rfl
  have A2 : (bits .and .i64 c 4 == 0) = false := by rw [q2.1, if_pos z2]; rfl
  have A3 : (bits .and .i64 c 8 == 0) = false := by rw [q3.1, if_pos z3]; rfl
  have A4 : (bits .and .i64 c 16 == 0) = false := by rw [q4.1, if_pos z4]; rfl
  have A5 : (bits .and .i64 c 32 == 0) = false := by rw [q5.1, if_pos z5]; rfl
  have A6 : (bits .and .i64 c 64 == 0) = false := by rw [q6.1, if_pos z6]; rfl
  have A7 : (bits .and .i64 c 128 == 0) = false := by rw [q7.1, if_pos z7]; rfl
  have hp : (2 : Int) ^ (8 : Int).toNat = 256 := by decide
  by_cases n0 : more ≤ 0
  · skip
    have M0 : decide ((0 : Int) < if 8 < more then 8 else more) = false := decide_eq_false (by split <;> omega)
    simp only [lifeT14, row14, yes, no, outS, hl, e1, e2, A0, A1, A2, A3, A4, A5, A6, A7, M0, cond_true, cond_false, Bool.not_true, w1, t1, hp]
    rw [if_neg (fun hh => by have := hh.2.2.2; omega)]
    rfl
  by_cases n1 : more ≤ 1
  · skip
    have M0 : decide ((0 : Int) < if 8 < more then 8 else more) = true := decide_eq_true (by split <;> omega)
    have M1 : decide ((1 : Int) < if 8 < more then 8 else more) = false := decide_eq_false (by split <;> omega)
    simp only [lifeT14, row14, yes, no, outS, hl, e1, e2, A0, A1, A2, A3, A4, A5, A6, A7, M0, M1, cond_true, cond_false, Bool.not_true, w1, t1, hp]
    rw [if_neg (fun hh => by have := hh.2.2.2; omega)]
    rfl
  by_cases n2 : more ≤ 2
  · skip
    have M0 : decide ((0 : Int) < if 8 < more then 8 else more) = true := decide_eq_true (by split <;> omega)
    have M1 : decide ((1 : Int) < if 8 < more then 8 else more) = true := decide_eq_true (by split <;> omega)
    have M2 : decide ((2 : Int) < if 8 < more then 8 else more) = false := decide_eq_false (by split <;> omega)
    simp only [lifeT14, row14, yes, no, outS, hl, e1, e2, A0, A1, A2, A3, A4, A5, A6, A7, M0, M1, M2, cond_true, cond_false, Bool.not_true, w1, t1, hp]
    rw [if_neg (fun hh => by have := hh.2.2.2; omega)]
    rfl
  by_cases n3 : more ≤ 3
  · skip
    have M0 : decide ((0 : Int) < if 8 < more then 8 else more) = true := decide_eq_true (by split <;> omega)
    have M1 : decide ((1 : Int) < if 8 < more then 8 else more) = true := decide_eq_true (by split <;> omega)
    have M2 : decide ((2 : Int) < if 8 < more then 8 else more) = true := decide_eq_true (by split <;> omega)
    have M3 : decide ((3 : Int) < if 8 < more then 8 else more) = false := decide_eq_false (by split <;> omega)
    simp only [lifeT14, row14, yes, no, outS, hl, e1, e2, A0, A1, A2, A3, A4, A5, A6, A7, M0, M1, M2, M3, cond_true, cond_false, Bool.not_true, w1, t1, hp]
    rw [if_neg (fun hh => by have := hh.2.2.2; omega)]
    rfl
  by_cases n4 : more ≤ 4
  · skip
    have M0 : decide ((0 : Int) < if 8 < more then 8 else more) = true := decide_eq_true (by split <;> omega)
    have M1 : decide ((1 : Int) < if 8 < more then 8 else more) = true := decide_eq_true (by split <;> omega)
    have M2 : decide ((2 : Int) < if 8 < more then 8 else more) = true := decide_eq_true (by split <;> omega)
    have M3 : decide ((3 : Int) < if 8 < more then 8 else more) = true := decide_eq_true (by split <;> omega)
    have M4 : decide ((4 : Int) < if 8 < more then 8 else more) = false := decide_eq_false (by split <;> omega)
    simp only [lifeT14, row14, yes, no, outS, hl, e1, e2, A0, A1, A2, A3, A4, A5, A6, A7, M0, M1, M2, M3, M4, cond_true, cond_false, Bool.not_true, w1, t1, hp]
    rw [if_neg (fun hh => by have := hh.2.2.2; omega)]
    rfl
  by_cases n5 : more ≤ 5
  · skip
    have M0 : decide ((0 : Int) < if 8 < more then 8 else more) = true := decide_eq_true (by split <;> omega)
    have M1 : decide ((1 : Int) < if 8 < more then 8 else more) = true := decide_eq_true (by split <;> omega)
    have M2 : decide ((2 : Int) < if 8 < more then 8 else more) = true := decide_eq_true (by split <;> omega)
    have M3 : decide ((3 : Int) < if 8 < more then 8 else more) = true := decide_eq_true (by split <;> omega)
    have M4 : decide ((4 : Int) < if 8 < more then 8 else more) = true := decide_eq_true (by split <;> omega)
    have M5 : decide ((5 : Int) < if 8 < more then 8 else more) = false := decide_eq_false (by split <;> omega)
    simp only [lifeT14, row14, yes, no, outS, hl, e1, e2, A0, A1, A2, A3, A4, A5, A6, A7, M0, M1, M2, M3, M4, M5, cond_true, cond_false, Bool.not_true, w1, t1, hp]
    rw [if_neg (fun hh => by have := hh.2.2.2; omega)]
    rfl
  by_cases n6 : more ≤ 6
  · skip
    have M0 : decide ((0 : Int) < if 8 < more then 8 else more) = true := decide_eq_true (by split <;> omega)
    have M1 : decide ((1 : Int) < if 8 < more then 8 else more) = true := decide_eq_true (by split <;> omega)
    have M2 : decide ((2 : Int) < if 8 < more then 8 else more) = true := decide_eq_true (by split <;> omega)
    have M3 : decide ((3 : Int) < if 8 < more then 8 else more) = true := decide_eq_true (by split <;> omega)
    have M4 : decide ((4 : Int) < if 8 < more then 8 else more) = true := decide_eq_true (by split <;> omega)
    have M5 : decide ((5 : Int) < if 8 < more then 8 else more) = true := decide_eq_true (by split <;> omega)
    have M6 : decide ((6 : Int) < if 8 < more then 8 else more) = false := decide_eq_false (by split <;> omega)
    simp only [lifeT14, row14, yes, no, outS, hl, e1, e2, A0, A1, A2, A3, A4, A5, A6, A7, M0, M1, M2, M3, M4, M5, M6, cond_true, cond_false, Bool.not_true, w1, t1, hp]
    rw [if_neg (fun hh => by have := hh.2.2.2; omega)]
    rfl
  by_cases n7 : more ≤ 7
  · skip
    have M0 : decide ((0 : Int) < if 8 < more then 8 else more) = true := decide_eq_true (by split <;> omega)
    have M1 : decide ((1 : Int) < if 8 < more then 8 else more) = true := decide_eq_true (by split <;> omega)
    have M2 : decide ((2 : Int) < if 8 < more then 8 else more) = true := decide_eq_true (by split <;> omega)
    have M3 : decide ((3 : Int) < if 8 < more then 8 else more) = true := decide_eq_true (by split <;> omega)
    have M4 : decide ((4 : Int) < if 8 < more then 8 else more) = true := decide_eq_true (by split <;> omega)
    have M5 : decide ((5 : Int) < if 8 < more then 8 else more) = true := decide_eq_true (by split <;> omega)
    have M6 : decide ((6 : Int) < if 8 < more then 8 else more) = true := decide_eq_true (by split <;> omega)
    have M7 : decide ((7 : Int) < if 8 < more then 8 else more) = false := decide_eq_false (by split <;> omega)
    simp only [lifeT14, row14, yes, no, outS, hl, e1, e2, A0, A1, A2, A3, A4, A5, A6, A7, M0, M1, M2, M3, M4, M5, M6, M7, cond_true, cond_false, Bool.not_true, w1, t1, hp]
    rw [if_neg (fun hh => by have := hh.2.2.2; omega)]
    rfl
  have M0 : decide ((0 : Int) < if 8 < more then 8 else more) = true := decide_eq_true (by split <;> omega)
  have M1 : decide ((1 : Int) < if 8 < more then 8 else more) = true := decide_eq_true (by split <;> omega)
  have M2 : decide ((2 : Int) < if 8 < more then 8 else more) = true := decide_eq_true (by split <;> omega)
  have M3 : decide ((3 : Int) < if 8 < more then 8 else more) = true := decide_eq_true (by split <;> omega)
  have M4 : decide ((4 : Int) < if 8 < more then 8 else more) = true := decide_eq_true (by split <;> omega)
  have M5 : decide ((5 : Int) < if 8 < more then 8 else more) = true := decide_eq_true (by split <;> omega)
  have M6 : decide ((6 : Int) < if 8 < more then 8 else more) = true := decide_eq_true (by split <;> omega)
  have M7 : decide ((7 : Int) < if 8 < more then 8 else more) = true := decide_eq_true (by split <;> omega)
  have M8 : decide ((8 : Int) < if 8 < more then 8 else more) = false := decide_eq_false (by split <;> omega)
  simp only [lifeT14, row14, yes, no, outS, hl, e1, e2, A0, A1, A2, A3, A4, A5, A6, A7, M0, M1, M2, M3, M4, M5, M6, M7, M8, cond_true, cond_false, Bool.not_true, w1, t1, hp]
  rw [if_neg (fun hh => by have := hh.2.2.2; omega)]
  rfl
theorem life_all (s : Slt) (k own more : Int) (F : Facts s) (h0 : 0 ≤ own) (h1 : own ≤ 15) : lifeRest s k own more = outS s (rowS s k own more) := by
  by_cases hk : k < 0 ∨ k ≥ 18
  · have hr : rowS s k own more = none := by
      unfold rowS
      rw [if_neg (by omega), if_neg (by omega), if_neg (by omega), if_neg (by omega), if_neg (by omega), if_neg (by omega), if_neg (by omega), if_neg (by omega), if_neg (by omega), if_neg (by omega), if_neg (by omega), if_neg (by omega), if_neg (by omega), if_neg (by omega), if_neg (by omega), if_neg (by omega), if_neg (by omega), if_neg (by omega)]
    rw [hr]
    rcases hk with hk | hk
    · simp [lifeRest, hk, outS, no]
    · simp [lifeRest, hk, show ¬ k < 0 by omega, outS, no]
  · rcases (show k = 0 ∨ k = 1 ∨ k = 2 ∨ k = 3 ∨ k = 4 ∨ k = 5 ∨ k = 6 ∨ k = 7 ∨ k = 8 ∨ k = 9 ∨ k = 10 ∨ k = 11 ∨ k = 12 ∨ k = 13 ∨ k = 14 ∨ k = 15 ∨ k = 16 ∨ k = 17 by omega) with rfl | rfl | rfl | rfl | rfl | rfl | rfl | rfl | rfl | rfl | rfl | rfl | rfl | rfl | rfl | rfl | rfl | rfl
    · exact Eq.trans (b := lifeT0 s own more) (by kernel_rfl) ((life0 F h0 h1).trans (by kernel_rfl))
    · exact Eq.trans (b := lifeT1 s own more) (by kernel_rfl) ((life1 F h0 h1).trans (by kernel_rfl))
    · exact Eq.trans (b := lifeT2 s own more) (by kernel_rfl) ((life2 F h0 h1).trans (by kernel_rfl))
    · exact Eq.trans (b := lifeT3 s own more) (by kernel_rfl) ((life3 F h0 h1).trans (by kernel_rfl))
    · exact Eq.trans (b := lifeT4 s own more) (by kernel_rfl) ((life4 F h0 h1).trans (by kernel_rfl))
    · exact Eq.trans (b := lifeT5 s own more) (by kernel_rfl) ((life5 F h0 h1).trans (by kernel_rfl))
    · exact Eq.trans (b := lifeT6 s own more) (by kernel_rfl) ((life6 F h0 h1).trans (by kernel_rfl))
    · exact Eq.trans (b := lifeT7 s own more) (by kernel_rfl) ((life7 F h0 h1).trans (by kernel_rfl))
    · exact Eq.trans (b := lifeT8 s own more) (by kernel_rfl) ((life8 F h0 h1).trans (by kernel_rfl))
    · exact Eq.trans (b := lifeT9 s own more) (by kernel_rfl) ((life9 F h0 h1).trans (by kernel_rfl))
    · exact Eq.trans (b := lifeT10 s own more) (by kernel_rfl) ((life10 F h0 h1).trans (by kernel_rfl))
    · exact Eq.trans (b := lifeT11 s own more) (by kernel_rfl) ((life11 F h0 h1).trans (by kernel_rfl))
    · exact Eq.trans (b := lifeT12 s own more) (by kernel_rfl) ((life12 F h0 h1).trans (by kernel_rfl))
    · exact Eq.trans (b := lifeT13 s own more) (by kernel_rfl) ((life13 F h0 h1).trans (by kernel_rfl))
    · exact Eq.trans (b := lifeT14 s own more) (by kernel_rfl) ((life14 F h0 h1).trans (by kernel_rfl))
    · exact Eq.trans (b := lifeT15 s own more) (by kernel_rfl) ((life15 F h0 h1).trans (by kernel_rfl))
    · exact Eq.trans (b := lifeT16 s own more) (by kernel_rfl) ((life16 F h0 h1).trans (by kernel_rfl))
    · exact Eq.trans (b := lifeT17 s own more) (by kernel_rfl) ((life17 F h0 h1).trans (by kernel_rfl))
theorem life_any (s : Slt) (k own more : Int) (w : World) (hT : Tab w) : Calls Tryd.prog 59 #[s.val, .int .i64 k, .int .i64 own, .int .i64 more] w fun e w' => e = .returned (decR (nextS s k own more)) ∧ Below w.heap.size w w' :=
  call_start (lifeEnv_ok _ w hT.lt (bnd_self w) hT) rfl (fuel := 30) (args := [s.val, .int .i64 k, .int .i64 own, .int .i64 more]) ((life_tree s k own more).trans (next_pre fun F h0 h1 => life_all s k own more F h0 h1)) (plain_decR _) (by simp [decR, undef]) (by simp [Slt.val, Go.Sx.plain, plain1])
theorem ref_all (s : Slt) (k own more : Int) (F : Facts s) (h0 : 0 ≤ own) (h1 : own ≤ 15) : refRest s k own more = outS s (rowS s k own more) := by
  by_cases hk : k < 0 ∨ k ≥ 18
  · have hr : rowS s k own more = none := by
      unfold rowS
      rw [if_neg (by omega), if_neg (by omega), if_neg (by omega), if_neg (by omega), if_neg (by omega), if_neg (by omega), if_neg (by omega), if_neg (by omega), if_neg (by omega), if_neg (by omega), if_neg (by omega), if_neg (by omega), if_neg (by omega), if_neg (by omega), if_neg (by omega), if_neg (by omega), if_neg (by omega), if_neg (by omega)]
    rw [hr]
    simp only [refRest, show (k == 0) = false by simp; omega, show (k == 1) = false by simp; omega, show (k == 2) = false by simp; omega, show (k == 3) = false by simp; omega, show (k == 4) = false by simp; omega, show (k == 5) = false by simp; omega, show (k == 6) = false by simp; omega, show (k == 7) = false by simp; omega, show (k == 8) = false by simp; omega, show (k == 9) = false by simp; omega, show (k == 10) = false by simp; omega, show (k == 11) = false by simp; omega, show (k == 12) = false by simp; omega, show (k == 13) = false by simp; omega, show (k == 14) = false by simp; omega, show (k == 15) = false by simp; omega, show (k == 16) = false by simp; omega, show (k == 17) = false by simp; omega, cond_false, outS, no, Option.map_none]
  · rcases (show k = 0 ∨ k = 1 ∨ k = 2 ∨ k = 3 ∨ k = 4 ∨ k = 5 ∨ k = 6 ∨ k = 7 ∨ k = 8 ∨ k = 9 ∨ k = 10 ∨ k = 11 ∨ k = 12 ∨ k = 13 ∨ k = 14 ∨ k = 15 ∨ k = 16 ∨ k = 17 by omega) with rfl | rfl | rfl | rfl | rfl | rfl | rfl | rfl | rfl | rfl | rfl | rfl | rfl | rfl | rfl | rfl | rfl | rfl
    · exact Eq.trans (b := refT0 s own more) (by kernel_rfl) ((ref0 F h0 h1).trans (by kernel_rfl))
    · exact Eq.trans (b := refT1 s own more) (by kernel_rfl) ((ref1 F h0 h1).trans (by kernel_rfl))
    · exact Eq.trans (b := refT2 s own more) (by kernel_rfl) ((ref2 F h0 h1).trans (by kernel_rfl))
    · exact Eq.trans (b := refT3 s own more) (by kernel_rfl) ((ref3 F h0 h1).trans (by kernel_rfl))
    · exact Eq.trans (b := refT4 s own more) (by kernel_rfl) ((ref4 F h0 h1).trans (by kernel_rfl))
    · exact Eq.trans (b := refT5 s own more) (by kernel_rfl) ((ref5 F h0 h1).trans (by kernel_rfl))
    · exact Eq.trans (b := refT6 s own more) (by kernel_rfl) ((ref6 F h0 h1).trans (by kernel_rfl))
    · exact Eq.trans (b := refT7 s own more) (by kernel_rfl) ((ref7 F h0 h1).trans (by kernel_rfl))
    · exact Eq.trans (b := refT8 s own more) (by kernel_rfl) ((ref8 F h0 h1).trans (by kernel_rfl))
    · exact Eq.trans (b := refT9 s own more) (by kernel_rfl) ((ref9 F h0 h1).trans (by kernel_rfl))
    · exact Eq.trans (b := refT10 s own more) (by kernel_rfl) ((ref10 F h0 h1).trans (by kernel_rfl))
    · exact Eq.trans (b := refT11 s own more) (by kernel_rfl) ((ref11 F h0 h1).trans (by kernel_rfl))
    · exact Eq.trans (b := refT12 s own more) (by kernel_rfl) ((ref12 F h0 h1).trans (by kernel_rfl))
    · exact Eq.trans (b := refT13 s own more) (by kernel_rfl) ((ref13 F h0 h1).trans (by kernel_rfl))
    · exact Eq.trans (b := refT14 s own more) (by kernel_rfl) ((ref14 F h0 h1).trans (by kernel_rfl))
    · exact Eq.trans (b := refT15 s own more) (by kernel_rfl) ((ref15 F h0 h1).trans (by kernel_rfl))
    · exact Eq.trans (b := refT16 s own more) (by kernel_rfl) ((ref16 F h0 h1).trans (by kernel_rfl))
    · exact Eq.trans (b := refT17 s own more) (by kernel_rfl) ((ref17 F h0 h1).trans (by kernel_rfl))
end Go.Proofs.YthfoljgaiincdaaDoor
