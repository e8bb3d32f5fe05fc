/-
  The library's functions that the program calls, as the clean evaluator takes them.
-/
import Derived.Test.YtiegjnklhafloaaDoorCl0
import Derived.Test.YtiegjnklhafloaaDoorPLib
namespace Go.Cl
open Go

/-- strings.CutSuffix -/
def p121 : List CV → Heap → Option (CV × Heap)
  | [.str s, .str p], h => if s.length ≤ 9223372036854775807 then some (.tup [.str (Lib.trimSuffix s p), .bool (Lib.hasSuffix s p)], h) else none
  | _, _ => none

/-- strings.Split, at a byte -/
def p122 : List CV → Heap → Option (CV × Heap)
  | [.str s, .str [c]], h => if s.length < 4294967281 then some (.sl h.length 0 (splitC c s).length (splitC c s).length, h ++ [.arr ((splitC c s).map .str) .tight]) else none
  | _, _ => none

/-- strings.TrimPrefix -/
def p123 : List CV → Heap → Option (CV × Heap)
  | [.str s, .str p], h => some (.str (Lib.trimPrefix s p), h)
  | _, _ => none

/-- strings.Trim -/
def p124 : List CV → Heap → Option (CV × Heap)
  | [.str s, .str c], h => if s.length ≤ 9223372036854775807 ∧ c.length < 4294967281 ∧ c.all (fun b => decide (b.toNat < 128)) = true then some (.str (Lib.trimS s c), h) else none
  | _, _ => none

/-- strconv.ParseInt, base 10, 64 bits -/
def p125 : List CV → Heap → Option (CV × Heap)
  | [.str s, .int .i64 10, .int .i64 64], h => if s.length ≤ 281474976710656 then match Lib.parseIntB 64 s with
      | .ok v => some (.tup [.int .i64 v, .nili], h)
      | .range => some (.tup [.int .i64 (Lib.intSat 64 s), .ifc 2 (.ptr h.length 0)], h ++ [.arr [] .ro])
      | _ => some (.tup [.int .i64 0, .ifc 2 (.ptr h.length 0)], h ++ [.arr [] .ro])
    else none
  | _, _ => none

/-- strconv.FormatInt, base 10 -/
def p126 : List CV → Heap → Option (CV × Heap)
  | [.int .i64 n, .int .i64 10], h => if -9223372036854775808 ≤ n ∧ n ≤ 9223372036854775807 then some (.str (Cl.itoa n), h) else none
  | _, _ => none

def lib : Prims := fun f => match f with
  | 121 => some p121
  | 122 => some p122
  | 123 => some p123
  | 124 => some p124
  | 125 => some p125
  | 126 => some p126
  | _ => none


end Go.Cl
