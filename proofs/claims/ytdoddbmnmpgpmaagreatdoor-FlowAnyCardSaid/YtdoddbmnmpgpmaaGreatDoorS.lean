/-
  The functions' clean texts, printed by a program out of the loaded ones.
-/
import Derived.Test.YtdoddbmnmpgpmaaGreatDoorSA
namespace Go.Cl.S
open Go Go.Cl

/-- watchbill/chanq.closed -/
def b368 : SCode := (
.seq (.ops [⟨some 4, .move (.c .nils), none, []⟩] none [0, 1])
(.seq (.ops [⟨some 5, .move (.c .nils), none, []⟩] none [0, 1, 5])
(.seq (.seq (.ops [⟨some 8, .move (.t 0), none, []⟩,
  ⟨some 9, .move (.t 1), none, []⟩,
  ⟨some 10, .call 390 [(.t 8), (.t 9)], none, []⟩,
  ⟨some 11, .len .sl (.t 10), none, []⟩,
  ⟨some 12, .move (.c (.int .i64 0)), none, []⟩] none [0, 5, 10, 11, 12])
(.block 0 (.loop [0, 5, 10, 11, 12] (.seq (.ops [⟨some 13, .bin .lss (.t 12) (.t 11), none, []⟩] none [0, 5, 10, 11, 12, 13])
    (.seq (.cond (.t 13)
      (.skip)
      (.exit 0))
    (.seq (.block 1 (.seq (.ops [⟨some 14, .idxAddr 1 (.t 10) (.t 12), none, []⟩,
        ⟨some 15, .load none (.t 14), none, []⟩,
        ⟨some 7, .move (.t 15), none, []⟩] none [0, 5, 7, 10, 11, 12])
      (.ops [⟨some 16, .move (.t 5), none, []⟩,
        ⟨some 17, .move (.t 0), none, []⟩,
        ⟨some 18, .move (.t 7), none, []⟩,
        ⟨some 19, .idxAddr 4 (.t 17) (.t 18), none, []⟩,
        ⟨some 20, .fldAddr 0 (.t 19), none, []⟩,
        ⟨some 21, .load none (.t 20), none, []⟩,
        ⟨some 22, .move (.t 0), none, []⟩,
        ⟨some 23, .move (.t 7), none, []⟩,
        ⟨some 24, .idxAddr 4 (.t 22) (.t 23), none, []⟩,
        ⟨some 25, .fldAddr 1 (.t 24), none, []⟩,
        ⟨some 26, .load none (.t 25), none, []⟩,
        ⟨some 27, .build [(.int .i64 0), (.int .i64 0), (.int .i64 0), (.int .i64 0)] [(0, 1, (.t 21)), (1, 1, (.t 26)), (2, 1, (.c (.int .i64 0))), (3, 1, (.c (.int .i64 9)))], none, []⟩,
        ⟨some 28, .buildSl 1 [(.int .i64 0), (.int .i64 0), (.int .i64 0), (.int .i64 0)] [(0, 4, (.t 27))], none, []⟩,
        ⟨some 29, .append 4 (.t 16) (.t 28), none, []⟩,
        ⟨some 5, .move (.t 29), none, []⟩] (some [(0, []), (1, []), (2, []), (3, [1, 2]), (4, [3, 1, 2]), (5, [4, 3, 1, 2]), (6, []), (7, []), (8, [6, 7]), (9, [8, 6, 7]), (10, [9, 8, 6, 7]), (11, [5, 4, 3, 1, 2, 10, 9, 8, 6, 7]), (12, [11, 5, 4, 3, 1, 2, 10, 9, 8, 6, 7]), (13, [0, 12, 11, 5, 4, 3, 1, 2, 10, 9, 8, 6, 7]), (14, [13, 0, 12, 11, 5, 4, 3, 1, 2, 10, 9, 8, 6, 7])]) [0, 5, 10, 11, 12])))
    (.ops [⟨some 30, .bin .add (.t 12) (.c (.int .i64 1)), none, []⟩,
      ⟨some 12, .move (.t 30), none, []⟩] none [0, 5, 10, 11, 12])))))))
(.seq (.ops [⟨some 31, .move (.t 5), none, []⟩,
  ⟨some 4, .move (.t 31), none, []⟩] none [4])
(.ret)))))
def f368 : SFunc := ⟨b368, [.t 4]⟩

/-- watchbill/pick.known -/
def b369 : SCode := (
.seq (.ops [⟨some 2, .box (.t 0), none, []⟩,
  ⟨some 4, .move (.c (.bool false)), none, []⟩] none [1, 2])
(.seq (.ops [⟨some 5, .fldAddr 1 (.t 2), none, []⟩,
  ⟨some 6, .load none (.t 5), none, []⟩,
  ⟨some 7, .bin .geq (.t 6) (.c (.int .i64 0)), none, []⟩,
  ⟨some 8, .move (.t 7), none, []⟩,
  ⟨some 9, .fldAddr 1 (.t 2), (some (8, true)), []⟩,
  ⟨some 10, .load none (.t 9), (some (8, true)), []⟩,
  ⟨some 11, .move (.t 1), (some (8, true)), []⟩,
  ⟨some 12, .len .sl (.t 11), (some (8, true)), []⟩,
  ⟨some 13, .bin .lss (.t 10) (.t 12), (some (8, true)), []⟩,
  ⟨some 14, .pick (.t 8) (.t 13) (.c (.bool false)), none, []⟩,
  ⟨some 4, .move (.t 14), none, []⟩] none [4])
(.ret)))
def f369 : SFunc := ⟨b369, [.t 4]⟩

/-- (*watchbill/chanq.Chan).CanSend -/
def b370 : SCode := (
.seq (.ops [⟨some 2, .move (.c (.bool false)), none, []⟩] none [0])
(.seq (.ops [⟨some 3, .move (.t 0), none, []⟩,
  ⟨some 4, .nilck (.t 3), none, []⟩,
  ⟨some 5, .fldAddr 3 (.t 4), none, []⟩,
  ⟨some 6, .load none (.t 5), none, []⟩,
  ⟨some 7, .move (.t 6), none, []⟩,
  ⟨some 8, .move (.t 0), (some (7, false)), []⟩,
  ⟨some 9, .nilck (.t 8), (some (7, false)), []⟩,
  ⟨some 10, .fldAddr 2 (.t 9), (some (7, false)), []⟩,
  ⟨some 11, .load none (.t 10), (some (7, false)), []⟩,
  ⟨some 12, .len .sl (.t 11), (some (7, false)), []⟩,
  ⟨some 13, .bin .gtr (.t 12) (.c (.int .i64 0)), (some (7, false)), []⟩,
  ⟨some 14, .pick (.t 7) (.c (.bool true)) (.t 13), none, []⟩,
  ⟨some 15, .move (.t 14), none, []⟩,
  ⟨some 16, .move (.t 0), (some (15, false)), []⟩,
  ⟨some 17, .nilck (.t 16), (some (15, false)), []⟩,
  ⟨some 18, .fldAddr 0 (.t 17), (some (15, false)), []⟩,
  ⟨some 19, .load none (.t 18), (some (15, false)), []⟩,
  ⟨some 20, .call 391 [(.t 19)], (some (15, false)), []⟩,
  ⟨some 21, .bin .gtr (.t 20) (.c (.int .i64 0)), (some (15, false)), []⟩,
  ⟨some 22, .pick (.t 15) (.c (.bool true)) (.t 21), none, []⟩,
  ⟨some 2, .move (.t 22), none, []⟩] none [2])
(.ret)))
def f370 : SFunc := ⟨b370, [.t 2]⟩

/-- (*watchbill/chanq.Chan).CanRecv -/
def b371 : SCode := (
.seq (.ops [⟨some 2, .move (.c (.bool false)), none, []⟩] none [0])
(.seq (.ops [⟨some 3, .move (.t 0), none, []⟩,
  ⟨some 4, .nilck (.t 3), none, []⟩,
  ⟨some 5, .fldAddr 3 (.t 4), none, []⟩,
  ⟨some 6, .load none (.t 5), none, []⟩,
  ⟨some 7, .move (.t 6), none, []⟩,
  ⟨some 8, .move (.t 0), (some (7, false)), []⟩,
  ⟨some 9, .nilck (.t 8), (some (7, false)), []⟩,
  ⟨some 10, .fldAddr 0 (.t 9), (some (7, false)), []⟩,
  ⟨some 11, .load none (.t 10), (some (7, false)), []⟩,
  ⟨some 12, .call 392 [(.t 11)], (some (7, false)), []⟩,
  ⟨some 13, .bin .gtr (.t 12) (.c (.int .i64 0)), (some (7, false)), []⟩,
  ⟨some 14, .pick (.t 7) (.c (.bool true)) (.t 13), none, []⟩,
  ⟨some 15, .move (.t 14), none, []⟩,
  ⟨some 16, .move (.t 0), (some (15, false)), []⟩,
  ⟨some 17, .nilck (.t 16), (some (15, false)), []⟩,
  ⟨some 18, .fldAddr 1 (.t 17), (some (15, false)), []⟩,
  ⟨some 19, .load none (.t 18), (some (15, false)), []⟩,
  ⟨some 20, .len .sl (.t 19), (some (15, false)), []⟩,
  ⟨some 21, .bin .gtr (.t 20) (.c (.int .i64 0)), (some (15, false)), []⟩,
  ⟨some 22, .pick (.t 15) (.c (.bool true)) (.t 21), none, []⟩,
  ⟨some 2, .move (.t 22), none, []⟩] none [2])
(.ret)))
def f371 : SFunc := ⟨b371, [.t 2]⟩

/-- (*watchbill/chanq.Chan).Recv -/
def b372 : SCode := (
.seq (.ops [⟨some 4, .move (.c (.int .i64 0)), none, []⟩,
  ⟨some 5, .move (.c .nils), none, []⟩,
  ⟨some 6, .move (.c (.int .i64 0)), none, []⟩] none [0, 1])
(.seq (.ops [⟨some 12, .move (.t 0), none, []⟩,
  ⟨some 13, .nilck (.t 12), none, []⟩,
  ⟨some 14, .fldAddr 0 (.t 13), none, []⟩,
  ⟨some 15, .load none (.t 14), none, []⟩,
  ⟨some 16, .call 393 [(.t 15)], none, []⟩,
  ⟨some 11, .move (.t 16), none, []⟩,
  ⟨some 17, .ext 0 (.t 11), none, []⟩,
  ⟨some 18, .ext 1 (.t 11), none, []⟩,
  ⟨some 7, .move (.t 17), none, []⟩,
  ⟨some 8, .move (.t 18), none, []⟩] none [0, 1, 7, 8])
(.seq (.block 0 (.seq (.ops [⟨some 20, .move (.t 8), none, []⟩,
    ⟨some 21, .not (.t 20), none, []⟩,
    ⟨some 22, .move (.t 21), none, []⟩,
    ⟨some 23, .move (.t 0), (some (22, true)), []⟩,
    ⟨some 24, .nilck (.t 23), (some (22, true)), []⟩,
    ⟨some 25, .fldAddr 3 (.t 24), (some (22, true)), []⟩,
    ⟨some 26, .load none (.t 25), (some (22, true)), []⟩,
    ⟨some 27, .pick (.t 22) (.t 26) (.c (.bool false)), none, []⟩,
    ⟨some 19, .move (.t 27), none, []⟩] none [0, 1, 7, 8, 19])
  (.cond (.t 19)
    (.seq (.ops [⟨some 4, .move (.c (.int .i64 0)), none, []⟩,
      ⟨some 5, .move (.c .nils), none, []⟩,
      ⟨some 6, .move (.c (.int .i64 9)), none, []⟩] none [4, 5, 6])
    (.ret))
    (.seq (.ops [⟨some 29, .move (.t 8), none, []⟩,
      ⟨some 30, .not (.t 29), none, []⟩,
      ⟨some 31, .move (.t 30), none, []⟩,
      ⟨some 32, .move (.t 0), (some (31, true)), []⟩,
      ⟨some 33, .nilck (.t 32), (some (31, true)), []⟩,
      ⟨some 34, .fldAddr 1 (.t 33), (some (31, true)), []⟩,
      ⟨some 35, .load none (.t 34), (some (31, true)), []⟩,
      ⟨some 36, .len .sl (.t 35), (some (31, true)), []⟩,
      ⟨some 37, .bin .eql (.t 36) (.c (.int .i64 0)), (some (31, true)), []⟩,
      ⟨some 38, .pick (.t 31) (.t 37) (.c (.bool false)), none, []⟩,
      ⟨some 28, .move (.t 38), none, []⟩] none [0, 1, 7, 8, 28])
    (.cond (.t 28)
      (.seq (.ops [⟨some 4, .move (.c (.int .i64 0)), none, []⟩,
        ⟨some 5, .move (.c .nils), none, []⟩,
        ⟨some 6, .move (.c (.int .i64 8)), none, []⟩] none [4, 5, 6])
      (.ret))
      (.seq (.ops [⟨some 40, .move (.t 0), none, []⟩,
        ⟨some 41, .nilck (.t 40), none, []⟩,
        ⟨some 42, .fldAddr 1 (.t 41), none, []⟩,
        ⟨some 43, .load none (.t 42), none, []⟩,
        ⟨some 44, .len .sl (.t 43), none, []⟩,
        ⟨some 45, .bin .eql (.t 44) (.c (.int .i64 0)), none, []⟩,
        ⟨some 39, .move (.t 45), none, []⟩] none [0, 1, 7, 8, 39])
      (.cond (.t 39)
        (.seq (.ops [⟨some 46, .move (.t 7), none, []⟩,
          ⟨some 4, .move (.t 46), none, []⟩,
          ⟨some 5, .move (.c .nils), none, []⟩,
          ⟨some 6, .move (.c (.int .i64 0)), none, []⟩] none [4, 5, 6])
        (.ret))
        (.skip))))))))
(.seq (.ops [⟨some 48, .move (.t 0), none, []⟩,
  ⟨some 49, .nilck (.t 48), none, []⟩,
  ⟨some 50, .fldAddr 1 (.t 49), none, []⟩,
  ⟨some 51, .load none (.t 50), none, []⟩,
  ⟨some 52, .move (.t 1), none, []⟩,
  ⟨some 53, .call 394 [(.t 51), (.t 52)], none, []⟩,
  ⟨some 47, .move (.t 53), none, []⟩,
  ⟨some 54, .ext 0 (.t 47), none, []⟩,
  ⟨some 55, .ext 1 (.t 47), none, []⟩,
  ⟨some 9, .alloc (.agg [(.int .i64 0), (.int .i64 0), (.int .i64 0), (.int .i64 0)]), none, []⟩,
  ⟨none, .store (some 4) (.t 9) (.t 54), none, []⟩,
  ⟨some 10, .move (.t 55), none, []⟩] none [0, 7, 8, 9, 10])
(.seq (.ops [⟨some 56, .move (.t 0), none, []⟩,
  ⟨some 57, .move (.t 10), none, []⟩,
  ⟨some 58, .nilck (.t 56), none, []⟩,
  ⟨some 59, .fldAddr 1 (.t 58), none, []⟩,
  ⟨none, .store none (.t 59) (.t 57), none, []⟩] none [0, 7, 8, 9])
(.seq (.seq (.ops [⟨some 60, .move (.t 8), none, []⟩] none [0, 7, 9, 60])
(.cond (.t 60)
  (.ops [⟨some 61, .move (.t 0), none, []⟩,
    ⟨some 62, .nilck (.t 61), none, []⟩,
    ⟨some 63, .fldAddr 0 (.t 62), none, []⟩,
    ⟨some 64, .load none (.t 63), none, []⟩,
    ⟨some 65, .fldAddr 3 (.t 9), none, []⟩,
    ⟨some 66, .load none (.t 65), none, []⟩,
    ⟨some 67, .call 395 [(.t 64), (.t 66)], none, []⟩] (some [(0, []), (1, [0]), (2, [1, 0]), (3, [2, 1, 0]), (4, []), (5, [4]), (6, [3, 2, 1, 0, 5, 4])]) [7, 9])
  (.ops [⟨some 68, .fldAddr 3 (.t 9), none, []⟩,
    ⟨some 69, .load none (.t 68), none, []⟩,
    ⟨some 7, .move (.t 69), none, []⟩] none [7, 9])))
(.seq (.ops [⟨some 70, .move (.t 7), none, []⟩,
  ⟨some 71, .fldAddr 0 (.t 9), none, []⟩,
  ⟨some 72, .load none (.t 71), none, []⟩,
  ⟨some 73, .fldAddr 1 (.t 9), none, []⟩,
  ⟨some 74, .load none (.t 73), none, []⟩,
  ⟨some 75, .fldAddr 3 (.t 9), none, []⟩,
  ⟨some 76, .load none (.t 75), none, []⟩,
  ⟨some 77, .build [(.int .i64 0), (.int .i64 0), (.int .i64 0), (.int .i64 0)] [(0, 1, (.t 72)), (1, 1, (.t 74)), (2, 1, (.t 76)), (3, 1, (.c (.int .i64 0)))], none, []⟩,
  ⟨some 78, .buildSl 1 [(.int .i64 0), (.int .i64 0), (.int .i64 0), (.int .i64 0)] [(0, 4, (.t 77))], none, []⟩,
  ⟨some 4, .move (.t 70), none, []⟩,
  ⟨some 5, .move (.t 78), none, []⟩,
  ⟨some 6, .move (.c (.int .i64 0)), none, []⟩] (some [(0, []), (1, []), (2, [1]), (3, []), (4, [3]), (5, []), (6, [5]), (7, [2, 1, 4, 3, 6, 5]), (8, [7, 2, 1, 4, 3, 6, 5]), (9, [0]), (10, [8, 7, 2, 1, 4, 3, 6, 5, 9, 0]), (11, [10, 8, 7, 2, 1, 4, 3, 6, 5, 9, 0])]) [4, 5, 6])
(.ret))))))))
def f372 : SFunc := ⟨b372, [.t 4, .t 5, .t 6]⟩

/-- (*watchbill/chanq.Chan).Send -/
def b373 : SCode := (
.seq (.ops [⟨some 6, .move (.c .nils), none, []⟩,
  ⟨some 7, .move (.c (.int .i64 0)), none, []⟩] none [0, 1, 2])
(.seq (.block 0 (.seq (.ops [⟨some 11, .move (.t 0), none, []⟩,
    ⟨some 12, .nilck (.t 11), none, []⟩,
    ⟨some 13, .fldAddr 3 (.t 12), none, []⟩,
    ⟨some 14, .load none (.t 13), none, []⟩,
    ⟨some 10, .move (.t 14), none, []⟩] none [0, 1, 2, 10])
  (.cond (.t 10)
    (.seq (.ops [⟨some 6, .move (.c .nils), none, []⟩,
      ⟨some 7, .move (.c (.int .i64 9)), none, []⟩] none [6, 7])
    (.ret))
    (.seq (.ops [⟨some 16, .move (.t 0), none, []⟩,
      ⟨some 17, .call 370 [(.t 16)], none, []⟩,
      ⟨some 18, .not (.t 17), none, []⟩,
      ⟨some 15, .move (.t 18), none, []⟩] none [0, 1, 2, 15])
    (.cond (.t 15)
      (.seq (.ops [⟨some 6, .move (.c .nils), none, []⟩,
        ⟨some 7, .move (.c (.int .i64 7)), none, []⟩] none [6, 7])
      (.ret))
      (.seq (.ops [⟨some 20, .move (.t 0), none, []⟩,
        ⟨some 21, .nilck (.t 20), none, []⟩,
        ⟨some 22, .fldAddr 2 (.t 21), none, []⟩,
        ⟨some 23, .load none (.t 22), none, []⟩,
        ⟨some 24, .len .sl (.t 23), none, []⟩,
        ⟨some 25, .bin .eql (.t 24) (.c (.int .i64 0)), none, []⟩,
        ⟨some 19, .move (.t 25), none, []⟩] none [0, 1, 2, 19])
      (.cond (.t 19)
        (.seq (.ops [⟨some 26, .move (.t 0), none, []⟩,
          ⟨some 27, .nilck (.t 26), none, []⟩,
          ⟨some 28, .fldAddr 0 (.t 27), none, []⟩,
          ⟨some 29, .load none (.t 28), none, []⟩,
          ⟨some 30, .move (.t 1), none, []⟩,
          ⟨some 31, .call 395 [(.t 29), (.t 30)], none, []⟩] none [])
        (.seq (.ops [⟨some 6, .move (.c .nils), none, []⟩,
          ⟨some 7, .move (.c (.int .i64 0)), none, []⟩] none [6, 7])
        (.ret)))
        (.skip))))))))
(.seq (.ops [⟨some 33, .move (.t 0), none, []⟩,
  ⟨some 34, .nilck (.t 33), none, []⟩,
  ⟨some 35, .fldAddr 2 (.t 34), none, []⟩,
  ⟨some 36, .load none (.t 35), none, []⟩,
  ⟨some 37, .move (.t 2), none, []⟩,
  ⟨some 38, .call 394 [(.t 36), (.t 37)], none, []⟩,
  ⟨some 32, .move (.t 38), none, []⟩,
  ⟨some 39, .ext 0 (.t 32), none, []⟩,
  ⟨some 40, .ext 1 (.t 32), none, []⟩,
  ⟨some 8, .alloc (.agg [(.int .i64 0), (.int .i64 0), (.int .i64 0), (.int .i64 0)]), none, []⟩,
  ⟨none, .store (some 4) (.t 8) (.t 39), none, []⟩,
  ⟨some 9, .move (.t 40), none, []⟩] none [0, 1, 8, 9])
(.seq (.ops [⟨some 41, .move (.t 0), none, []⟩,
  ⟨some 42, .move (.t 9), none, []⟩,
  ⟨some 43, .nilck (.t 41), none, []⟩,
  ⟨some 44, .fldAddr 2 (.t 43), none, []⟩,
  ⟨none, .store none (.t 44) (.t 42), none, []⟩] none [1, 8])
(.seq (.ops [⟨some 45, .fldAddr 0 (.t 8), none, []⟩,
  ⟨some 46, .load none (.t 45), none, []⟩,
  ⟨some 47, .fldAddr 1 (.t 8), none, []⟩,
  ⟨some 48, .load none (.t 47), none, []⟩,
  ⟨some 49, .move (.t 1), none, []⟩,
  ⟨some 50, .build [(.int .i64 0), (.int .i64 0), (.int .i64 0), (.int .i64 0)] [(0, 1, (.t 46)), (1, 1, (.t 48)), (2, 1, (.t 49)), (3, 1, (.c (.int .i64 0)))], none, []⟩,
  ⟨some 51, .buildSl 1 [(.int .i64 0), (.int .i64 0), (.int .i64 0), (.int .i64 0)] [(0, 4, (.t 50))], none, []⟩,
  ⟨some 6, .move (.t 51), none, []⟩,
  ⟨some 7, .move (.c (.int .i64 0)), none, []⟩] none [6, 7])
(.ret))))))
def f373 : SFunc := ⟨b373, [.t 6, .t 7]⟩

/-- strings.makeASCIISet -/
def b144 : SCode := (
.seq (.ops [⟨some 2, .alloc (.agg [(.bool false), (.bool false), (.bool false), (.bool false), (.bool false), (.bool false), (.bool false), (.bool false), (.bool false), (.bool false), (.bool false), (.bool false), (.bool false), (.bool false), (.bool false), (.bool false), (.bool false), (.bool false), (.bool false), (.bool false), (.bool false), (.bool false), (.bool false), (.bool false), (.bool false), (.bool false), (.bool false), (.bool false), (.bool false), (.bool false), (.bool false), (.bool false), (.bool false), (.bool false), (.bool false), (.bool false), (.bool false), (.bool false), (.bool false), (.bool false), (.bool false), (.bool false), (.bool false), (.bool false), (.bool false), (.bool false), (.bool false), (.bool false), (.bool false), (.bool false), (.bool false), (.bool false), (.bool false), (.bool false), (.bool false), (.bool false), (.bool false), (.bool false), (.bool false), (.bool false), (.bool false), (.bool false), (.bool false), (.bool false), (.bool false), (.bool false), (.bool false), (.bool false), (.bool false), (.bool false), (.bool false), (.bool false), (.bool false), (.bool false), (.bool false), (.bool false), (.bool false), (.bool false), (.bool false), (.bool false), (.bool false), (.bool false), (.bool false), (.bool false), (.bool false), (.bool false), (.bool false), (.bool false), (.bool false), (.bool false), (.bool false), (.bool false), (.bool false), (.bool false), (.bool false), (.bool false), (.bool false), (.bool false), (.bool false), (.bool false), (.bool false), (.bool false), (.bool false), (.bool false), (.bool false), (.bool false), (.bool false), (.bool false), (.bool false), (.bool false), (.bool false), (.bool false), (.bool false), (.bool false), (.bool false), (.bool false), (.bool false), (.bool false), (.bool false), (.bool false), (.bool false), (.bool false), (.bool false), (.bool false), (.bool false), (.bool false), (.bool false), (.bool false), (.bool false), (.bool false), (.bool false), (.bool false), (.bool false), (.bool false), (.bool false), (.bool false), (.bool false), (.bool false), (.bool false), (.bool false), (.bool false), (.bool false), (.bool false), (.bool false), (.bool false), (.bool false), (.bool false), (.bool false), (.bool false), (.bool false), (.bool false), (.bool false), (.bool false), (.bool false), (.bool false), (.bool false), (.bool false), (.bool false), (.bool false), (.bool false), (.bool false), (.bool false), (.bool false), (.bool false), (.bool false), (.bool false), (.bool false), (.bool false), (.bool false), (.bool false), (.bool false), (.bool false), (.bool false), (.bool false), (.bool false), (.bool false), (.bool false), (.bool false), (.bool false), (.bool false), (.bool false), (.bool false), (.bool false), (.bool false), (.bool false), (.bool false), (.bool false), (.bool false), (.bool false), (.bool false), (.bool false), (.bool false), (.bool false), (.bool false), (.bool false), (.bool false), (.bool false), (.bool false), (.bool false), (.bool false), (.bool false), (.bool false), (.bool false), (.bool false), (.bool false), (.bool false), (.bool false), (.bool false), (.bool false), (.bool false), (.bool false), (.bool false), (.bool false), (.bool false), (.bool false), (.bool false), (.bool false), (.bool false), (.bool false), (.bool false), (.bool false), (.bool false), (.bool false), (.bool false), (.bool false), (.bool false), (.bool false), (.bool false), (.bool false), (.bool false), (.bool false), (.bool false), (.bool false), (.bool false), (.bool false), (.bool false), (.bool false), (.bool false), (.bool false), (.bool false), (.bool false), (.bool false), (.bool false), (.bool false), (.bool false), (.bool false), (.bool false), (.bool false), (.bool false), (.bool false), (.bool false), (.bool false), (.bool false), (.bool false), (.bool false), (.bool false)]), none, []⟩,
  ⟨some 3, .move (.c (.bool false)), none, []⟩] none [0, 2])
(.seq (.seq (.ops [⟨some 4, .move (.c (.int .i64 0)), none, []⟩] none [0, 2, 4])
(.block 0 (.loop [0, 2, 4] (.seq (.seq (.ops [⟨some 6, .move (.t 4), none, []⟩,
      ⟨some 7, .move (.t 0), none, []⟩,
      ⟨some 8, .len .str (.t 7), none, []⟩,
      ⟨some 9, .bin .lss (.t 6) (.t 8), none, []⟩] none [0, 2, 4, 9])
    (.cond (.t 9)
      (.skip)
      (.exit 0)))
    (.seq (.block 1 (.seq (.ops [⟨some 12, .move (.t 0), none, []⟩,
        ⟨some 13, .move (.t 4), none, []⟩,
        ⟨some 14, .idxStr (.t 12) (.t 13), none, []⟩,
        ⟨some 5, .move (.t 14), none, []⟩] none [0, 2, 4, 5])
      (.seq (.seq (.ops [⟨some 15, .move (.t 5), none, []⟩,
        ⟨some 16, .bin .geq (.t 15) (.c (.int .u8 128)), none, []⟩] none [0, 2, 4, 5, 16])
      (.cond (.t 16)
        (.seq (.ops [⟨some 17, .load (some 256) (.t 2), none, []⟩,
          ⟨none, .store (some 256) (.t 2) (.t 17), none, []⟩,
          ⟨some 3, .move (.c (.bool false)), none, []⟩] none [2, 3])
        (.ret))
        (.skip)))
      (.ops [⟨some 18, .move (.t 5), none, []⟩,
        ⟨some 19, .idxArrAddr 1 256 (.t 2) (.t 18), none, []⟩,
        ⟨none, .store none (.t 19) (.c (.bool true)), none, []⟩] none [0, 2, 4]))))
    (.ops [⟨some 10, .move (.t 4), none, []⟩,
      ⟨some 11, .bin .add (.t 10) (.c (.int .i64 1)), none, []⟩,
      ⟨some 4, .move (.t 11), none, []⟩] none [0, 2, 4]))))))
(.seq (.ops [⟨some 20, .load (some 256) (.t 2), none, []⟩,
  ⟨none, .store (some 256) (.t 2) (.t 20), none, []⟩,
  ⟨some 3, .move (.c (.bool true)), none, []⟩] none [2, 3])
(.ret))))
def f144 : SFunc := ⟨b144, [.cell (some 256) 2, .t 3]⟩

/-- strings.trimLeftASCII -/
def b146 : SCode := (
.seq (.ops [⟨some 4, .move (.c (.str [])), none, []⟩] none [0, 1])
(.seq (.block 0 (.loop [0, 1] (.seq (.seq (.ops [⟨some 5, .move (.t 0), none, []⟩,
      ⟨some 6, .len .str (.t 5), none, []⟩,
      ⟨some 7, .bin .gtr (.t 6) (.c (.int .i64 0)), none, []⟩] none [0, 1, 7])
    (.cond (.t 7)
      (.skip)
      (.exit 0)))
    (.block 1 (.seq (.seq (.ops [⟨some 8, .move (.t 1), none, []⟩,
        ⟨some 9, .move (.t 0), none, []⟩,
        ⟨some 10, .idxStr (.t 9) (.c (.int .i64 0)), none, []⟩,
        ⟨some 11, .call 158 [(.t 8), (.t 10)], none, []⟩,
        ⟨some 12, .not (.t 11), none, []⟩] none [0, 1, 12])
      (.cond (.t 12)
        (.exit 0)
        (.skip)))
      (.ops [⟨some 13, .move (.t 0), none, []⟩,
        ⟨some 14, .slStr (.t 13) (some (.c (.int .i64 1))) none, none, []⟩,
        ⟨some 0, .move (.t 14), none, []⟩] none [0, 1]))))))
(.seq (.ops [⟨some 15, .move (.t 0), none, []⟩,
  ⟨some 4, .move (.t 15), none, []⟩] none [4])
(.ret))))
def f146 : SFunc := ⟨b146, [.t 4]⟩

/-- strings.trimRightASCII -/
def b145 : SCode := (
.seq (.ops [⟨some 4, .move (.c (.str [])), none, []⟩] none [0, 1])
(.seq (.block 0 (.loop [0, 1] (.seq (.seq (.ops [⟨some 5, .move (.t 0), none, []⟩,
      ⟨some 6, .len .str (.t 5), none, []⟩,
      ⟨some 7, .bin .gtr (.t 6) (.c (.int .i64 0)), none, []⟩] none [0, 1, 7])
    (.cond (.t 7)
      (.skip)
      (.exit 0)))
    (.block 1 (.seq (.seq (.ops [⟨some 8, .move (.t 1), none, []⟩,
        ⟨some 9, .move (.t 0), none, []⟩,
        ⟨some 10, .move (.t 0), none, []⟩,
        ⟨some 11, .len .str (.t 10), none, []⟩,
        ⟨some 12, .bin .sub (.t 11) (.c (.int .i64 1)), none, []⟩,
        ⟨some 13, .idxStr (.t 9) (.t 12), none, []⟩,
        ⟨some 14, .call 158 [(.t 8), (.t 13)], none, []⟩,
        ⟨some 15, .not (.t 14), none, []⟩] none [0, 1, 15])
      (.cond (.t 15)
        (.exit 0)
        (.skip)))
      (.ops [⟨some 16, .move (.t 0), none, []⟩,
        ⟨some 17, .move (.t 0), none, []⟩,
        ⟨some 18, .len .str (.t 17), none, []⟩,
        ⟨some 19, .bin .sub (.t 18) (.c (.int .i64 1)), none, []⟩,
        ⟨some 20, .slStr (.t 16) none (some (.t 19)), none, []⟩,
        ⟨some 0, .move (.t 20), none, []⟩] none [0, 1]))))))
(.seq (.ops [⟨some 21, .move (.t 0), none, []⟩,
  ⟨some 4, .move (.t 21), none, []⟩] none [4])
(.ret))))
def f145 : SFunc := ⟨b145, [.t 4]⟩

/-- watchbill/op.kinds -/
def b224 : SCode := (
.seq (.ops [⟨some 0, .move (.c .nils), none, []⟩] none [])
(.seq (.ops [⟨some 1, .build [(.str []), (.int .i64 0), (.int .i64 0), (.bool false), (.bool false)] [], none, []⟩,
  ⟨some 2, .build [(.str []), (.int .i64 0), (.int .i64 0), (.bool false), (.bool false)] [(0, 1, (.c (.str [114, 117, 110]))), (1, 1, (.c (.int .i64 1))), (2, 1, (.c (.int .i64 1000))), (3, 1, (.c (.bool false))), (4, 1, (.c (.bool false)))], none, []⟩,
  ⟨some 3, .build [(.str []), (.int .i64 0), (.int .i64 0), (.bool false), (.bool false)] [(0, 1, (.c (.str [108, 111, 99, 107]))), (1, 1, (.c (.int .i64 0))), (2, 1, (.c (.int .i64 7))), (3, 1, (.c (.bool false))), (4, 1, (.c (.bool false)))], none, []⟩,
  ⟨some 4, .build [(.str []), (.int .i64 0), (.int .i64 0), (.bool false), (.bool false)] [(0, 1, (.c (.str [117, 110, 108, 111, 99, 107]))), (1, 1, (.c (.int .i64 0))), (2, 1, (.c (.int .i64 7))), (3, 1, (.c (.bool false))), (4, 1, (.c (.bool false)))], none, []⟩,
  ⟨some 5, .build [(.str []), (.int .i64 0), (.int .i64 0), (.bool false), (.bool false)] [(0, 1, (.c (.str [115, 101, 110, 100]))), (1, 1, (.c (.int .i64 0))), (2, 1, (.c (.int .i64 7))), (3, 1, (.c (.bool true))), (4, 1, (.c (.bool false)))], none, []⟩,
  ⟨some 6, .build [(.str []), (.int .i64 0), (.int .i64 0), (.bool false), (.bool false)] [(0, 1, (.c (.str [114, 101, 99, 118]))), (1, 1, (.c (.int .i64 0))), (2, 1, (.c (.int .i64 7))), (3, 1, (.c (.bool true))), (4, 1, (.c (.bool false)))], none, []⟩,
  ⟨some 7, .build [(.str []), (.int .i64 0), (.int .i64 0), (.bool false), (.bool false)] [(0, 1, (.c (.str [99, 108, 111, 115, 101]))), (1, 1, (.c (.int .i64 0))), (2, 1, (.c (.int .i64 7))), (3, 1, (.c (.bool false))), (4, 1, (.c (.bool false)))], none, []⟩,
  ⟨some 8, .build [(.str []), (.int .i64 0), (.int .i64 0), (.bool false), (.bool false)] [(0, 1, (.c (.str [115, 101, 108, 101, 99, 116]))), (1, 1, (.c (.int .i64 0))), (2, 1, (.c (.int .i64 0))), (3, 1, (.c (.bool true))), (4, 1, (.c (.bool true)))], none, []⟩,
  ⟨some 9, .build [(.str []), (.int .i64 0), (.int .i64 0), (.bool false), (.bool false)] [(0, 1, (.c (.str [108, 111, 111, 112]))), (1, 1, (.c (.int .i64 1))), (2, 1, (.c (.int .i64 32))), (3, 1, (.c (.bool false))), (4, 1, (.c (.bool false)))], none, []⟩,
  ⟨some 10, .build [(.str []), (.int .i64 0), (.int .i64 0), (.bool false), (.bool false)] [(0, 1, (.c (.str [101, 110, 100]))), (1, 1, (.c (.int .i64 0))), (2, 1, (.c (.int .i64 0))), (3, 1, (.c (.bool false))), (4, 1, (.c (.bool false)))], none, []⟩,
  ⟨some 11, .buildSl 10 [(.str []), (.int .i64 0), (.int .i64 0), (.bool false), (.bool false), (.str []), (.int .i64 0), (.int .i64 0), (.bool false), (.bool false), (.str []), (.int .i64 0), (.int .i64 0), (.bool false), (.bool false), (.str []), (.int .i64 0), (.int .i64 0), (.bool false), (.bool false), (.str []), (.int .i64 0), (.int .i64 0), (.bool false), (.bool false), (.str []), (.int .i64 0), (.int .i64 0), (.bool false), (.bool false), (.str []), (.int .i64 0), (.int .i64 0), (.bool false), (.bool false), (.str []), (.int .i64 0), (.int .i64 0), (.bool false), (.bool false), (.str []), (.int .i64 0), (.int .i64 0), (.bool false), (.bool false), (.str []), (.int .i64 0), (.int .i64 0), (.bool false), (.bool false)] [(0, 5, (.t 1)), (5, 5, (.t 2)), (10, 5, (.t 3)), (15, 5, (.t 4)), (20, 5, (.t 5)), (25, 5, (.t 6)), (30, 5, (.t 7)), (35, 5, (.t 8)), (40, 5, (.t 9)), (45, 5, (.t 10))], none, []⟩,
  ⟨some 0, .move (.t 11), none, []⟩] none [0])
(.ret)))
def f224 : SFunc := ⟨b224, [.t 0]⟩

/-- watchbill/op.Waits -/
def b223 : SCode := (
.seq (.ops [⟨some 1, .box (.t 0), none, []⟩,
  ⟨some 2, .move (.c (.bool false)), none, []⟩] none [1])
(.seq (.ops [⟨some 3, .fldAddr 0 (.t 1), none, []⟩,
  ⟨some 4, .load none (.t 3), none, []⟩,
  ⟨some 5, .bin .eql (.t 4) (.c (.int .i64 4)), none, []⟩,
  ⟨some 6, .move (.t 5), none, []⟩,
  ⟨some 7, .fldAddr 0 (.t 1), (some (6, false)), []⟩,
  ⟨some 8, .load none (.t 7), (some (6, false)), []⟩,
  ⟨some 9, .bin .eql (.t 8) (.c (.int .i64 5)), (some (6, false)), []⟩,
  ⟨some 10, .pick (.t 6) (.c (.bool true)) (.t 9), none, []⟩,
  ⟨some 11, .move (.t 10), none, []⟩,
  ⟨some 12, .fldAddr 0 (.t 1), (some (11, false)), []⟩,
  ⟨some 13, .load none (.t 12), (some (11, false)), []⟩,
  ⟨some 14, .bin .eql (.t 13) (.c (.int .i64 7)), (some (11, false)), []⟩,
  ⟨some 15, .pick (.t 11) (.c (.bool true)) (.t 14), none, []⟩,
  ⟨some 16, .move (.t 15), none, []⟩,
  ⟨some 17, .fldAddr 3 (.t 1), (some (16, true)), []⟩,
  ⟨some 18, .load none (.t 17), (some (16, true)), []⟩,
  ⟨some 19, .bin .neq (.t 18) (.c (.int .i64 0)), (some (16, true)), []⟩,
  ⟨some 20, .pick (.t 16) (.t 19) (.c (.bool false)), none, []⟩,
  ⟨some 2, .move (.t 20), none, []⟩] none [2])
(.ret)))
def f223 : SFunc := ⟨b223, [.t 2]⟩

/-- watchbill/prog.Steps$1 -/
def b301 : SCode := (
.seq (.ops [⟨some 3, .box (.t 0), none, []⟩] none [1, 2])
(.ops [⟨some 5, .load none (.t 2), none, []⟩,
  ⟨some 6, .move (.t 1), none, []⟩,
  ⟨some 7, .bin .add (.t 5) (.t 6), none, []⟩,
  ⟨none, .store none (.t 2) (.t 7), none, []⟩] none []))
def f301 : SFunc := ⟨b301, []⟩

/-- slices.IndexFunc[[]watchbill/op.Case,watchbill/op.Case] -/
def b238 : SCode := (
.seq (.ops [⟨some 4, .move (.c (.int .i64 0)), none, []⟩] none [0, 1])
(.seq (.seq (.ops [⟨some 6, .move (.t 0), none, []⟩,
  ⟨some 7, .len .sl (.t 6), none, []⟩,
  ⟨some 8, .move (.c (.int .i64 0)), none, []⟩] none [0, 1, 7, 8])
(.block 0 (.loop [0, 1, 7, 8] (.seq (.ops [⟨some 9, .bin .lss (.t 8) (.t 7), none, []⟩] none [0, 1, 7, 8, 9])
    (.seq (.cond (.t 9)
      (.skip)
      (.exit 0))
    (.seq (.block 1 (.seq (.ops [⟨some 10, .move (.t 8), none, []⟩,
        ⟨some 5, .move (.t 10), none, []⟩] none [0, 1, 5, 7, 8])
      (.seq (.ops [⟨some 11, .move (.t 1), none, []⟩,
        ⟨some 12, .move (.t 0), none, []⟩,
        ⟨some 13, .move (.t 5), none, []⟩,
        ⟨some 14, .idxAddr 3 (.t 12) (.t 13), none, []⟩,
        ⟨some 15, .load (some 3) (.t 14), none, []⟩,
        ⟨some 16, .callv (.t 11) [(.t 15)], none, []⟩] none [0, 1, 5, 7, 8, 16])
      (.cond (.t 16)
        (.seq (.ops [⟨some 17, .move (.t 5), none, []⟩,
          ⟨some 4, .move (.t 17), none, []⟩] none [4])
        (.ret))
        (.skip)))))
    (.ops [⟨some 18, .bin .add (.t 8) (.c (.int .i64 1)), none, []⟩,
      ⟨some 8, .move (.t 18), none, []⟩] none [0, 1, 7, 8])))))))
(.seq (.ops [⟨some 4, .move (.c (.int .i64 (-1))), none, []⟩] none [4])
(.ret))))
def f238 : SFunc := ⟨b238, [.t 4]⟩

/-- slices.insertionSortCmpFunc[int] -/
def b379 : SCode := (
.seq (.ops [⟨some 10, .move (.t 1), none, []⟩,
  ⟨some 11, .bin .add (.t 10) (.c (.int .i64 1)), none, []⟩,
  ⟨some 8, .move (.t 11), none, []⟩] none [0, 1, 2, 3, 8])
(.block 0 (.loop [0, 1, 2, 3, 8] (.seq (.seq (.ops [⟨some 12, .move (.t 8), none, []⟩,
      ⟨some 13, .move (.t 2), none, []⟩,
      ⟨some 14, .bin .lss (.t 12) (.t 13), none, []⟩] none [0, 1, 2, 3, 8, 14])
    (.cond (.t 14)
      (.skip)
      (.exit 0)))
    (.seq (.block 1 (.seq (.ops [⟨some 17, .move (.t 8), none, []⟩,
        ⟨some 9, .move (.t 17), none, []⟩] none [0, 1, 2, 3, 8, 9])
      (.block 2 (.loop [0, 1, 2, 3, 8, 9] (.seq (.seq (.ops [⟨some 18, .move (.t 9), none, []⟩,
            ⟨some 19, .move (.t 1), none, []⟩,
            ⟨some 20, .bin .gtr (.t 18) (.t 19), none, []⟩,
            ⟨some 21, .move (.t 20), none, []⟩,
            ⟨some 22, .move (.t 3), (some (21, true)), []⟩,
            ⟨some 23, .move (.t 0), (some (21, true)), []⟩,
            ⟨some 24, .move (.t 9), (some (21, true)), []⟩,
            ⟨some 25, .idxAddr 1 (.t 23) (.t 24), (some (21, true)), []⟩,
            ⟨some 26, .load none (.t 25), (some (21, true)), []⟩,
            ⟨some 27, .move (.t 0), (some (21, true)), []⟩,
            ⟨some 28, .move (.t 9), (some (21, true)), []⟩,
            ⟨some 29, .bin .sub (.t 28) (.c (.int .i64 1)), (some (21, true)), []⟩,
            ⟨some 30, .idxAddr 1 (.t 27) (.t 29), (some (21, true)), []⟩,
            ⟨some 31, .load none (.t 30), (some (21, true)), []⟩,
            ⟨some 32, .callv (.t 22) [(.t 26), (.t 31)], (some (21, true)), []⟩,
            ⟨some 33, .bin .lss (.t 32) (.c (.int .i64 0)), (some (21, true)), []⟩,
            ⟨some 34, .pick (.t 21) (.t 33) (.c (.bool false)), none, []⟩] (some [(0, []), (1, []), (2, [0, 1]), (3, [2, 0, 1]), (4, [3, 2, 0, 1]), (5, [3, 2, 0, 1]), (6, [3, 2, 0, 1]), (7, [5, 3, 2, 0, 1, 6]), (8, [7, 5, 3, 2, 0, 1, 6]), (9, [3, 2, 0, 1]), (10, [3, 2, 0, 1]), (11, [10, 3, 2, 0, 1]), (12, [9, 3, 2, 0, 1, 11, 10]), (13, [12, 9, 3, 2, 0, 1, 11, 10]), (14, [4, 3, 2, 0, 1, 8, 7, 5, 6, 13, 12, 9, 11, 10]), (15, [14, 4, 3, 2, 0, 1, 8, 7, 5, 6, 13, 12, 9, 11, 10]), (16, [3, 2, 0, 1, 15, 14, 4, 8, 7, 5, 6, 13, 12, 9, 11, 10])]) [0, 1, 2, 3, 8, 9, 34])
          (.cond (.t 34)
            (.skip)
            (.exit 2)))
          (.seq (.block 3 (.ops [⟨some 37, .move (.t 0), none, []⟩,
              ⟨some 38, .move (.t 9), none, []⟩,
              ⟨some 39, .move (.t 0), none, []⟩,
              ⟨some 40, .move (.t 9), none, []⟩,
              ⟨some 41, .bin .sub (.t 40) (.c (.int .i64 1)), none, []⟩,
              ⟨some 42, .move (.t 0), none, []⟩,
              ⟨some 43, .move (.t 9), none, []⟩,
              ⟨some 44, .bin .sub (.t 43) (.c (.int .i64 1)), none, []⟩,
              ⟨some 45, .idxAddr 1 (.t 42) (.t 44), none, []⟩,
              ⟨some 46, .load none (.t 45), none, []⟩,
              ⟨some 47, .move (.t 0), none, []⟩,
              ⟨some 48, .move (.t 9), none, []⟩,
              ⟨some 49, .idxAddr 1 (.t 47) (.t 48), none, []⟩,
              ⟨some 50, .load none (.t 49), none, []⟩,
              ⟨some 51, .idxAddr 1 (.t 37) (.t 38), none, []⟩,
              ⟨none, .store none (.t 51) (.t 46), none, []⟩,
              ⟨some 52, .idxAddr 1 (.t 39) (.t 41), none, []⟩,
              ⟨none, .store none (.t 52) (.t 50), none, []⟩] (some [(0, []), (1, []), (2, []), (3, []), (4, [3]), (5, []), (6, []), (7, [6]), (8, [5, 7, 6]), (9, [8, 5, 7, 6]), (10, []), (11, []), (12, [10, 11]), (13, [12, 10, 11]), (14, [0, 1, 5, 6, 7, 8, 9, 13, 12, 10, 11]), (15, [14, 0, 1, 5, 6, 7, 8, 9, 13, 12, 10, 11]), (16, [2, 4, 3, 0, 1, 5, 6, 7, 8, 9, 10, 11, 12, 13, 14, 15]), (17, [16, 2, 4, 3, 0, 1, 5, 6, 7, 8, 9, 10, 11, 12, 13, 14, 15])]) [0, 1, 2, 3, 8, 9]))
          (.ops [⟨some 35, .move (.t 9), none, []⟩,
            ⟨some 36, .bin .sub (.t 35) (.c (.int .i64 1)), none, []⟩,
            ⟨some 9, .move (.t 36), none, []⟩] none [0, 1, 2, 3, 8, 9])))))))
    (.ops [⟨some 15, .move (.t 8), none, []⟩,
      ⟨some 16, .bin .add (.t 15) (.c (.int .i64 1)), none, []⟩,
      ⟨some 8, .move (.t 16), none, []⟩] none [0, 1, 2, 3, 8]))))))
def f379 : SFunc := ⟨b379, []⟩

/-- watchbill/waitq.Order -/
def b390 : SCode := (
.seq (.ops [⟨some 2, .box (.t 0), none, []⟩,
  ⟨some 3, .box (.t 1), none, []⟩,
  ⟨some 4, .move (.c .nils), none, []⟩] none [2, 3])
(.seq (.ops [⟨some 5, .move (.c .nils), none, []⟩] none [2, 3, 5])
(.seq (.seq (.ops [⟨some 7, .load none (.t 2), none, []⟩,
  ⟨some 8, .len .sl (.t 7), none, []⟩,
  ⟨some 9, .move (.c (.int .i64 0)), none, []⟩] none [2, 3, 5, 8, 9])
(.block 0 (.loop [2, 3, 5, 8, 9] (.seq (.ops [⟨some 10, .bin .lss (.t 9) (.t 8), none, []⟩] none [2, 3, 5, 8, 9, 10])
    (.seq (.cond (.t 10)
      (.skip)
      (.exit 0))
    (.seq (.block 1 (.seq (.ops [⟨some 11, .move (.t 9), none, []⟩,
        ⟨some 6, .move (.t 11), none, []⟩] none [2, 3, 5, 6, 8, 9])
      (.ops [⟨some 12, .move (.t 5), none, []⟩,
        ⟨some 13, .move (.t 6), none, []⟩,
        ⟨some 14, .buildSl 1 [(.int .i64 0)] [(0, 1, (.t 13))], none, []⟩,
        ⟨some 15, .append 1 (.t 12) (.t 14), none, []⟩,
        ⟨some 5, .move (.t 15), none, []⟩] none [2, 3, 5, 8, 9])))
    (.ops [⟨some 16, .bin .add (.t 9) (.c (.int .i64 1)), none, []⟩,
      ⟨some 9, .move (.t 16), none, []⟩] none [2, 3, 5, 8, 9])))))))
(.seq (.ops [⟨some 17, .move (.t 5), none, []⟩,
  ⟨some 18, .mkfn 411 [(.t 3), (.t 2)], none, []⟩,
  ⟨some 19, .call 338 [(.t 17), (.t 18)], none, []⟩] none [5])
(.seq (.ops [⟨some 20, .move (.t 5), none, []⟩,
  ⟨some 4, .move (.t 20), none, []⟩] none [4])
(.ret))))))
def f390 : SFunc := ⟨b390, [.t 4]⟩

/-- (*watchbill/ring.Ring).Room -/
def b391 : SCode := (
.seq (.ops [⟨some 2, .move (.c (.int .i64 0)), none, []⟩] none [0])
(.seq (.ops [⟨some 3, .move (.t 0), none, []⟩,
  ⟨some 4, .nilck (.t 3), none, []⟩,
  ⟨some 5, .fldAddr 0 (.t 4), none, []⟩,
  ⟨some 6, .load none (.t 5), none, []⟩,
  ⟨some 7, .capc (.t 6), none, []⟩,
  ⟨some 8, .move (.t 0), none, []⟩,
  ⟨some 9, .nilck (.t 8), none, []⟩,
  ⟨some 10, .fldAddr 0 (.t 9), none, []⟩,
  ⟨some 11, .load none (.t 10), none, []⟩,
  ⟨some 12, .len .ch (.t 11), none, []⟩,
  ⟨some 13, .bin .sub (.t 7) (.t 12), none, []⟩,
  ⟨some 2, .move (.t 13), none, []⟩] (some [(0, []), (1, [0]), (2, [1, 0]), (3, [2, 1, 0]), (4, [3, 2, 1, 0]), (5, []), (6, [5]), (7, [6, 5]), (8, [7, 6, 5]), (9, [8, 7, 6, 5, 4, 3, 2, 1, 0]), (10, [4, 3, 2, 1, 0, 9, 8, 7, 6, 5]), (11, [10, 4, 3, 2, 1, 0, 9, 8, 7, 6, 5])]) [2])
(.ret)))
def f391 : SFunc := ⟨b391, [.t 2]⟩

/-- (*strings.asciiSet).contains -/
def b158 : SCode := (
.seq (.ops [⟨some 4, .move (.c (.bool false)), none, []⟩] none [0, 1])
(.seq (.ops [⟨some 5, .move (.t 0), none, []⟩,
  ⟨some 6, .move (.t 1), none, []⟩,
  ⟨some 7, .nilck (.t 5), none, []⟩,
  ⟨some 8, .idxArrAddr 1 256 (.t 7) (.t 6), none, []⟩,
  ⟨some 9, .load none (.t 8), none, []⟩,
  ⟨some 4, .move (.t 9), none, []⟩] none [4])
(.ret)))
def f158 : SFunc := ⟨b158, [.t 4]⟩

def lk {α : Type} : List (Nat × α) → Nat → Option α
  | [], _ => none
  | (k, v) :: r, i => match Nat.beq i k with | true => some v | false => lk r i

def pgl : List (Nat × SFunc) := [
  (428, f428),
  (429, f429),
  (430, f430),
  (432, f432),
  (431, f431),
  (434, f434),
  (436, f436),
  (437, f437),
  (441, f441),
  (442, f442),
  (444, f444),
  (312, f312),
  (445, f445),
  (446, f446),
  (265, f265),
  (447, f447),
  (65, f65),
  (448, f448),
  (305, f305),
  (306, f306),
  (449, f449),
  (309, f309),
  (310, f310),
  (450, f450),
  (307, f307),
  (316, f316),
  (323, f323),
  (333, f333),
  (55, f55),
  (273, f273),
  (452, f452),
  (451, f451),
  (453, f453),
  (317, f317),
  (318, f318),
  (319, f319),
  (5, f5),
  (320, f320),
  (321, f321),
  (6, f6),
  (48, f48),
  (324, f324),
  (454, f454),
  (308, f308),
  (39, f39),
  (30, f30),
  (325, f325),
  (327, f327),
  (329, f329),
  (330, f330),
  (97, f97),
  (285, f285),
  (286, f286),
  (287, f287),
  (288, f288),
  (455, f455),
  (335, f335),
  (336, f336),
  (338, f338),
  (337, f337),
  (358, f358),
  (341, f341),
  (17, f17),
  (331, f331),
  (36, f36),
  (41, f41),
  (346, f346),
  (347, f347),
  (348, f348),
  (349, f349),
  (350, f350),
  (351, f351),
  (124, f124),
  (219, f219),
  (294, f294),
  (295, f295),
  (297, f297),
  (296, f296),
  (235, f235),
  (357, f357),
  (359, f359),
  (368, f368),
  (369, f369),
  (370, f370),
  (371, f371),
  (372, f372),
  (373, f373),
  (144, f144),
  (146, f146),
  (145, f145),
  (224, f224),
  (223, f223),
  (301, f301),
  (238, f238),
  (379, f379),
  (390, f390),
  (391, f391),
  (158, f158)]

def pg : Prog := lk pgl

theorem pg428 : pg 428 = some f428 := rfl
theorem pg429 : pg 429 = some f429 := rfl
theorem pg430 : pg 430 = some f430 := rfl
theorem pg432 : pg 432 = some f432 := rfl
theorem pg431 : pg 431 = some f431 := rfl
theorem pg434 : pg 434 = some f434 := rfl
theorem pg436 : pg 436 = some f436 := rfl
theorem pg437 : pg 437 = some f437 := rfl
theorem pg441 : pg 441 = some f441 := rfl
theorem pg442 : pg 442 = some f442 := rfl
theorem pg444 : pg 444 = some f444 := rfl
theorem pg312 : pg 312 = some f312 := rfl
theorem pg445 : pg 445 = some f445 := rfl
theorem pg446 : pg 446 = some f446 := rfl
theorem pg265 : pg 265 = some f265 := rfl
theorem pg447 : pg 447 = some f447 := rfl
theorem pg65 : pg 65 = some f65 := rfl
theorem pg448 : pg 448 = some f448 := rfl
theorem pg305 : pg 305 = some f305 := rfl
theorem pg306 : pg 306 = some f306 := rfl
theorem pg449 : pg 449 = some f449 := rfl
theorem pg309 : pg 309 = some f309 := rfl
theorem pg310 : pg 310 = some f310 := rfl
theorem pg450 : pg 450 = some f450 := rfl
theorem pg307 : pg 307 = some f307 := rfl
theorem pg316 : pg 316 = some f316 := rfl
theorem pg323 : pg 323 = some f323 := rfl
theorem pg333 : pg 333 = some f333 := rfl
theorem pg55 : pg 55 = some f55 := rfl
theorem pg273 : pg 273 = some f273 := rfl
theorem pg452 : pg 452 = some f452 := rfl
theorem pg451 : pg 451 = some f451 := rfl
theorem pg453 : pg 453 = some f453 := rfl
theorem pg317 : pg 317 = some f317 := rfl
theorem pg318 : pg 318 = some f318 := rfl
theorem pg319 : pg 319 = some f319 := rfl
theorem pg5 : pg 5 = some f5 := rfl
theorem pg320 : pg 320 = some f320 := rfl
theorem pg321 : pg 321 = some f321 := rfl
theorem pg6 : pg 6 = some f6 := rfl
theorem pg48 : pg 48 = some f48 := rfl
theorem pg324 : pg 324 = some f324 := rfl
theorem pg454 : pg 454 = some f454 := rfl
theorem pg308 : pg 308 = some f308 := rfl
theorem pg39 : pg 39 = some f39 := rfl
theorem pg30 : pg 30 = some f30 := rfl
theorem pg325 : pg 325 = some f325 := rfl
theorem pg327 : pg 327 = some f327 := rfl
theorem pg329 : pg 329 = some f329 := rfl
theorem pg330 : pg 330 = some f330 := rfl
theorem pg97 : pg 97 = some f97 := rfl
theorem pg285 : pg 285 = some f285 := rfl
theorem pg286 : pg 286 = some f286 := rfl
theorem pg287 : pg 287 = some f287 := rfl
theorem pg288 : pg 288 = some f288 := rfl
theorem pg455 : pg 455 = some f455 := rfl
theorem pg335 : pg 335 = some f335 := rfl
theorem pg336 : pg 336 = some f336 := rfl
theorem pg338 : pg 338 = some f338 := rfl
theorem pg337 : pg 337 = some f337 := rfl
theorem pg358 : pg 358 = some f358 := rfl
theorem pg341 : pg 341 = some f341 := rfl
theorem pg17 : pg 17 = some f17 := rfl
theorem pg331 : pg 331 = some f331 := rfl
theorem pg36 : pg 36 = some f36 := rfl
theorem pg41 : pg 41 = some f41 := rfl
theorem pg346 : pg 346 = some f346 := rfl
theorem pg347 : pg 347 = some f347 := rfl
theorem pg348 : pg 348 = some f348 := rfl
theorem pg349 : pg 349 = some f349 := rfl
theorem pg350 : pg 350 = some f350 := rfl
theorem pg351 : pg 351 = some f351 := rfl
theorem pg124 : pg 124 = some f124 := rfl
theorem pg219 : pg 219 = some f219 := rfl
theorem pg294 : pg 294 = some f294 := rfl
theorem pg295 : pg 295 = some f295 := rfl
theorem pg297 : pg 297 = some f297 := rfl
theorem pg296 : pg 296 = some f296 := rfl
theorem pg235 : pg 235 = some f235 := rfl
theorem pg357 : pg 357 = some f357 := rfl
theorem pg359 : pg 359 = some f359 := rfl
theorem pg368 : pg 368 = some f368 := rfl
theorem pg369 : pg 369 = some f369 := rfl
theorem pg370 : pg 370 = some f370 := rfl
theorem pg371 : pg 371 = some f371 := rfl
theorem pg372 : pg 372 = some f372 := rfl
theorem pg373 : pg 373 = some f373 := rfl
theorem pg144 : pg 144 = some f144 := rfl
theorem pg146 : pg 146 = some f146 := rfl
theorem pg145 : pg 145 = some f145 := rfl
theorem pg224 : pg 224 = some f224 := rfl
theorem pg223 : pg 223 = some f223 := rfl
theorem pg301 : pg 301 = some f301 := rfl
theorem pg238 : pg 238 = some f238 := rfl
theorem pg379 : pg 379 = some f379 := rfl
theorem pg390 : pg 390 = some f390 := rfl
theorem pg391 : pg 391 = some f391 := rfl
theorem pg158 : pg 158 = some f158 := rfl
end Go.Cl.S
