/-
  The functions' clean texts, printed by a program out of the loaded ones.
-/
import Derived.Test.YtnfajbkbmlmdoaaGreatDoorSA
namespace Go.Cl.S
open Go Go.Cl

/-- slices.Contains[[]int,int] -/
def b340 : SCode := (
.seq (.ops [⟨some 4, .move (.c (.bool false)), none, []⟩] none [0, 1])
(.seq (.ops [⟨some 5, .move (.t 0), none, []⟩,
  ⟨some 6, .move (.t 1), none, []⟩,
  ⟨some 7, .call 360 [(.t 5), (.t 6)], none, []⟩,
  ⟨some 8, .bin .geq (.t 7) (.c (.int .i64 0)), none, []⟩,
  ⟨some 4, .move (.t 8), none, []⟩] none [4])
(.ret)))
def f340 : SFunc := ⟨b340, [.t 4]⟩

/-- watchbill/prog.Locks -/
def b339 : SCode := (
.seq (.ops [⟨some 2, .move (.c .nils), none, []⟩] none [0])
(.seq (.ops [⟨some 3, .move (.c .nils), none, []⟩] none [0, 3])
(.seq (.seq (.ops [⟨some 6, .move (.t 0), none, []⟩,
  ⟨some 7, .len .sl (.t 6), none, []⟩,
  ⟨some 8, .move (.c (.int .i64 0)), none, []⟩] none [3, 6, 7, 8])
(.block 0 (.loop [3, 6, 7, 8] (.seq (.ops [⟨some 9, .bin .lss (.t 8) (.t 7), none, []⟩] none [3, 6, 7, 8, 9])
    (.seq (.cond (.t 9)
      (.skip)
      (.exit 0))
    (.seq (.block 1 (.seq (.ops [⟨some 10, .idxAddr 5 (.t 6) (.t 8), none, []⟩,
        ⟨some 11, .load (some 5) (.t 10), none, []⟩,
        ⟨some 5, .alloc (.agg [(.int .i64 0), (.int .i64 0), (.int .i64 0), (.int .i64 0), .nils]), none, []⟩,
        ⟨none, .store (some 5) (.t 5) (.t 11), none, []⟩] none [3, 5, 6, 7, 8])
      (.seq (.ops [⟨some 12, .fldAddr 0 (.t 5), none, []⟩,
        ⟨some 13, .load none (.t 12), none, []⟩,
        ⟨some 14, .bin .eql (.t 13) (.c (.int .i64 2)), none, []⟩] none [3, 5, 6, 7, 8, 14])
      (.cond (.t 14)
        (.ops [⟨some 15, .move (.t 3), none, []⟩,
          ⟨some 16, .fldAddr 1 (.t 5), none, []⟩,
          ⟨some 17, .load none (.t 16), none, []⟩,
          ⟨some 18, .buildSl 1 [(.int .i64 0)] [(0, 1, (.t 17))], none, []⟩,
          ⟨some 19, .append 1 (.t 15) (.t 18), none, []⟩,
          ⟨some 3, .move (.t 19), none, []⟩] none [3, 6, 7, 8])
        (.skip)))))
    (.ops [⟨some 20, .bin .add (.t 8) (.c (.int .i64 1)), none, []⟩,
      ⟨some 8, .move (.t 20), none, []⟩] none [3, 6, 7, 8])))))))
(.seq (.ops [⟨some 21, .move (.t 3), none, []⟩,
  ⟨some 22, .call 361 [(.t 21)], none, []⟩] none [3])
(.seq (.ops [⟨some 23, .move (.t 3), none, []⟩,
  ⟨some 24, .call 362 [(.t 23)], none, []⟩,
  ⟨some 2, .move (.t 24), none, []⟩] none [2])
(.ret))))))
def f339 : SFunc := ⟨b339, [.t 2]⟩

/-- watchbill/prog.Flat -/
def b65 : SCode := (
.seq (.ops [⟨some 2, .move (.c .nils), none, []⟩] none [0])
(.seq (.ops [⟨some 3, .move (.c .nils), none, []⟩] none [0, 3])
(.seq (.seq (.ops [⟨some 4, .move (.c (.int .i64 0)), none, []⟩] none [0, 3, 4])
(.block 0 (.loop [0, 3, 4] (.seq (.seq (.ops [⟨some 7, .move (.t 4), none, []⟩,
      ⟨some 8, .move (.t 0), none, []⟩,
      ⟨some 9, .len .sl (.t 8), none, []⟩,
      ⟨some 10, .bin .lss (.t 7) (.t 9), none, []⟩] none [0, 3, 4, 10])
    (.cond (.t 10)
      (.skip)
      (.exit 0)))
    (.seq (.block 1 (.seq (.seq (.ops [⟨some 13, .move (.t 0), none, []⟩,
        ⟨some 14, .move (.t 4), none, []⟩,
        ⟨some 15, .idxAddr 5 (.t 13) (.t 14), none, []⟩,
        ⟨some 16, .fldAddr 0 (.t 15), none, []⟩,
        ⟨some 17, .load none (.t 16), none, []⟩,
        ⟨some 18, .bin .neq (.t 17) (.c (.int .i64 8)), none, []⟩] none [0, 3, 4, 18])
      (.cond (.t 18)
        (.seq (.ops [⟨some 19, .move (.t 3), none, []⟩,
          ⟨some 20, .move (.t 0), none, []⟩,
          ⟨some 21, .move (.t 4), none, []⟩,
          ⟨some 22, .idxAddr 5 (.t 20) (.t 21), none, []⟩,
          ⟨some 23, .load (some 5) (.t 22), none, []⟩,
          ⟨some 24, .buildSl 1 [(.int .i64 0), (.int .i64 0), (.int .i64 0), (.int .i64 0), .nils] [(0, 5, (.t 23))], none, []⟩,
          ⟨some 25, .append 5 (.t 19) (.t 24), none, []⟩,
          ⟨some 3, .move (.t 25), none, []⟩] none [0, 3, 4])
        (.exit 1))
        (.skip)))
      (.seq (.ops [⟨some 26, .move (.t 0), none, []⟩,
        ⟨some 27, .move (.t 4), none, []⟩,
        ⟨some 28, .call 69 [(.t 26), (.t 27)], none, []⟩,
        ⟨some 5, .move (.t 28), none, []⟩] none [0, 3, 4, 5])
      (.seq (.seq (.ops [⟨some 29, .move (.t 5), none, []⟩,
        ⟨some 30, .bin .lss (.t 29) (.c (.int .i64 0)), none, []⟩] none [0, 3, 4, 5, 30])
      (.cond (.t 30)
        (.exit 0)
        (.skip)))
      (.seq (.ops [⟨some 31, .move (.t 0), none, []⟩,
        ⟨some 32, .move (.t 4), none, []⟩,
        ⟨some 33, .bin .add (.t 32) (.c (.int .i64 1)), none, []⟩,
        ⟨some 34, .move (.t 5), none, []⟩,
        ⟨some 35, .slSl 5 (.t 31) (some (.t 33)) (some (.t 34)), none, []⟩,
        ⟨some 36, .call 65 [(.t 35)], none, []⟩,
        ⟨some 6, .move (.t 36), none, []⟩] none [0, 3, 4, 5, 6])
      (.seq (.seq (.ops [⟨some 37, .move (.t 0), none, []⟩,
        ⟨some 38, .move (.t 4), none, []⟩,
        ⟨some 39, .idxAddr 5 (.t 37) (.t 38), none, []⟩,
        ⟨some 40, .fldAddr 1 (.t 39), none, []⟩,
        ⟨some 41, .load none (.t 40), none, []⟩,
        ⟨some 42, .move (.c (.int .i64 0)), none, []⟩] none [0, 3, 5, 6, 41, 42])
      (.block 2 (.loop [0, 3, 5, 6, 41, 42] (.seq (.ops [⟨some 43, .bin .lss (.t 42) (.t 41), none, []⟩] none [0, 3, 5, 6, 41, 42, 43])
          (.seq (.cond (.t 43)
            (.skip)
            (.exit 2))
          (.seq (.block 3 (.ops [⟨some 44, .move (.t 3), none, []⟩,
              ⟨some 45, .move (.t 6), none, []⟩,
              ⟨some 46, .append 5 (.t 44) (.t 45), none, []⟩,
              ⟨some 3, .move (.t 46), none, []⟩] none [0, 3, 5, 6, 41, 42]))
          (.ops [⟨some 47, .bin .add (.t 42) (.c (.int .i64 1)), none, []⟩,
            ⟨some 42, .move (.t 47), none, []⟩] none [0, 3, 5, 6, 41, 42])))))))
      (.ops [⟨some 48, .move (.t 5), none, []⟩,
        ⟨some 4, .move (.t 48), none, []⟩] none [0, 3, 4])))))))
    (.ops [⟨some 11, .move (.t 4), none, []⟩,
      ⟨some 12, .bin .add (.t 11) (.c (.int .i64 1)), none, []⟩,
      ⟨some 4, .move (.t 12), none, []⟩] none [0, 3, 4]))))))
(.seq (.ops [⟨some 49, .move (.t 3), none, []⟩,
  ⟨some 2, .move (.t 49), none, []⟩] none [2])
(.ret)))))
def f65 : SFunc := ⟨b65, [.t 2]⟩

/-- watchbill/graph.Prios -/
def b17 : SCode := (
.seq (.ops [⟨some 6, .move (.c .nils), none, []⟩] none [0, 1, 2])
(.seq (.ops [⟨some 12, .move (.t 0), none, []⟩,
  ⟨some 13, .call 55 [(.t 12)], none, []⟩,
  ⟨some 7, .move (.t 13), none, []⟩] none [1, 2, 7])
(.seq (.seq (.ops [⟨some 14, .move (.t 7), none, []⟩,
  ⟨some 15, .len .sl (.t 14), none, []⟩,
  ⟨some 16, .move (.c (.int .i64 0)), none, []⟩] none [1, 2, 7, 15, 16])
(.block 0 (.loop [1, 2, 7, 15, 16] (.seq (.ops [⟨some 17, .bin .lss (.t 16) (.t 15), none, []⟩] none [1, 2, 7, 15, 16, 17])
    (.seq (.cond (.t 17)
      (.skip)
      (.exit 0))
    (.seq (.block 1 (.seq (.ops [⟨some 18, .move (.t 16), none, []⟩,
        ⟨some 8, .move (.t 18), none, []⟩] none [1, 2, 7, 8, 15, 16])
      (.seq (.ops [⟨some 19, .move (.t 8), none, []⟩,
        ⟨some 20, .move (.t 1), none, []⟩,
        ⟨some 21, .len .sl (.t 20), none, []⟩,
        ⟨some 22, .bin .lss (.t 19) (.t 21), none, []⟩] none [1, 2, 7, 8, 15, 16, 22])
      (.cond (.t 22)
        (.ops [⟨some 23, .move (.t 7), none, []⟩,
          ⟨some 24, .move (.t 8), none, []⟩,
          ⟨some 25, .move (.t 7), none, []⟩,
          ⟨some 26, .move (.t 8), none, []⟩,
          ⟨some 27, .idxAddr 1 (.t 25) (.t 26), none, []⟩,
          ⟨some 28, .load none (.t 27), none, []⟩,
          ⟨some 29, .move (.t 1), none, []⟩,
          ⟨some 30, .move (.t 8), none, []⟩,
          ⟨some 31, .idxAddr 1 (.t 29) (.t 30), none, []⟩,
          ⟨some 32, .load none (.t 31), none, []⟩,
          ⟨some 33, .mx [(.t 28), (.t 32)], none, []⟩,
          ⟨some 34, .idxAddr 1 (.t 23) (.t 24), none, []⟩,
          ⟨none, .store none (.t 34) (.t 33), none, []⟩] (some [(0, []), (1, []), (2, []), (3, []), (4, [2, 3]), (5, [4, 2, 3]), (6, []), (7, []), (8, [6, 7]), (9, [8, 6, 7]), (10, [5, 4, 2, 3, 9, 8, 6, 7]), (11, [0, 1, 2, 3, 4, 5, 6, 7, 8, 9, 10]), (12, [11, 0, 1, 2, 3, 4, 5, 6, 7, 8, 9, 10])]) [1, 2, 7, 15, 16])
        (.skip)))))
    (.ops [⟨some 35, .bin .add (.t 16) (.c (.int .i64 1)), none, []⟩,
      ⟨some 16, .move (.t 35), none, []⟩] none [1, 2, 7, 15, 16])))))))
(.seq (.skip)
(.seq (.block 2 (.loop [2, 7] (.block 3 (.seq (.ops [⟨some 9, .move (.c (.bool false)), none, []⟩] none [2, 7, 9])
      (.seq (.seq (.ops [⟨some 36, .move (.t 2), none, []⟩,
        ⟨some 37, .len .sl (.t 36), none, []⟩,
        ⟨some 38, .move (.c (.int .i64 0)), none, []⟩] none [2, 7, 9, 36, 37, 38])
      (.block 4 (.loop [2, 7, 9, 36, 37, 38] (.seq (.ops [⟨some 39, .bin .lss (.t 38) (.t 37), none, []⟩] none [2, 7, 9, 36, 37, 38, 39])
          (.seq (.cond (.t 39)
            (.skip)
            (.exit 4))
          (.seq (.block 5 (.seq (.ops [⟨some 40, .idxAddr 2 (.t 36) (.t 38), none, []⟩,
              ⟨some 41, .load (some 2) (.t 40), none, []⟩,
              ⟨some 11, .alloc (.agg [(.int .i64 0), (.int .i64 0)]), none, []⟩,
              ⟨none, .store (some 2) (.t 11) (.t 41), none, []⟩] none [2, 7, 9, 11, 36, 37, 38])
            (.seq (.ops [⟨some 42, .load (some 2) (.t 11), none, []⟩,
              ⟨some 43, .move (.t 7), none, []⟩,
              ⟨some 44, .len .sl (.t 43), none, []⟩,
              ⟨some 45, .call 56 [(.t 42), (.t 44)], none, []⟩,
              ⟨some 46, .move (.t 45), none, []⟩,
              ⟨some 47, .move (.t 7), (some (46, true)), []⟩,
              ⟨some 48, .fldAddr 0 (.t 11), (some (46, true)), []⟩,
              ⟨some 49, .load none (.t 48), (some (46, true)), []⟩,
              ⟨some 50, .idxAddr 1 (.t 47) (.t 49), (some (46, true)), []⟩,
              ⟨some 51, .load none (.t 50), (some (46, true)), []⟩,
              ⟨some 52, .move (.t 7), (some (46, true)), []⟩,
              ⟨some 53, .fldAddr 1 (.t 11), (some (46, true)), []⟩,
              ⟨some 54, .load none (.t 53), (some (46, true)), []⟩,
              ⟨some 55, .idxAddr 1 (.t 52) (.t 54), (some (46, true)), []⟩,
              ⟨some 56, .load none (.t 55), (some (46, true)), []⟩,
              ⟨some 57, .bin .gtr (.t 51) (.t 56), (some (46, true)), []⟩,
              ⟨some 58, .pick (.t 46) (.t 57) (.c (.bool false)), none, []⟩] (some [(0, []), (1, []), (2, [1]), (3, [0, 2, 1]), (4, [3, 0, 2, 1]), (5, [4, 3, 0, 2, 1]), (6, [4, 3, 0, 2, 1]), (7, [6, 4, 3, 0, 2, 1]), (8, [5, 4, 3, 0, 2, 1, 7, 6]), (9, [8, 5, 4, 3, 0, 2, 1, 7, 6]), (10, [4, 3, 0, 2, 1]), (11, [4, 3, 0, 2, 1]), (12, [11, 4, 3, 0, 2, 1]), (13, [10, 4, 3, 0, 2, 1, 12, 11]), (14, [13, 10, 4, 3, 0, 2, 1, 12, 11]), (15, [9, 8, 5, 4, 3, 0, 2, 1, 7, 6, 14, 13, 10, 12, 11]), (16, [4, 3, 0, 2, 1, 15, 9, 8, 5, 7, 6, 14, 13, 10, 12, 11])]) [2, 7, 9, 11, 36, 37, 38, 58])
            (.cond (.t 58)
              (.seq (.ops [⟨some 59, .move (.t 7), none, []⟩,
                ⟨some 60, .fldAddr 1 (.t 11), none, []⟩,
                ⟨some 61, .load none (.t 60), none, []⟩,
                ⟨some 62, .move (.t 7), none, []⟩,
                ⟨some 63, .fldAddr 0 (.t 11), none, []⟩,
                ⟨some 64, .load none (.t 63), none, []⟩,
                ⟨some 65, .idxAddr 1 (.t 62) (.t 64), none, []⟩,
                ⟨some 66, .load none (.t 65), none, []⟩,
                ⟨some 67, .idxAddr 1 (.t 59) (.t 61), none, []⟩,
                ⟨none, .store none (.t 67) (.t 66), none, []⟩] (some [(0, []), (1, []), (2, [1]), (3, []), (4, []), (5, [4]), (6, [3, 5, 4]), (7, [6, 3, 5, 4]), (8, [0, 2, 1, 3, 4, 5, 6, 7]), (9, [8, 0, 2, 1, 3, 4, 5, 6, 7])]) [2, 7, 36, 37, 38])
              (.ops [⟨some 9, .move (.c (.bool true)), none, []⟩] none [2, 7, 9, 36, 37, 38]))
              (.skip)))))
          (.ops [⟨some 68, .bin .add (.t 38) (.c (.int .i64 1)), none, []⟩,
            ⟨some 38, .move (.t 68), none, []⟩] none [2, 7, 9, 36, 37, 38])))))))
      (.seq (.ops [⟨some 69, .move (.t 9), none, []⟩,
        ⟨some 70, .not (.t 69), none, []⟩] none [2, 7, 70])
      (.cond (.t 70)
        (.exit 2)
        (.skip))))))))
(.seq (.ops [⟨some 71, .move (.t 7), none, []⟩,
  ⟨some 6, .move (.t 71), none, []⟩] none [6])
(.ret)))))))
def f17 : SFunc := ⟨b17, [.t 6]⟩

/-- (*watchbill/core.Core).lends -/
def b331 : SCode := (
.seq (.ops [⟨some 2, .move (.c .nils), none, []⟩] none [0])
(.seq (.ops [⟨some 3, .move (.c .nils), none, []⟩] none [0, 3])
(.seq (.seq (.ops [⟨some 13, .move (.t 0), none, []⟩,
  ⟨some 14, .nilck (.t 13), none, []⟩,
  ⟨some 15, .fldAddr 7 (.t 14), none, []⟩,
  ⟨some 16, .load none (.t 15), none, []⟩,
  ⟨some 17, .len .sl (.t 16), none, []⟩,
  ⟨some 18, .move (.c (.int .i64 0)), none, []⟩] none [0, 3, 16, 17, 18])
(.block 0 (.loop [0, 3, 16, 17, 18] (.seq (.ops [⟨some 19, .bin .lss (.t 18) (.t 17), none, []⟩] none [0, 3, 16, 17, 18, 19])
    (.seq (.cond (.t 19)
      (.skip)
      (.exit 0))
    (.seq (.block 1 (.seq (.ops [⟨some 20, .idxAddr 1 (.t 16) (.t 18), none, []⟩,
        ⟨some 21, .load none (.t 20), none, []⟩,
        ⟨some 5, .move (.t 21), none, []⟩] none [0, 3, 5, 16, 17, 18])
      (.seq (.ops [⟨some 22, .move (.t 5), none, []⟩,
        ⟨some 23, .call 354 [(.t 22)], none, []⟩,
        ⟨some 24, .len .sl (.t 23), none, []⟩,
        ⟨some 25, .move (.c (.int .i64 0)), none, []⟩] none [0, 3, 5, 16, 17, 18, 23, 24, 25])
      (.block 2 (.loop [0, 3, 5, 16, 17, 18, 23, 24, 25] (.seq (.ops [⟨some 26, .bin .lss (.t 25) (.t 24), none, []⟩] none [0, 3, 5, 16, 17, 18, 23, 24, 25, 26])
          (.seq (.cond (.t 26)
            (.skip)
            (.exit 2))
          (.seq (.block 3 (.seq (.ops [⟨some 27, .idxAddr 4 (.t 23) (.t 25), none, []⟩,
              ⟨some 28, .load (some 4) (.t 27), none, []⟩,
              ⟨some 7, .alloc (.agg [(.int .i64 0), (.int .i64 0), (.int .i64 0), (.int .i64 0)]), none, []⟩,
              ⟨none, .store (some 4) (.t 7) (.t 28), none, []⟩] none [0, 3, 5, 7, 16, 17, 18, 23, 24, 25])
            (.ops [⟨some 29, .move (.t 3), none, []⟩,
              ⟨some 30, .fldAddr 0 (.t 7), none, []⟩,
              ⟨some 31, .load none (.t 30), none, []⟩,
              ⟨some 32, .move (.t 5), none, []⟩,
              ⟨some 33, .call 315 [(.t 32)], none, [2]⟩,
              ⟨some 34, .build [(.int .i64 0), (.int .i64 0)] [(0, 1, (.t 31)), (1, 1, (.t 33))], none, []⟩,
              ⟨some 35, .buildSl 1 [(.int .i64 0), (.int .i64 0)] [(0, 2, (.t 34))], none, []⟩,
              ⟨some 36, .append 2 (.t 29) (.t 35), none, []⟩,
              ⟨some 3, .move (.t 36), none, []⟩] (some [(0, []), (1, []), (2, [1]), (3, []), (4, [3]), (5, [2, 1, 4, 3]), (6, [5, 2, 1, 4, 3]), (7, [0, 6, 5, 2, 1, 4, 3]), (8, [7, 0, 6, 5, 2, 1, 4, 3])]) [0, 3, 5, 16, 17, 18, 23, 24, 25])))
          (.ops [⟨some 37, .bin .add (.t 25) (.c (.int .i64 1)), none, []⟩,
            ⟨some 25, .move (.t 37), none, []⟩] none [0, 3, 5, 16, 17, 18, 23, 24, 25])))))))))
    (.ops [⟨some 38, .bin .add (.t 18) (.c (.int .i64 1)), none, []⟩,
      ⟨some 18, .move (.t 38), none, []⟩] none [0, 3, 16, 17, 18])))))))
(.seq (.skip)
(.seq (.seq (.ops [⟨some 39, .move (.t 0), none, []⟩,
  ⟨some 40, .nilck (.t 39), none, []⟩,
  ⟨some 41, .fldAddr 6 (.t 40), none, []⟩,
  ⟨some 42, .load none (.t 41), none, []⟩,
  ⟨some 43, .len .sl (.t 42), none, []⟩,
  ⟨some 44, .move (.c (.int .i64 0)), none, []⟩] none [0, 3, 42, 43, 44])
(.block 4 (.loop [0, 3, 42, 43, 44] (.seq (.ops [⟨some 45, .bin .lss (.t 44) (.t 43), none, []⟩] none [0, 3, 42, 43, 44, 45])
    (.seq (.cond (.t 45)
      (.skip)
      (.exit 4))
    (.seq (.block 5 (.seq (.ops [⟨some 46, .move (.t 44), none, []⟩,
        ⟨some 47, .idxAddr 1 (.t 42) (.t 44), none, []⟩,
        ⟨some 48, .load none (.t 47), none, []⟩,
        ⟨some 8, .move (.t 46), none, []⟩,
        ⟨some 9, .move (.t 48), none, []⟩] none [0, 3, 8, 9, 42, 43, 44])
      (.seq (.ops [⟨some 49, .move (.t 0), none, []⟩,
        ⟨some 50, .nilck (.t 49), none, []⟩,
        ⟨some 51, .fldAddr 0 (.t 50), none, []⟩,
        ⟨some 52, .fldAddr 1 (.t 51), none, []⟩,
        ⟨some 53, .load none (.t 52), none, []⟩,
        ⟨some 54, .move (.t 8), none, []⟩,
        ⟨some 55, .idxAddr 2 (.t 53) (.t 54), none, []⟩,
        ⟨some 56, .fldAddr 1 (.t 55), none, []⟩,
        ⟨some 57, .load none (.t 56), none, []⟩,
        ⟨some 10, .move (.t 57), none, []⟩] none [0, 3, 9, 10, 42, 43, 44])
      (.seq (.seq (.ops [⟨some 58, .move (.t 10), none, []⟩,
        ⟨some 59, .bin .lss (.t 58) (.c (.int .i64 0)), none, []⟩,
        ⟨some 60, .move (.t 59), none, []⟩,
        ⟨some 61, .move (.t 0), (some (60, false)), []⟩,
        ⟨some 62, .nilck (.t 61), (some (60, false)), []⟩,
        ⟨some 63, .fldAddr 5 (.t 62), (some (60, false)), []⟩,
        ⟨some 64, .load none (.t 63), (some (60, false)), []⟩,
        ⟨some 65, .move (.t 10), (some (60, false)), []⟩,
        ⟨some 66, .idxAddr 10 (.t 64) (.t 65), (some (60, false)), []⟩,
        ⟨some 67, .fldAddr 0 (.t 66), (some (60, false)), []⟩,
        ⟨some 68, .load none (.t 67), (some (60, false)), []⟩,
        ⟨some 69, .not (.t 68), (some (60, false)), []⟩,
        ⟨some 70, .pick (.t 60) (.c (.bool true)) (.t 69), none, []⟩] none [0, 3, 9, 10, 42, 43, 44, 70])
      (.cond (.t 70)
        (.exit 5)
        (.skip)))
      (.seq (.ops [⟨some 71, .move (.t 9), none, []⟩,
        ⟨some 72, .call 355 [(.t 71)], none, []⟩,
        ⟨some 73, .len .sl (.t 72), none, []⟩,
        ⟨some 74, .move (.c (.int .i64 0)), none, []⟩] none [0, 3, 10, 42, 43, 44, 72, 73, 74])
      (.block 6 (.loop [0, 3, 10, 42, 43, 44, 72, 73, 74] (.seq (.ops [⟨some 75, .bin .lss (.t 74) (.t 73), none, []⟩] none [0, 3, 10, 42, 43, 44, 72, 73, 74, 75])
          (.seq (.cond (.t 75)
            (.skip)
            (.exit 6))
          (.seq (.block 7 (.seq (.ops [⟨some 76, .idxAddr 4 (.t 72) (.t 74), none, []⟩,
              ⟨some 77, .load (some 4) (.t 76), none, []⟩,
              ⟨some 12, .alloc (.agg [(.int .i64 0), (.int .i64 0), (.int .i64 0), (.int .i64 0)]), none, []⟩,
              ⟨none, .store (some 4) (.t 12) (.t 77), none, []⟩] none [0, 3, 10, 12, 42, 43, 44, 72, 73, 74])
            (.ops [⟨some 78, .move (.t 3), none, []⟩,
              ⟨some 79, .fldAddr 0 (.t 12), none, []⟩,
              ⟨some 80, .load none (.t 79), none, []⟩,
              ⟨some 81, .move (.t 10), none, []⟩,
              ⟨some 82, .build [(.int .i64 0), (.int .i64 0)] [(0, 1, (.t 80)), (1, 1, (.t 81))], none, []⟩,
              ⟨some 83, .buildSl 1 [(.int .i64 0), (.int .i64 0)] [(0, 2, (.t 82))], none, []⟩,
              ⟨some 84, .append 2 (.t 78) (.t 83), none, []⟩,
              ⟨some 3, .move (.t 84), none, []⟩] none [0, 3, 10, 42, 43, 44, 72, 73, 74])))
          (.ops [⟨some 85, .bin .add (.t 74) (.c (.int .i64 1)), none, []⟩,
            ⟨some 74, .move (.t 85), none, []⟩] none [0, 3, 10, 42, 43, 44, 72, 73, 74])))))))))))
    (.ops [⟨some 86, .bin .add (.t 44) (.c (.int .i64 1)), none, []⟩,
      ⟨some 44, .move (.t 86), none, []⟩] none [0, 3, 42, 43, 44])))))))
(.seq (.ops [⟨some 87, .move (.t 3), none, []⟩,
  ⟨some 2, .move (.t 87), none, []⟩] none [2])
(.ret)))))))
def f331 : SFunc := ⟨b331, [.t 2]⟩

/-- watchbill/job.Begin -/
def b36 : SCode := (
.seq (.ops [⟨some 1, .box (.t 0), none, []⟩,
  ⟨some 2, .alloc (.agg [(.bool false), .nils, (.int .i64 0), (.int .i64 0), (.int .i64 0), (.int .i64 0), (.int .i64 0), (.int .i64 0), (.bool false), .nils]), none, []⟩,
  ⟨some 3, .move (.c (.bool false)), none, []⟩] none [1, 2])
(.seq (.ops [⟨some 7, .load (some 10) (.t 1), none, []⟩,
  ⟨some 8, .call 30 [(.t 7)], none, []⟩,
  ⟨some 6, .move (.t 8), none, []⟩,
  ⟨some 9, .ext 0 (.t 6), none, []⟩,
  ⟨some 10, .ext 1 (.t 6), none, []⟩,
  ⟨some 4, .alloc (.agg [(.int .i64 0), (.int .i64 0), (.int .i64 0), (.int .i64 0), .nils]), none, []⟩,
  ⟨none, .store (some 5) (.t 4) (.t 9), none, []⟩,
  ⟨some 5, .move (.t 10), none, []⟩] none [1, 2, 4, 5])
(.seq (.seq (.ops [⟨some 11, .move (.t 5), none, []⟩,
  ⟨some 12, .not (.t 11), none, []⟩,
  ⟨some 13, .move (.t 12), none, []⟩,
  ⟨some 14, .fldAddr 0 (.t 4), (some (13, false)), []⟩,
  ⟨some 15, .load none (.t 14), (some (13, false)), []⟩,
  ⟨some 16, .bin .neq (.t 15) (.c (.int .i64 1)), (some (13, false)), []⟩,
  ⟨some 17, .pick (.t 13) (.c (.bool true)) (.t 16), none, []⟩,
  ⟨some 18, .move (.t 17), none, []⟩,
  ⟨some 19, .fldAddr 3 (.t 1), (some (18, false)), []⟩,
  ⟨some 20, .load none (.t 19), (some (18, false)), []⟩,
  ⟨some 21, .bin .neq (.t 20) (.c (.int .i64 0)), (some (18, false)), []⟩,
  ⟨some 22, .pick (.t 18) (.c (.bool true)) (.t 21), none, []⟩,
  ⟨some 23, .move (.t 22), none, []⟩,
  ⟨some 24, .fldAddr 4 (.t 1), (some (23, false)), []⟩,
  ⟨some 25, .load none (.t 24), (some (23, false)), []⟩,
  ⟨some 26, .fldAddr 5 (.t 1), (some (23, false)), []⟩,
  ⟨some 27, .load none (.t 26), (some (23, false)), []⟩,
  ⟨some 28, .bin .geq (.t 25) (.t 27), (some (23, false)), []⟩,
  ⟨some 29, .pick (.t 23) (.c (.bool true)) (.t 28), none, []⟩] none [1, 2, 4, 29])
(.cond (.t 29)
  (.seq (.ops [⟨some 30, .load (some 10) (.t 1), none, []⟩,
    ⟨none, .store (some 10) (.t 2) (.t 30), none, []⟩,
    ⟨some 3, .move (.c (.bool false)), none, []⟩] none [2, 3])
  (.ret))
  (.skip)))
(.seq (.ops [⟨some 31, .fldAddr 1 (.t 4), none, []⟩,
  ⟨some 32, .load none (.t 31), none, []⟩,
  ⟨some 33, .fldAddr 3 (.t 1), none, []⟩,
  ⟨none, .store none (.t 33) (.t 32), none, []⟩] none [1, 2])
(.seq (.ops [⟨some 34, .load (some 10) (.t 1), none, []⟩,
  ⟨none, .store (some 10) (.t 2) (.t 34), none, []⟩,
  ⟨some 3, .move (.c (.bool true)), none, []⟩] none [2, 3])
(.ret))))))
def f36 : SFunc := ⟨b36, [.cell (some 10) 2, .t 3]⟩

/-- (*watchbill/lockq.Lock).Take -/
def b342 : SCode := (
.seq (.ops [⟨some 6, .move (.c (.bool false)), none, []⟩,
  ⟨some 7, .move (.c (.int .i64 0)), none, []⟩] none [0, 1, 2])
(.seq (.block 0 (.seq (.ops [⟨some 9, .move (.t 1), none, []⟩,
    ⟨some 10, .bin .lss (.t 9) (.c (.int .i64 0)), none, []⟩,
    ⟨some 8, .move (.t 10), none, []⟩] none [0, 1, 2, 8])
  (.cond (.t 8)
    (.seq (.ops [⟨some 6, .move (.c (.bool false)), none, []⟩,
      ⟨some 7, .move (.c (.int .i64 1)), none, []⟩] none [6, 7])
    (.ret))
    (.seq (.ops [⟨some 12, .move (.t 0), none, []⟩,
      ⟨some 13, .nilck (.t 12), none, []⟩,
      ⟨some 14, .fldAddr 0 (.t 13), none, []⟩,
      ⟨some 15, .load none (.t 14), none, []⟩,
      ⟨some 16, .move (.t 1), none, []⟩,
      ⟨some 17, .bin .eql (.t 15) (.t 16), none, []⟩,
      ⟨some 18, .move (.t 17), none, []⟩,
      ⟨some 19, .move (.t 0), (some (18, false)), []⟩,
      ⟨some 20, .nilck (.t 19), (some (18, false)), []⟩,
      ⟨some 21, .fldAddr 1 (.t 20), (some (18, false)), []⟩,
      ⟨some 22, .load none (.t 21), (some (18, false)), []⟩,
      ⟨some 23, .move (.t 1), (some (18, false)), []⟩,
      ⟨some 24, .call 363 [(.t 22), (.t 23)], (some (18, false)), []⟩,
      ⟨some 25, .pick (.t 18) (.c (.bool true)) (.t 24), none, []⟩,
      ⟨some 11, .move (.t 25), none, []⟩] none [0, 1, 2, 11])
    (.cond (.t 11)
      (.seq (.ops [⟨some 6, .move (.c (.bool false)), none, []⟩,
        ⟨some 7, .move (.c (.int .i64 6)), none, []⟩] none [6, 7])
      (.ret))
      (.seq (.ops [⟨some 27, .move (.t 0), none, []⟩,
        ⟨some 28, .nilck (.t 27), none, []⟩,
        ⟨some 29, .fldAddr 0 (.t 28), none, []⟩,
        ⟨some 30, .load none (.t 29), none, []⟩,
        ⟨some 31, .bin .eql (.t 30) (.c (.int .i64 (-1))), none, []⟩,
        ⟨some 26, .move (.t 31), none, []⟩] none [0, 1, 2, 26])
      (.cond (.t 26)
        (.seq (.ops [⟨some 32, .move (.t 0), none, []⟩,
          ⟨some 33, .move (.t 1), none, []⟩,
          ⟨some 34, .nilck (.t 32), none, []⟩,
          ⟨some 35, .fldAddr 0 (.t 34), none, []⟩,
          ⟨none, .store none (.t 35) (.t 33), none, []⟩] none [])
        (.seq (.ops [⟨some 6, .move (.c (.bool true)), none, []⟩,
          ⟨some 7, .move (.c (.int .i64 0)), none, []⟩] none [6, 7])
        (.ret)))
        (.skip))))))))
(.seq (.ops [⟨some 36, .move (.t 0), none, []⟩,
  ⟨some 37, .move (.t 0), none, []⟩,
  ⟨some 38, .nilck (.t 37), none, []⟩,
  ⟨some 39, .fldAddr 1 (.t 38), none, []⟩,
  ⟨some 40, .load none (.t 39), none, []⟩,
  ⟨some 41, .call 356 [(.t 40)], none, []⟩,
  ⟨some 42, .move (.t 1), none, []⟩,
  ⟨some 43, .move (.t 2), none, []⟩,
  ⟨some 44, .build [(.int .i64 0), (.int .i64 0), (.int .i64 0), (.int .i64 0)] [(0, 1, (.t 42)), (2, 1, (.t 43))], none, []⟩,
  ⟨some 45, .buildSl 1 [(.int .i64 0), (.int .i64 0), (.int .i64 0), (.int .i64 0)] [(0, 4, (.t 44))], none, []⟩,
  ⟨some 46, .append 4 (.t 41) (.t 45), none, []⟩,
  ⟨some 47, .nilck (.t 36), none, []⟩,
  ⟨some 48, .fldAddr 1 (.t 47), none, []⟩,
  ⟨none, .store none (.t 48) (.t 46), none, []⟩] none [])
(.seq (.ops [⟨some 6, .move (.c (.bool false)), none, []⟩,
  ⟨some 7, .move (.c (.int .i64 0)), none, []⟩] none [6, 7])
(.ret)))))
def f342 : SFunc := ⟨b342, [.t 6, .t 7]⟩

/-- watchbill/job.Take -/
def b43 : SCode := (
.seq (.ops [⟨some 2, .box (.t 0), none, []⟩,
  ⟨some 4, .alloc (.agg [(.bool false), .nils, (.int .i64 0), (.int .i64 0), (.int .i64 0), (.int .i64 0), (.int .i64 0), (.int .i64 0), (.bool false), .nils]), none, []⟩] none [1, 2, 4])
(.seq (.ops [⟨some 5, .fldAddr 9 (.t 2), none, []⟩,
  ⟨some 6, .load none (.t 5), none, []⟩,
  ⟨some 7, .call 55 [(.t 6)], none, []⟩,
  ⟨some 8, .move (.t 1), none, []⟩,
  ⟨some 9, .buildSl 1 [(.int .i64 0)] [(0, 1, (.t 8))], none, []⟩,
  ⟨some 10, .append 1 (.t 7) (.t 9), none, []⟩,
  ⟨some 11, .fldAddr 9 (.t 2), none, []⟩,
  ⟨none, .store none (.t 11) (.t 10), none, []⟩] none [2, 4])
(.seq (.ops [⟨some 12, .load (some 10) (.t 2), none, []⟩,
  ⟨none, .store (some 10) (.t 4) (.t 12), none, []⟩] none [4])
(.ret))))
def f43 : SFunc := ⟨b43, [.cell (some 10) 4]⟩

/-- watchbill/job.Step -/
def b41 : SCode := (
.seq (.ops [⟨some 1, .box (.t 0), none, []⟩,
  ⟨some 2, .alloc (.agg [(.bool false), .nils, (.int .i64 0), (.int .i64 0), (.int .i64 0), (.int .i64 0), (.int .i64 0), (.int .i64 0), (.bool false), .nils]), none, []⟩] none [1, 2])
(.seq (.ops [⟨some 3, .fldAddr 2 (.t 1), none, []⟩,
  ⟨some 4, .load none (.t 3), none, []⟩,
  ⟨some 5, .bin .add (.t 4) (.c (.int .i64 1)), none, []⟩,
  ⟨some 6, .fldAddr 2 (.t 1), none, []⟩,
  ⟨none, .store none (.t 6) (.t 5), none, []⟩,
  ⟨some 7, .fldAddr 3 (.t 1), none, []⟩,
  ⟨none, .store none (.t 7) (.c (.int .i64 0)), none, []⟩,
  ⟨some 8, .fldAddr 8 (.t 1), none, []⟩,
  ⟨none, .store none (.t 8) (.c (.bool false)), none, []⟩] none [1, 2])
(.seq (.ops [⟨some 9, .load (some 10) (.t 1), none, []⟩,
  ⟨none, .store (some 10) (.t 2) (.t 9), none, []⟩] none [2])
(.ret))))
def f41 : SFunc := ⟨b41, [.cell (some 10) 2]⟩

/-- math/bits.Len64 -/
def b188 : SCode := (
.seq (.ops [⟨some 2, .move (.c (.int .i64 0)), none, []⟩] none [0, 2])
(.seq (.seq (.ops [⟨some 3, .move (.t 0), none, []⟩,
  ⟨some 4, .bin .geq (.t 3) (.c (.int .u64 4294967296)), none, []⟩] none [0, 2, 4])
(.cond (.t 4)
  (.seq (.ops [⟨some 5, .move (.t 0), none, []⟩,
    ⟨some 6, .bin .shr (.t 5) (.c (.int .u64 32)), none, []⟩,
    ⟨some 0, .move (.t 6), none, []⟩] none [0])
  (.ops [⟨some 2, .move (.c (.int .i64 32)), none, []⟩] none [0, 2]))
  (.skip)))
(.seq (.seq (.ops [⟨some 7, .move (.t 0), none, []⟩,
  ⟨some 8, .bin .geq (.t 7) (.c (.int .u64 65536)), none, []⟩] none [0, 2, 8])
(.cond (.t 8)
  (.seq (.ops [⟨some 9, .move (.t 0), none, []⟩,
    ⟨some 10, .bin .shr (.t 9) (.c (.int .u64 16)), none, []⟩,
    ⟨some 0, .move (.t 10), none, []⟩] none [0, 2])
  (.ops [⟨some 11, .move (.t 2), none, []⟩,
    ⟨some 12, .bin .add (.t 11) (.c (.int .i64 16)), none, []⟩,
    ⟨some 2, .move (.t 12), none, []⟩] none [0, 2]))
  (.skip)))
(.seq (.seq (.ops [⟨some 13, .move (.t 0), none, []⟩,
  ⟨some 14, .bin .geq (.t 13) (.c (.int .u64 256)), none, []⟩] none [0, 2, 14])
(.cond (.t 14)
  (.seq (.ops [⟨some 15, .move (.t 0), none, []⟩,
    ⟨some 16, .bin .shr (.t 15) (.c (.int .u64 8)), none, []⟩,
    ⟨some 0, .move (.t 16), none, []⟩] none [0, 2])
  (.ops [⟨some 17, .move (.t 2), none, []⟩,
    ⟨some 18, .bin .add (.t 17) (.c (.int .i64 8)), none, []⟩,
    ⟨some 2, .move (.t 18), none, []⟩] none [0, 2]))
  (.skip)))
(.seq (.ops [⟨some 19, .move (.t 2), none, []⟩,
  ⟨some 20, .move (.t 0), none, []⟩,
  ⟨some 21, .conv .u8 (.t 20), none, []⟩,
  ⟨some 22, .idxStr (.c (.str [0, 1, 2, 2, 3, 3, 3, 3, 4, 4, 4, 4, 4, 4, 4, 4, 5, 5, 5, 5, 5, 5, 5, 5, 5, 5, 5, 5, 5, 5, 5, 5, 6, 6, 6, 6, 6, 6, 6, 6, 6, 6, 6, 6, 6, 6, 6, 6, 6, 6, 6, 6, 6, 6, 6, 6, 6, 6, 6, 6, 6, 6, 6, 6, 7, 7, 7, 7, 7, 7, 7, 7, 7, 7, 7, 7, 7, 7, 7, 7, 7, 7, 7, 7, 7, 7, 7, 7, 7, 7, 7, 7, 7, 7, 7, 7, 7, 7, 7, 7, 7, 7, 7, 7, 7, 7, 7, 7, 7, 7, 7, 7, 7, 7, 7, 7, 7, 7, 7, 7, 7, 7, 7, 7, 7, 7, 7, 7, 8, 8, 8, 8, 8, 8, 8, 8, 8, 8, 8, 8, 8, 8, 8, 8, 8, 8, 8, 8, 8, 8, 8, 8, 8, 8, 8, 8, 8, 8, 8, 8, 8, 8, 8, 8, 8, 8, 8, 8, 8, 8, 8, 8, 8, 8, 8, 8, 8, 8, 8, 8, 8, 8, 8, 8, 8, 8, 8, 8, 8, 8, 8, 8, 8, 8, 8, 8, 8, 8, 8, 8, 8, 8, 8, 8, 8, 8, 8, 8, 8, 8, 8, 8, 8, 8, 8, 8, 8, 8, 8, 8, 8, 8, 8, 8, 8, 8, 8, 8, 8, 8, 8, 8, 8, 8, 8, 8, 8, 8, 8, 8, 8, 8, 8, 8, 8, 8, 8, 8, 8, 8, 8, 8, 8, 8, 8, 8])) (.t 21), none, []⟩,
  ⟨some 23, .conv .i64 (.t 22), none, []⟩,
  ⟨some 24, .bin .add (.t 19) (.t 23), none, []⟩,
  ⟨some 2, .move (.t 24), none, []⟩] none [2])
(.ret))))))
def f188 : SFunc := ⟨b188, [.t 2]⟩

/-- watchbill/op.kinds -/
def b224 : SCode := (
.seq (.ops [⟨some 0, .move (.c .nils), none, []⟩] none [])
(.seq (.ops [⟨some 1, .build [(.str []), (.int .i64 0), (.int .i64 0), (.bool false), (.bool false)] [], none, []⟩,
  ⟨some 2, .build [(.str []), (.int .i64 0), (.int .i64 0), (.bool false), (.bool false)] [(0, 1, (.c (.str [114, 117, 110]))), (1, 1, (.c (.int .i64 1))), (2, 1, (.c (.int .i64 1000))), (3, 1, (.c (.bool false))), (4, 1, (.c (.bool false)))], none, []⟩,
  ⟨some 3, .build [(.str []), (.int .i64 0), (.int .i64 0), (.bool false), (.bool false)] [(0, 1, (.c (.str [108, 111, 99, 107]))), (1, 1, (.c (.int .i64 0))), (2, 1, (.c (.int .i64 7))), (3, 1, (.c (.bool false))), (4, 1, (.c (.bool false)))], none, []⟩,
  ⟨some 4, .build [(.str []), (.int .i64 0), (.int .i64 0), (.bool false), (.bool false)] [(0, 1, (.c (.str [117, 110, 108, 111, 99, 107]))), (1, 1, (.c (.int .i64 0))), (2, 1, (.c (.int .i64 7))), (3, 1, (.c (.bool false))), (4, 1, (.c (.bool false)))], none, []⟩,
  ⟨some 5, .build [(.str []), (.int .i64 0), (.int .i64 0), (.bool false), (.bool false)] [(0, 1, (.c (.str [115, 101, 110, 100]))), (1, 1, (.c (.int .i64 0))), (2, 1, (.c (.int .i64 7))), (3, 1, (.c (.bool true))), (4, 1, (.c (.bool false)))], none, []⟩,
  ⟨some 6, .build [(.str []), (.int .i64 0), (.int .i64 0), (.bool false), (.bool false)] [(0, 1, (.c (.str [114, 101, 99, 118]))), (1, 1, (.c (.int .i64 0))), (2, 1, (.c (.int .i64 7))), (3, 1, (.c (.bool true))), (4, 1, (.c (.bool false)))], none, []⟩,
  ⟨some 7, .build [(.str []), (.int .i64 0), (.int .i64 0), (.bool false), (.bool false)] [(0, 1, (.c (.str [99, 108, 111, 115, 101]))), (1, 1, (.c (.int .i64 0))), (2, 1, (.c (.int .i64 7))), (3, 1, (.c (.bool false))), (4, 1, (.c (.bool false)))], none, []⟩,
  ⟨some 8, .build [(.str []), (.int .i64 0), (.int .i64 0), (.bool false), (.bool false)] [(0, 1, (.c (.str [115, 101, 108, 101, 99, 116]))), (1, 1, (.c (.int .i64 0))), (2, 1, (.c (.int .i64 0))), (3, 1, (.c (.bool true))), (4, 1, (.c (.bool true)))], none, []⟩,
  ⟨some 9, .build [(.str []), (.int .i64 0), (.int .i64 0), (.bool false), (.bool false)] [(0, 1, (.c (.str [108, 111, 111, 112]))), (1, 1, (.c (.int .i64 1))), (2, 1, (.c (.int .i64 32))), (3, 1, (.c (.bool false))), (4, 1, (.c (.bool false)))], none, []⟩,
  ⟨some 10, .build [(.str []), (.int .i64 0), (.int .i64 0), (.bool false), (.bool false)] [(0, 1, (.c (.str [101, 110, 100]))), (1, 1, (.c (.int .i64 0))), (2, 1, (.c (.int .i64 0))), (3, 1, (.c (.bool false))), (4, 1, (.c (.bool false)))], none, []⟩,
  ⟨some 11, .buildSl 10 [(.str []), (.int .i64 0), (.int .i64 0), (.bool false), (.bool false), (.str []), (.int .i64 0), (.int .i64 0), (.bool false), (.bool false), (.str []), (.int .i64 0), (.int .i64 0), (.bool false), (.bool false), (.str []), (.int .i64 0), (.int .i64 0), (.bool false), (.bool false), (.str []), (.int .i64 0), (.int .i64 0), (.bool false), (.bool false), (.str []), (.int .i64 0), (.int .i64 0), (.bool false), (.bool false), (.str []), (.int .i64 0), (.int .i64 0), (.bool false), (.bool false), (.str []), (.int .i64 0), (.int .i64 0), (.bool false), (.bool false), (.str []), (.int .i64 0), (.int .i64 0), (.bool false), (.bool false), (.str []), (.int .i64 0), (.int .i64 0), (.bool false), (.bool false)] [(0, 5, (.t 1)), (5, 5, (.t 2)), (10, 5, (.t 3)), (15, 5, (.t 4)), (20, 5, (.t 5)), (25, 5, (.t 6)), (30, 5, (.t 7)), (35, 5, (.t 8)), (40, 5, (.t 9)), (45, 5, (.t 10))], none, []⟩,
  ⟨some 0, .move (.t 11), none, []⟩] none [0])
(.ret)))
def f224 : SFunc := ⟨b224, [.t 0]⟩

/-- watchbill/op.Waits -/
def b223 : SCode := (
.seq (.ops [⟨some 1, .box (.t 0), none, []⟩,
  ⟨some 2, .move (.c (.bool false)), none, []⟩] none [1])
(.seq (.ops [⟨some 3, .fldAddr 0 (.t 1), none, []⟩,
  ⟨some 4, .load none (.t 3), none, []⟩,
  ⟨some 5, .bin .eql (.t 4) (.c (.int .i64 4)), none, []⟩,
  ⟨some 6, .move (.t 5), none, []⟩,
  ⟨some 7, .fldAddr 0 (.t 1), (some (6, false)), []⟩,
  ⟨some 8, .load none (.t 7), (some (6, false)), []⟩,
  ⟨some 9, .bin .eql (.t 8) (.c (.int .i64 5)), (some (6, false)), []⟩,
  ⟨some 10, .pick (.t 6) (.c (.bool true)) (.t 9), none, []⟩,
  ⟨some 11, .move (.t 10), none, []⟩,
  ⟨some 12, .fldAddr 0 (.t 1), (some (11, false)), []⟩,
  ⟨some 13, .load none (.t 12), (some (11, false)), []⟩,
  ⟨some 14, .bin .eql (.t 13) (.c (.int .i64 7)), (some (11, false)), []⟩,
  ⟨some 15, .pick (.t 11) (.c (.bool true)) (.t 14), none, []⟩,
  ⟨some 16, .move (.t 15), none, []⟩,
  ⟨some 17, .fldAddr 3 (.t 1), (some (16, true)), []⟩,
  ⟨some 18, .load none (.t 17), (some (16, true)), []⟩,
  ⟨some 19, .bin .neq (.t 18) (.c (.int .i64 0)), (some (16, true)), []⟩,
  ⟨some 20, .pick (.t 16) (.t 19) (.c (.bool false)), none, []⟩,
  ⟨some 2, .move (.t 20), none, []⟩] none [2])
(.ret)))
def f223 : SFunc := ⟨b223, [.t 2]⟩

/-- watchbill/prog.Steps$1 -/
def b301 : SCode := (
.seq (.ops [⟨some 3, .box (.t 0), none, []⟩] none [1, 2])
(.ops [⟨some 5, .load none (.t 2), none, []⟩,
  ⟨some 6, .move (.t 1), none, []⟩,
  ⟨some 7, .bin .add (.t 5) (.t 6), none, []⟩,
  ⟨none, .store none (.t 2) (.t 7), none, []⟩] none []))
def f301 : SFunc := ⟨b301, []⟩

/-- slices.IndexFunc[[]watchbill/op.Case,watchbill/op.Case] -/
def b238 : SCode := (
.seq (.ops [⟨some 4, .move (.c (.int .i64 0)), none, []⟩] none [0, 1])
(.seq (.seq (.ops [⟨some 6, .move (.t 0), none, []⟩,
  ⟨some 7, .len .sl (.t 6), none, []⟩,
  ⟨some 8, .move (.c (.int .i64 0)), none, []⟩] none [0, 1, 7, 8])
(.block 0 (.loop [0, 1, 7, 8] (.seq (.ops [⟨some 9, .bin .lss (.t 8) (.t 7), none, []⟩] none [0, 1, 7, 8, 9])
    (.seq (.cond (.t 9)
      (.skip)
      (.exit 0))
    (.seq (.block 1 (.seq (.ops [⟨some 10, .move (.t 8), none, []⟩,
        ⟨some 5, .move (.t 10), none, []⟩] none [0, 1, 5, 7, 8])
      (.seq (.ops [⟨some 11, .move (.t 1), none, []⟩,
        ⟨some 12, .move (.t 0), none, []⟩,
        ⟨some 13, .move (.t 5), none, []⟩,
        ⟨some 14, .idxAddr 3 (.t 12) (.t 13), none, []⟩,
        ⟨some 15, .load (some 3) (.t 14), none, []⟩,
        ⟨some 16, .callv (.t 11) [(.t 15)], none, []⟩] none [0, 1, 5, 7, 8, 16])
      (.cond (.t 16)
        (.seq (.ops [⟨some 17, .move (.t 5), none, []⟩,
          ⟨some 4, .move (.t 17), none, []⟩] none [4])
        (.ret))
        (.skip)))))
    (.ops [⟨some 18, .bin .add (.t 8) (.c (.int .i64 1)), none, []⟩,
      ⟨some 8, .move (.t 18), none, []⟩] none [0, 1, 7, 8])))))))
(.seq (.ops [⟨some 4, .move (.c (.int .i64 (-1))), none, []⟩] none [4])
(.ret))))
def f238 : SFunc := ⟨b238, [.t 4]⟩

/-- slices.stableCmpFunc[int] -/
def b357 : SCode := (
.seq (.ops [⟨some 6, .move (.c (.int .i64 20)), none, []⟩] none [0, 1, 2, 6])
(.seq (.ops [⟨some 10, .move (.t 6), none, []⟩,
  ⟨some 7, .move (.c (.int .i64 0)), none, []⟩,
  ⟨some 8, .move (.t 10), none, []⟩] none [0, 1, 2, 6, 7, 8])
(.seq (.block 0 (.loop [0, 1, 2, 6, 7, 8] (.seq (.seq (.ops [⟨some 11, .move (.t 8), none, []⟩,
      ⟨some 12, .move (.t 1), none, []⟩,
      ⟨some 13, .bin .leq (.t 11) (.t 12), none, []⟩] none [0, 1, 2, 6, 7, 8, 13])
    (.cond (.t 13)
      (.skip)
      (.exit 0)))
    (.block 1 (.seq (.ops [⟨some 14, .move (.t 0), none, []⟩,
        ⟨some 15, .move (.t 7), none, []⟩,
        ⟨some 16, .move (.t 8), none, []⟩,
        ⟨some 17, .move (.t 2), none, []⟩,
        ⟨some 18, .call 379 [(.t 14), (.t 15), (.t 16), (.t 17)], none, []⟩] none [0, 1, 2, 6, 8])
      (.seq (.ops [⟨some 19, .move (.t 8), none, []⟩,
        ⟨some 7, .move (.t 19), none, []⟩] none [0, 1, 2, 6, 7, 8])
      (.ops [⟨some 20, .move (.t 8), none, []⟩,
        ⟨some 21, .move (.t 6), none, []⟩,
        ⟨some 22, .bin .add (.t 20) (.t 21), none, []⟩,
        ⟨some 8, .move (.t 22), none, []⟩] none [0, 1, 2, 6, 7, 8])))))))
(.seq (.ops [⟨some 23, .move (.t 0), none, []⟩,
  ⟨some 24, .move (.t 7), none, []⟩,
  ⟨some 25, .move (.t 1), none, []⟩,
  ⟨some 26, .move (.t 2), none, []⟩,
  ⟨some 27, .call 379 [(.t 23), (.t 24), (.t 25), (.t 26)], none, []⟩] none [0, 1, 2, 6])
(.block 2 (.loop [0, 1, 2, 6] (.seq (.seq (.ops [⟨some 28, .move (.t 6), none, []⟩,
      ⟨some 29, .move (.t 1), none, []⟩,
      ⟨some 30, .bin .lss (.t 28) (.t 29), none, []⟩] none [0, 1, 2, 6, 30])
    (.cond (.t 30)
      (.skip)
      (.exit 2)))
    (.block 3 (.seq (.ops [⟨some 31, .move (.t 6), none, []⟩,
        ⟨some 32, .bin .mul (.c (.int .i64 2)) (.t 31), none, []⟩,
        ⟨some 7, .move (.c (.int .i64 0)), none, []⟩,
        ⟨some 8, .move (.t 32), none, []⟩] none [0, 1, 2, 6, 7, 8])
      (.seq (.block 4 (.loop [0, 1, 2, 6, 7, 8] (.seq (.seq (.ops [⟨some 33, .move (.t 8), none, []⟩,
            ⟨some 34, .move (.t 1), none, []⟩,
            ⟨some 35, .bin .leq (.t 33) (.t 34), none, []⟩] none [0, 1, 2, 6, 7, 8, 35])
          (.cond (.t 35)
            (.skip)
            (.exit 4)))
          (.block 5 (.seq (.ops [⟨some 36, .move (.t 0), none, []⟩,
              ⟨some 37, .move (.t 7), none, []⟩,
              ⟨some 38, .move (.t 7), none, []⟩,
              ⟨some 39, .move (.t 6), none, []⟩,
              ⟨some 40, .bin .add (.t 38) (.t 39), none, []⟩,
              ⟨some 41, .move (.t 8), none, []⟩,
              ⟨some 42, .move (.t 2), none, []⟩,
              ⟨some 43, .call 380 [(.t 36), (.t 37), (.t 40), (.t 41), (.t 42)], none, []⟩] none [0, 1, 2, 6, 8])
            (.seq (.ops [⟨some 44, .move (.t 8), none, []⟩,
              ⟨some 7, .move (.t 44), none, []⟩] none [0, 1, 2, 6, 7, 8])
            (.ops [⟨some 45, .move (.t 8), none, []⟩,
              ⟨some 46, .move (.t 6), none, []⟩,
              ⟨some 47, .bin .mul (.c (.int .i64 2)) (.t 46), none, []⟩,
              ⟨some 48, .bin .add (.t 45) (.t 47), none, []⟩,
              ⟨some 8, .move (.t 48), none, []⟩] none [0, 1, 2, 6, 7, 8])))))))
      (.seq (.seq (.ops [⟨some 49, .move (.t 7), none, []⟩,
        ⟨some 50, .move (.t 6), none, []⟩,
        ⟨some 51, .bin .add (.t 49) (.t 50), none, []⟩,
        ⟨some 9, .move (.t 51), none, []⟩] none [0, 1, 2, 6, 7, 9])
      (.seq (.ops [⟨some 52, .move (.t 9), none, []⟩,
        ⟨some 53, .move (.t 1), none, []⟩,
        ⟨some 54, .bin .lss (.t 52) (.t 53), none, []⟩] none [0, 1, 2, 6, 7, 9, 54])
      (.cond (.t 54)
        (.ops [⟨some 55, .move (.t 0), none, []⟩,
          ⟨some 56, .move (.t 7), none, []⟩,
          ⟨some 57, .move (.t 9), none, []⟩,
          ⟨some 58, .move (.t 1), none, []⟩,
          ⟨some 59, .move (.t 2), none, []⟩,
          ⟨some 60, .call 380 [(.t 55), (.t 56), (.t 57), (.t 58), (.t 59)], none, []⟩] none [0, 1, 2, 6])
        (.skip))))
      (.ops [⟨some 61, .move (.t 6), none, []⟩,
        ⟨some 62, .bin .mul (.t 61) (.c (.int .i64 2)), none, []⟩,
        ⟨some 6, .move (.t 62), none, []⟩] none [0, 1, 2, 6]))))))))))))
def f357 : SFunc := ⟨b357, []⟩

/-- cmp.isNaN[int64] -/
def b359 : SCode := (
.seq (.ops [⟨some 2, .move (.c (.bool false)), none, []⟩] none [0])
(.seq (.ops [⟨some 3, .move (.t 0), none, []⟩,
  ⟨some 4, .move (.t 0), none, []⟩,
  ⟨some 5, .bin .neq (.t 3) (.t 4), none, []⟩,
  ⟨some 2, .move (.t 5), none, []⟩] none [2])
(.ret)))
def f359 : SFunc := ⟨b359, [.t 2]⟩

/-- slices.Index[[]int,int] -/
def b360 : SCode := (
.seq (.ops [⟨some 4, .move (.c (.int .i64 0)), none, []⟩] none [0, 1])
(.seq (.seq (.ops [⟨some 6, .move (.t 0), none, []⟩,
  ⟨some 7, .len .sl (.t 6), none, []⟩,
  ⟨some 8, .move (.c (.int .i64 0)), none, []⟩] none [0, 1, 7, 8])
(.block 0 (.loop [0, 1, 7, 8] (.seq (.ops [⟨some 9, .bin .lss (.t 8) (.t 7), none, []⟩] none [0, 1, 7, 8, 9])
    (.seq (.cond (.t 9)
      (.skip)
      (.exit 0))
    (.seq (.block 1 (.seq (.ops [⟨some 10, .move (.t 8), none, []⟩,
        ⟨some 5, .move (.t 10), none, []⟩] none [0, 1, 5, 7, 8])
      (.seq (.ops [⟨some 11, .move (.t 1), none, []⟩,
        ⟨some 12, .move (.t 0), none, []⟩,
        ⟨some 13, .move (.t 5), none, []⟩,
        ⟨some 14, .idxAddr 1 (.t 12) (.t 13), none, []⟩,
        ⟨some 15, .load none (.t 14), none, []⟩,
        ⟨some 16, .bin .eql (.t 11) (.t 15), none, []⟩] none [0, 1, 5, 7, 8, 16])
      (.cond (.t 16)
        (.seq (.ops [⟨some 17, .move (.t 5), none, []⟩,
          ⟨some 4, .move (.t 17), none, []⟩] none [4])
        (.ret))
        (.skip)))))
    (.ops [⟨some 18, .bin .add (.t 8) (.c (.int .i64 1)), none, []⟩,
      ⟨some 8, .move (.t 18), none, []⟩] none [0, 1, 7, 8])))))))
(.seq (.ops [⟨some 4, .move (.c (.int .i64 (-1))), none, []⟩] none [4])
(.ret))))
def f360 : SFunc := ⟨b360, [.t 4]⟩

/-- slices.Sort[[]int,int] -/
def b361 : SCode := (
.seq (.ops [⟨some 3, .move (.t 0), none, []⟩,
  ⟨some 4, .len .sl (.t 3), none, []⟩,
  ⟨some 2, .move (.t 4), none, []⟩] none [0, 2])
(.ops [⟨some 5, .move (.t 0), none, []⟩,
  ⟨some 6, .move (.t 2), none, []⟩,
  ⟨some 7, .move (.t 2), none, []⟩,
  ⟨some 8, .conv .u64 (.t 7), none, []⟩,
  ⟨some 9, .call 381 [(.t 8)], none, []⟩,
  ⟨some 10, .call 382 [(.t 5), (.c (.int .i64 0)), (.t 6), (.t 9)], none, []⟩] none []))
def f361 : SFunc := ⟨b361, []⟩

/-- slices.Compact[[]int,int] -/
def b362 : SCode := (
.seq (.ops [⟨some 2, .move (.c .nils), none, []⟩] none [0])
(.seq (.seq (.ops [⟨some 6, .move (.t 0), none, []⟩,
  ⟨some 7, .len .sl (.t 6), none, []⟩,
  ⟨some 8, .bin .lss (.t 7) (.c (.int .i64 2)), none, []⟩] none [0, 8])
(.cond (.t 8)
  (.seq (.ops [⟨some 9, .move (.t 0), none, []⟩,
    ⟨some 2, .move (.t 9), none, []⟩] none [2])
  (.ret))
  (.skip)))
(.seq (.seq (.ops [⟨some 3, .move (.c (.int .i64 1)), none, []⟩] none [0, 3])
(.block 0 (.loop [0, 3] (.seq (.seq (.ops [⟨some 10, .move (.t 3), none, []⟩,
      ⟨some 11, .move (.t 0), none, []⟩,
      ⟨some 12, .len .sl (.t 11), none, []⟩,
      ⟨some 13, .bin .lss (.t 10) (.t 12), none, []⟩] none [0, 3, 13])
    (.cond (.t 13)
      (.skip)
      (.exit 0)))
    (.seq (.block 1 (.seq (.ops [⟨some 16, .move (.t 0), none, []⟩,
        ⟨some 17, .move (.t 3), none, []⟩,
        ⟨some 18, .idxAddr 1 (.t 16) (.t 17), none, []⟩,
        ⟨some 19, .load none (.t 18), none, []⟩,
        ⟨some 20, .move (.t 0), none, []⟩,
        ⟨some 21, .move (.t 3), none, []⟩,
        ⟨some 22, .bin .sub (.t 21) (.c (.int .i64 1)), none, []⟩,
        ⟨some 23, .idxAddr 1 (.t 20) (.t 22), none, []⟩,
        ⟨some 24, .load none (.t 23), none, []⟩,
        ⟨some 25, .bin .eql (.t 19) (.t 24), none, []⟩] (some [(0, []), (1, []), (2, [0, 1]), (3, [2, 0, 1]), (4, []), (5, []), (6, [5]), (7, [4, 6, 5]), (8, [7, 4, 6, 5]), (9, [3, 2, 0, 1, 8, 7, 4, 6, 5])]) [0, 3, 25])
      (.cond (.t 25)
        (.seq (.ops [⟨some 26, .move (.t 0), none, []⟩,
          ⟨some 27, .move (.t 3), none, []⟩,
          ⟨some 28, .slSl 1 (.t 26) (some (.t 27)) none, none, []⟩,
          ⟨some 4, .move (.t 28), none, []⟩] none [0, 3, 4])
        (.seq (.seq (.ops [⟨some 5, .move (.c (.int .i64 1)), none, []⟩] none [0, 3, 4, 5])
        (.block 2 (.loop [0, 3, 4, 5] (.seq (.seq (.ops [⟨some 29, .move (.t 5), none, []⟩,
              ⟨some 30, .move (.t 4), none, []⟩,
              ⟨some 31, .len .sl (.t 30), none, []⟩,
              ⟨some 32, .bin .lss (.t 29) (.t 31), none, []⟩] none [0, 3, 4, 5, 32])
            (.cond (.t 32)
              (.skip)
              (.exit 2)))
            (.seq (.block 3 (.seq (.ops [⟨some 35, .move (.t 4), none, []⟩,
                ⟨some 36, .move (.t 5), none, []⟩,
                ⟨some 37, .idxAddr 1 (.t 35) (.t 36), none, []⟩,
                ⟨some 38, .load none (.t 37), none, []⟩,
                ⟨some 39, .move (.t 4), none, []⟩,
                ⟨some 40, .move (.t 5), none, []⟩,
                ⟨some 41, .bin .sub (.t 40) (.c (.int .i64 1)), none, []⟩,
                ⟨some 42, .idxAddr 1 (.t 39) (.t 41), none, []⟩,
                ⟨some 43, .load none (.t 42), none, []⟩,
                ⟨some 44, .bin .neq (.t 38) (.t 43), none, []⟩] (some [(0, []), (1, []), (2, [0, 1]), (3, [2, 0, 1]), (4, []), (5, []), (6, [5]), (7, [4, 6, 5]), (8, [7, 4, 6, 5]), (9, [3, 2, 0, 1, 8, 7, 4, 6, 5])]) [0, 3, 4, 5, 44])
              (.cond (.t 44)
                (.seq (.ops [⟨some 45, .move (.t 0), none, []⟩,
                  ⟨some 46, .move (.t 3), none, []⟩,
                  ⟨some 47, .move (.t 4), none, []⟩,
                  ⟨some 48, .move (.t 5), none, []⟩,
                  ⟨some 49, .idxAddr 1 (.t 47) (.t 48), none, []⟩,
                  ⟨some 50, .load none (.t 49), none, []⟩,
                  ⟨some 51, .idxAddr 1 (.t 45) (.t 46), none, []⟩,
                  ⟨none, .store none (.t 51) (.t 50), none, []⟩] none [0, 3, 4, 5])
                (.ops [⟨some 52, .move (.t 3), none, []⟩,
                  ⟨some 53, .bin .add (.t 52) (.c (.int .i64 1)), none, []⟩,
                  ⟨some 3, .move (.t 53), none, []⟩] none [0, 3, 4, 5]))
                (.skip))))
            (.ops [⟨some 33, .move (.t 5), none, []⟩,
              ⟨some 34, .bin .add (.t 33) (.c (.int .i64 1)), none, []⟩,
              ⟨some 5, .move (.t 34), none, []⟩] none [0, 3, 4, 5]))))))
        (.seq (.ops [⟨some 54, .move (.t 0), none, []⟩,
          ⟨some 55, .move (.t 3), none, []⟩,
          ⟨some 56, .slSl 1 (.t 54) (some (.t 55)) none, none, []⟩,
          ⟨none, .clr [(.int .i64 0)] (.t 56), none, []⟩] none [0, 3])
        (.seq (.ops [⟨some 57, .move (.t 0), none, []⟩,
          ⟨some 58, .move (.t 3), none, []⟩,
          ⟨some 59, .slSl 1 (.t 57) none (some (.t 58)), none, []⟩,
          ⟨some 2, .move (.t 59), none, []⟩] none [2])
        (.ret)))))
        (.skip))))
    (.ops [⟨some 14, .move (.t 3), none, []⟩,
      ⟨some 15, .bin .add (.t 14) (.c (.int .i64 1)), none, []⟩,
      ⟨some 3, .move (.t 15), none, []⟩] none [0, 3]))))))
(.seq (.ops [⟨some 60, .move (.t 0), none, []⟩,
  ⟨some 2, .move (.t 60), none, []⟩] none [2])
(.ret)))))
def f362 : SFunc := ⟨b362, [.t 2]⟩

/-- (*watchbill/lockq.Lock).Waiters -/
def b354 : SCode := (
.seq (.ops [⟨some 2, .move (.c .nils), none, []⟩] none [0])
(.seq (.ops [⟨some 3, .move (.t 0), none, []⟩,
  ⟨some 4, .nilck (.t 3), none, []⟩,
  ⟨some 5, .fldAddr 1 (.t 4), none, []⟩,
  ⟨some 6, .load none (.t 5), none, []⟩,
  ⟨some 7, .call 356 [(.t 6)], none, []⟩,
  ⟨some 2, .move (.t 7), none, []⟩] none [2])
(.ret)))
def f354 : SFunc := ⟨b354, [.t 2]⟩

/-- watchbill/waitq.Has -/
def b363 : SCode := (
.seq (.ops [⟨some 3, .box (.t 1), none, []⟩,
  ⟨some 4, .move (.c (.bool false)), none, []⟩] none [0, 3])
(.seq (.ops [⟨some 5, .move (.t 0), none, []⟩,
  ⟨some 6, .mkfn 383 [(.t 3)], none, []⟩,
  ⟨some 7, .call 384 [(.t 5), (.t 6)], none, []⟩,
  ⟨some 4, .move (.t 7), none, []⟩] none [4])
(.ret)))
def f363 : SFunc := ⟨b363, [.t 4]⟩

/-- slices.Clone[watchbill/waitq.Queue,watchbill/waitq.Waiter] -/
def b356 : SCode := (
.seq (.ops [⟨some 2, .move (.c .nils), none, []⟩] none [0])
(.seq (.seq (.ops [⟨some 3, .move (.t 0), none, []⟩,
  ⟨some 4, .eq false .s (.t 3) (.c .nils), none, []⟩] none [0, 4])
(.cond (.t 4)
  (.seq (.ops [⟨some 2, .move (.c .nils), none, []⟩] none [2])
  (.ret))
  (.skip)))
(.seq (.ops [⟨some 5, .buildSl 0 [] [], none, []⟩,
  ⟨some 6, .move (.t 0), none, []⟩,
  ⟨some 7, .append 4 (.t 5) (.t 6), none, []⟩,
  ⟨some 2, .move (.t 7), none, []⟩] none [2])
(.ret))))
def f356 : SFunc := ⟨b356, [.t 2]⟩

/-- slices.insertionSortCmpFunc[int] -/
def b379 : SCode := (
.seq (.ops [⟨some 10, .move (.t 1), none, []⟩,
  ⟨some 11, .bin .add (.t 10) (.c (.int .i64 1)), none, []⟩,
  ⟨some 8, .move (.t 11), none, []⟩] none [0, 1, 2, 3, 8])
(.block 0 (.loop [0, 1, 2, 3, 8] (.seq (.seq (.ops [⟨some 12, .move (.t 8), none, []⟩,
      ⟨some 13, .move (.t 2), none, []⟩,
      ⟨some 14, .bin .lss (.t 12) (.t 13), none, []⟩] none [0, 1, 2, 3, 8, 14])
    (.cond (.t 14)
      (.skip)
      (.exit 0)))
    (.seq (.block 1 (.seq (.ops [⟨some 17, .move (.t 8), none, []⟩,
        ⟨some 9, .move (.t 17), none, []⟩] none [0, 1, 2, 3, 8, 9])
      (.block 2 (.loop [0, 1, 2, 3, 8, 9] (.seq (.seq (.ops [⟨some 18, .move (.t 9), none, []⟩,
            ⟨some 19, .move (.t 1), none, []⟩,
            ⟨some 20, .bin .gtr (.t 18) (.t 19), none, []⟩,
            ⟨some 21, .move (.t 20), none, []⟩,
            ⟨some 22, .move (.t 3), (some (21, true)), []⟩,
            ⟨some 23, .move (.t 0), (some (21, true)), []⟩,
            ⟨some 24, .move (.t 9), (some (21, true)), []⟩,
            ⟨some 25, .idxAddr 1 (.t 23) (.t 24), (some (21, true)), []⟩,
            ⟨some 26, .load none (.t 25), (some (21, true)), []⟩,
            ⟨some 27, .move (.t 0), (some (21, true)), []⟩,
            ⟨some 28, .move (.t 9), (some (21, true)), []⟩,
            ⟨some 29, .bin .sub (.t 28) (.c (.int .i64 1)), (some (21, true)), []⟩,
            ⟨some 30, .idxAddr 1 (.t 27) (.t 29), (some (21, true)), []⟩,
            ⟨some 31, .load none (.t 30), (some (21, true)), []⟩,
            ⟨some 32, .callv (.t 22) [(.t 26), (.t 31)], (some (21, true)), []⟩,
            ⟨some 33, .bin .lss (.t 32) (.c (.int .i64 0)), (some (21, true)), []⟩,
            ⟨some 34, .pick (.t 21) (.t 33) (.c (.bool false)), none, []⟩] (some [(0, []), (1, []), (2, [0, 1]), (3, [2, 0, 1]), (4, [3, 2, 0, 1]), (5, [3, 2, 0, 1]), (6, [3, 2, 0, 1]), (7, [5, 3, 2, 0, 1, 6]), (8, [7, 5, 3, 2, 0, 1, 6]), (9, [3, 2, 0, 1]), (10, [3, 2, 0, 1]), (11, [10, 3, 2, 0, 1]), (12, [9, 3, 2, 0, 1, 11, 10]), (13, [12, 9, 3, 2, 0, 1, 11, 10]), (14, [4, 3, 2, 0, 1, 8, 7, 5, 6, 13, 12, 9, 11, 10]), (15, [14, 4, 3, 2, 0, 1, 8, 7, 5, 6, 13, 12, 9, 11, 10]), (16, [3, 2, 0, 1, 15, 14, 4, 8, 7, 5, 6, 13, 12, 9, 11, 10])]) [0, 1, 2, 3, 8, 9, 34])
          (.cond (.t 34)
            (.skip)
            (.exit 2)))
          (.seq (.block 3 (.ops [⟨some 37, .move (.t 0), none, []⟩,
              ⟨some 38, .move (.t 9), none, []⟩,
              ⟨some 39, .move (.t 0), none, []⟩,
              ⟨some 40, .move (.t 9), none, []⟩,
              ⟨some 41, .bin .sub (.t 40) (.c (.int .i64 1)), none, []⟩,
              ⟨some 42, .move (.t 0), none, []⟩,
              ⟨some 43, .move (.t 9), none, []⟩,
              ⟨some 44, .bin .sub (.t 43) (.c (.int .i64 1)), none, []⟩,
              ⟨some 45, .idxAddr 1 (.t 42) (.t 44), none, []⟩,
              ⟨some 46, .load none (.t 45), none, []⟩,
              ⟨some 47, .move (.t 0), none, []⟩,
              ⟨some 48, .move (.t 9), none, []⟩,
              ⟨some 49, .idxAddr 1 (.t 47) (.t 48), none, []⟩,
              ⟨some 50, .load none (.t 49), none, []⟩,
              ⟨some 51, .idxAddr 1 (.t 37) (.t 38), none, []⟩,
              ⟨none, .store none (.t 51) (.t 46), none, []⟩,
              ⟨some 52, .idxAddr 1 (.t 39) (.t 41), none, []⟩,
              ⟨none, .store none (.t 52) (.t 50), none, []⟩] (some [(0, []), (1, []), (2, []), (3, []), (4, [3]), (5, []), (6, []), (7, [6]), (8, [5, 7, 6]), (9, [8, 5, 7, 6]), (10, []), (11, []), (12, [10, 11]), (13, [12, 10, 11]), (14, [0, 1, 5, 6, 7, 8, 9, 13, 12, 10, 11]), (15, [14, 0, 1, 5, 6, 7, 8, 9, 13, 12, 10, 11]), (16, [2, 4, 3, 0, 1, 5, 6, 7, 8, 9, 10, 11, 12, 13, 14, 15]), (17, [16, 2, 4, 3, 0, 1, 5, 6, 7, 8, 9, 10, 11, 12, 13, 14, 15])]) [0, 1, 2, 3, 8, 9]))
          (.ops [⟨some 35, .move (.t 9), none, []⟩,
            ⟨some 36, .bin .sub (.t 35) (.c (.int .i64 1)), none, []⟩,
            ⟨some 9, .move (.t 36), none, []⟩] none [0, 1, 2, 3, 8, 9])))))))
    (.ops [⟨some 15, .move (.t 8), none, []⟩,
      ⟨some 16, .bin .add (.t 15) (.c (.int .i64 1)), none, []⟩,
      ⟨some 8, .move (.t 16), none, []⟩] none [0, 1, 2, 3, 8]))))))
def f379 : SFunc := ⟨b379, []⟩

/-- slices.pdqsortOrdered[int] -/
def b382 : SCode := (
.seq (.ops [⟨some 8, .move (.c (.bool true)), none, []⟩] none [0, 1, 2, 3, 8])
(.seq (.ops [⟨some 9, .move (.c (.bool true)), none, []⟩] none [0, 1, 2, 3, 8, 9])
(.block 0 (.loop [0, 1, 2, 3, 8, 9] (.block 1 (.seq (.ops [⟨some 19, .move (.t 2), none, []⟩,
        ⟨some 20, .move (.t 1), none, []⟩,
        ⟨some 21, .bin .sub (.t 19) (.t 20), none, []⟩,
        ⟨some 10, .move (.t 21), none, []⟩] none [0, 1, 2, 3, 8, 9, 10])
      (.seq (.seq (.ops [⟨some 22, .move (.t 10), none, []⟩,
        ⟨some 23, .bin .leq (.t 22) (.c (.int .i64 12)), none, []⟩] none [0, 1, 2, 3, 8, 9, 10, 23])
      (.cond (.t 23)
        (.seq (.ops [⟨some 24, .move (.t 0), none, []⟩,
          ⟨some 25, .move (.t 1), none, []⟩,
          ⟨some 26, .move (.t 2), none, []⟩,
          ⟨some 27, .call 399 [(.t 24), (.t 25), (.t 26)], none, []⟩] none [])
        (.ret))
        (.skip)))
      (.seq (.seq (.ops [⟨some 28, .move (.t 3), none, []⟩,
        ⟨some 29, .bin .eql (.t 28) (.c (.int .i64 0)), none, []⟩] none [0, 1, 2, 3, 8, 9, 10, 29])
      (.cond (.t 29)
        (.seq (.ops [⟨some 30, .move (.t 0), none, []⟩,
          ⟨some 31, .move (.t 1), none, []⟩,
          ⟨some 32, .move (.t 2), none, []⟩,
          ⟨some 33, .call 400 [(.t 30), (.t 31), (.t 32)], none, []⟩] none [])
        (.ret))
        (.skip)))
      (.seq (.seq (.ops [⟨some 34, .move (.t 8), none, []⟩,
        ⟨some 35, .not (.t 34), none, []⟩] none [0, 1, 2, 3, 8, 9, 10, 35])
      (.cond (.t 35)
        (.seq (.ops [⟨some 36, .move (.t 0), none, []⟩,
          ⟨some 37, .move (.t 1), none, []⟩,
          ⟨some 38, .move (.t 2), none, []⟩,
          ⟨some 39, .call 401 [(.t 36), (.t 37), (.t 38)], none, []⟩] none [0, 1, 2, 3, 8, 9, 10])
        (.ops [⟨some 40, .move (.t 3), none, []⟩,
          ⟨some 41, .bin .sub (.t 40) (.c (.int .i64 1)), none, []⟩,
          ⟨some 3, .move (.t 41), none, []⟩] none [0, 1, 2, 3, 8, 9, 10]))
        (.skip)))
      (.seq (.ops [⟨some 43, .move (.t 0), none, []⟩,
        ⟨some 44, .move (.t 1), none, []⟩,
        ⟨some 45, .move (.t 2), none, []⟩,
        ⟨some 46, .call 402 [(.t 43), (.t 44), (.t 45)], none, []⟩,
        ⟨some 42, .move (.t 46), none, []⟩,
        ⟨some 47, .ext 0 (.t 42), none, []⟩,
        ⟨some 48, .ext 1 (.t 42), none, []⟩,
        ⟨some 11, .move (.t 47), none, []⟩,
        ⟨some 12, .move (.t 48), none, []⟩] none [0, 1, 2, 3, 8, 9, 10, 11, 12])
      (.seq (.seq (.ops [⟨some 49, .move (.t 12), none, []⟩,
        ⟨some 50, .bin .eql (.t 49) (.c (.int .i64 2)), none, []⟩] none [0, 1, 2, 3, 8, 9, 10, 11, 12, 50])
      (.cond (.t 50)
        (.seq (.ops [⟨some 51, .move (.t 0), none, []⟩,
          ⟨some 52, .move (.t 1), none, []⟩,
          ⟨some 53, .move (.t 2), none, []⟩,
          ⟨some 54, .call 403 [(.t 51), (.t 52), (.t 53)], none, []⟩] none [0, 1, 2, 3, 8, 9, 10, 11])
        (.seq (.ops [⟨some 55, .move (.t 2), none, []⟩,
          ⟨some 56, .bin .sub (.t 55) (.c (.int .i64 1)), none, []⟩,
          ⟨some 57, .move (.t 11), none, []⟩,
          ⟨some 58, .move (.t 1), none, []⟩,
          ⟨some 59, .bin .sub (.t 57) (.t 58), none, []⟩,
          ⟨some 60, .bin .sub (.t 56) (.t 59), none, []⟩,
          ⟨some 11, .move (.t 60), none, []⟩] none [0, 1, 2, 3, 8, 9, 10, 11])
        (.ops [⟨some 12, .move (.c (.int .i64 1)), none, []⟩] none [0, 1, 2, 3, 8, 9, 10, 11, 12])))
        (.skip)))
      (.seq (.seq (.ops [⟨some 61, .move (.t 8), none, []⟩,
        ⟨some 62, .move (.t 61), none, []⟩,
        ⟨some 63, .move (.t 9), (some (62, true)), []⟩,
        ⟨some 64, .pick (.t 62) (.t 63) (.c (.bool false)), none, []⟩,
        ⟨some 65, .move (.t 64), none, []⟩,
        ⟨some 66, .move (.t 12), (some (65, true)), []⟩,
        ⟨some 67, .bin .eql (.t 66) (.c (.int .i64 1)), (some (65, true)), []⟩,
        ⟨some 68, .pick (.t 65) (.t 67) (.c (.bool false)), none, []⟩] none [0, 1, 2, 3, 8, 9, 10, 11, 68])
      (.cond (.t 68)
        (.seq (.ops [⟨some 69, .move (.t 0), none, []⟩,
          ⟨some 70, .move (.t 1), none, []⟩,
          ⟨some 71, .move (.t 2), none, []⟩,
          ⟨some 72, .call 404 [(.t 69), (.t 70), (.t 71)], none, []⟩] none [0, 1, 2, 3, 8, 9, 10, 11, 72])
        (.cond (.t 72)
          (.ret)
          (.skip)))
        (.skip)))
      (.seq (.seq (.ops [⟨some 73, .move (.t 1), none, []⟩,
        ⟨some 74, .bin .gtr (.t 73) (.c (.int .i64 0)), none, []⟩,
        ⟨some 75, .move (.t 74), none, []⟩,
        ⟨some 76, .move (.t 0), (some (75, true)), []⟩,
        ⟨some 77, .move (.t 1), (some (75, true)), []⟩,
        ⟨some 78, .bin .sub (.t 77) (.c (.int .i64 1)), (some (75, true)), []⟩,
        ⟨some 79, .idxAddr 1 (.t 76) (.t 78), (some (75, true)), []⟩,
        ⟨some 80, .load none (.t 79), (some (75, true)), []⟩,
        ⟨some 81, .move (.t 0), (some (75, true)), []⟩,
        ⟨some 82, .move (.t 11), (some (75, true)), []⟩,
        ⟨some 83, .idxAddr 1 (.t 81) (.t 82), (some (75, true)), []⟩,
        ⟨some 84, .load none (.t 83), (some (75, true)), []⟩,
        ⟨some 85, .call 405 [(.t 80), (.t 84)], (some (75, true)), []⟩,
        ⟨some 86, .not (.t 85), (some (75, true)), []⟩,
        ⟨some 87, .pick (.t 75) (.t 86) (.c (.bool false)), none, []⟩] (some [(0, []), (1, [0]), (2, [1, 0]), (3, [2, 1, 0]), (4, [2, 1, 0]), (5, [4, 2, 1, 0]), (6, [3, 2, 1, 0, 5, 4]), (7, [6, 3, 2, 1, 0, 5, 4]), (8, [2, 1, 0]), (9, [2, 1, 0]), (10, [8, 2, 1, 0, 9]), (11, [10, 8, 2, 1, 0, 9]), (12, [7, 6, 3, 2, 1, 0, 5, 4, 11, 10, 8, 9]), (13, [12, 7, 6, 3, 2, 1, 0, 5, 4, 11, 10, 8, 9]), (14, [2, 1, 0, 13, 12, 7, 6, 3, 5, 4, 11, 10, 8, 9])]) [0, 1, 2, 3, 8, 9, 10, 11, 87])
      (.cond (.t 87)
        (.seq (.ops [⟨some 88, .move (.t 0), none, []⟩,
          ⟨some 89, .move (.t 1), none, []⟩,
          ⟨some 90, .move (.t 2), none, []⟩,
          ⟨some 91, .move (.t 11), none, []⟩,
          ⟨some 92, .call 406 [(.t 88), (.t 89), (.t 90), (.t 91)], none, []⟩,
          ⟨some 13, .move (.t 92), none, []⟩] none [0, 2, 3, 8, 9, 13])
        (.seq (.ops [⟨some 93, .move (.t 13), none, []⟩,
          ⟨some 1, .move (.t 93), none, []⟩] none [0, 1, 2, 3, 8, 9])
        (.exit 1)))
        (.skip)))
      (.seq (.ops [⟨some 95, .move (.t 0), none, []⟩,
        ⟨some 96, .move (.t 1), none, []⟩,
        ⟨some 97, .move (.t 2), none, []⟩,
        ⟨some 98, .move (.t 11), none, []⟩,
        ⟨some 99, .call 407 [(.t 95), (.t 96), (.t 97), (.t 98)], none, []⟩,
        ⟨some 94, .move (.t 99), none, []⟩,
        ⟨some 100, .ext 0 (.t 94), none, []⟩,
        ⟨some 101, .ext 1 (.t 94), none, []⟩,
        ⟨some 14, .move (.t 100), none, []⟩,
        ⟨some 15, .move (.t 101), none, []⟩] none [0, 1, 2, 3, 10, 14, 15])
      (.seq (.ops [⟨some 102, .move (.t 15), none, []⟩,
        ⟨some 9, .move (.t 102), none, []⟩] none [0, 1, 2, 3, 9, 10, 14])
      (.seq (.ops [⟨some 103, .move (.t 14), none, []⟩,
        ⟨some 104, .move (.t 1), none, []⟩,
        ⟨some 105, .bin .sub (.t 103) (.t 104), none, []⟩,
        ⟨some 106, .move (.t 2), none, []⟩,
        ⟨some 107, .move (.t 14), none, []⟩,
        ⟨some 108, .bin .sub (.t 106) (.t 107), none, []⟩,
        ⟨some 16, .move (.t 105), none, []⟩,
        ⟨some 17, .move (.t 108), none, []⟩] none [0, 1, 2, 3, 9, 10, 14, 16, 17])
      (.seq (.ops [⟨some 109, .move (.t 10), none, []⟩,
        ⟨some 110, .bin .quo (.t 109) (.c (.int .i64 8)), none, []⟩,
        ⟨some 18, .move (.t 110), none, []⟩] none [0, 1, 2, 3, 9, 14, 16, 17, 18])
      (.seq (.ops [⟨some 111, .move (.t 16), none, []⟩,
        ⟨some 112, .move (.t 17), none, []⟩,
        ⟨some 113, .bin .lss (.t 111) (.t 112), none, []⟩] none [0, 1, 2, 3, 9, 14, 16, 17, 18, 113])
      (.cond (.t 113)
        (.seq (.ops [⟨some 114, .move (.t 16), none, []⟩,
          ⟨some 115, .move (.t 18), none, []⟩,
          ⟨some 116, .bin .geq (.t 114) (.t 115), none, []⟩,
          ⟨some 8, .move (.t 116), none, []⟩] none [0, 1, 2, 3, 8, 9, 14])
        (.seq (.ops [⟨some 117, .move (.t 0), none, []⟩,
          ⟨some 118, .move (.t 1), none, []⟩,
          ⟨some 119, .move (.t 14), none, []⟩,
          ⟨some 120, .move (.t 3), none, []⟩,
          ⟨some 121, .call 382 [(.t 117), (.t 118), (.t 119), (.t 120)], none, []⟩] none [0, 2, 3, 8, 9, 14])
        (.ops [⟨some 122, .move (.t 14), none, []⟩,
          ⟨some 123, .bin .add (.t 122) (.c (.int .i64 1)), none, []⟩,
          ⟨some 1, .move (.t 123), none, []⟩] none [0, 1, 2, 3, 8, 9])))
        (.seq (.ops [⟨some 124, .move (.t 17), none, []⟩,
          ⟨some 125, .move (.t 18), none, []⟩,
          ⟨some 126, .bin .geq (.t 124) (.t 125), none, []⟩,
          ⟨some 8, .move (.t 126), none, []⟩] none [0, 1, 2, 3, 8, 9, 14])
        (.seq (.ops [⟨some 127, .move (.t 0), none, []⟩,
          ⟨some 128, .move (.t 14), none, []⟩,
          ⟨some 129, .bin .add (.t 128) (.c (.int .i64 1)), none, []⟩,
          ⟨some 130, .move (.t 2), none, []⟩,
          ⟨some 131, .move (.t 3), none, []⟩,
          ⟨some 132, .call 382 [(.t 127), (.t 129), (.t 130), (.t 131)], none, []⟩] none [0, 1, 3, 8, 9, 14])
        (.ops [⟨some 133, .move (.t 14), none, []⟩,
          ⟨some 2, .move (.t 133), none, []⟩] none [0, 1, 2, 3, 8, 9]))))))))))))))))))))))
def f382 : SFunc := ⟨b382, []⟩

/-- math/bits.Len -/
def b381 : SCode := (
.seq (.ops [⟨some 2, .move (.c (.int .i64 0)), none, []⟩] none [0])
(.seq (.cond (.c (.bool false))
  (.seq (.ops [⟨some 3, .move (.t 0), none, []⟩,
    ⟨some 4, .conv .u32 (.t 3), none, []⟩,
    ⟨some 5, .call 422 [(.t 4)], none, []⟩,
    ⟨some 2, .move (.t 5), none, []⟩] none [2])
  (.ret))
  (.skip))
(.seq (.ops [⟨some 6, .move (.t 0), none, []⟩,
  ⟨some 7, .call 188 [(.t 6)], none, []⟩,
  ⟨some 2, .move (.t 7), none, []⟩] none [2])
(.ret))))
def f381 : SFunc := ⟨b381, [.t 2]⟩

/-- slices.ContainsFunc[watchbill/waitq.Queue,watchbill/waitq.Waiter] -/
def b384 : SCode := (
.seq (.ops [⟨some 4, .move (.c (.bool false)), none, []⟩] none [0, 1])
(.seq (.ops [⟨some 5, .move (.t 0), none, []⟩,
  ⟨some 6, .move (.t 1), none, []⟩,
  ⟨some 7, .call 408 [(.t 5), (.t 6)], none, []⟩,
  ⟨some 8, .bin .geq (.t 7) (.c (.int .i64 0)), none, []⟩,
  ⟨some 4, .move (.t 8), none, []⟩] none [4])
(.ret)))
def f384 : SFunc := ⟨b384, [.t 4]⟩

/-- slices.insertionSortOrdered[int] -/
def b399 : SCode := (
.seq (.ops [⟨some 8, .move (.t 1), none, []⟩,
  ⟨some 9, .bin .add (.t 8) (.c (.int .i64 1)), none, []⟩,
  ⟨some 6, .move (.t 9), none, []⟩] none [0, 1, 2, 6])
(.block 0 (.loop [0, 1, 2, 6] (.seq (.seq (.ops [⟨some 10, .move (.t 6), none, []⟩,
      ⟨some 11, .move (.t 2), none, []⟩,
      ⟨some 12, .bin .lss (.t 10) (.t 11), none, []⟩] none [0, 1, 2, 6, 12])
    (.cond (.t 12)
      (.skip)
      (.exit 0)))
    (.seq (.block 1 (.seq (.ops [⟨some 15, .move (.t 6), none, []⟩,
        ⟨some 7, .move (.t 15), none, []⟩] none [0, 1, 2, 6, 7])
      (.block 2 (.loop [0, 1, 2, 6, 7] (.seq (.seq (.ops [⟨some 16, .move (.t 7), none, []⟩,
            ⟨some 17, .move (.t 1), none, []⟩,
            ⟨some 18, .bin .gtr (.t 16) (.t 17), none, []⟩,
            ⟨some 19, .move (.t 18), none, []⟩,
            ⟨some 20, .move (.t 0), (some (19, true)), []⟩,
            ⟨some 21, .move (.t 7), (some (19, true)), []⟩,
            ⟨some 22, .idxAddr 1 (.t 20) (.t 21), (some (19, true)), []⟩,
            ⟨some 23, .load none (.t 22), (some (19, true)), []⟩,
            ⟨some 24, .move (.t 0), (some (19, true)), []⟩,
            ⟨some 25, .move (.t 7), (some (19, true)), []⟩,
            ⟨some 26, .bin .sub (.t 25) (.c (.int .i64 1)), (some (19, true)), []⟩,
            ⟨some 27, .idxAddr 1 (.t 24) (.t 26), (some (19, true)), []⟩,
            ⟨some 28, .load none (.t 27), (some (19, true)), []⟩,
            ⟨some 29, .call 405 [(.t 23), (.t 28)], (some (19, true)), []⟩,
            ⟨some 30, .pick (.t 19) (.t 29) (.c (.bool false)), none, []⟩] (some [(0, []), (1, []), (2, [0, 1]), (3, [2, 0, 1]), (4, [3, 2, 0, 1]), (5, [3, 2, 0, 1]), (6, [4, 3, 2, 0, 1, 5]), (7, [6, 4, 3, 2, 0, 1, 5]), (8, [3, 2, 0, 1]), (9, [3, 2, 0, 1]), (10, [9, 3, 2, 0, 1]), (11, [8, 3, 2, 0, 1, 10, 9]), (12, [11, 8, 3, 2, 0, 1, 10, 9]), (13, [7, 6, 4, 3, 2, 0, 1, 5, 12, 11, 8, 10, 9]), (14, [3, 2, 0, 1, 13, 7, 6, 4, 5, 12, 11, 8, 10, 9])]) [0, 1, 2, 6, 7, 30])
          (.cond (.t 30)
            (.skip)
            (.exit 2)))
          (.seq (.block 3 (.ops [⟨some 33, .move (.t 0), none, []⟩,
              ⟨some 34, .move (.t 7), none, []⟩,
              ⟨some 35, .move (.t 0), none, []⟩,
              ⟨some 36, .move (.t 7), none, []⟩,
              ⟨some 37, .bin .sub (.t 36) (.c (.int .i64 1)), none, []⟩,
              ⟨some 38, .move (.t 0), none, []⟩,
              ⟨some 39, .move (.t 7), none, []⟩,
              ⟨some 40, .bin .sub (.t 39) (.c (.int .i64 1)), none, []⟩,
              ⟨some 41, .idxAddr 1 (.t 38) (.t 40), none, []⟩,
              ⟨some 42, .load none (.t 41), none, []⟩,
              ⟨some 43, .move (.t 0), none, []⟩,
              ⟨some 44, .move (.t 7), none, []⟩,
              ⟨some 45, .idxAddr 1 (.t 43) (.t 44), none, []⟩,
              ⟨some 46, .load none (.t 45), none, []⟩,
              ⟨some 47, .idxAddr 1 (.t 33) (.t 34), none, []⟩,
              ⟨none, .store none (.t 47) (.t 42), none, []⟩,
              ⟨some 48, .idxAddr 1 (.t 35) (.t 37), none, []⟩,
              ⟨none, .store none (.t 48) (.t 46), none, []⟩] (some [(0, []), (1, []), (2, []), (3, []), (4, [3]), (5, []), (6, []), (7, [6]), (8, [5, 7, 6]), (9, [8, 5, 7, 6]), (10, []), (11, []), (12, [10, 11]), (13, [12, 10, 11]), (14, [0, 1, 5, 6, 7, 8, 9, 13, 12, 10, 11]), (15, [14, 0, 1, 5, 6, 7, 8, 9, 13, 12, 10, 11]), (16, [2, 4, 3, 0, 1, 5, 6, 7, 8, 9, 10, 11, 12, 13, 14, 15]), (17, [16, 2, 4, 3, 0, 1, 5, 6, 7, 8, 9, 10, 11, 12, 13, 14, 15])]) [0, 1, 2, 6, 7]))
          (.ops [⟨some 31, .move (.t 7), none, []⟩,
            ⟨some 32, .bin .sub (.t 31) (.c (.int .i64 1)), none, []⟩,
            ⟨some 7, .move (.t 32), none, []⟩] none [0, 1, 2, 6, 7])))))))
    (.ops [⟨some 13, .move (.t 6), none, []⟩,
      ⟨some 14, .bin .add (.t 13) (.c (.int .i64 1)), none, []⟩,
      ⟨some 6, .move (.t 14), none, []⟩] none [0, 1, 2, 6]))))))
def f399 : SFunc := ⟨b399, []⟩

/-- slices.IndexFunc[watchbill/waitq.Queue,watchbill/waitq.Waiter] -/
def b408 : SCode := (
.seq (.ops [⟨some 4, .move (.c (.int .i64 0)), none, []⟩] none [0, 1])
(.seq (.seq (.ops [⟨some 6, .move (.t 0), none, []⟩,
  ⟨some 7, .len .sl (.t 6), none, []⟩,
  ⟨some 8, .move (.c (.int .i64 0)), none, []⟩] none [0, 1, 7, 8])
(.block 0 (.loop [0, 1, 7, 8] (.seq (.ops [⟨some 9, .bin .lss (.t 8) (.t 7), none, []⟩] none [0, 1, 7, 8, 9])
    (.seq (.cond (.t 9)
      (.skip)
      (.exit 0))
    (.seq (.block 1 (.seq (.ops [⟨some 10, .move (.t 8), none, []⟩,
        ⟨some 5, .move (.t 10), none, []⟩] none [0, 1, 5, 7, 8])
      (.seq (.ops [⟨some 11, .move (.t 1), none, []⟩,
        ⟨some 12, .move (.t 0), none, []⟩,
        ⟨some 13, .move (.t 5), none, []⟩,
        ⟨some 14, .idxAddr 4 (.t 12) (.t 13), none, []⟩,
        ⟨some 15, .load (some 4) (.t 14), none, []⟩,
        ⟨some 16, .callv (.t 11) [(.t 15)], none, []⟩] none [0, 1, 5, 7, 8, 16])
      (.cond (.t 16)
        (.seq (.ops [⟨some 17, .move (.t 5), none, []⟩,
          ⟨some 4, .move (.t 17), none, []⟩] none [4])
        (.ret))
        (.skip)))))
    (.ops [⟨some 18, .bin .add (.t 8) (.c (.int .i64 1)), none, []⟩,
      ⟨some 8, .move (.t 18), none, []⟩] none [0, 1, 7, 8])))))))
(.seq (.ops [⟨some 4, .move (.c (.int .i64 (-1))), none, []⟩] none [4])
(.ret))))
def f408 : SFunc := ⟨b408, [.t 4]⟩

def lk {α : Type} : List (Nat × α) → Nat → Option α
  | [], _ => none
  | (k, v) :: r, i => match Nat.beq i k with | true => some v | false => lk r i

def pgl : List (Nat × SFunc) := [
  (456, f456),
  (466, f466),
  (468, f468),
  (457, f457),
  (458, f458),
  (447, f447),
  (459, f459),
  (460, f460),
  (461, f461),
  (462, f462),
  (463, f463),
  (464, f464),
  (465, f465),
  (467, f467),
  (436, f436),
  (52, f52),
  (114, f114),
  (452, f452),
  (451, f451),
  (470, f470),
  (469, f469),
  (61, f61),
  (64, f64),
  (99, f99),
  (90, f90),
  (471, f471),
  (101, f101),
  (91, f91),
  (93, f93),
  (138, f138),
  (265, f265),
  (441, f441),
  (442, f442),
  (111, f111),
  (455, f455),
  (92, f92),
  (94, f94),
  (95, f95),
  (273, f273),
  (305, f305),
  (444, f444),
  (306, f306),
  (449, f449),
  (309, f309),
  (312, f312),
  (310, f310),
  (450, f450),
  (307, f307),
  (316, f316),
  (127, f127),
  (97, f97),
  (285, f285),
  (286, f286),
  (287, f287),
  (288, f288),
  (317, f317),
  (318, f318),
  (319, f319),
  (5, f5),
  (320, f320),
  (322, f322),
  (323, f323),
  (6, f6),
  (48, f48),
  (324, f324),
  (454, f454),
  (308, f308),
  (333, f333),
  (55, f55),
  (39, f39),
  (30, f30),
  (325, f325),
  (326, f326),
  (327, f327),
  (219, f219),
  (294, f294),
  (295, f295),
  (297, f297),
  (296, f296),
  (235, f235),
  (335, f335),
  (336, f336),
  (338, f338),
  (337, f337),
  (358, f358),
  (340, f340),
  (339, f339),
  (65, f65),
  (17, f17),
  (331, f331),
  (36, f36),
  (342, f342),
  (43, f43),
  (41, f41),
  (188, f188),
  (224, f224),
  (223, f223),
  (301, f301),
  (238, f238),
  (357, f357),
  (359, f359),
  (360, f360),
  (361, f361),
  (362, f362),
  (354, f354),
  (363, f363),
  (356, f356),
  (379, f379),
  (382, f382),
  (381, f381),
  (384, f384),
  (399, f399),
  (408, f408)]

def pg : Prog := lk pgl

theorem pg456 : pg 456 = some f456 := rfl
theorem pg466 : pg 466 = some f466 := rfl
theorem pg468 : pg 468 = some f468 := rfl
theorem pg457 : pg 457 = some f457 := rfl
theorem pg458 : pg 458 = some f458 := rfl
theorem pg447 : pg 447 = some f447 := rfl
theorem pg459 : pg 459 = some f459 := rfl
theorem pg460 : pg 460 = some f460 := rfl
theorem pg461 : pg 461 = some f461 := rfl
theorem pg462 : pg 462 = some f462 := rfl
theorem pg463 : pg 463 = some f463 := rfl
theorem pg464 : pg 464 = some f464 := rfl
theorem pg465 : pg 465 = some f465 := rfl
theorem pg467 : pg 467 = some f467 := rfl
theorem pg436 : pg 436 = some f436 := rfl
theorem pg52 : pg 52 = some f52 := rfl
theorem pg114 : pg 114 = some f114 := rfl
theorem pg452 : pg 452 = some f452 := rfl
theorem pg451 : pg 451 = some f451 := rfl
theorem pg470 : pg 470 = some f470 := rfl
theorem pg469 : pg 469 = some f469 := rfl
theorem pg61 : pg 61 = some f61 := rfl
theorem pg64 : pg 64 = some f64 := rfl
theorem pg99 : pg 99 = some f99 := rfl
theorem pg90 : pg 90 = some f90 := rfl
theorem pg471 : pg 471 = some f471 := rfl
theorem pg101 : pg 101 = some f101 := rfl
theorem pg91 : pg 91 = some f91 := rfl
theorem pg93 : pg 93 = some f93 := rfl
theorem pg138 : pg 138 = some f138 := rfl
theorem pg265 : pg 265 = some f265 := rfl
theorem pg441 : pg 441 = some f441 := rfl
theorem pg442 : pg 442 = some f442 := rfl
theorem pg111 : pg 111 = some f111 := rfl
theorem pg455 : pg 455 = some f455 := rfl
theorem pg92 : pg 92 = some f92 := rfl
theorem pg94 : pg 94 = some f94 := rfl
theorem pg95 : pg 95 = some f95 := rfl
theorem pg273 : pg 273 = some f273 := rfl
theorem pg305 : pg 305 = some f305 := rfl
theorem pg444 : pg 444 = some f444 := rfl
theorem pg306 : pg 306 = some f306 := rfl
theorem pg449 : pg 449 = some f449 := rfl
theorem pg309 : pg 309 = some f309 := rfl
theorem pg312 : pg 312 = some f312 := rfl
theorem pg310 : pg 310 = some f310 := rfl
theorem pg450 : pg 450 = some f450 := rfl
theorem pg307 : pg 307 = some f307 := rfl
theorem pg316 : pg 316 = some f316 := rfl
theorem pg127 : pg 127 = some f127 := rfl
theorem pg97 : pg 97 = some f97 := rfl
theorem pg285 : pg 285 = some f285 := rfl
theorem pg286 : pg 286 = some f286 := rfl
theorem pg287 : pg 287 = some f287 := rfl
theorem pg288 : pg 288 = some f288 := rfl
theorem pg317 : pg 317 = some f317 := rfl
theorem pg318 : pg 318 = some f318 := rfl
theorem pg319 : pg 319 = some f319 := rfl
theorem pg5 : pg 5 = some f5 := rfl
theorem pg320 : pg 320 = some f320 := rfl
theorem pg322 : pg 322 = some f322 := rfl
theorem pg323 : pg 323 = some f323 := rfl
theorem pg6 : pg 6 = some f6 := rfl
theorem pg48 : pg 48 = some f48 := rfl
theorem pg324 : pg 324 = some f324 := rfl
theorem pg454 : pg 454 = some f454 := rfl
theorem pg308 : pg 308 = some f308 := rfl
theorem pg333 : pg 333 = some f333 := rfl
theorem pg55 : pg 55 = some f55 := rfl
theorem pg39 : pg 39 = some f39 := rfl
theorem pg30 : pg 30 = some f30 := rfl
theorem pg325 : pg 325 = some f325 := rfl
theorem pg326 : pg 326 = some f326 := rfl
theorem pg327 : pg 327 = some f327 := rfl
theorem pg219 : pg 219 = some f219 := rfl
theorem pg294 : pg 294 = some f294 := rfl
theorem pg295 : pg 295 = some f295 := rfl
theorem pg297 : pg 297 = some f297 := rfl
theorem pg296 : pg 296 = some f296 := rfl
theorem pg235 : pg 235 = some f235 := rfl
theorem pg335 : pg 335 = some f335 := rfl
theorem pg336 : pg 336 = some f336 := rfl
theorem pg338 : pg 338 = some f338 := rfl
theorem pg337 : pg 337 = some f337 := rfl
theorem pg358 : pg 358 = some f358 := rfl
theorem pg340 : pg 340 = some f340 := rfl
theorem pg339 : pg 339 = some f339 := rfl
theorem pg65 : pg 65 = some f65 := rfl
theorem pg17 : pg 17 = some f17 := rfl
theorem pg331 : pg 331 = some f331 := rfl
theorem pg36 : pg 36 = some f36 := rfl
theorem pg342 : pg 342 = some f342 := rfl
theorem pg43 : pg 43 = some f43 := rfl
theorem pg41 : pg 41 = some f41 := rfl
theorem pg188 : pg 188 = some f188 := rfl
theorem pg224 : pg 224 = some f224 := rfl
theorem pg223 : pg 223 = some f223 := rfl
theorem pg301 : pg 301 = some f301 := rfl
theorem pg238 : pg 238 = some f238 := rfl
theorem pg357 : pg 357 = some f357 := rfl
theorem pg359 : pg 359 = some f359 := rfl
theorem pg360 : pg 360 = some f360 := rfl
theorem pg361 : pg 361 = some f361 := rfl
theorem pg362 : pg 362 = some f362 := rfl
theorem pg354 : pg 354 = some f354 := rfl
theorem pg363 : pg 363 = some f363 := rfl
theorem pg356 : pg 356 = some f356 := rfl
theorem pg379 : pg 379 = some f379 := rfl
theorem pg382 : pg 382 = some f382 := rfl
theorem pg381 : pg 381 = some f381 := rfl
theorem pg384 : pg 384 = some f384 := rfl
theorem pg399 : pg 399 = some f399 := rfl
theorem pg408 : pg 408 = some f408 := rfl
end Go.Cl.S
